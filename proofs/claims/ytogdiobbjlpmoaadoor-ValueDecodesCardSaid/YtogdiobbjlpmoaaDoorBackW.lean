/- ValueBack answers true, whatever the form and the pattern. No condition but that the package variables hold what they are laid with. -/
import Derived.Test.YtogdiobbjlpmoaaDoorShown07
import Derived.Test.YtogdiobbjlpmoaaDoorPure07
import Derived.OpenShut
namespace Go.Proofs.YtogdiobbjlpmoaaDoor
open Go Go.RowKit Cal

set_option maxRecDepth 100000 in
set_option maxHeartbeats 1600000 in
theorem back_any (i : Int) (p : Nat) (hp : p < 18446744073709551616) (w : World) (hE : Env w) :
    Calls Tryd.prog 10 #[.int .i64 i, .int .u64 p] w fun e w' => e = .returned (.bool true) ∧ Ext w w' := by
  have c25 := Lib.hid (fun W h => shown_any W h)
  have c33 := Lib.hid (fun W h => key_any i p hp W h)
  by_cases he : (keyV i p).2.2 = 0
  · obtain ⟨hpat, hf, hat, hng, hcl⟩ := back_law he
    have hk64 : (keyV i p).2.1 < 18446744073709551616 := by
      obtain ⟨n, rfl, h1, h2, hpn, _, _, hk⟩ := keyV_ok he
      rw [hk]
      exact key_lt (frm n) p (frm_width n h1 h2).2 hpn
    have c37 := Lib.hid (fun W h => pattern_any i (keyV i p).1 (keyV i p).2.1 hk64 W h)
    have c26 := Lib.hid (fun W h => decode_any i p hp W h)
    have c28 := Lib.hid (fun W h => at_any i (keyV i p).2.1 hk64 W h)
    rw [hpat] at c37
    rw [hf] at c26
    rw [hat] at c28
    rw [he] at c33
    generalize means i p = v at *
    generalize keyV i p = kv at *
    obtain ⟨ng, key, er⟩ := kv
    obtain ⟨vc, vn, vm, ve⟩ := v
    simp only at hpat hf hat hng hcl c37 c26 c28 c33 hk64 he
    subst hng
    clear hpat hf hat he
    rcases hcl with ⟨rfl, hm⟩ | ⟨rfl, rfl, rfl⟩
    · have dm : ((vm : Int) == 0) = false := bfalse (b := 0) hm
      clear hm
      go_enter Tryd.func10, Tryd.ntmps10
      go_wp2_with (first | (go_at_call 25; refine (c25.out _ hE).mono ?_; rintro e w1 ⟨rfl, hb1⟩; have E1 := hE.ext hb1) | (go_at_call 33; refine (c33.out _ E1).mono ?_; rintro e w2 ⟨rfl, hb2⟩; have E2 := E1.ext hb2) | (go_at_call 37; refine (c37.out _ E2).mono ?_; rintro e w3 ⟨rfl, hb3⟩; have E3 := E2.ext hb3) | (go_at_call 26; refine (c26.out _ E3).mono ?_; rintro e w4 ⟨rfl, hb4⟩; have E4 := (E3.ext hb4).alloc (.cells #[.int .i64 2, .bool vn, .int .u64 vm, .int .i64 ve] 25); have V4 := Blk.new w4 25 #[.int .i64 2, .bool vn, .int .u64 vm, .int .i64 ve]) | (go_at_call 28; refine (c28.out _ E4).mono ?_; rintro e w5 ⟨rfl, hb5⟩; have V5 := V4.ext hb5; have cV := V5.cell))
      go_ret
      exact ⟨rfl, by (repeat (first | (with_reducible exact Ext.refl _) | (with_reducible assumption) | (with_reducible refine Ext.drew ?_) | (with_reducible refine Ext.drewN ?_ _) | (with_reducible refine Ext.alloc ?_ _) | (with_reducible refine Ext.setCell ?_ (Nat.le_refl _) _) | (with_reducible refine Ext.setCell ?_ (by simp; try omega) _) | (with_reducible refine Ext.trans ?_ (by with_reducible assumption))))⟩
    · go_enter Tryd.func10, Tryd.ntmps10
      go_wp2_with (first | (go_at_call 25; refine (c25.out _ hE).mono ?_; rintro e w1 ⟨rfl, hb1⟩; have E1 := hE.ext hb1) | (go_at_call 33; refine (c33.out _ E1).mono ?_; rintro e w2 ⟨rfl, hb2⟩; have E2 := E1.ext hb2) | (go_at_call 37; refine (c37.out _ E2).mono ?_; rintro e w3 ⟨rfl, hb3⟩; have E3 := E2.ext hb3) | (go_at_call 26; refine (c26.out _ E3).mono ?_; rintro e w4 ⟨rfl, hb4⟩; have E4 := (E3.ext hb4).alloc (.cells #[.int .i64 1, .bool vn, .int .u64 0, .int .i64 0] 25); have V4 := Blk.new w4 25 #[.int .i64 1, .bool vn, .int .u64 0, .int .i64 0]) | (go_at_call 28; refine (c28.out _ E4).mono ?_; rintro e w5 ⟨rfl, hb5⟩; have V5 := V4.ext hb5; have cV := V5.cell))
      go_ret
      exact ⟨rfl, by (repeat (first | (with_reducible exact Ext.refl _) | (with_reducible assumption) | (with_reducible refine Ext.drew ?_) | (with_reducible refine Ext.drewN ?_ _) | (with_reducible refine Ext.alloc ?_ _) | (with_reducible refine Ext.setCell ?_ (Nat.le_refl _) _) | (with_reducible refine Ext.setCell ?_ (by simp; try omega) _) | (with_reducible refine Ext.trans ?_ (by with_reducible assumption))))⟩
  · obtain ⟨k1, k2⟩ := keyV_err he
    have d1 : (((keyV i p).2.2 : Int) != 0) = true := by rw [bne_iff_ne]; exact he
    generalize keyV i p = kv at *
    obtain ⟨ng, key, er⟩ := kv
    simp only at k1 k2 d1 c33
    subst k1 k2
    clear he
    go_enter Tryd.func10, Tryd.ntmps10
    go_wp2_with (first | (go_at_call 25; refine (c25.out _ hE).mono ?_; rintro e w1 ⟨rfl, hb1⟩; have E1 := hE.ext hb1) | (go_at_call 33; refine (c33.out _ E1).mono ?_; rintro e w2 ⟨rfl, hb2⟩; have E2 := E1.ext hb2))
    go_ret
    exact ⟨rfl, by (repeat (first | (with_reducible exact Ext.refl _) | (with_reducible assumption) | (with_reducible refine Ext.drew ?_) | (with_reducible refine Ext.drewN ?_ _) | (with_reducible refine Ext.alloc ?_ _) | (with_reducible refine Ext.setCell ?_ (Nat.le_refl _) _) | (with_reducible refine Ext.setCell ?_ (by simp; try omega) _) | (with_reducible refine Ext.trans ?_ (by with_reducible assumption))))⟩

theorem u64_nat {a : Int} (h : (Lit.int .u64 a).wf = true) : ∃ n : Nat, a = n ∧ n < 18446744073709551616 := by
  have h2 := bounds_u64 h
  exact ⟨a.toNat, by omega, by omega⟩

theorem back_args (a0 : Int) (_w0 : (Lit.int .i64 a0).wf = true) (a1 : Int) (w1 : (Lit.int .u64 a1).wf = true) (W : World) (hE : Env W) :
    Calls Tryd.prog 10 #[.int .i64 a0, .int .u64 a1] W fun e w' => e = .returned (.bool true) ∧ Ext W w' := by
  obtain ⟨n, rfl, hn⟩ := u64_nat w1
  exact back_any a0 n hn W hE
end Go.Proofs.YtogdiobbjlpmoaaDoor

