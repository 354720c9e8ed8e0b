/- What value.Key, Most and Pattern answer. No condition but that the package variables hold what they are laid with. -/
import Derived.Test.YtogdiobbjlpmoaaDoorDecode
namespace Go.Proofs.YtogdiobbjlpmoaaDoor
open Go Go.RowKit Cal

theorem means_cls {i : Int} {p : Nat} (h : fitsE i p = 0) : (means i p).cls = cls (frm i.toNat) p := by
  unfold means decodeF
  rw [if_pos h]
  split
  · rename_i h2
    exact h2.symm
  · split
    · rename_i h4
      exact h4.symm
    · rfl

set_option maxRecDepth 100000 in
set_option maxHeartbeats 1600000 in
/-- value.Key. -/
theorem key_any (i : Int) (p : Nat) (hp : p < 18446744073709551616) (w : World) (hE : Env w) :
    Calls Tryd.prog 33 #[.int .i64 i, .int .u64 p] w fun e w' =>
      e = .returned (.tuple #[.bool (keyV i p).1, .int .u64 ((keyV i p).2.1 : Nat), .int .i64 (keyV i p).2.2]) ∧ Ext w w' := by
  have c26 := Lib.hid (fun W h' => decode_any i p hp W h')
  by_cases h : fitsE i p = 0
  · have hcl := means_cls h
    rw [h] at c26
    by_cases hc : cls (frm i.toNat) p = 3 ∨ cls (frm i.toNat) p = 4
    · have hk : keyV i p = (false, 0, 5) := by unfold keyV; rw [if_neg (by omega), if_pos hc]
      rw [hk]
      rw [← hcl] at hc
      generalize means i p = v at *
      clear hk h hcl
      obtain ⟨vc, vn, vm, ve⟩ := v
      simp only at hc c26
      rcases hc with rfl | rfl
      all_goals
        go_enter Tryd.func33, Tryd.ntmps33
        go_wp2_with (first | (go_at_call 26; refine (c26.out _ (by assumption)).mono ?_; rintro e w1 ⟨rfl, hb1⟩))
        go_ret3
        exact ⟨rfl, by (repeat (first | (with_reducible exact Ext.refl _) | (with_reducible assumption) | (with_reducible refine Ext.drew ?_) | (with_reducible refine Ext.drewN ?_ _) | (with_reducible refine Ext.alloc ?_ _) | (with_reducible refine Ext.setCell ?_ (Nat.le_refl _) _) | (with_reducible refine Ext.setCell ?_ (by simp; try omega) _) | (with_reducible refine Ext.trans ?_ (by with_reducible assumption))))⟩
    · obtain ⟨n, rfl, h1, h2, hpn⟩ := fits_zero i p h
      obtain ⟨w4, w64⟩ := frm_width n h1 h2
      have hk : keyV n p = (negP (frm n) p, keyP (frm n) p, 0) := by unfold keyV; rw [if_neg (by omega), if_neg hc]; simp
      rw [hk]
      rw [← hcl] at hc
      have c73 := Lib.hid (fun W (h' : Env W) => of_yes n W h' h1 h2)
      have c74 := Lib.hid (fun W g => parts_any (frm n) p g w64 (by omega) hpn W)
      generalize means n p = v at *
      obtain ⟨vc, vn, vm, ve⟩ := v
      simp only at hc c26 hcl
      have d3 : ((vc : Int) == 3) = false := bfalse (b := 3) (fun h => hc (.inl h))
      have d4 : ((vc : Int) == 4) = false := bfalse (b := 4) (fun h => hc (.inr h))
      generalize frm n = f at *
      generalize nfn f.kind = q at *
      generalize keyP f p = key at *
      generalize negP f p = ng at *
      clear hk h hcl hc
      go_enter Tryd.func33, Tryd.ntmps33
      go_wp2_with (first | (go_at_call 26; refine (c26.out _ (by assumption)).mono ?_; rintro e w1 ⟨rfl, hb1⟩; have hE1 := (hE.ext hb1).alloc (.cells #[.int .i64 vc, .bool vn, .int .u64 vm, .int .i64 ve] 25)) | (go_at_call 73; refine (c73.out _ hE1).mono ?_; rintro e w2 ⟨rfl, hb2⟩; have hE2 := hE1.ext hb2) | (go_at_call 74; refine (c74.out _ _).mono ?_; rintro e w3 ⟨rfl, hb3⟩))
      go_ret3
      exact ⟨rfl, by (repeat (first | (with_reducible exact Ext.refl _) | (with_reducible assumption) | (with_reducible refine Ext.drew ?_) | (with_reducible refine Ext.drewN ?_ _) | (with_reducible refine Ext.alloc ?_ _) | (with_reducible refine Ext.setCell ?_ (Nat.le_refl _) _) | (with_reducible refine Ext.setCell ?_ (by simp; try omega) _) | (with_reducible refine Ext.trans ?_ (by with_reducible assumption))))⟩
  · have hk : keyV i p = (false, 0, fitsE i p) := by unfold keyV; rw [if_pos h]
    rw [hk]
    have he := fitsE_err i p h
    generalize fitsE i p = er at *
    generalize means i p = v at *
    obtain ⟨vc, vn, vm, ve⟩ := v
    simp only at c26
    clear hk h
    go_enter Tryd.func33, Tryd.ntmps33
    go_wp2_with (first | (go_at_call 26; refine (c26.out _ (by assumption)).mono ?_; rintro e w1 ⟨rfl, hb1⟩))
    go_ret3
    exact ⟨rfl, by (repeat (first | (with_reducible exact Ext.refl _) | (with_reducible assumption) | (with_reducible refine Ext.drew ?_) | (with_reducible refine Ext.drewN ?_ _) | (with_reducible refine Ext.alloc ?_ _) | (with_reducible refine Ext.setCell ?_ (Nat.le_refl _) _) | (with_reducible refine Ext.setCell ?_ (by simp; try omega) _) | (with_reducible refine Ext.trans ?_ (by with_reducible assumption))))⟩
end Go.Proofs.YtogdiobbjlpmoaaDoor

