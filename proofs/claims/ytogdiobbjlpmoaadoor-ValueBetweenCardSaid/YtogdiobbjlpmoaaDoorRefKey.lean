/- The document's Key. No condition but those written. -/
import Derived.Test.YtogdiobbjlpmoaaDoorRefDec
import Derived.Test.YtogdiobbjlpmoaaDoorKey
namespace Go.Proofs.YtogdiobbjlpmoaaDoor
open Go Go.RowKit Cal

set_option maxRecDepth 100000 in
set_option maxHeartbeats 1600000 in
theorem rkey_any (i : Int) (p : Nat) (hp : p < 18446744073709551616) (w : World) :
    Calls Tryd.prog 34 #[.int .i64 i, .int .u64 p] w fun e w' =>
      e = .returned (.tuple #[.bool (keyV i p).1, .int .u64 ((keyV i p).2.1 : Nat), .int .i64 (keyV i p).2.2]) ∧ Ext w w' := by
  have c27 := Lib.hid (fun W => rdecode_any i p hp W)
  by_cases h : fitsE i p = 0
  · have hcl := means_cls h
    rw [h] at c27
    by_cases hc : cls (frm i.toNat) p = 3 ∨ cls (frm i.toNat) p = 4
    · have hk : keyV i p = (false, 0, 5) := by unfold keyV; rw [if_neg (by omega), if_pos hc]
      rw [hk]
      rw [← hcl] at hc
      generalize means i p = v at *
      clear hk h hcl
      obtain ⟨vc, vn, vm, ve⟩ := v
      simp only at hc c27
      rcases hc with rfl | rfl
      all_goals
        go_enter Tryd.func34, Tryd.ntmps34
        go_wp2_with (first | (go_at_call 27; refine (c27.out _).mono ?_; rintro e w1 ⟨rfl, hb1⟩))
        go_ret3
        exact ⟨rfl, by (repeat (first | (with_reducible exact Ext.refl _) | (with_reducible assumption) | (with_reducible refine Ext.drew ?_) | (with_reducible refine Ext.drewN ?_ _) | (with_reducible refine Ext.alloc ?_ _) | (with_reducible refine Ext.setCell ?_ (Nat.le_refl _) _) | (with_reducible refine Ext.setCell ?_ (by simp; try omega) _) | (with_reducible refine Ext.trans ?_ (by with_reducible assumption))))⟩
    · obtain ⟨n, rfl, h1, h2, hpn⟩ := fits_zero i p h
      obtain ⟨w4, w64⟩ := frm_width n h1 h2
      have hk : keyV n p = (negP (frm n) p, keyP (frm n) p, 0) := by unfold keyV; rw [if_neg (by omega), if_neg hc]; simp
      have hmn : (means n p).neg = negP (frm n) p := by
        unfold means
        rw [if_pos h]
        simp only [Int.toNat_natCast] at hc ⊢
        unfold decodeF
        split
        · rfl
        · rw [if_neg (by omega)]
      rw [hk]
      rw [← hcl] at hc
      have hcr := cls_range (frm n) p
      rw [show (frm n) = frm (n : Int).toNat from by simp, ← hcl] at hcr
      have c77 := Lib.hid (fun W => rof_yes n h1 h2 W)
      have c78 := Lib.hid (fun W => rparts_any (frm n) p w64 (by omega) hpn W)
      generalize means n p = v at *
      obtain ⟨vc, vn, vm, ve⟩ := v
      simp only at hc c27 hcl hmn hcr
      generalize frm n = f at *
      generalize keyP f p = key at *
      generalize negP f p = ng at *
      subst hmn
      have hvc : vc = 1 ∨ vc = 2 := by omega
      clear hk h hcl hc hcr
      rcases hvc with rfl | rfl
      · go_enter Tryd.func34, Tryd.ntmps34
        go_wp2_with (first | (go_at_call 27; refine (c27.out _).mono ?_; rintro e w1 ⟨rfl, hb1⟩; have V1 := Blk.new w1 25 #[.int .i64 1, .bool vn, .int .u64 vm, .int .i64 ve]) | (go_at_call 77; refine (c77.out _).mono ?_; rintro e w2 ⟨rfl, hb2⟩; have V2 := (V1.ext hb2).alloc (.cells #[.int .i64 (f).kind, .int .i64 (f).width, .int .i64 (f).man, .int .i64 (f).bias, .int .u64 (f).top, .int .u64 (f).inf, .int .u64 (f).nan] 99)) | (go_at_call 78; refine (c78.out _).mono ?_; rintro e w3 ⟨rfl, hb3⟩; have V3 := V2.ext hb3; have cV := V3.cell))
        go_ret3
        exact ⟨rfl, by (repeat (first | (with_reducible exact Ext.refl _) | (with_reducible assumption) | (with_reducible refine Ext.drew ?_) | (with_reducible refine Ext.drewN ?_ _) | (with_reducible refine Ext.alloc ?_ _) | (with_reducible refine Ext.setCell ?_ (Nat.le_refl _) _) | (with_reducible refine Ext.setCell ?_ (by simp; try omega) _) | (with_reducible refine Ext.trans ?_ (by with_reducible assumption))))⟩
      · go_enter Tryd.func34, Tryd.ntmps34
        go_wp2_with (first | (go_at_call 27; refine (c27.out _).mono ?_; rintro e w1 ⟨rfl, hb1⟩; have V1 := Blk.new w1 25 #[.int .i64 2, .bool vn, .int .u64 vm, .int .i64 ve]) | (go_at_call 77; refine (c77.out _).mono ?_; rintro e w2 ⟨rfl, hb2⟩; have V2 := (V1.ext hb2).alloc (.cells #[.int .i64 (f).kind, .int .i64 (f).width, .int .i64 (f).man, .int .i64 (f).bias, .int .u64 (f).top, .int .u64 (f).inf, .int .u64 (f).nan] 99)) | (go_at_call 78; refine (c78.out _).mono ?_; rintro e w3 ⟨rfl, hb3⟩; have V3 := V2.ext hb3; have cV := V3.cell))
        go_ret3
        exact ⟨rfl, by (repeat (first | (with_reducible exact Ext.refl _) | (with_reducible assumption) | (with_reducible refine Ext.drew ?_) | (with_reducible refine Ext.drewN ?_ _) | (with_reducible refine Ext.alloc ?_ _) | (with_reducible refine Ext.setCell ?_ (Nat.le_refl _) _) | (with_reducible refine Ext.setCell ?_ (by simp; try omega) _) | (with_reducible refine Ext.trans ?_ (by with_reducible assumption))))⟩
  · have hk : keyV i p = (false, 0, fitsE i p) := by unfold keyV; rw [if_pos h]
    rw [hk]
    have he := fitsE_err i p h
    generalize fitsE i p = er at *
    generalize means i p = v at *
    obtain ⟨vc, vn, vm, ve⟩ := v
    simp only at c27
    clear hk h
    go_enter Tryd.func34, Tryd.ntmps34
    go_wp2_with (first | (go_at_call 27; refine (c27.out _).mono ?_; rintro e w1 ⟨rfl, hb1⟩))
    go_ret3
    exact ⟨rfl, by (repeat (first | (with_reducible exact Ext.refl _) | (with_reducible assumption) | (with_reducible refine Ext.drew ?_) | (with_reducible refine Ext.drewN ?_ _) | (with_reducible refine Ext.alloc ?_ _) | (with_reducible refine Ext.setCell ?_ (Nat.le_refl _) _) | (with_reducible refine Ext.setCell ?_ (by simp; try omega) _) | (with_reducible refine Ext.trans ?_ (by with_reducible assumption))))⟩
end Go.Proofs.YtogdiobbjlpmoaaDoor

