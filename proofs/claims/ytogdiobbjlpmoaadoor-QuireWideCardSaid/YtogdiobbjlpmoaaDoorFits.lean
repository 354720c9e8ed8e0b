/- What forms.Fits answers. No condition but that the package variables hold what they are laid with. -/
import Derived.Test.YtogdiobbjlpmoaaDoorForms
namespace Go.Proofs.YtogdiobbjlpmoaaDoor
open Go Go.RowKit Cal

theorem frm_width (i : Nat) (h1 : 1 ≤ i) (h2 : i ≤ 14) : 4 ≤ (frm i).width ∧ (frm i).width ≤ 64 := by
  have : i = 1 ∨ i = 2 ∨ i = 3 ∨ i = 4 ∨ i = 5 ∨ i = 6 ∨ i = 7 ∨ i = 8 ∨ i = 9 ∨ i = 10 ∨ i = 11 ∨ i = 12 ∨ i = 13 ∨ i = 14 := by omega
  rcases this with rfl | rfl | rfl | rfl | rfl | rfl | rfl | rfl | rfl | rfl | rfl | rfl | rfl | rfl <;> decide

theorem isForm_nat {i : Int} (h : isForm i) : ∃ n : Nat, i = n ∧ 1 ≤ n ∧ n ≤ 14 := by
  unfold isForm at h
  exact ⟨i.toNat, by omega, by omega, by omega⟩
theorem isForm_of {n : Nat} (h1 : 1 ≤ n) (h2 : n ≤ 14) : isForm (n : Int) := by unfold isForm; omega

set_option maxHeartbeats 800000 in
theorem fits_any (i : Int) (p : Nat) (hp : p < 18446744073709551616) (w : World) (hE : Env w) :
    Calls Tryd.prog 72 #[.int .i64 i, .int .u64 p] w fun e w' => e = .returned (.int .i64 (fitsE i p)) ∧ Ext w w' := by
  by_cases hi : isForm i
  · obtain ⟨n, rfl, h1, h2⟩ := isForm_nat hi
    obtain ⟨hw0, hw⟩ := frm_width n h1 h2
    have hb := u_andNot_mask p (frm n).width hp hw
    have c39 := fun W (h : Env W) => formsOf_yes n W h h1 h2
    by_cases hlt : p < 2 ^ (frm n).width
    · have hr : fitsE n p = 0 := by unfold fitsE; rw [if_pos hi, if_pos (by simpa using hlt)]
      rw [hr]
      have hbit : (bits BinOp.andNot IntKind.u64 (p : Int) ((2 ^ (frm n).width - 1 : Nat) : Int) != 0) = false := by
        rw [hb, Nat.mod_eq_of_lt hlt, Nat.sub_self]
        rfl
      clear hb hr hi hlt
      generalize frm n = f at *
      have H39 := Lib.hid c39
      clear c39
      go_enter Tryd.func72, Tryd.ntmps72
      go_wp2_with (first | (go_at_call 39; refine (H39.out _ (by assumption)).mono ?_; rintro e w1 ⟨rfl, hb1⟩) | (go_at_call 40; refine (mask_any f _ hw).mono ?_; rintro e w2 ⟨rfl, hb2⟩))
      go_ret
      exact ⟨rfl, by (repeat (first | (with_reducible exact Ext.refl _) | (with_reducible assumption) | (with_reducible refine Ext.drew ?_) | (with_reducible refine Ext.drewN ?_ _) | (with_reducible refine Ext.alloc ?_ _) | (with_reducible refine Ext.setCell ?_ (Nat.le_refl _) _) | (with_reducible refine Ext.setCell ?_ (by simp; try omega) _) | (with_reducible refine Ext.trans ?_ (by with_reducible assumption))))⟩
    · have hr : fitsE n p = 1 := by unfold fitsE; rw [if_pos hi, if_neg (by simpa using hlt)]
      rw [hr]
      have hbit : (bits BinOp.andNot IntKind.u64 (p : Int) ((2 ^ (frm n).width - 1 : Nat) : Int) != 0) = true := by
        have hp2 := two_pos (frm n).width
        have hm := Nat.mod_lt p hp2
        rw [hb, bne_iff_ne]
        omega
      clear hb hr hi hlt
      generalize frm n = f at *
      have H39 := Lib.hid c39
      clear c39
      go_enter Tryd.func72, Tryd.ntmps72
      go_wp2_with (first | (go_at_call 39; refine (H39.out _ (by assumption)).mono ?_; rintro e w1 ⟨rfl, hb1⟩) | (go_at_call 40; refine (mask_any f _ hw).mono ?_; rintro e w2 ⟨rfl, hb2⟩))
      go_ret
      exact ⟨rfl, by (repeat (first | (with_reducible exact Ext.refl _) | (with_reducible assumption) | (with_reducible refine Ext.drew ?_) | (with_reducible refine Ext.drewN ?_ _) | (with_reducible refine Ext.alloc ?_ _) | (with_reducible refine Ext.setCell ?_ (Nat.le_refl _) _) | (with_reducible refine Ext.setCell ?_ (by simp; try omega) _) | (with_reducible refine Ext.trans ?_ (by with_reducible assumption))))⟩
  · have hr : fitsE i p = 3 := by unfold fitsE; rw [if_neg hi]
    rw [hr]
    have H39 := Lib.hid (fun W => formsOf_no i W hi)
    clear hr hi
    go_enter Tryd.func72, Tryd.ntmps72
    go_wp2_with (first | (go_at_call 39; refine (H39.out _).mono ?_; rintro e w1 ⟨rfl, hb1⟩))
    go_ret
    exact ⟨rfl, by (repeat (first | (with_reducible exact Ext.refl _) | (with_reducible assumption) | (with_reducible refine Ext.drew ?_) | (with_reducible refine Ext.drewN ?_ _) | (with_reducible refine Ext.alloc ?_ _) | (with_reducible refine Ext.setCell ?_ (Nat.le_refl _) _) | (with_reducible refine Ext.setCell ?_ (by simp; try omega) _) | (with_reducible refine Ext.trans ?_ (by with_reducible assumption))))⟩
end Go.Proofs.YtogdiobbjlpmoaaDoor

