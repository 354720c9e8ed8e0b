/- What the document's Most answers. No condition. -/
import Derived.Test.YtogdiobbjlpmoaaDoorRefParts
import Derived.Test.YtogdiobbjlpmoaaDoorMost
namespace Go.Proofs.YtogdiobbjlpmoaaDoor
open Go Go.RowKit Cal

set_option maxRecDepth 100000 in
set_option maxHeartbeats 1600000 in
theorem rmost_any (i : Int) (neg : Bool) (w : World) :
    Calls Tryd.prog 36 #[.int .i64 i, .bool neg] w fun e w' => e = .returned (.tuple #[.int .u64 ((mostV i neg).1 : Nat), .int .i64 (mostV i neg).2]) ∧ Ext w w' := by
  by_cases hi : isForm i
  · obtain ⟨n, rfl, h1, h2⟩ := isForm_nat hi
    obtain ⟨t63, _, _, _⟩ := lastKey_lt n h1 h2
    have htop : (frm n).top < 9223372036854775808 := by have := lastKey_lt n h1 h2; omega
    have c73 := Lib.hid (fun W => rof_yes n h1 h2 W)
    cases neg with
    | false =>
      have dk : (((frm n).kind : Int) == 4) = true ∨ (((frm n).kind : Int) == 4) = false := by cases (((frm n).kind : Int) == 4) <;> simp
      have dk3 : (((frm n).kind : Int) == 3) = true ∨ (((frm n).kind : Int) == 3) = false := by cases (((frm n).kind : Int) == 3) <;> simp
      have hr : mostV n false = ((frm n).top, 0) := by unfold mostV; simp [hi]
      rw [hr]
      clear hr hi t63
      generalize frm n = f at *
      rcases dk with d4 | d4
      all_goals rcases dk3 with d3 | d3
      all_goals go_enter Tryd.func36, Tryd.ntmps36
      all_goals go_wp2_with (first | (go_at_call 77; refine (c73.out _).mono ?_; rintro e w1 ⟨rfl, hb1⟩))
      all_goals go_ret2
      all_goals exact ⟨rfl, by (repeat (first | (with_reducible exact Ext.refl _) | (with_reducible assumption) | (with_reducible refine Ext.drew ?_) | (with_reducible refine Ext.drewN ?_ _) | (with_reducible refine Ext.alloc ?_ _) | (with_reducible refine Ext.setCell ?_ (Nat.le_refl _) _) | (with_reducible refine Ext.setCell ?_ (by simp; try omega) _) | (with_reducible refine Ext.trans ?_ (by with_reducible assumption))))⟩
    | true =>
      by_cases k4 : (frm n).kind = 4
      · have hr : mostV n true = (0, 5) := by unfold mostV; simp [hi, k4]
        rw [hr]
        have d4 : (((frm n).kind : Int) == 4) = true := btrue (b := 4) k4
        clear hr hi t63 k4
        generalize frm n = f at *
        go_enter Tryd.func36, Tryd.ntmps36
        go_wp2_with (first | (go_at_call 77; refine (c73.out _).mono ?_; rintro e w1 ⟨rfl, hb1⟩))
        go_ret2
        exact ⟨rfl, by (repeat (first | (with_reducible exact Ext.refl _) | (with_reducible assumption) | (with_reducible refine Ext.drew ?_) | (with_reducible refine Ext.drewN ?_ _) | (with_reducible refine Ext.alloc ?_ _) | (with_reducible refine Ext.setCell ?_ (Nat.le_refl _) _) | (with_reducible refine Ext.setCell ?_ (by simp; try omega) _) | (with_reducible refine Ext.trans ?_ (by with_reducible assumption))))⟩
      · have d4 : (((frm n).kind : Int) == 4) = false := bfalse (b := 4) k4
        by_cases k3 : (frm n).kind = 3
        · have hr : mostV n true = ((frm n).top + 1, 0) := by unfold mostV; simp [hi, k3]
          rw [hr]
          have d3 : (((frm n).kind : Int) == 3) = true := btrue (b := 3) k3
          clear hr hi t63 k4 k3
          generalize frm n = f at *
          go_enter Tryd.func36, Tryd.ntmps36
          go_wp2_with (first | (go_at_call 77; refine (c73.out _).mono ?_; rintro e w1 ⟨rfl, hb1⟩))
          go_ret2
          exact ⟨ret2 (by omega) rfl, by (repeat (first | (with_reducible exact Ext.refl _) | (with_reducible assumption) | (with_reducible refine Ext.drew ?_) | (with_reducible refine Ext.drewN ?_ _) | (with_reducible refine Ext.alloc ?_ _) | (with_reducible refine Ext.setCell ?_ (Nat.le_refl _) _) | (with_reducible refine Ext.setCell ?_ (by simp; try omega) _) | (with_reducible refine Ext.trans ?_ (by with_reducible assumption))))⟩
        · have hr : mostV n true = ((frm n).top, 0) := by unfold mostV; simp [hi, k3, k4]
          rw [hr]
          have d3 : (((frm n).kind : Int) == 3) = false := bfalse (b := 3) k3
          clear hr hi t63 k4 k3
          generalize frm n = f at *
          go_enter Tryd.func36, Tryd.ntmps36
          go_wp2_with (first | (go_at_call 77; refine (c73.out _).mono ?_; rintro e w1 ⟨rfl, hb1⟩))
          go_ret2
          exact ⟨rfl, by (repeat (first | (with_reducible exact Ext.refl _) | (with_reducible assumption) | (with_reducible refine Ext.drew ?_) | (with_reducible refine Ext.drewN ?_ _) | (with_reducible refine Ext.alloc ?_ _) | (with_reducible refine Ext.setCell ?_ (Nat.le_refl _) _) | (with_reducible refine Ext.setCell ?_ (by simp; try omega) _) | (with_reducible refine Ext.trans ?_ (by with_reducible assumption))))⟩
  · have hr : mostV i neg = (0, 3) := by unfold mostV; rw [if_pos hi]
    rw [hr]
    have c73 := Lib.hid (fun W => rof_no i hi W)
    clear hr hi
    go_enter Tryd.func36, Tryd.ntmps36
    go_wp2_with (first | (go_at_call 77; refine (c73.out _).mono ?_; rintro e w1 ⟨rfl, hb1⟩))
    go_ret2
    exact ⟨rfl, by (repeat (first | (with_reducible exact Ext.refl _) | (with_reducible assumption) | (with_reducible refine Ext.drew ?_) | (with_reducible refine Ext.drewN ?_ _) | (with_reducible refine Ext.alloc ?_ _) | (with_reducible refine Ext.setCell ?_ (Nat.le_refl _) _) | (with_reducible refine Ext.setCell ?_ (by simp; try omega) _) | (with_reducible refine Ext.trans ?_ (by with_reducible assumption))))⟩
end Go.Proofs.YtogdiobbjlpmoaaDoor

