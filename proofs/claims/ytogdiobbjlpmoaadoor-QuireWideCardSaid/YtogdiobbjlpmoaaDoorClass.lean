/- What a shape's class answers. No condition. -/
import Derived.Test.YtogdiobbjlpmoaaDoorParts
namespace Go.Proofs.YtogdiobbjlpmoaaDoor
open Go Go.RowKit Cal

def clsK (f : Frm) (p key : Nat) : Nat :=
  if f.kind = 2 ∧ key = f.inf ∧ f.inf ≠ 0 then 3
  else if (f.kind = 2 ∧ f.top < key) ∨ (f.kind ≠ 2 ∧ f.nan ≠ 0 ∧ p = f.nan) then 4
  else if key = 0 ∧ f.kind ≠ 4 then 1 else 2
theorem cls_eq (f : Frm) (p : Nat) : cls f p = clsK f p (keyP f p) := rfl

theorem bfalse {a b : Nat} (h : a ≠ b) : ((a : Int) == (b : Int)) = false := by rw [beq_eq_false_iff_ne]; omega
theorem btrue {a b : Nat} (h : a = b) : ((a : Int) == (b : Int)) = true := by rw [h]; exact beq_self_eq_true _
theorem nfalse {a b : Nat} (h : a = b) : ((a : Int) != (b : Int)) = false := by rw [h]; simp
theorem ntrue {a b : Nat} (h : a ≠ b) : ((a : Int) != (b : Int)) = true := by rw [bne_iff_ne]; omega

set_option maxHeartbeats 1600000 in
/-- shape.class. -/
theorem class_any (f : Frm) (p key : Nat) (g : Value) (w : World) :
    Calls Tryd.prog 75 #[.agg #[.int .i64 (f).kind, .int .i64 (f).width, .int .i64 (f).man, .int .i64 (f).bias, .int .u64 (f).top, .int .u64 (f).inf, .int .u64 (f).nan, g], .int .u64 p, .int .u64 key] w fun e w' => e = .returned (.int .i64 ((clsK f p key : Nat) : Int)) ∧ Ext w w' := by
  by_cases a : f.kind = 2
  · have a1 : ((f.kind : Int) == 2) = true := btrue (b := 2) a
    have a2 : ((f.kind : Int) != 2) = false := nfalse (b := 2) a
    have a3 : ((f.kind : Int) != 4) = true := ntrue (b := 4) (by omega)
    by_cases b : key = f.inf
    · by_cases c : f.inf = 0
      · have hr : clsK f p key = if f.top < key then 4 else 1 := by unfold clsK; simp [a, b, c]
        have hnt : ¬ f.top < key := by omega
        rw [hr, if_neg hnt]
        have b1 : ((key : Int) == (f.inf : Int)) = true := btrue b
        have c1 : ((f.inf : Int) != 0) = false := nfalse (b := 0) c
        have d1 : decide ((f.top : Int) < (key : Int)) = false := decide_eq_false (by omega)
        have e1 : ((key : Int) == 0) = true := btrue (b := 0) (by omega)
        clear hr a b c
        go_enter Tryd.func75, Tryd.ntmps75
        go_wp2
        go_ret
        exact ⟨rfl, by (repeat (first | (with_reducible exact Ext.refl _) | (with_reducible assumption) | (with_reducible refine Ext.drew ?_) | (with_reducible refine Ext.drewN ?_ _) | (with_reducible refine Ext.alloc ?_ _) | (with_reducible refine Ext.setCell ?_ (Nat.le_refl _) _) | (with_reducible refine Ext.setCell ?_ (by simp; try omega) _) | (with_reducible refine Ext.trans ?_ (by with_reducible assumption))))⟩
      · have hr : clsK f p key = 3 := by unfold clsK; rw [if_pos ⟨a, b, c⟩]
        rw [hr]
        have b1 : ((key : Int) == (f.inf : Int)) = true := btrue b
        have c1 : ((f.inf : Int) != 0) = true := ntrue (b := 0) c
        clear hr a b c
        go_enter Tryd.func75, Tryd.ntmps75
        go_wp2
        go_ret
        exact ⟨rfl, by (repeat (first | (with_reducible exact Ext.refl _) | (with_reducible assumption) | (with_reducible refine Ext.drew ?_) | (with_reducible refine Ext.drewN ?_ _) | (with_reducible refine Ext.alloc ?_ _) | (with_reducible refine Ext.setCell ?_ (Nat.le_refl _) _) | (with_reducible refine Ext.setCell ?_ (by simp; try omega) _) | (with_reducible refine Ext.trans ?_ (by with_reducible assumption))))⟩
    · have b1 : ((key : Int) == (f.inf : Int)) = false := bfalse b
      by_cases d : f.top < key
      · have hr : clsK f p key = 4 := by unfold clsK; simp [a, b, d]
        rw [hr]
        have d1 : decide ((f.top : Int) < (key : Int)) = true := decide_eq_true (by omega)
        clear hr a b
        go_enter Tryd.func75, Tryd.ntmps75
        go_wp2
        go_ret
        exact ⟨rfl, by (repeat (first | (with_reducible exact Ext.refl _) | (with_reducible assumption) | (with_reducible refine Ext.drew ?_) | (with_reducible refine Ext.drewN ?_ _) | (with_reducible refine Ext.alloc ?_ _) | (with_reducible refine Ext.setCell ?_ (Nat.le_refl _) _) | (with_reducible refine Ext.setCell ?_ (by simp; try omega) _) | (with_reducible refine Ext.trans ?_ (by with_reducible assumption))))⟩
      · have d1 : decide ((f.top : Int) < (key : Int)) = false := decide_eq_false (by omega)
        by_cases e0 : key = 0
        · have hr : clsK f p key = 1 := by unfold clsK; rw [if_neg (fun h => b h.2.1), if_neg (fun h => by rcases h with h | h; exact d h.2; exact h.1 a), if_pos ⟨e0, by omega⟩]
          rw [hr]
          have e1 : ((key : Int) == 0) = true := btrue (b := 0) e0
          clear hr a b e0
          go_enter Tryd.func75, Tryd.ntmps75
          go_wp2
          go_ret
          exact ⟨rfl, by (repeat (first | (with_reducible exact Ext.refl _) | (with_reducible assumption) | (with_reducible refine Ext.drew ?_) | (with_reducible refine Ext.drewN ?_ _) | (with_reducible refine Ext.alloc ?_ _) | (with_reducible refine Ext.setCell ?_ (Nat.le_refl _) _) | (with_reducible refine Ext.setCell ?_ (by simp; try omega) _) | (with_reducible refine Ext.trans ?_ (by with_reducible assumption))))⟩
        · have hr : clsK f p key = 2 := by unfold clsK; rw [if_neg (fun h => b h.2.1), if_neg (fun h => by rcases h with h | h; exact d h.2; exact h.1 a), if_neg (fun h => e0 h.1)]
          rw [hr]
          have e1 : ((key : Int) == 0) = false := bfalse (b := 0) e0
          clear hr a b e0
          go_enter Tryd.func75, Tryd.ntmps75
          go_wp2
          go_ret
          exact ⟨rfl, by (repeat (first | (with_reducible exact Ext.refl _) | (with_reducible assumption) | (with_reducible refine Ext.drew ?_) | (with_reducible refine Ext.drewN ?_ _) | (with_reducible refine Ext.alloc ?_ _) | (with_reducible refine Ext.setCell ?_ (Nat.le_refl _) _) | (with_reducible refine Ext.setCell ?_ (by simp; try omega) _) | (with_reducible refine Ext.trans ?_ (by with_reducible assumption))))⟩
  · have a1 : ((f.kind : Int) == 2) = false := bfalse (b := 2) a
    have a2 : ((f.kind : Int) != 2) = true := ntrue (b := 2) a
    by_cases n : f.nan ≠ 0 ∧ p = f.nan
    · have hr : clsK f p key = 4 := by unfold clsK; rw [if_neg (fun h => a h.1), if_pos (.inr ⟨a, n⟩)]
      rw [hr]
      have n1 : ((f.nan : Int) != 0) = true := ntrue (b := 0) n.1
      have n2 : ((p : Int) == (f.nan : Int)) = true := btrue n.2
      clear hr a n
      go_enter Tryd.func75, Tryd.ntmps75
      go_wp2
      go_ret
      exact ⟨rfl, by (repeat (first | (with_reducible exact Ext.refl _) | (with_reducible assumption) | (with_reducible refine Ext.drew ?_) | (with_reducible refine Ext.drewN ?_ _) | (with_reducible refine Ext.alloc ?_ _) | (with_reducible refine Ext.setCell ?_ (Nat.le_refl _) _) | (with_reducible refine Ext.setCell ?_ (by simp; try omega) _) | (with_reducible refine Ext.trans ?_ (by with_reducible assumption))))⟩
    · have hr : clsK f p key = if key = 0 ∧ f.kind ≠ 4 then 1 else 2 := by unfold clsK; rw [if_neg (fun h => a h.1), if_neg (fun h => by rcases h with h | h; exact a h.1; exact n h.2)]
      rw [hr]
      clear hr
      by_cases z : key = 0 ∧ f.kind ≠ 4
      · rw [if_pos z]
        have e1 : ((key : Int) == 0) = true := btrue (b := 0) z.1
        have a3 : ((f.kind : Int) != 4) = true := ntrue (b := 4) z.2
        by_cases n0 : f.nan = 0
        · have n1 : ((f.nan : Int) != 0) = false := nfalse (b := 0) n0
          clear a n z n0
          go_enter Tryd.func75, Tryd.ntmps75
          go_wp2
          go_ret
          exact ⟨rfl, by (repeat (first | (with_reducible exact Ext.refl _) | (with_reducible assumption) | (with_reducible refine Ext.drew ?_) | (with_reducible refine Ext.drewN ?_ _) | (with_reducible refine Ext.alloc ?_ _) | (with_reducible refine Ext.setCell ?_ (Nat.le_refl _) _) | (with_reducible refine Ext.setCell ?_ (by simp; try omega) _) | (with_reducible refine Ext.trans ?_ (by with_reducible assumption))))⟩
        · have n1 : ((f.nan : Int) != 0) = true := ntrue (b := 0) n0
          have n2 : ((p : Int) == (f.nan : Int)) = false := bfalse (fun h => n ⟨n0, h⟩)
          clear a n z n0
          go_enter Tryd.func75, Tryd.ntmps75
          go_wp2
          go_ret
          exact ⟨rfl, by (repeat (first | (with_reducible exact Ext.refl _) | (with_reducible assumption) | (with_reducible refine Ext.drew ?_) | (with_reducible refine Ext.drewN ?_ _) | (with_reducible refine Ext.alloc ?_ _) | (with_reducible refine Ext.setCell ?_ (Nat.le_refl _) _) | (with_reducible refine Ext.setCell ?_ (by simp; try omega) _) | (with_reducible refine Ext.trans ?_ (by with_reducible assumption))))⟩
      · rw [if_neg z]
        by_cases e0 : key = 0
        · have e1 : ((key : Int) == 0) = true := btrue (b := 0) e0
          have a3 : ((f.kind : Int) != 4) = false := nfalse (b := 4) (by omega)
          by_cases n0 : f.nan = 0
          · have n1 : ((f.nan : Int) != 0) = false := nfalse (b := 0) n0
            clear a n z n0 e0
            go_enter Tryd.func75, Tryd.ntmps75
            go_wp2
            go_ret
            exact ⟨rfl, by (repeat (first | (with_reducible exact Ext.refl _) | (with_reducible assumption) | (with_reducible refine Ext.drew ?_) | (with_reducible refine Ext.drewN ?_ _) | (with_reducible refine Ext.alloc ?_ _) | (with_reducible refine Ext.setCell ?_ (Nat.le_refl _) _) | (with_reducible refine Ext.setCell ?_ (by simp; try omega) _) | (with_reducible refine Ext.trans ?_ (by with_reducible assumption))))⟩
          · have n1 : ((f.nan : Int) != 0) = true := ntrue (b := 0) n0
            have n2 : ((p : Int) == (f.nan : Int)) = false := bfalse (fun h => n ⟨n0, h⟩)
            clear a n z n0 e0
            go_enter Tryd.func75, Tryd.ntmps75
            go_wp2
            go_ret
            exact ⟨rfl, by (repeat (first | (with_reducible exact Ext.refl _) | (with_reducible assumption) | (with_reducible refine Ext.drew ?_) | (with_reducible refine Ext.drewN ?_ _) | (with_reducible refine Ext.alloc ?_ _) | (with_reducible refine Ext.setCell ?_ (Nat.le_refl _) _) | (with_reducible refine Ext.setCell ?_ (by simp; try omega) _) | (with_reducible refine Ext.trans ?_ (by with_reducible assumption))))⟩
        · have e1 : ((key : Int) == 0) = false := bfalse (b := 0) e0
          by_cases n0 : f.nan = 0
          · have n1 : ((f.nan : Int) != 0) = false := nfalse (b := 0) n0
            clear a n z n0 e0
            go_enter Tryd.func75, Tryd.ntmps75
            go_wp2
            go_ret
            exact ⟨rfl, by (repeat (first | (with_reducible exact Ext.refl _) | (with_reducible assumption) | (with_reducible refine Ext.drew ?_) | (with_reducible refine Ext.drewN ?_ _) | (with_reducible refine Ext.alloc ?_ _) | (with_reducible refine Ext.setCell ?_ (Nat.le_refl _) _) | (with_reducible refine Ext.setCell ?_ (by simp; try omega) _) | (with_reducible refine Ext.trans ?_ (by with_reducible assumption))))⟩
          · have n1 : ((f.nan : Int) != 0) = true := ntrue (b := 0) n0
            have n2 : ((p : Int) == (f.nan : Int)) = false := bfalse (fun h => n ⟨n0, h⟩)
            clear a n z n0 e0
            go_enter Tryd.func75, Tryd.ntmps75
            go_wp2
            go_ret
            exact ⟨rfl, by (repeat (first | (with_reducible exact Ext.refl _) | (with_reducible assumption) | (with_reducible refine Ext.drew ?_) | (with_reducible refine Ext.drewN ?_ _) | (with_reducible refine Ext.alloc ?_ _) | (with_reducible refine Ext.setCell ?_ (Nat.le_refl _) _) | (with_reducible refine Ext.setCell ?_ (by simp; try omega) _) | (with_reducible refine Ext.trans ?_ (by with_reducible assumption))))⟩
end Go.Proofs.YtogdiobbjlpmoaaDoor

