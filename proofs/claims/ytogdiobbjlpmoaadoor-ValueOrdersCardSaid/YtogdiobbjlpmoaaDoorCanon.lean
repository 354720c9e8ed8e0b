/- What forms.Canon answers. No condition but that the package variables hold what they are laid with. -/
import Derived.Test.YtogdiobbjlpmoaaDoorPure07
import Derived.Test.YtogdiobbjlpmoaaDoorTurn
namespace Go.Proofs.YtogdiobbjlpmoaaDoor
open Go Go.RowKit Cal

/-- Is a pattern a number, or infinite? -/
def isNum (f : Frm) (p : Nat) : Bool := if f.kind ≠ 2 then decide (f.nan = 0 ∨ p ≠ f.nan) else decide (p % 2 ^ (f.width - 1) ≤ f.top ∨ p % 2 ^ (f.width - 1) = f.inf)

set_option maxRecDepth 100000 in
set_option maxHeartbeats 1600000 in
theorem isNum_any (f : Frm) (p : Nat) (h1 : f.width ≤ 64) (h2 : 1 ≤ f.width) (hp : p < 2 ^ f.width) (w : World) :
    Calls Tryd.prog 87 #[.agg #[.int .i64 (f).kind, .int .i64 (f).width, .int .i64 (f).man, .int .i64 (f).bias, .int .u64 (f).top, .int .u64 (f).inf, .int .u64 (f).nan], .int .u64 p] w fun e w' => e = .returned (.bool (isNum f p)) ∧ Ext w w' := by
  by_cases k : f.kind = 2
  · have a2 : ((f.kind : Int) != 2) = false := nfalse (b := 2) k
    have hsg : signB f = 2 ^ (f.width - 1) := by unfold signB; rw [if_neg (by omega)]
    have hb := u_andNot_bit p (f.width - 1) (by omega) (by rw [show f.width - 1 + 1 = f.width from by omega]; exact hp)
    have c41 := Lib.hid (fun W => sign_any f W (by omega) h1 h2)
    have hr : isNum f p = decide (p % 2 ^ (f.width - 1) ≤ f.top ∨ p % 2 ^ (f.width - 1) = f.inf) := by unfold isNum; rw [if_neg (by simpa using k)]
    rw [hr]
    generalize p % 2 ^ (f.width - 1) = m at *
    rw [← hsg] at hb
    generalize signB f = sg at *
    clear hsg k hr
    by_cases h3 : m ≤ f.top
    · have e1 : decide (m ≤ f.top ∨ m = f.inf) = true := decide_eq_true (.inl h3)
      have d1 : decide (m ≤ f.top) = true := decide_eq_true h3
      rw [e1]
      clear e1
      go_enter Tryd.func87, Tryd.ntmps87
      go_wp2_with (first | (go_at_call 41; refine (c41.out _).mono ?_; rintro e w1 ⟨rfl, hb1⟩; have F1 := (Blk.new w 40 _).ext hb1; have cF := F1.cell))
      go_ret
      exact ⟨rfl, by (repeat (first | (with_reducible exact Ext.refl _) | (with_reducible assumption) | (with_reducible refine Ext.drew ?_) | (with_reducible refine Ext.drewN ?_ _) | (with_reducible refine Ext.alloc ?_ _) | (with_reducible refine Ext.setCell ?_ (Nat.le_refl _) _) | (with_reducible refine Ext.setCell ?_ (by simp; try omega) _) | (with_reducible refine Ext.trans ?_ (by with_reducible assumption))))⟩
    · have d1 : decide (m ≤ f.top) = false := decide_eq_false h3
      by_cases h4 : m = f.inf
      · have e1 : decide (m ≤ f.top ∨ m = f.inf) = true := decide_eq_true (.inr h4)
        have d2 : ((m : Int) == (f.inf : Int)) = true := btrue h4
        rw [e1]
        clear e1 h4
        go_enter Tryd.func87, Tryd.ntmps87
        go_wp2_with (first | (go_at_call 41; refine (c41.out _).mono ?_; rintro e w1 ⟨rfl, hb1⟩; have F1 := (Blk.new w 40 _).ext hb1; have cF := F1.cell))
        go_ret
        exact ⟨rfl, by (repeat (first | (with_reducible exact Ext.refl _) | (with_reducible assumption) | (with_reducible refine Ext.drew ?_) | (with_reducible refine Ext.drewN ?_ _) | (with_reducible refine Ext.alloc ?_ _) | (with_reducible refine Ext.setCell ?_ (Nat.le_refl _) _) | (with_reducible refine Ext.setCell ?_ (by simp; try omega) _) | (with_reducible refine Ext.trans ?_ (by with_reducible assumption))))⟩
      · have e1 : decide (m ≤ f.top ∨ m = f.inf) = false := decide_eq_false fun h => h.elim h3 h4
        have d2 : ((m : Int) == (f.inf : Int)) = false := bfalse h4
        rw [e1]
        clear e1 h4
        go_enter Tryd.func87, Tryd.ntmps87
        go_wp2_with (first | (go_at_call 41; refine (c41.out _).mono ?_; rintro e w1 ⟨rfl, hb1⟩; have F1 := (Blk.new w 40 _).ext hb1; have cF := F1.cell))
        go_ret
        exact ⟨rfl, by (repeat (first | (with_reducible exact Ext.refl _) | (with_reducible assumption) | (with_reducible refine Ext.drew ?_) | (with_reducible refine Ext.drewN ?_ _) | (with_reducible refine Ext.alloc ?_ _) | (with_reducible refine Ext.setCell ?_ (Nat.le_refl _) _) | (with_reducible refine Ext.setCell ?_ (by simp; try omega) _) | (with_reducible refine Ext.trans ?_ (by with_reducible assumption))))⟩
  · have a2 : ((f.kind : Int) != 2) = true := ntrue (b := 2) k
    have hr : isNum f p = decide (f.nan = 0 ∨ p ≠ f.nan) := by unfold isNum; rw [if_pos k]
    rw [hr]
    clear k hr
    by_cases h3 : f.nan = 0
    · have e1 : decide (f.nan = 0 ∨ p ≠ f.nan) = true := decide_eq_true (.inl h3)
      have d1 : ((f.nan : Int) == 0) = true := btrue (b := 0) h3
      rw [e1]
      clear e1 h3
      go_enter Tryd.func87, Tryd.ntmps87
      go_wp2_with fail
      go_ret
      exact ⟨rfl, by (repeat (first | (with_reducible exact Ext.refl _) | (with_reducible assumption) | (with_reducible refine Ext.drew ?_) | (with_reducible refine Ext.drewN ?_ _) | (with_reducible refine Ext.alloc ?_ _) | (with_reducible refine Ext.setCell ?_ (Nat.le_refl _) _) | (with_reducible refine Ext.setCell ?_ (by simp; try omega) _) | (with_reducible refine Ext.trans ?_ (by with_reducible assumption))))⟩
    · have d1 : ((f.nan : Int) == 0) = false := bfalse (b := 0) h3
      by_cases h4 : p = f.nan
      · have e1 : decide (f.nan = 0 ∨ p ≠ f.nan) = false := decide_eq_false fun h => h.elim h3 (fun h => h h4)
        have d2 : ((p : Int) != (f.nan : Int)) = false := nfalse h4
        rw [e1]
        clear e1 h3 h4
        go_enter Tryd.func87, Tryd.ntmps87
        go_wp2_with fail
        go_ret
        exact ⟨rfl, by (repeat (first | (with_reducible exact Ext.refl _) | (with_reducible assumption) | (with_reducible refine Ext.drew ?_) | (with_reducible refine Ext.drewN ?_ _) | (with_reducible refine Ext.alloc ?_ _) | (with_reducible refine Ext.setCell ?_ (Nat.le_refl _) _) | (with_reducible refine Ext.setCell ?_ (by simp; try omega) _) | (with_reducible refine Ext.trans ?_ (by with_reducible assumption))))⟩
      · have e1 : decide (f.nan = 0 ∨ p ≠ f.nan) = true := decide_eq_true (.inr h4)
        have d2 : ((p : Int) != (f.nan : Int)) = true := ntrue h4
        rw [e1]
        clear e1 h3 h4
        go_enter Tryd.func87, Tryd.ntmps87
        go_wp2_with fail
        go_ret
        exact ⟨rfl, by (repeat (first | (with_reducible exact Ext.refl _) | (with_reducible assumption) | (with_reducible refine Ext.drew ?_) | (with_reducible refine Ext.drewN ?_ _) | (with_reducible refine Ext.alloc ?_ _) | (with_reducible refine Ext.setCell ?_ (Nat.le_refl _) _) | (with_reducible refine Ext.setCell ?_ (by simp; try omega) _) | (with_reducible refine Ext.trans ?_ (by with_reducible assumption))))⟩

set_option maxRecDepth 100000 in
set_option maxHeartbeats 1600000 in
/-- forms.Canon of a pattern that fits. -/
theorem canon_yes (n p : Nat) (h1 : 1 ≤ n) (h2 : n ≤ 14) (hp : p < 2 ^ (frm n).width) (w : World) (hE : Env w) :
    Calls Tryd.prog 42 #[.int .i64 n, .int .u64 p] w fun e w' => e = .returned (.tuple #[.int .u64 ((if isNum (frm n) p = true then p else (frm n).nan : Nat) : Int), .int .i64 0]) ∧ Ext w w' := by
  obtain ⟨w4, w64⟩ := frm_width n h1 h2
  have hp64 : p < 18446744073709551616 := Nat.lt_of_lt_of_le hp (pow_le64 w64)
  have c72 := Lib.hid (fun W h' => fits_any n p hp64 W h')
  have hf0 : fitsE n p = 0 := by unfold fitsE; rw [if_pos (isForm_of h1 h2), if_pos (by simpa using hp)]
  rw [hf0] at c72
  have c87 := Lib.hid (fun W => isNum_any (frm n) p w64 (by omega) hp W)
  have hz : 0 < w.heap.size := by have := hE.size; omega
  have cE := Lib.hid (fun W (h : Env W) => h.forms n h2)
  clear hf0
  generalize frm n = f at *
  cases hn : isNum f p with
  | true =>
    rw [hn] at c87
    rw [if_pos rfl]
    clear hn
    go_enter Tryd.func42, Tryd.ntmps42
    go_wp2_with fail
    refine (c72.out _ hE).mono ?_
    rintro e w1 ⟨rfl, hb1⟩
    have hz1 : 0 < w1.heap.size := Nat.lt_of_lt_of_le hz hb1.size
    obtain ⟨g0, g1, g2, g3, g4, g5, g6⟩ := cE.out _ (hE.ext hb1)
    go_wp2_with (first | (go_at_call 87; refine (c87.out _).mono ?_; rintro e w2 ⟨rfl, hb2⟩))
    go_ret2
    exact ⟨rfl, by (repeat (first | (with_reducible exact Ext.refl _) | (with_reducible assumption) | (with_reducible refine Ext.drew ?_) | (with_reducible refine Ext.drewN ?_ _) | (with_reducible refine Ext.alloc ?_ _) | (with_reducible refine Ext.setCell ?_ (Nat.le_refl _) _) | (with_reducible refine Ext.setCell ?_ (by simp; try omega) _) | (with_reducible refine Ext.trans ?_ (by with_reducible assumption))))⟩
  | false =>
    rw [hn] at c87
    rw [if_neg (by decide)]
    clear hn
    go_enter Tryd.func42, Tryd.ntmps42
    go_wp2_with fail
    refine (c72.out _ hE).mono ?_
    rintro e w1 ⟨rfl, hb1⟩
    have hz1 : 0 < w1.heap.size := Nat.lt_of_lt_of_le hz hb1.size
    obtain ⟨g0, g1, g2, g3, g4, g5, g6⟩ := cE.out _ (hE.ext hb1)
    go_wp2_with (first | (go_at_call 87; refine (c87.out _).mono ?_; rintro e w2 ⟨rfl, hb2⟩; have F2 := (Blk.new w1 40 _).ext hb2; have cF := F2.cell))
    go_ret2
    exact ⟨rfl, by (repeat (first | (with_reducible exact Ext.refl _) | (with_reducible assumption) | (with_reducible refine Ext.drew ?_) | (with_reducible refine Ext.drewN ?_ _) | (with_reducible refine Ext.alloc ?_ _) | (with_reducible refine Ext.setCell ?_ (Nat.le_refl _) _) | (with_reducible refine Ext.setCell ?_ (by simp; try omega) _) | (with_reducible refine Ext.trans ?_ (by with_reducible assumption))))⟩

theorem two_facts (n : Nat) (h1 : 1 ≤ n) (h2 : n ≤ 14) : ((frm n).kind = 2 →
    ((frm n).nan = 0 ∧ (frm n).inf = 0 ∧ (frm n).top + 1 = 2 ^ ((frm n).width - 1)) ∨ ((frm n).nan ≠ 0 ∧ (frm n).top < (frm n).nan % 2 ^ ((frm n).width - 1) ∧ (frm n).nan % 2 ^ ((frm n).width - 1) ≠ (frm n).inf)) ∧
    ((frm n).inf ≠ 0 → (frm n).kind = 2) := by
  have : n = 1 ∨ n = 2 ∨ n = 3 ∨ n = 4 ∨ n = 5 ∨ n = 6 ∨ n = 7 ∨ n = 8 ∨ n = 9 ∨ n = 10 ∨ n = 11 ∨ n = 12 ∨ n = 13 ∨ n = 14 := by omega
  rcases this with rfl | rfl | rfl | rfl | rfl | rfl | rfl | rfl | rfl | rfl | rfl | rfl | rfl | rfl <;> decide

theorem keyP_two (f : Frm) (p : Nat) (k : f.kind = 2) (h2 : 1 ≤ f.width) (hp : p < 2 ^ f.width) : keyP f p = p % 2 ^ (f.width - 1) := by
  have e : 2 ^ f.width = 2 * 2 ^ (f.width - 1) := by rw [← Nat.pow_succ']; congr 1; omega
  unfold keyP negP
  generalize 2 ^ (f.width - 1) = m at *
  by_cases h : m ≤ p
  · simp [k, h]
    rw [Nat.mod_eq_sub_mod h, Nat.mod_eq_of_lt (by omega)]
  · simp [k, h]
    rw [Nat.mod_eq_of_lt (by omega)]

/-- What is no number is so for good. -/
theorem special_law (n p : Nat) (h1 : 1 ≤ n) (h2 : n ≤ 14) (hp : p < 2 ^ (frm n).width) :
    (cls (frm n) p = 4 ↔ (frm n).nan ≠ 0 ∧ (if isNum (frm n) p = true then p else (frm n).nan) = (frm n).nan) ∧
    (cls (frm n) p = 3 ↔ (frm n).inf ≠ 0 ∧ p % 2 ^ ((frm n).width - 1) = (frm n).inf) ∧ ((frm n).inf ≠ 0 → (frm n).kind = 2) := by
  obtain ⟨t1, t2⟩ := two_facts n h1 h2
  have w1 : 1 ≤ (frm n).width := by have := (frm_width n h1 h2).1; omega
  generalize frm n = f at *
  refine ⟨?_, ?_, t2⟩
  · by_cases k : f.kind = 2
    · have hk := keyP_two f p k w1 hp
      have hm : p % 2 ^ (f.width - 1) < 2 ^ (f.width - 1) := Nat.mod_lt _ (two_pos _)
      have hn : isNum f p = decide (keyP f p ≤ f.top ∨ keyP f p = f.inf) := by unfold isNum; rw [if_neg (by simpa using k), hk]
      have hc : cls f p = 4 ↔ ¬ (keyP f p = f.inf ∧ f.inf ≠ 0) ∧ f.top < keyP f p := by
        unfold cls
        by_cases a : keyP f p = f.inf ∧ f.inf ≠ 0
        · rw [if_pos ⟨k, a⟩]; simp [a]
        · rw [if_neg (fun h => a h.2)]
          by_cases b : f.top < keyP f p
          · rw [if_pos (.inl ⟨k, b⟩)]; simp only [b, a]; simp
          · rw [if_neg (fun h => h.elim (fun h => b h.2) (fun h => h.1 k))]; simp only [b]; split <;> simp
      rw [hc, hn]
      rcases t1 k with ⟨a, b, c⟩ | ⟨a, b, c⟩
      · rw [hk, a]; simp; omega
      · by_cases hq : keyP f p ≤ f.top ∨ keyP f p = f.inf
        · rw [if_pos (decide_eq_true hq)]
          have hne : p ≠ f.nan := by
            rintro rfl
            rw [hk] at hq
            omega
          refine iff_of_false ?_ (fun h => hne h.2)
          intro h
          rcases hq with hq | hq
          · omega
          · by_cases hi : f.inf = 0
            · omega
            · exact h.1 ⟨hq, hi⟩
        · rw [if_neg (by simpa using hq)]
          refine iff_of_true ?_ ⟨a, rfl⟩
          have h1 : ¬ keyP f p ≤ f.top := fun h => hq (.inl h)
          have h2 : ¬ keyP f p = f.inf := fun h => hq (.inr h)
          exact ⟨fun h => h2 h.1, by omega⟩
    · have hn : isNum f p = decide (f.nan = 0 ∨ p ≠ f.nan) := by unfold isNum; rw [if_pos k]
      have hc : cls f p = 4 ↔ f.nan ≠ 0 ∧ p = f.nan := by
        unfold cls
        rw [if_neg (fun h => k h.1)]
        by_cases b : f.nan ≠ 0 ∧ p = f.nan
        · rw [if_pos (.inr ⟨k, b⟩)]; simp [b]
        · rw [if_neg (fun h => h.elim (fun h => k h.1) (fun h => b h.2))]
          refine iff_of_false ?_ b
          split <;> simp
      rw [hc, hn]
      by_cases a : f.nan = 0
      · simp [a]
      · by_cases b : p = f.nan
        · simp [a, b]
        · simp [a, b]
  · by_cases hi : f.inf = 0
    · refine iff_of_false ?_ (fun h => h.1 hi)
      unfold cls
      rw [if_neg (fun h => h.2.2 hi)]
      split <;> (try split) <;> simp
    · have k := t2 hi
      have hk := keyP_two f p k w1 hp
      rw [← hk]
      unfold cls
      by_cases a : keyP f p = f.inf
      · rw [if_pos ⟨k, a, hi⟩]; simp [hi, a]
      · rw [if_neg (fun h => a h.2.1)]
        refine iff_of_false ?_ (fun h => a h.2)
        split <;> (try split) <;> simp
end Go.Proofs.YtogdiobbjlpmoaaDoor

