/- What value.numbers and value.of answer. No condition but that the package variables hold what they are laid with. -/
import Derived.Test.YtogdiobbjlpmoaaDoorNumber
import Derived.Laws.EntriesVeiled
namespace Go.Proofs.YtogdiobbjlpmoaaDoor
open Go Go.RowKit Cal

/-- The function of a kind's numbers. -/
def nfn (k : Nat) : Nat := if k = 1 then 144 else if k = 2 then 146 else if k = 3 then 148 else 150

theorem numbers_any (k : Nat) (h1 : 1 ≤ k) (h4 : k ≤ 4) (w : World) : Calls Tryd.prog 123 #[.int .i64 k] w fun e w' => e = .returned (.func (.func (nfn k)) #[] #[]) ∧ w = w' := by
  have : k = 1 ∨ k = 2 ∨ k = 3 ∨ k = 4 := by omega
  rcases this with rfl | rfl | rfl | rfl
  all_goals
    go_enter Tryd.func123, Tryd.ntmps123
    go_wp2
    go_ret
    exact ⟨rfl, rfl⟩

theorem numbers_none (w : World) : Calls Tryd.prog 123 #[.int .i64 0] w fun e w' => e = .returned .nilFunc ∧ w = w' := by
  go_enter Tryd.func123, Tryd.ntmps123
  go_wp2
  go_ret
  exact ⟨rfl, rfl⟩

theorem frm_kind (i : Nat) (h1 : 1 ≤ i) (h2 : i ≤ 14) : 1 ≤ (frm i).kind ∧ (frm i).kind ≤ 4 := by
  have : i = 1 ∨ i = 2 ∨ i = 3 ∨ i = 4 ∨ i = 5 ∨ i = 6 ∨ i = 7 ∨ i = 8 ∨ i = 9 ∨ i = 10 ∨ i = 11 ∨ i = 12 ∨ i = 13 ∨ i = 14 := by omega
  rcases this with rfl | rfl | rfl | rfl | rfl | rfl | rfl | rfl | rfl | rfl | rfl | rfl | rfl | rfl <;> decide

set_option maxRecDepth 100000 in
set_option maxHeartbeats 800000 in
theorem of_yes (i : Nat) (w : World) (hE : Env w) (h : 1 ≤ i) (h2 : i ≤ 14) :
    Calls Tryd.prog 73 #[.int .i64 i] w fun e w' => e = .returned (.tuple #[.agg #[.int .i64 (frm i).kind, .int .i64 (frm i).width, .int .i64 (frm i).man, .int .i64 (frm i).bias, .int .u64 (frm i).top, .int .u64 (frm i).inf, .int .u64 (frm i).nan, .func (.func (nfn (frm i).kind)) #[] #[]], .int .i64 0]) ∧ Ext w w' := by
  obtain ⟨k1, k4⟩ := frm_kind i h h2
  have c39 := Lib.hid (fun W (h' : Env W) => formsOf_yes i W h' h h2)
  generalize frm i = f at *
  have c123 := Lib.hid (fun W => numbers_any f.kind k1 k4 W)
  generalize nfn f.kind = q at *
  have hEA := fun o => hE.alloc o
  go_enter Tryd.func73, Tryd.ntmps73
  go_wp2_with (first | (go_at_call 39; refine (c39.out _ (hEA _)).mono ?_; rintro e w1 ⟨rfl, hb1⟩; have hs1 := hb1.size; obtain ⟨hc1, hf1⟩ := ecell hb1))
  have hlt : w.heap.size < w1.heap.size := by simp at hs1; omega
  have hne : ¬ w.heap.size = w1.heap.size := by omega
  go_region_with (go_at_call 123; (with_reducible refine (c123.out _).mono ?_); rintro e w2 ⟨rfl, rfl⟩)
  all_goals go_wp2_with fail
  all_goals exact bodyPost_ret (v := .tuple #[.agg #[.int .i64 (f).kind, .int .i64 (f).width, .int .i64 (f).man, .int .i64 (f).bias, .int .u64 (f).top, .int .u64 (f).inf, .int .u64 (f).nan, .func (.func q) #[] #[]], .int .i64 0]) (by simp [results, Tryd.results73, go_sem, hc1, hlt]) rfl ⟨rfl, by (repeat (first | (with_reducible exact Ext.refl _) | (with_reducible assumption) | (with_reducible refine Ext.drew ?_) | (with_reducible refine Ext.drewN ?_ _) | (with_reducible refine Ext.alloc ?_ _) | (with_reducible refine Ext.setCell ?_ (Nat.le_refl _) _) | (with_reducible refine Ext.setCell ?_ (by simp; try omega) _) | (with_reducible refine Ext.trans ?_ (by with_reducible assumption))))⟩

set_option maxRecDepth 100000 in
set_option maxHeartbeats 800000 in
theorem of_no (i : Int) (w : World) (h : ¬ isForm i) :
    Calls Tryd.prog 73 #[.int .i64 i] w fun e w' => e = .returned (.tuple #[.agg #[.int .i64 (frm 0).kind, .int .i64 (frm 0).width, .int .i64 (frm 0).man, .int .i64 (frm 0).bias, .int .u64 (frm 0).top, .int .u64 (frm 0).inf, .int .u64 (frm 0).nan, .nilFunc], .int .i64 3]) ∧ Ext w w' := by
  have c39 := Lib.hid (fun W => formsOf_no i W h)
  have c123 := Lib.hid (fun W => numbers_none W)
  go_enter Tryd.func73, Tryd.ntmps73
  go_wp2_with (first | (go_at_call 39; refine (c39.out _).mono ?_; rintro e w1 ⟨rfl, hb1⟩; have hs1 := hb1.size; obtain ⟨hc1, hf1⟩ := ecell hb1))
  have hlt : w.heap.size < w1.heap.size := by simp at hs1; omega
  have hne : ¬ w.heap.size = w1.heap.size := by omega
  go_region_with (go_at_call 123; (with_reducible refine (c123.out _).mono ?_); rintro e w2 ⟨rfl, rfl⟩)
  all_goals go_wp2_with fail
  all_goals exact bodyPost_ret (v := .tuple #[.agg #[.int .i64 0, .int .i64 0, .int .i64 0, .int .i64 0, .int .u64 0, .int .u64 0, .int .u64 0, .nilFunc], .int .i64 3]) (by simp [results, Tryd.results73, go_sem, hc1, hlt]) rfl ⟨rfl, by (repeat (first | (with_reducible exact Ext.refl _) | (with_reducible assumption) | (with_reducible refine Ext.drew ?_) | (with_reducible refine Ext.drewN ?_ _) | (with_reducible refine Ext.alloc ?_ _) | (with_reducible refine Ext.setCell ?_ (Nat.le_refl _) _) | (with_reducible refine Ext.setCell ?_ (by simp; try omega) _) | (with_reducible refine Ext.trans ?_ (by with_reducible assumption))))⟩
end Go.Proofs.YtogdiobbjlpmoaaDoor

