/- What posit.Value answers of a magnitude that may be. No condition but those written, and that the table of trailing noughts holds what it is laid with. -/
import Derived.Test.YtogdiobbjlpmoaaDoorSplit
import Derived.Deep.QuietTactic
import Derived.BigQuiet
import Derived.Defers
import Derived.Recover
namespace Go.Proofs.YtogdiobbjlpmoaaDoor
open Go Go.RowKit Cal

theorem quiet_left {P : Program} {f : FuncId} {args : Array Value} {w : World} {n : Nat} {v : Value}
    (h : Calls P f args (w.drewN n) fun e w' => e = .returned v ∧ w.drewN n = w') : Calls P f args (w.drewN n) fun e w'' => e = .returned v ∧ ∃ m, w'' = w.drewN m :=
  h.mono fun _ _ ⟨he, hm⟩ => ⟨he, n, hm.symm⟩

set_option maxHeartbeats 800000 in
theorem pvalue_walk (n key : Nat) (g : Int) (X F B Pw Mo : Nat) (E : Int) (hg : -64 ≤ g) (hg2 : g ≤ 64) (hX : X ≤ 3) (hB : B ≤ 62)
    (hP : IntKind.u64.wrap (2 ^ B) = Pw) (hM : bits BinOp.or IntKind.u64 (Pw : Int) F = Mo) (hM0 : 0 < Mo) (hM1 : Mo < 18446744073709551616) (hE : g * 4 + X - B = E)
    (w : World) (hEn : Env w)
    (c161 : Hid (∀ W, Calls Tryd.prog 161 #[.int .i64 ((n : Int) + 1), .int .u64 key] W fun e w' => e = .returned (.agg #[.int .i64 g, .int .i64 X, .int .u64 F, .int .i64 B]) ∧ Ext W w')) :
    Calls Tryd.prog 157 #[.int .i64 ((n : Int) + 1), .int .u64 key] w fun e w' => e = .returned (.tuple #[.int .u64 (odd Mo E).1, .int .i64 (odd Mo E).2]) ∧ Ext w w' := by
  have hE1 : -1000 ≤ E := by omega
  have hE2 : E ≤ 1000 := by omega
  go_enter Tryd.func157, Tryd.ntmps157
  go_wp2_with (first | (go_at_call 161; refine (c161.out _).mono ?_; rintro e w1 ⟨rfl, hb1⟩))
  have hEn1 := hEn.ext hb1
  have hEnA := fun k => (hEn1.alloc (.cells #[.int .i64 g, .int .i64 X, .int .u64 F, .int .i64 B] 184)).drewN k
  go_quiet ((go_at_call 162; exact quiet_left (podd_any Mo E hM0 hM1 (by omega) (by omega) _ (hEnA _))))
  go_wp2_with fail
  go_ret2
  exact ⟨rfl, by (repeat (first | (with_reducible exact Ext.refl _) | (with_reducible assumption) | (with_reducible refine Ext.drew ?_) | (with_reducible refine Ext.drewN ?_ _) | (with_reducible refine Ext.alloc ?_ _) | (with_reducible refine Ext.setCell ?_ (Nat.le_refl _) _) | (with_reducible refine Ext.setCell ?_ (by simp; try omega) _) | (with_reducible refine Ext.trans ?_ (by with_reducible assumption))))⟩

theorem pvalue_any (n key : Nat) (h1 : 2 ≤ n) (h2 : n ≤ 64) (h0 : 0 < key) (hk : key < 2 ^ n) (w : World) (hEn : Env w) :
    Calls Tryd.prog 157 #[.int .i64 ((n : Int) + 1), .int .u64 key] w fun e w' => e = .returned (.tuple #[.int .u64 ((pval n key).1 : Nat), .int .i64 (pval n key).2]) ∧ Ext w w' := by
  have hr1 := prun_pos n key (by omega) h2 hk
  have hr2 := prun_le n key
  have hB : pbits n key ≤ 62 := by unfold pbits pleft; omega
  have hX := pexp_le n key
  have hF : pfrac n key < 2 ^ pbits n key := Nat.mod_lt _ (two_pos _)
  have hp := two_pos (pbits n key)
  have hlt : 2 ^ pbits n key ≤ 2 ^ 62 := Nat.pow_le_pow_right (by decide) hB
  have hg : -64 ≤ preg n key ∧ preg n key ≤ 64 := by unfold preg; split <;> omega
  have hv : pval n key = odd (2 ^ pbits n key + pfrac n key) (4 * preg n key + pexp n key - pbits n key) := rfl
  rw [hv]
  exact pvalue_walk n key (preg n key) (pexp n key) (pfrac n key) (pbits n key) (2 ^ pbits n key) _ _ hg.1 hg.2 hX hB (by rw [zpow, u_id _ (by omega)]) (u_or_bit _ _ (by omega) hF) (by omega) (by omega) (by omega)
    w hEn (Lib.hid (fun W => split_any n key h1 h2 h0 hk W))

/-- The deferred call, of a frame that returns: nothing is recovered. -/
theorem caught_idle (p : Addr) (w : World) :
    CallsD Tryd.prog 156 #[.pointer (some p)] .returning w fun e u' w' => e = .returned (.tuple #[]) ∧ u' = .returning ∧ w' = w := by
  refine callsD_of_wpS Tryd.func156 rfl fun c₀ cs hu => ?_
  apply wpS_seq
  apply wpS_region
  simp [wpOpsS, go_sem, recoverD, hu, Tryd.ntmps156, Exit.thenS]
  refine wpS_of_wp ?_
  go_wp2
  cases c₀
  simp_all [bodyPostS, results, Tryd.results156]

set_option maxHeartbeats 800000 in
/-- posit.Value, of a magnitude that may be. -/
theorem pValue_any (n key : Nat) (h1 : 2 ≤ n) (h2 : n ≤ 64) (h0 : 0 < key) (hk : key < 2 ^ n) (w : World) (hEn : Env w) :
    Calls Tryd.prog 145 #[.int .i64 ((n : Int) + 1), .int .u64 key] w fun e w' => e = .returned (.tuple #[.int .u64 ((pval n key).1 : Nat), .int .i64 (pval n key).2, .int .i64 0]) ∧ Ext w w' := by
  have c157 := Lib.hid (fun W (h : Env W) => pvalue_any n key h1 h2 h0 hk W h)
  generalize pval n key = pv at *
  have hEA := (hEn.alloc (.cells #[.int .i64 0] 26))
  go_enter_defers Tryd.func145, Tryd.ntmps145
  go_wp2_with (first | (go_at_call 157; refine (c157.out _ hEA).mono ?_; rintro e w1 ⟨rfl, hb1⟩; obtain ⟨hc1, hf1⟩ := ecell hb1; have hs1 := hb1.size))
  have hx : Ext w w1 := ((Ext.refl w).alloc _).trans hb1
  have hcell : w1.cell? ⟨w.heap.size, 0, none⟩ = some (.int .i64 0) := by rw [hc1 _ _ (by simp)]; simp
  refine leaves_cons (f := 156) (args := #[.pointer (some ⟨w.heap.size, 0, none⟩)]) (by simp) (by simp [go_sem]) ?_
  refine (caught_idle ⟨w.heap.size, 0, none⟩ _).mono ?_
  rintro e u' w'' ⟨rfl, rfl, rfl⟩
  have hc2 : (w1.setCell ⟨w.heap.size, 0, none⟩ (.int .i64 0)).cell? ⟨w.heap.size, 0, none⟩ = some (.int .i64 0) := by simp [go_sem, hcell]
  simp [Leaves, settle, results, Tryd.results145, go_sem, hc2]
  exact hx.setCell (Nat.le_refl _) _
end Go.Proofs.YtogdiobbjlpmoaaDoor

