/- What the package variables hold (the table of forms, the table by which trailing noughts are found), and that it stays so. No condition but those written. -/
import Derived.Test.YtogdiobbjlpmoaaDoorProg
import Derived.Test.YtogdiobbjlpmoaaDoorNumLaws
import Derived.WalkKit
import Derived.Laws.Rows
import Derived.Laws.OwnMore
import Derived.Deep.Draws
import Derived.Below
import Derived.WalkSmall
import Derived.WalkLawsBesides
import Derived.KernelRfl
import Derived.Lib.Hide
namespace Go.Proofs.YtogdiobbjlpmoaaDoor
open Go Go.RowKit Cal

/-- The table of forms, in its variable. -/
def FormsAt (w : World) : Prop := ∀ i : Nat, i ≤ 14 →
  w.cell? ⟨0, i * 7, none⟩ = some (.int .i64 (frm i).kind) ∧ w.cell? ⟨0, i * 7 + 1, none⟩ = some (.int .i64 (frm i).width) ∧
  w.cell? ⟨0, i * 7 + 2, none⟩ = some (.int .i64 (frm i).man) ∧ w.cell? ⟨0, i * 7 + 3, none⟩ = some (.int .i64 (frm i).bias) ∧
  w.cell? ⟨0, i * 7 + 4, none⟩ = some (.int .u64 (frm i).top) ∧ w.cell? ⟨0, i * 7 + 5, none⟩ = some (.int .u64 (frm i).inf) ∧
  w.cell? ⟨0, i * 7 + 6, none⟩ = some (.int .u64 (frm i).nan)

/-- The table of trailing noughts, in its variable. -/
def TzAt (w : World) : Prop := ∀ j, j < Lib.deBruijn64tab.length → w.cell? ⟨3, j, none⟩ = some (.int .u8 (Lib.deBruijn64tab.getD j 0))

/-- What the package variables hold. -/
structure Env (w : World) : Prop where
  size : 3 < w.heap.size
  forms : FormsAt w
  tz : TzAt w

theorem Env.keep {w w' : World} (h : Env w) (hs : w.heap.size ≤ w'.heap.size) (hk : ∀ p : Addr, p.block < w.heap.size → w'.cell? p = w.cell? p) : Env w' := by
  have h3 := h.size
  refine ⟨by omega, fun i hi => ?_, fun j hj => ?_⟩
  · obtain ⟨a, b, c, d, e, f, g⟩ := h.forms i hi
    refine ⟨?_, ?_, ?_, ?_, ?_, ?_, ?_⟩
    all_goals (rw [hk _ (show 0 < w.heap.size by omega)]; assumption)
  · rw [hk _ (show 3 < w.heap.size by omega)]
    exact h.tz j hj

/-- All that was there is as it was; more may have been laid. -/
def Ext (w w' : World) : Prop := Below w.heap.size w w'
theorem Ext.refl (w : World) : Ext w w := Below.refl _ _
theorem Ext.size {w w' : World} (h : Ext w w') : w.heap.size ≤ w'.heap.size := Below.size h
theorem below_less {B C : Nat} {w w1 : World} (h : Below B w w1) (hc : C ≤ B) : Below C w w1 := ⟨h.os, h.tape, h.output, h.size, fun i hi => h.block i (by omega)⟩
theorem Ext.trans {a b c : World} (h : Ext a b) (k : Ext b c) : Ext a c := Below.trans h (below_less k (Ext.size h))
theorem Ext.alloc {a b : World} (h : Ext a b) (o : Obj) : Ext a (b.alloc o) := Below.alloc h (Ext.size h) o
theorem Ext.drew {a b : World} (h : Ext a b) : Ext a b.drew := by
  have h' : Below a.heap.size a b := h
  exact ⟨h'.os, h'.tape, h'.output, h'.size, h'.block⟩
theorem Ext.drewN {a b : World} (h : Ext a b) (n : Nat) : Ext a (b.drewN n) := by
  have h' : Below a.heap.size a b := h
  exact ⟨h'.os, h'.tape, h'.output, h'.size, h'.block⟩
theorem Ext.setCell {a b : World} (h : Ext a b) {p : Addr} (hp : a.heap.size ≤ p.block) (v : Value) : Ext a (b.setCell p v) := Below.setCell h hp v
theorem Ext.lt_alloc {w w1 : World} {o : Obj} (h : Ext (w.alloc o) w1) : w.heap.size < w1.heap.size := by
  have := h.size
  simp at this
  omega
theorem Ext.lt_of {w w1 : World} {n : Nat} (h : Ext w w1) (hn : n < w.heap.size) : n < w1.heap.size := Nat.lt_of_lt_of_le hn h.size
theorem Ext.lt_up {w w1 : World} {o : Obj} {n : Nat} (h : Ext (w.alloc o) w1) (hn : n < w.heap.size) : n < w1.heap.size := Nat.lt_trans hn h.lt_alloc
theorem Ext.cell {w w' : World} (h : Ext w w') {p : Addr} (hp : p.block < w.heap.size) : w'.cell? p = w.cell? p := Below.cell h hp
/-- What the walk needs behind a call: every old cell, every old mark. -/
theorem ecell {w w1 : World} (hb : Ext w w1) : (∀ b o, b < w.heap.size → w1.cell? ⟨b, o, none⟩ = w.cell? ⟨b, o, none⟩) ∧ (∀ b o, b < w.heap.size → w1.frozen? ⟨b, o, none⟩ = w.frozen? ⟨b, o, none⟩) :=
  ⟨fun b o h => Below.cell (p := ⟨b, o, none⟩) hb h, fun b o h => Below.frozen (p := ⟨b, o, none⟩) hb h⟩

/-- A block that is known whole. -/
def Blk (w : World) (g : Nat) (t : TypeId) (cs : Array Value) : Prop := w.heap[g]? = some (.cells cs t (0, 0))
theorem Blk.lt {w : World} {g : Nat} {t : TypeId} {cs : Array Value} (h : Blk w g t cs) : g < w.heap.size := by
  rcases Nat.lt_or_ge g w.heap.size with hlt | hge
  · exact hlt
  · unfold Blk at h
    rw [Array.getElem?_eq_none hge] at h
    cases h
theorem Blk.cell {w : World} {g : Nat} {t : TypeId} {cs : Array Value} (h : Blk w g t cs) (i : Nat) : w.cell? ⟨g, i, none⟩ = cs[i]? := cell_of_row w g i cs t (0, 0) h
theorem Blk.frozen {w : World} {g : Nat} {t : TypeId} {cs : Array Value} (h : Blk w g t cs) (i : Nat) : w.frozen? ⟨g, i, none⟩ = false := by
  unfold Blk at h
  simp [World.frozen?, h]
theorem Blk.new (w : World) (t : TypeId) (cs : Array Value) : Blk (w.alloc (.cells cs t)) w.heap.size t cs := heap_alloc_new w _
theorem Blk.ext {w w' : World} {g : Nat} {t : TypeId} {cs : Array Value} (h : Blk w g t cs) (hb : Ext w w') : Blk w' g t cs := (Below.block hb g h.lt).trans h
theorem Blk.alloc {w : World} {g : Nat} {t : TypeId} {cs : Array Value} (h : Blk w g t cs) (o : Obj) : Blk (w.alloc o) g t cs := h.ext ((Ext.refl w).alloc o)
theorem Blk.drew {w : World} {g : Nat} {t : TypeId} {cs : Array Value} (h : Blk w g t cs) : Blk w.drew g t cs := h
theorem Blk.drewN {w : World} {g : Nat} {t : TypeId} {cs : Array Value} (h : Blk w g t cs) (n : Nat) : Blk (w.drewN n) g t cs := h
theorem Blk.set_ {w : World} {g : Nat} {t : TypeId} {cs : Array Value} (h : Blk w g t cs) (i : Nat) (u : Value) : Blk (w.setCell ⟨g, i, none⟩ u) g t (cs.setIfInBounds i u) := by
  unfold Blk at h ⊢
  simp [World.setCell, Array.getElem?_modify, h]
theorem Blk.far {w : World} {g : Nat} {t : TypeId} {cs : Array Value} (h : Blk w g t cs) {p : Addr} (hp : g ≠ p.block) (u : Value) : Blk (w.setCell p u) g t cs := (Below.heap_setCell w p u g hp).trans h

theorem Env.ext {w w' : World} (h : Env w) (hb : Ext w w') : Env w' := h.keep hb.size fun _ hp => hb.cell hp
theorem Env.alloc {w : World} (h : Env w) (o : Obj) : Env (w.alloc o) := h.keep (by simp) fun p hp => World.cell?_alloc_lt w o p hp
theorem Env.set_ {w : World} (h : Env w) {p : Addr} (hp : 3 < p.block) (v : Value) : Env (w.setCell p v) := by
  refine ⟨by simpa [World.setCell] using h.size, fun i hi => ?_, fun j hj => ?_⟩
  · obtain ⟨a, b, c, d, e, f, g⟩ := h.forms i hi
    refine ⟨?_, ?_, ?_, ?_, ?_, ?_, ?_⟩
    all_goals (rw [World.cell?_setCell_other _ _ _ _ (by intro e; rw [e] at hp; simp at hp)]; assumption)
  · rw [World.cell?_setCell_other _ _ _ _ (by intro e; rw [e] at hp; simp at hp)]
    exact h.tz j hj
theorem Env.drew {w : World} (h : Env w) : Env w.drew := ⟨h.size, h.forms, h.tz⟩
theorem Env.drewN {w : World} (h : Env w) (n : Nat) : Env (w.drewN n) := ⟨h.size, h.forms, h.tz⟩
theorem ret2 {k1 k2 : IntKind} {a a' b b' : Int} (h1 : a = a') (h2 : b = b') : Ending.returned (.tuple #[.int k1 a, .int k2 b]) = .returned (.tuple #[.int k1 a', .int k2 b']) := by rw [h1, h2]
theorem ret3 {k1 k2 k3 : IntKind} {a a' b b' c c' : Int} (h1 : a = a') (h2 : b = b') (h3 : c = c') : Ending.returned (.tuple #[.int k1 a, .int k2 b, .int k3 c]) = .returned (.tuple #[.int k1 a', .int k2 b', .int k3 c']) := by rw [h1, h2, h3]
theorem ret1 {k : IntKind} {a b : Int} (h : a = b) : Ending.returned (.int k a) = .returned (.int k b) := by rw [h]
theorem ret_val {a b : Value} (h : a = b) : Ending.returned a = .returned b := by rw [h]
end Go.Proofs.YtogdiobbjlpmoaaDoor
