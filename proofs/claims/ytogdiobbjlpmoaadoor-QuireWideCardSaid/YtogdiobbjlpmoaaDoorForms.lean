/- What package forms' functions answer: Of, Mask. No condition but that the package variables hold what they are laid with. -/
import Derived.Test.YtogdiobbjlpmoaaDoorEnv
import Derived.Test.YtogdiobbjlpmoaaDoorBits
import Derived.Deep.RegionWith
import Derived.Deep.RegionHeld3
namespace Go.Proofs.YtogdiobbjlpmoaaDoor
open Go Go.RowKit Cal

theorem u64_mask (k : Nat) (hk : k ≤ 64) : IntKind.u64.wrap (IntKind.u64.wrap (1 * 2 ^ k) - 1) = ((2 ^ k - 1 : Nat) : Int) := by
  have h := Nat.pow_le_pow_right (n := 2) (by decide) hk
  have hp := two_pos k
  have hc : ((2 : Int) ^ k) = ((2 ^ k : Nat) : Int) := by simp
  rw [IntKind.wrap_u64, IntKind.wrap_u64, hc]
  omega

set_option maxHeartbeats 400000 in
/-- forms.Of of a form. -/
theorem formsOf_yes (i : Nat) (w : World) (hE : Env w) (h : 1 ≤ i) (h2 : i ≤ 14) :
    Calls Tryd.prog 39 #[.int .i64 i] w fun e w' => e = .returned (.tuple #[.agg #[.int .i64 (frm i).kind, .int .i64 (frm i).width, .int .i64 (frm i).man, .int .i64 (frm i).bias, .int .u64 (frm i).top, .int .u64 (frm i).inf, .int .u64 (frm i).nan], .int .i64 0]) ∧ Ext w w' := by
  have hz : 0 < w.heap.size := by have := hE.size; omega
  obtain ⟨g0, g1, g2, g3, g4, g5, g6⟩ := hE.forms i h2
  generalize frm i = f at *
  go_enter Tryd.func39, Tryd.ntmps39
  go_wp2
  exact bodyPost_ret (v := .tuple #[.agg #[.int .i64 f.kind, .int .i64 f.width, .int .i64 f.man, .int .i64 f.bias, .int .u64 f.top, .int .u64 f.inf, .int .u64 f.nan], .int .i64 0])
    (by simp [results, Tryd.results39, go_sem]) rfl ⟨rfl, (Ext.refl _).alloc _⟩

set_option maxHeartbeats 400000 in
/-- forms.Of of what is no form. -/
theorem formsOf_no (i : Int) (w : World) (h : ¬ isForm i) :
    Calls Tryd.prog 39 #[.int .i64 i] w fun e w' => e = .returned (.tuple #[.agg #[.int .i64 0, .int .i64 0, .int .i64 0, .int .i64 0, .int .u64 0, .int .u64 0, .int .u64 0], .int .i64 3]) ∧ Ext w w' := by
  unfold isForm at h
  by_cases h1 : i < 1
  · go_enter Tryd.func39, Tryd.ntmps39
    go_wp2
    exact bodyPost_ret (v := .tuple #[.agg #[.int .i64 0, .int .i64 0, .int .i64 0, .int .i64 0, .int .u64 0, .int .u64 0, .int .u64 0], .int .i64 3])
      (by simp [results, Tryd.results39, go_sem]) rfl ⟨rfl, (Ext.refl _).alloc _⟩
  · have h2 : 15 ≤ i := by omega
    clear h
    go_enter Tryd.func39, Tryd.ntmps39
    go_wp2
    exact bodyPost_ret (v := .tuple #[.agg #[.int .i64 0, .int .i64 0, .int .i64 0, .int .i64 0, .int .u64 0, .int .u64 0, .int .u64 0], .int .i64 3])
      (by simp [results, Tryd.results39, go_sem]) rfl ⟨rfl, (Ext.refl _).alloc _⟩

set_option maxHeartbeats 400000 in
/-- Form.Mask. -/
theorem mask_any (f : Frm) (w : World) (h : f.width ≤ 64) :
    Calls Tryd.prog 40 #[.agg #[.int .i64 f.kind, .int .i64 f.width, .int .i64 f.man, .int .i64 f.bias, .int .u64 f.top, .int .u64 f.inf, .int .u64 f.nan]] w fun e w' =>
      e = .returned (.int .u64 ((2 ^ f.width - 1 : Nat) : Int)) ∧ Ext w w' := by
  have hm := Lib.hid (u64_mask f.width h)
  go_enter Tryd.func40, Tryd.ntmps40
  go_wp2
  go_ret
  exact ⟨ret_val (by rw [← hm.out]; simp), (Ext.refl _).alloc _⟩

set_option maxHeartbeats 400000 in
/-- Form.Sign of a Scale. -/
theorem sign_scale (f : Frm) (w : World) (h : f.kind = 4) :
    Calls Tryd.prog 41 #[.agg #[.int .i64 f.kind, .int .i64 f.width, .int .i64 f.man, .int .i64 f.bias, .int .u64 f.top, .int .u64 f.inf, .int .u64 f.nan]] w fun e w' =>
      e = .returned (.int .u64 ((signB f : Nat) : Int)) ∧ Ext w w' := by
  have hs : signB f = 0 := by unfold signB; rw [if_pos h]
  have hk : ((f.kind : Int) == 4) = true := by rw [h]; rfl
  rw [hs]
  clear hs h
  go_enter Tryd.func41, Tryd.ntmps41
  go_wp2
  go_ret
  exact ⟨rfl, (Ext.refl _).alloc _⟩

/-- The seven cells of a form, in a block. -/
abbrev Has40 (w : World) (b : Nat) (f : Frm) : Prop :=
  w.cell? ⟨b, 0, none⟩ = some (.int .i64 f.kind) ∧ w.cell? ⟨b, 1, none⟩ = some (.int .i64 f.width) ∧ w.cell? ⟨b, 2, none⟩ = some (.int .i64 f.man) ∧
  w.cell? ⟨b, 3, none⟩ = some (.int .i64 f.bias) ∧ w.cell? ⟨b, 4, none⟩ = some (.int .u64 f.top) ∧ w.cell? ⟨b, 5, none⟩ = some (.int .u64 f.inf) ∧
  w.cell? ⟨b, 6, none⟩ = some (.int .u64 f.nan)
theorem Has40.keep {w w1 : World} {b : Nat} {f : Frm} (h : Has40 w b f) (hlt : b < w.heap.size) (hb : Ext w w1) : Has40 w1 b f := by
  obtain ⟨a0, a1, a2, a3, a4, a5, a6⟩ := h
  refine ⟨?_, ?_, ?_, ?_, ?_, ?_, ?_⟩ <;> (rw [hb.cell (show b < w.heap.size from hlt)]; assumption)
theorem box40 (w : World) (f : Frm) : ∃ W, W = w.alloc (.cells #[.int .i64 f.kind, .int .i64 f.width, .int .i64 f.man, .int .i64 f.bias, .int .u64 f.top, .int .u64 f.inf, .int .u64 f.nan] 40) ∧
    w.heap.size < W.heap.size ∧ Ext w W ∧ Has40 W w.heap.size f := by
  refine ⟨_, rfl, by simp, (Ext.refl _).alloc _, ?_, ?_, ?_, ?_, ?_, ?_, ?_⟩ <;> simp

set_option maxHeartbeats 400000 in
/-- Form.Sign of another form. -/
theorem sign_any (f : Frm) (w : World) (h : f.kind ≠ 4) (h1 : f.width ≤ 64) (h2 : 1 ≤ f.width) :
    Calls Tryd.prog 41 #[.agg #[.int .i64 f.kind, .int .i64 f.width, .int .i64 f.man, .int .i64 f.bias, .int .u64 f.top, .int .u64 f.inf, .int .u64 f.nan]] w fun e w' =>
      e = .returned (.int .u64 ((signB f : Nat) : Int)) ∧ Ext w w' := by
  have hs : signB f = 2 ^ (f.width - 1) := by unfold signB; rw [if_neg h]
  have hk : ((f.kind : Int) == 4) = false := by rw [beq_eq_false_iff_ne]; omega
  rw [hs]
  clear hs h
  go_enter Tryd.func41, Tryd.ntmps41
  go_wp2_with fail
  obtain ⟨W, hW, hlt, hbW, h40⟩ := box40 w f
  rw [← hW]
  clear hW
  go_region_held3 (fun w' => Ext w w' ∧ w.heap.size < w'.heap.size ∧ Has40 w' w.heap.size f)
    (first | exact ⟨hbW.drew, hlt, h40⟩ | (have hH : Ext w _ ∧ _ ∧ _ := (by assumption); exact ⟨hH.1.trans hb, Nat.lt_of_lt_of_le hH.2.1 hb.size, Has40.keep hH.2.2 hH.2.1 hb⟩))
    (first | (go_at_call 40; refine (mask_any f _ h1).mono ?_; rintro e w1 ⟨rfl, hb⟩))
  go_wp2_with fail
  go_ret
  exact ⟨ret_val (congrArg (Value.int .u64) (u_sign f.width h2 h1)), (by assumption : Ext w _ ∧ _ ∧ _).1⟩
end Go.Proofs.YtogdiobbjlpmoaaDoor
