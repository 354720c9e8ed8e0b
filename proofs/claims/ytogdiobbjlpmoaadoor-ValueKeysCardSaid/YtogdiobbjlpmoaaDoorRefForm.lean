/- The document's table of forms. No condition. -/
import Derived.Test.YtogdiobbjlpmoaaDoorRefLoops
import Derived.Deep.LoopGhost
import Derived.Deep.QuietTactic
import Derived.BigQuiet
import Derived.Deep.Cut
namespace Go.Proofs.YtogdiobbjlpmoaaDoor
open Go Go.RowKit Cal

theorem ones_lit (n : Nat) (k r : Int) (h : n ≤ 64) (hk : k = n) (hr : r = ((2 ^ n - 1 : Nat) : Int)) (w : World) :
    Calls Tryd.prog 124 #[.int .i64 k] w fun e w' => e = .returned (.int .u64 r) ∧ w = w' := by
  subst hk hr
  exact ones_any n h w

set_option maxRecDepth 100000 in
set_option maxHeartbeats 1600000 in
theorem signed_5 (w : World) :
    Calls Tryd.prog 125 #[.int .i64 8, .int .i64 3, .int .i64 7, .int .i64 1] w fun e w' => e = .returned (.agg #[.int .i64 2, .int .i64 8, .int .i64 3, .int .i64 7, .int .u64 126, .int .u64 0, .int .u64 127]) ∧ Ext w w' := by
  have cW := Lib.hid (fun w => ones_lit 7 7 127 (by decide) rfl (by decide) w)
  have cM := Lib.hid (fun w => ones_lit 3 3 7 (by decide) rfl (by decide) w)
  go_enter Tryd.func125, Tryd.ntmps125
  go_wp2_with (first | (go_at_call 124; (with_reducible refine (cW.out _).mono ?_); rintro e w1 ⟨rfl, rfl⟩) | (go_at_call 124; (with_reducible refine (cM.out _).mono ?_); rintro e w2 ⟨rfl, rfl⟩))
  exact bodyPost_ret (v := .agg #[.int .i64 2, .int .i64 8, .int .i64 3, .int .i64 7, .int .u64 126, .int .u64 0, .int .u64 127]) (by simp [results, Tryd.results125, go_sem]) rfl ⟨rfl, by (repeat (first | (with_reducible exact Ext.refl _) | (with_reducible assumption) | (with_reducible refine Ext.drew ?_) | (with_reducible refine Ext.drewN ?_ _) | (with_reducible refine Ext.alloc ?_ _) | (with_reducible refine Ext.setCell ?_ (Nat.le_refl _) _) | (with_reducible refine Ext.setCell ?_ (by simp; try omega) _) | (with_reducible refine Ext.trans ?_ (by with_reducible assumption))))⟩

set_option maxRecDepth 100000 in
set_option maxHeartbeats 1600000 in
theorem signed_6 (w : World) :
    Calls Tryd.prog 125 #[.int .i64 8, .int .i64 2, .int .i64 15, .int .i64 2] w fun e w' => e = .returned (.agg #[.int .i64 2, .int .i64 8, .int .i64 2, .int .i64 15, .int .u64 123, .int .u64 124, .int .u64 126]) ∧ Ext w w' := by
  have cW := Lib.hid (fun w => ones_lit 7 7 127 (by decide) rfl (by decide) w)
  have cM := Lib.hid (fun w => ones_lit 2 2 3 (by decide) rfl (by decide) w)
  go_enter Tryd.func125, Tryd.ntmps125
  go_upto_region 7 with (first | (go_at_call 124; (with_reducible refine (cW.out _).mono ?_); rintro e w1 ⟨rfl, rfl⟩) | (go_at_call 124; (with_reducible refine (cM.out _).mono ?_); rintro e w2 ⟨rfl, rfl⟩))
  go_region_with (first | (go_at_call 124; (with_reducible refine (cW.out _).mono ?_); rintro e w1 ⟨rfl, rfl⟩) | (go_at_call 124; (with_reducible refine (cM.out _).mono ?_); rintro e w2 ⟨rfl, rfl⟩))
  all_goals go_wp2_with fail
  all_goals exact bodyPost_ret (v := .agg #[.int .i64 2, .int .i64 8, .int .i64 2, .int .i64 15, .int .u64 123, .int .u64 124, .int .u64 126]) (by simp [results, Tryd.results125, go_sem]) rfl ⟨rfl, by (repeat (first | (with_reducible exact Ext.refl _) | (with_reducible assumption) | (with_reducible refine Ext.drew ?_) | (with_reducible refine Ext.drewN ?_ _) | (with_reducible refine Ext.alloc ?_ _) | (with_reducible refine Ext.setCell ?_ (Nat.le_refl _) _) | (with_reducible refine Ext.setCell ?_ (by simp; try omega) _) | (with_reducible refine Ext.trans ?_ (by with_reducible assumption))))⟩

set_option maxRecDepth 100000 in
set_option maxHeartbeats 1600000 in
theorem signed_7 (w : World) :
    Calls Tryd.prog 125 #[.int .i64 6, .int .i64 2, .int .i64 3, .int .i64 0] w fun e w' => e = .returned (.agg #[.int .i64 2, .int .i64 6, .int .i64 2, .int .i64 3, .int .u64 31, .int .u64 0, .int .u64 0]) ∧ Ext w w' := by
  have cW := Lib.hid (fun w => ones_lit 5 5 31 (by decide) rfl (by decide) w)
  have cM := Lib.hid (fun w => ones_lit 2 2 3 (by decide) rfl (by decide) w)
  go_enter Tryd.func125, Tryd.ntmps125
  go_wp2_with (first | (go_at_call 124; (with_reducible refine (cW.out _).mono ?_); rintro e w1 ⟨rfl, rfl⟩) | (go_at_call 124; (with_reducible refine (cM.out _).mono ?_); rintro e w2 ⟨rfl, rfl⟩))
  exact bodyPost_ret (v := .agg #[.int .i64 2, .int .i64 6, .int .i64 2, .int .i64 3, .int .u64 31, .int .u64 0, .int .u64 0]) (by simp [results, Tryd.results125, go_sem]) rfl ⟨rfl, by (repeat (first | (with_reducible exact Ext.refl _) | (with_reducible assumption) | (with_reducible refine Ext.drew ?_) | (with_reducible refine Ext.drewN ?_ _) | (with_reducible refine Ext.alloc ?_ _) | (with_reducible refine Ext.setCell ?_ (Nat.le_refl _) _) | (with_reducible refine Ext.setCell ?_ (by simp; try omega) _) | (with_reducible refine Ext.trans ?_ (by with_reducible assumption))))⟩

set_option maxRecDepth 100000 in
set_option maxHeartbeats 1600000 in
theorem signed_8 (w : World) :
    Calls Tryd.prog 125 #[.int .i64 6, .int .i64 3, .int .i64 1, .int .i64 0] w fun e w' => e = .returned (.agg #[.int .i64 2, .int .i64 6, .int .i64 3, .int .i64 1, .int .u64 31, .int .u64 0, .int .u64 0]) ∧ Ext w w' := by
  have cW := Lib.hid (fun w => ones_lit 5 5 31 (by decide) rfl (by decide) w)
  have cM := Lib.hid (fun w => ones_lit 3 3 7 (by decide) rfl (by decide) w)
  go_enter Tryd.func125, Tryd.ntmps125
  go_wp2_with (first | (go_at_call 124; (with_reducible refine (cW.out _).mono ?_); rintro e w1 ⟨rfl, rfl⟩) | (go_at_call 124; (with_reducible refine (cM.out _).mono ?_); rintro e w2 ⟨rfl, rfl⟩))
  exact bodyPost_ret (v := .agg #[.int .i64 2, .int .i64 6, .int .i64 3, .int .i64 1, .int .u64 31, .int .u64 0, .int .u64 0]) (by simp [results, Tryd.results125, go_sem]) rfl ⟨rfl, by (repeat (first | (with_reducible exact Ext.refl _) | (with_reducible assumption) | (with_reducible refine Ext.drew ?_) | (with_reducible refine Ext.drewN ?_ _) | (with_reducible refine Ext.alloc ?_ _) | (with_reducible refine Ext.setCell ?_ (Nat.le_refl _) _) | (with_reducible refine Ext.setCell ?_ (by simp; try omega) _) | (with_reducible refine Ext.trans ?_ (by with_reducible assumption))))⟩

set_option maxRecDepth 100000 in
set_option maxHeartbeats 1600000 in
theorem signed_9 (w : World) :
    Calls Tryd.prog 125 #[.int .i64 4, .int .i64 1, .int .i64 1, .int .i64 0] w fun e w' => e = .returned (.agg #[.int .i64 2, .int .i64 4, .int .i64 1, .int .i64 1, .int .u64 7, .int .u64 0, .int .u64 0]) ∧ Ext w w' := by
  have cW := Lib.hid (fun w => ones_lit 3 3 7 (by decide) rfl (by decide) w)
  have cM := Lib.hid (fun w => ones_lit 1 1 1 (by decide) rfl (by decide) w)
  go_enter Tryd.func125, Tryd.ntmps125
  go_wp2_with (first | (go_at_call 124; (with_reducible refine (cW.out _).mono ?_); rintro e w1 ⟨rfl, rfl⟩) | (go_at_call 124; (with_reducible refine (cM.out _).mono ?_); rintro e w2 ⟨rfl, rfl⟩))
  exact bodyPost_ret (v := .agg #[.int .i64 2, .int .i64 4, .int .i64 1, .int .i64 1, .int .u64 7, .int .u64 0, .int .u64 0]) (by simp [results, Tryd.results125, go_sem]) rfl ⟨rfl, by (repeat (first | (with_reducible exact Ext.refl _) | (with_reducible assumption) | (with_reducible refine Ext.drew ?_) | (with_reducible refine Ext.drewN ?_ _) | (with_reducible refine Ext.alloc ?_ _) | (with_reducible refine Ext.setCell ?_ (Nat.le_refl _) _) | (with_reducible refine Ext.setCell ?_ (by simp; try omega) _) | (with_reducible refine Ext.trans ?_ (by with_reducible assumption))))⟩

set_option maxRecDepth 100000 in
set_option maxHeartbeats 1600000 in
theorem signed_12 (w : World) :
    Calls Tryd.prog 125 #[.int .i64 16, .int .i64 10, .int .i64 15, .int .i64 2] w fun e w' => e = .returned (.agg #[.int .i64 2, .int .i64 16, .int .i64 10, .int .i64 15, .int .u64 31743, .int .u64 31744, .int .u64 32256]) ∧ Ext w w' := by
  have cW := Lib.hid (fun w => ones_lit 15 15 32767 (by decide) rfl (by decide) w)
  have cM := Lib.hid (fun w => ones_lit 10 10 1023 (by decide) rfl (by decide) w)
  go_enter Tryd.func125, Tryd.ntmps125
  go_upto_region 7 with (first | (go_at_call 124; (with_reducible refine (cW.out _).mono ?_); rintro e w1 ⟨rfl, rfl⟩) | (go_at_call 124; (with_reducible refine (cM.out _).mono ?_); rintro e w2 ⟨rfl, rfl⟩))
  go_region_with (first | (go_at_call 124; (with_reducible refine (cW.out _).mono ?_); rintro e w1 ⟨rfl, rfl⟩) | (go_at_call 124; (with_reducible refine (cM.out _).mono ?_); rintro e w2 ⟨rfl, rfl⟩))
  all_goals go_wp2_with fail
  all_goals exact bodyPost_ret (v := .agg #[.int .i64 2, .int .i64 16, .int .i64 10, .int .i64 15, .int .u64 31743, .int .u64 31744, .int .u64 32256]) (by simp [results, Tryd.results125, go_sem]) rfl ⟨rfl, by (repeat (first | (with_reducible exact Ext.refl _) | (with_reducible assumption) | (with_reducible refine Ext.drew ?_) | (with_reducible refine Ext.drewN ?_ _) | (with_reducible refine Ext.alloc ?_ _) | (with_reducible refine Ext.setCell ?_ (Nat.le_refl _) _) | (with_reducible refine Ext.setCell ?_ (by simp; try omega) _) | (with_reducible refine Ext.trans ?_ (by with_reducible assumption))))⟩

set_option maxRecDepth 100000 in
set_option maxHeartbeats 1600000 in
theorem signed_13 (w : World) :
    Calls Tryd.prog 125 #[.int .i64 32, .int .i64 23, .int .i64 127, .int .i64 2] w fun e w' => e = .returned (.agg #[.int .i64 2, .int .i64 32, .int .i64 23, .int .i64 127, .int .u64 2139095039, .int .u64 2139095040, .int .u64 2143289344]) ∧ Ext w w' := by
  have cW := Lib.hid (fun w => ones_lit 31 31 2147483647 (by decide) rfl (by decide) w)
  have cM := Lib.hid (fun w => ones_lit 23 23 8388607 (by decide) rfl (by decide) w)
  go_enter Tryd.func125, Tryd.ntmps125
  go_upto_region 7 with (first | (go_at_call 124; (with_reducible refine (cW.out _).mono ?_); rintro e w1 ⟨rfl, rfl⟩) | (go_at_call 124; (with_reducible refine (cM.out _).mono ?_); rintro e w2 ⟨rfl, rfl⟩))
  go_region_with (first | (go_at_call 124; (with_reducible refine (cW.out _).mono ?_); rintro e w1 ⟨rfl, rfl⟩) | (go_at_call 124; (with_reducible refine (cM.out _).mono ?_); rintro e w2 ⟨rfl, rfl⟩))
  all_goals go_wp2_with fail
  all_goals exact bodyPost_ret (v := .agg #[.int .i64 2, .int .i64 32, .int .i64 23, .int .i64 127, .int .u64 2139095039, .int .u64 2139095040, .int .u64 2143289344]) (by simp [results, Tryd.results125, go_sem]) rfl ⟨rfl, by (repeat (first | (with_reducible exact Ext.refl _) | (with_reducible assumption) | (with_reducible refine Ext.drew ?_) | (with_reducible refine Ext.drewN ?_ _) | (with_reducible refine Ext.alloc ?_ _) | (with_reducible refine Ext.setCell ?_ (Nat.le_refl _) _) | (with_reducible refine Ext.setCell ?_ (by simp; try omega) _) | (with_reducible refine Ext.trans ?_ (by with_reducible assumption))))⟩

set_option maxRecDepth 100000 in
set_option maxHeartbeats 1600000 in
theorem signed_14 (w : World) :
    Calls Tryd.prog 125 #[.int .i64 64, .int .i64 52, .int .i64 1023, .int .i64 2] w fun e w' => e = .returned (.agg #[.int .i64 2, .int .i64 64, .int .i64 52, .int .i64 1023, .int .u64 9218868437227405311, .int .u64 9218868437227405312, .int .u64 9221120237041090560]) ∧ Ext w w' := by
  have cW := Lib.hid (fun w => ones_lit 63 63 9223372036854775807 (by decide) rfl (by decide) w)
  have cM := Lib.hid (fun w => ones_lit 52 52 4503599627370495 (by decide) rfl (by decide) w)
  go_enter Tryd.func125, Tryd.ntmps125
  go_upto_region 7 with (first | (go_at_call 124; (with_reducible refine (cW.out _).mono ?_); rintro e w1 ⟨rfl, rfl⟩) | (go_at_call 124; (with_reducible refine (cM.out _).mono ?_); rintro e w2 ⟨rfl, rfl⟩))
  go_region_with (first | (go_at_call 124; (with_reducible refine (cW.out _).mono ?_); rintro e w1 ⟨rfl, rfl⟩) | (go_at_call 124; (with_reducible refine (cM.out _).mono ?_); rintro e w2 ⟨rfl, rfl⟩))
  all_goals go_wp2_with fail
  all_goals exact bodyPost_ret (v := .agg #[.int .i64 2, .int .i64 64, .int .i64 52, .int .i64 1023, .int .u64 9218868437227405311, .int .u64 9218868437227405312, .int .u64 9221120237041090560]) (by simp [results, Tryd.results125, go_sem]) rfl ⟨rfl, by (repeat (first | (with_reducible exact Ext.refl _) | (with_reducible assumption) | (with_reducible refine Ext.drew ?_) | (with_reducible refine Ext.drewN ?_ _) | (with_reducible refine Ext.alloc ?_ _) | (with_reducible refine Ext.setCell ?_ (Nat.le_refl _) _) | (with_reducible refine Ext.setCell ?_ (by simp; try omega) _) | (with_reducible refine Ext.trans ?_ (by with_reducible assumption))))⟩

end Go.Proofs.YtogdiobbjlpmoaaDoor

