/- The document's table of forms is the program's. No condition. -/
import Derived.Test.YtogdiobbjlpmoaaDoorRefForm
namespace Go.Proofs.YtogdiobbjlpmoaaDoor
open Go Go.RowKit Cal

theorem Blk.set7 {w : World} {b : Nat} {t : TypeId} {o0 o1 o2 o3 o4 o5 o6 a0 a1 a2 a3 a4 a5 a6 : Value} (h : Blk w b t #[o0, o1, o2, o3, o4, o5, o6]) :
    Blk (((((((w.setCell ⟨b, 0, none⟩ a0).setCell ⟨b, 1, none⟩ a1).setCell ⟨b, 2, none⟩ a2).setCell ⟨b, 3, none⟩ a3).setCell ⟨b, 4, none⟩ a4).setCell ⟨b, 5, none⟩ a5).setCell ⟨b, 6, none⟩ a6) b t #[a0, a1, a2, a3, a4, a5, a6] := by
  have h8 := ((((((h.set_ 0 a0).set_ 1 a1).set_ 2 a2).set_ 3 a3).set_ 4 a4).set_ 5 a5).set_ 6 a6
  simpa using h8

theorem load99 {w : World} {b : Nat} {a0 a1 a2 a3 a4 a5 a6 : Value} (h : Blk w b 99 #[a0, a1, a2, a3, a4, a5, a6]) : (loadVar 99 ⟨b, 0, none⟩).run Tryd.prog w = .ok (.agg #[a0, a1, a2, a3, a4, a5, a6]) w := by
  have hc := h.cell
  simp [go_sem, hc]

set_option maxRecDepth 100000 in
set_option maxHeartbeats 1600000 in
theorem rof_1 (w : World) :
    Calls Tryd.prog 77 #[.int .i64 1] w fun e w' => e = .returned (.tuple #[.agg #[.int .i64 1, .int .i64 8, .int .i64 0, .int .i64 0, .int .u64 127, .int .u64 0, .int .u64 128], .bool true]) ∧ Ext w w' := by
  have cW := Lib.hid (fun w => ones_lit 7 7 127 (by decide) rfl (by decide) w)
  go_enter Tryd.func77, Tryd.ntmps77
  go_wp2
  go_loopg [4, 5] 0 (fun g s4 s5 wr => ((g = 0 ∧ s4 = .int .i64 8 ∧ s5 = .int .i64 1)) ∧ w.alloc (.cells #[.int .i64 0, .int .i64 0, .int .i64 0, .int .i64 0, .int .u64 0, .int .u64 0, .int .u64 0] 99) = wr)
  case atStart => exact ⟨⟨rfl, rfl, rfl⟩, rfl⟩
  case round =>
    obtain ⟨⟨rfl, rfl, rfl⟩, rfl⟩ := hrel
    · go_wp2_with (go_at_call 124; (with_reducible refine (cW.out _).mono ?_); rintro e w1 ⟨rfl, rfl⟩)
      exact bodyPost_ret (v := .tuple #[.agg #[.int .i64 1, .int .i64 8, .int .i64 0, .int .i64 0, .int .u64 127, .int .u64 0, .int .u64 128], .bool true]) (by simp [results, Tryd.results77, go_sem]) rfl ⟨rfl, by (repeat (first | (with_reducible exact Ext.refl _) | (with_reducible assumption) | (with_reducible refine Ext.drew ?_) | (with_reducible refine Ext.drewN ?_ _) | (with_reducible refine Ext.alloc ?_ _) | (with_reducible refine Ext.setCell ?_ (Nat.le_refl _) _) | (with_reducible refine Ext.setCell ?_ (by simp; try omega) _) | (with_reducible refine Ext.trans ?_ (by with_reducible assumption))))⟩

set_option maxRecDepth 100000 in
set_option maxHeartbeats 1600000 in
theorem rof_2 (w : World) :
    Calls Tryd.prog 77 #[.int .i64 2] w fun e w' => e = .returned (.tuple #[.agg #[.int .i64 1, .int .i64 16, .int .i64 0, .int .i64 0, .int .u64 32767, .int .u64 0, .int .u64 32768], .bool true]) ∧ Ext w w' := by
  have cW := Lib.hid (fun w => ones_lit 15 15 32767 (by decide) rfl (by decide) w)
  go_enter Tryd.func77, Tryd.ntmps77
  go_wp2
  go_loopg [4, 5] 1 (fun g s4 s5 wr => ((g = 1 ∧ s4 = .int .i64 8 ∧ s5 = .int .i64 1) ∨ (g = 0 ∧ s4 = .int .i64 16 ∧ s5 = .int .i64 2)) ∧ w.alloc (.cells #[.int .i64 0, .int .i64 0, .int .i64 0, .int .i64 0, .int .u64 0, .int .u64 0, .int .u64 0] 99) = wr)
  case atStart => exact ⟨.inl ⟨rfl, rfl, rfl⟩, rfl⟩
  case round =>
    obtain ⟨⟨rfl, rfl, rfl⟩ | ⟨rfl, rfl, rfl⟩, rfl⟩ := hrel
    · go_wp2
      go_roundg 0
      case measure => omega
      case rel => exact ⟨.inr (⟨rfl, rfl, rfl⟩), rfl⟩
    · go_wp2_with (go_at_call 124; (with_reducible refine (cW.out _).mono ?_); rintro e w1 ⟨rfl, rfl⟩)
      exact bodyPost_ret (v := .tuple #[.agg #[.int .i64 1, .int .i64 16, .int .i64 0, .int .i64 0, .int .u64 32767, .int .u64 0, .int .u64 32768], .bool true]) (by simp [results, Tryd.results77, go_sem]) rfl ⟨rfl, by (repeat (first | (with_reducible exact Ext.refl _) | (with_reducible assumption) | (with_reducible refine Ext.drew ?_) | (with_reducible refine Ext.drewN ?_ _) | (with_reducible refine Ext.alloc ?_ _) | (with_reducible refine Ext.setCell ?_ (Nat.le_refl _) _) | (with_reducible refine Ext.setCell ?_ (by simp; try omega) _) | (with_reducible refine Ext.trans ?_ (by with_reducible assumption))))⟩

set_option maxRecDepth 100000 in
set_option maxHeartbeats 1600000 in
theorem rof_3 (w : World) :
    Calls Tryd.prog 77 #[.int .i64 3] w fun e w' => e = .returned (.tuple #[.agg #[.int .i64 1, .int .i64 32, .int .i64 0, .int .i64 0, .int .u64 2147483647, .int .u64 0, .int .u64 2147483648], .bool true]) ∧ Ext w w' := by
  have cW := Lib.hid (fun w => ones_lit 31 31 2147483647 (by decide) rfl (by decide) w)
  go_enter Tryd.func77, Tryd.ntmps77
  go_wp2
  go_loopg [4, 5] 2 (fun g s4 s5 wr => ((g = 2 ∧ s4 = .int .i64 8 ∧ s5 = .int .i64 1) ∨ (g = 1 ∧ s4 = .int .i64 16 ∧ s5 = .int .i64 2) ∨ (g = 0 ∧ s4 = .int .i64 32 ∧ s5 = .int .i64 3)) ∧ w.alloc (.cells #[.int .i64 0, .int .i64 0, .int .i64 0, .int .i64 0, .int .u64 0, .int .u64 0, .int .u64 0] 99) = wr)
  case atStart => exact ⟨.inl ⟨rfl, rfl, rfl⟩, rfl⟩
  case round =>
    obtain ⟨⟨rfl, rfl, rfl⟩ | ⟨rfl, rfl, rfl⟩ | ⟨rfl, rfl, rfl⟩, rfl⟩ := hrel
    · go_wp2
      go_roundg 1
      case measure => omega
      case rel => exact ⟨.inr (.inl ⟨rfl, rfl, rfl⟩), rfl⟩
    · go_wp2
      go_roundg 0
      case measure => omega
      case rel => exact ⟨.inr (.inr (⟨rfl, rfl, rfl⟩)), rfl⟩
    · go_wp2_with (go_at_call 124; (with_reducible refine (cW.out _).mono ?_); rintro e w1 ⟨rfl, rfl⟩)
      exact bodyPost_ret (v := .tuple #[.agg #[.int .i64 1, .int .i64 32, .int .i64 0, .int .i64 0, .int .u64 2147483647, .int .u64 0, .int .u64 2147483648], .bool true]) (by simp [results, Tryd.results77, go_sem]) rfl ⟨rfl, by (repeat (first | (with_reducible exact Ext.refl _) | (with_reducible assumption) | (with_reducible refine Ext.drew ?_) | (with_reducible refine Ext.drewN ?_ _) | (with_reducible refine Ext.alloc ?_ _) | (with_reducible refine Ext.setCell ?_ (Nat.le_refl _) _) | (with_reducible refine Ext.setCell ?_ (by simp; try omega) _) | (with_reducible refine Ext.trans ?_ (by with_reducible assumption))))⟩

set_option maxRecDepth 100000 in
set_option maxHeartbeats 1600000 in
theorem rof_4 (w : World) :
    Calls Tryd.prog 77 #[.int .i64 4] w fun e w' => e = .returned (.tuple #[.agg #[.int .i64 1, .int .i64 64, .int .i64 0, .int .i64 0, .int .u64 9223372036854775807, .int .u64 0, .int .u64 9223372036854775808], .bool true]) ∧ Ext w w' := by
  have cW := Lib.hid (fun w => ones_lit 63 63 9223372036854775807 (by decide) rfl (by decide) w)
  go_enter Tryd.func77, Tryd.ntmps77
  go_wp2
  go_loopg [4, 5] 3 (fun g s4 s5 wr => ((g = 3 ∧ s4 = .int .i64 8 ∧ s5 = .int .i64 1) ∨ (g = 2 ∧ s4 = .int .i64 16 ∧ s5 = .int .i64 2) ∨ (g = 1 ∧ s4 = .int .i64 32 ∧ s5 = .int .i64 3) ∨ (g = 0 ∧ s4 = .int .i64 64 ∧ s5 = .int .i64 4)) ∧ w.alloc (.cells #[.int .i64 0, .int .i64 0, .int .i64 0, .int .i64 0, .int .u64 0, .int .u64 0, .int .u64 0] 99) = wr)
  case atStart => exact ⟨.inl ⟨rfl, rfl, rfl⟩, rfl⟩
  case round =>
    obtain ⟨⟨rfl, rfl, rfl⟩ | ⟨rfl, rfl, rfl⟩ | ⟨rfl, rfl, rfl⟩ | ⟨rfl, rfl, rfl⟩, rfl⟩ := hrel
    · go_wp2
      go_roundg 2
      case measure => omega
      case rel => exact ⟨.inr (.inl ⟨rfl, rfl, rfl⟩), rfl⟩
    · go_wp2
      go_roundg 1
      case measure => omega
      case rel => exact ⟨.inr (.inr (.inl ⟨rfl, rfl, rfl⟩)), rfl⟩
    · go_wp2
      go_roundg 0
      case measure => omega
      case rel => exact ⟨.inr (.inr (.inr (⟨rfl, rfl, rfl⟩))), rfl⟩
    · go_wp2_with (go_at_call 124; (with_reducible refine (cW.out _).mono ?_); rintro e w1 ⟨rfl, rfl⟩)
      exact bodyPost_ret (v := .tuple #[.agg #[.int .i64 1, .int .i64 64, .int .i64 0, .int .i64 0, .int .u64 9223372036854775807, .int .u64 0, .int .u64 9223372036854775808], .bool true]) (by simp [results, Tryd.results77, go_sem]) rfl ⟨rfl, by (repeat (first | (with_reducible exact Ext.refl _) | (with_reducible assumption) | (with_reducible refine Ext.drew ?_) | (with_reducible refine Ext.drewN ?_ _) | (with_reducible refine Ext.alloc ?_ _) | (with_reducible refine Ext.setCell ?_ (Nat.le_refl _) _) | (with_reducible refine Ext.setCell ?_ (by simp; try omega) _) | (with_reducible refine Ext.trans ?_ (by with_reducible assumption))))⟩

set_option maxRecDepth 100000 in
set_option maxHeartbeats 1600000 in
theorem rof_5 (w : World) :
    Calls Tryd.prog 77 #[.int .i64 5] w fun e w' => e = .returned (.tuple #[.agg #[.int .i64 2, .int .i64 8, .int .i64 3, .int .i64 7, .int .u64 126, .int .u64 0, .int .u64 127], .bool true]) ∧ Ext w w' := by
  go_enter Tryd.func77, Tryd.ntmps77
  go_wp2_with (go_at_call 125; (with_reducible refine (signed_5 _).mono ?_); rintro e w1 ⟨rfl, hb1⟩; have F1 := (Blk.new w 99 #[.int .i64 0, .int .i64 0, .int .i64 0, .int .i64 0, .int .u64 0, .int .u64 0, .int .u64 0]).ext hb1; have cF := F1.cell; have fF := F1.frozen; have lF := F1.lt)
  have hx1 : Ext w w1 := ((Ext.refl w).alloc _).trans hb1
  clear cF fF
  have B8 := Blk.set7 F1 (a0 := .int .i64 2) (a1 := .int .i64 8) (a2 := .int .i64 3) (a3 := .int .i64 7) (a4 := .int .u64 126) (a5 := .int .u64 0) (a6 := .int .u64 127)
  exact bodyPost_ret (v := .tuple #[.agg #[.int .i64 2, .int .i64 8, .int .i64 3, .int .i64 7, .int .u64 126, .int .u64 0, .int .u64 127], .bool true]) (ret_blk Tryd.results77 rfl (load99 B8) rfl) rfl ⟨rfl, by (repeat (first | (with_reducible exact Ext.refl _) | (with_reducible assumption) | (with_reducible refine Ext.drew ?_) | (with_reducible refine Ext.drewN ?_ _) | (with_reducible refine Ext.alloc ?_ _) | (with_reducible refine Ext.setCell ?_ (Nat.le_refl _) _) | (with_reducible refine Ext.setCell ?_ (by simp; try omega) _) | (with_reducible refine Ext.trans ?_ (by with_reducible assumption))))⟩

set_option maxRecDepth 100000 in
set_option maxHeartbeats 1600000 in
theorem rof_6 (w : World) :
    Calls Tryd.prog 77 #[.int .i64 6] w fun e w' => e = .returned (.tuple #[.agg #[.int .i64 2, .int .i64 8, .int .i64 2, .int .i64 15, .int .u64 123, .int .u64 124, .int .u64 126], .bool true]) ∧ Ext w w' := by
  go_enter Tryd.func77, Tryd.ntmps77
  go_wp2_with (go_at_call 125; (with_reducible refine (signed_6 _).mono ?_); rintro e w1 ⟨rfl, hb1⟩; have F1 := (Blk.new w 99 #[.int .i64 0, .int .i64 0, .int .i64 0, .int .i64 0, .int .u64 0, .int .u64 0, .int .u64 0]).ext hb1; have cF := F1.cell; have fF := F1.frozen; have lF := F1.lt)
  have hx1 : Ext w w1 := ((Ext.refl w).alloc _).trans hb1
  clear cF fF
  have B8 := Blk.set7 F1 (a0 := .int .i64 2) (a1 := .int .i64 8) (a2 := .int .i64 2) (a3 := .int .i64 15) (a4 := .int .u64 123) (a5 := .int .u64 124) (a6 := .int .u64 126)
  exact bodyPost_ret (v := .tuple #[.agg #[.int .i64 2, .int .i64 8, .int .i64 2, .int .i64 15, .int .u64 123, .int .u64 124, .int .u64 126], .bool true]) (ret_blk Tryd.results77 rfl (load99 B8) rfl) rfl ⟨rfl, by (repeat (first | (with_reducible exact Ext.refl _) | (with_reducible assumption) | (with_reducible refine Ext.drew ?_) | (with_reducible refine Ext.drewN ?_ _) | (with_reducible refine Ext.alloc ?_ _) | (with_reducible refine Ext.setCell ?_ (Nat.le_refl _) _) | (with_reducible refine Ext.setCell ?_ (by simp; try omega) _) | (with_reducible refine Ext.trans ?_ (by with_reducible assumption))))⟩

set_option maxRecDepth 100000 in
set_option maxHeartbeats 1600000 in
theorem rof_7 (w : World) :
    Calls Tryd.prog 77 #[.int .i64 7] w fun e w' => e = .returned (.tuple #[.agg #[.int .i64 2, .int .i64 6, .int .i64 2, .int .i64 3, .int .u64 31, .int .u64 0, .int .u64 0], .bool true]) ∧ Ext w w' := by
  go_enter Tryd.func77, Tryd.ntmps77
  go_wp2_with (go_at_call 125; (with_reducible refine (signed_7 _).mono ?_); rintro e w1 ⟨rfl, hb1⟩; have F1 := (Blk.new w 99 #[.int .i64 0, .int .i64 0, .int .i64 0, .int .i64 0, .int .u64 0, .int .u64 0, .int .u64 0]).ext hb1; have cF := F1.cell; have fF := F1.frozen; have lF := F1.lt)
  have hx1 : Ext w w1 := ((Ext.refl w).alloc _).trans hb1
  clear cF fF
  have B8 := Blk.set7 F1 (a0 := .int .i64 2) (a1 := .int .i64 6) (a2 := .int .i64 2) (a3 := .int .i64 3) (a4 := .int .u64 31) (a5 := .int .u64 0) (a6 := .int .u64 0)
  exact bodyPost_ret (v := .tuple #[.agg #[.int .i64 2, .int .i64 6, .int .i64 2, .int .i64 3, .int .u64 31, .int .u64 0, .int .u64 0], .bool true]) (ret_blk Tryd.results77 rfl (load99 B8) rfl) rfl ⟨rfl, by (repeat (first | (with_reducible exact Ext.refl _) | (with_reducible assumption) | (with_reducible refine Ext.drew ?_) | (with_reducible refine Ext.drewN ?_ _) | (with_reducible refine Ext.alloc ?_ _) | (with_reducible refine Ext.setCell ?_ (Nat.le_refl _) _) | (with_reducible refine Ext.setCell ?_ (by simp; try omega) _) | (with_reducible refine Ext.trans ?_ (by with_reducible assumption))))⟩

set_option maxRecDepth 100000 in
set_option maxHeartbeats 1600000 in
theorem rof_8 (w : World) :
    Calls Tryd.prog 77 #[.int .i64 8] w fun e w' => e = .returned (.tuple #[.agg #[.int .i64 2, .int .i64 6, .int .i64 3, .int .i64 1, .int .u64 31, .int .u64 0, .int .u64 0], .bool true]) ∧ Ext w w' := by
  go_enter Tryd.func77, Tryd.ntmps77
  go_wp2_with (go_at_call 125; (with_reducible refine (signed_8 _).mono ?_); rintro e w1 ⟨rfl, hb1⟩; have F1 := (Blk.new w 99 #[.int .i64 0, .int .i64 0, .int .i64 0, .int .i64 0, .int .u64 0, .int .u64 0, .int .u64 0]).ext hb1; have cF := F1.cell; have fF := F1.frozen; have lF := F1.lt)
  have hx1 : Ext w w1 := ((Ext.refl w).alloc _).trans hb1
  clear cF fF
  have B8 := Blk.set7 F1 (a0 := .int .i64 2) (a1 := .int .i64 6) (a2 := .int .i64 3) (a3 := .int .i64 1) (a4 := .int .u64 31) (a5 := .int .u64 0) (a6 := .int .u64 0)
  exact bodyPost_ret (v := .tuple #[.agg #[.int .i64 2, .int .i64 6, .int .i64 3, .int .i64 1, .int .u64 31, .int .u64 0, .int .u64 0], .bool true]) (ret_blk Tryd.results77 rfl (load99 B8) rfl) rfl ⟨rfl, by (repeat (first | (with_reducible exact Ext.refl _) | (with_reducible assumption) | (with_reducible refine Ext.drew ?_) | (with_reducible refine Ext.drewN ?_ _) | (with_reducible refine Ext.alloc ?_ _) | (with_reducible refine Ext.setCell ?_ (Nat.le_refl _) _) | (with_reducible refine Ext.setCell ?_ (by simp; try omega) _) | (with_reducible refine Ext.trans ?_ (by with_reducible assumption))))⟩

set_option maxRecDepth 100000 in
set_option maxHeartbeats 1600000 in
theorem rof_9 (w : World) :
    Calls Tryd.prog 77 #[.int .i64 9] w fun e w' => e = .returned (.tuple #[.agg #[.int .i64 2, .int .i64 4, .int .i64 1, .int .i64 1, .int .u64 7, .int .u64 0, .int .u64 0], .bool true]) ∧ Ext w w' := by
  go_enter Tryd.func77, Tryd.ntmps77
  go_wp2_with (go_at_call 125; (with_reducible refine (signed_9 _).mono ?_); rintro e w1 ⟨rfl, hb1⟩; have F1 := (Blk.new w 99 #[.int .i64 0, .int .i64 0, .int .i64 0, .int .i64 0, .int .u64 0, .int .u64 0, .int .u64 0]).ext hb1; have cF := F1.cell; have fF := F1.frozen; have lF := F1.lt)
  have hx1 : Ext w w1 := ((Ext.refl w).alloc _).trans hb1
  clear cF fF
  have B8 := Blk.set7 F1 (a0 := .int .i64 2) (a1 := .int .i64 4) (a2 := .int .i64 1) (a3 := .int .i64 1) (a4 := .int .u64 7) (a5 := .int .u64 0) (a6 := .int .u64 0)
  exact bodyPost_ret (v := .tuple #[.agg #[.int .i64 2, .int .i64 4, .int .i64 1, .int .i64 1, .int .u64 7, .int .u64 0, .int .u64 0], .bool true]) (ret_blk Tryd.results77 rfl (load99 B8) rfl) rfl ⟨rfl, by (repeat (first | (with_reducible exact Ext.refl _) | (with_reducible assumption) | (with_reducible refine Ext.drew ?_) | (with_reducible refine Ext.drewN ?_ _) | (with_reducible refine Ext.alloc ?_ _) | (with_reducible refine Ext.setCell ?_ (Nat.le_refl _) _) | (with_reducible refine Ext.setCell ?_ (by simp; try omega) _) | (with_reducible refine Ext.trans ?_ (by with_reducible assumption))))⟩

set_option maxRecDepth 100000 in
set_option maxHeartbeats 1600000 in
theorem rof_10 (w : World) :
    Calls Tryd.prog 77 #[.int .i64 10] w fun e w' => e = .returned (.tuple #[.agg #[.int .i64 3, .int .i64 8, .int .i64 6, .int .i64 0, .int .u64 127, .int .u64 0, .int .u64 0], .bool true]) ∧ Ext w w' := by
  go_enter Tryd.func77, Tryd.ntmps77
  go_wp2_with fail
  exact bodyPost_ret (v := .tuple #[.agg #[.int .i64 3, .int .i64 8, .int .i64 6, .int .i64 0, .int .u64 127, .int .u64 0, .int .u64 0], .bool true]) (by simp [results, Tryd.results77, go_sem]) rfl ⟨rfl, by (repeat (first | (with_reducible exact Ext.refl _) | (with_reducible assumption) | (with_reducible refine Ext.drew ?_) | (with_reducible refine Ext.drewN ?_ _) | (with_reducible refine Ext.alloc ?_ _) | (with_reducible refine Ext.setCell ?_ (Nat.le_refl _) _) | (with_reducible refine Ext.setCell ?_ (by simp; try omega) _) | (with_reducible refine Ext.trans ?_ (by with_reducible assumption))))⟩

set_option maxRecDepth 100000 in
set_option maxHeartbeats 1600000 in
theorem rof_11 (w : World) :
    Calls Tryd.prog 77 #[.int .i64 11] w fun e w' => e = .returned (.tuple #[.agg #[.int .i64 4, .int .i64 8, .int .i64 0, .int .i64 127, .int .u64 254, .int .u64 0, .int .u64 255], .bool true]) ∧ Ext w w' := by
  go_enter Tryd.func77, Tryd.ntmps77
  go_wp2_with fail
  exact bodyPost_ret (v := .tuple #[.agg #[.int .i64 4, .int .i64 8, .int .i64 0, .int .i64 127, .int .u64 254, .int .u64 0, .int .u64 255], .bool true]) (by simp [results, Tryd.results77, go_sem]) rfl ⟨rfl, by (repeat (first | (with_reducible exact Ext.refl _) | (with_reducible assumption) | (with_reducible refine Ext.drew ?_) | (with_reducible refine Ext.drewN ?_ _) | (with_reducible refine Ext.alloc ?_ _) | (with_reducible refine Ext.setCell ?_ (Nat.le_refl _) _) | (with_reducible refine Ext.setCell ?_ (by simp; try omega) _) | (with_reducible refine Ext.trans ?_ (by with_reducible assumption))))⟩

set_option maxRecDepth 100000 in
set_option maxHeartbeats 1600000 in
theorem rof_12 (w : World) :
    Calls Tryd.prog 77 #[.int .i64 12] w fun e w' => e = .returned (.tuple #[.agg #[.int .i64 2, .int .i64 16, .int .i64 10, .int .i64 15, .int .u64 31743, .int .u64 31744, .int .u64 32256], .bool true]) ∧ Ext w w' := by
  go_enter Tryd.func77, Tryd.ntmps77
  go_wp2_with (go_at_call 125; (with_reducible refine (signed_12 _).mono ?_); rintro e w1 ⟨rfl, hb1⟩; have F1 := (Blk.new w 99 #[.int .i64 0, .int .i64 0, .int .i64 0, .int .i64 0, .int .u64 0, .int .u64 0, .int .u64 0]).ext hb1; have cF := F1.cell; have fF := F1.frozen; have lF := F1.lt)
  have hx1 : Ext w w1 := ((Ext.refl w).alloc _).trans hb1
  clear cF fF
  have B8 := Blk.set7 F1 (a0 := .int .i64 2) (a1 := .int .i64 16) (a2 := .int .i64 10) (a3 := .int .i64 15) (a4 := .int .u64 31743) (a5 := .int .u64 31744) (a6 := .int .u64 32256)
  exact bodyPost_ret (v := .tuple #[.agg #[.int .i64 2, .int .i64 16, .int .i64 10, .int .i64 15, .int .u64 31743, .int .u64 31744, .int .u64 32256], .bool true]) (ret_blk Tryd.results77 rfl (load99 B8) rfl) rfl ⟨rfl, by (repeat (first | (with_reducible exact Ext.refl _) | (with_reducible assumption) | (with_reducible refine Ext.drew ?_) | (with_reducible refine Ext.drewN ?_ _) | (with_reducible refine Ext.alloc ?_ _) | (with_reducible refine Ext.setCell ?_ (Nat.le_refl _) _) | (with_reducible refine Ext.setCell ?_ (by simp; try omega) _) | (with_reducible refine Ext.trans ?_ (by with_reducible assumption))))⟩

set_option maxRecDepth 100000 in
set_option maxHeartbeats 1600000 in
theorem rof_13 (w : World) :
    Calls Tryd.prog 77 #[.int .i64 13] w fun e w' => e = .returned (.tuple #[.agg #[.int .i64 2, .int .i64 32, .int .i64 23, .int .i64 127, .int .u64 2139095039, .int .u64 2139095040, .int .u64 2143289344], .bool true]) ∧ Ext w w' := by
  go_enter Tryd.func77, Tryd.ntmps77
  go_wp2_with (go_at_call 125; (with_reducible refine (signed_13 _).mono ?_); rintro e w1 ⟨rfl, hb1⟩; have F1 := (Blk.new w 99 #[.int .i64 0, .int .i64 0, .int .i64 0, .int .i64 0, .int .u64 0, .int .u64 0, .int .u64 0]).ext hb1; have cF := F1.cell; have fF := F1.frozen; have lF := F1.lt)
  have hx1 : Ext w w1 := ((Ext.refl w).alloc _).trans hb1
  clear cF fF
  have B8 := Blk.set7 F1 (a0 := .int .i64 2) (a1 := .int .i64 32) (a2 := .int .i64 23) (a3 := .int .i64 127) (a4 := .int .u64 2139095039) (a5 := .int .u64 2139095040) (a6 := .int .u64 2143289344)
  exact bodyPost_ret (v := .tuple #[.agg #[.int .i64 2, .int .i64 32, .int .i64 23, .int .i64 127, .int .u64 2139095039, .int .u64 2139095040, .int .u64 2143289344], .bool true]) (ret_blk Tryd.results77 rfl (load99 B8) rfl) rfl ⟨rfl, by (repeat (first | (with_reducible exact Ext.refl _) | (with_reducible assumption) | (with_reducible refine Ext.drew ?_) | (with_reducible refine Ext.drewN ?_ _) | (with_reducible refine Ext.alloc ?_ _) | (with_reducible refine Ext.setCell ?_ (Nat.le_refl _) _) | (with_reducible refine Ext.setCell ?_ (by simp; try omega) _) | (with_reducible refine Ext.trans ?_ (by with_reducible assumption))))⟩

set_option maxRecDepth 100000 in
set_option maxHeartbeats 1600000 in
theorem rof_14 (w : World) :
    Calls Tryd.prog 77 #[.int .i64 14] w fun e w' => e = .returned (.tuple #[.agg #[.int .i64 2, .int .i64 64, .int .i64 52, .int .i64 1023, .int .u64 9218868437227405311, .int .u64 9218868437227405312, .int .u64 9221120237041090560], .bool true]) ∧ Ext w w' := by
  go_enter Tryd.func77, Tryd.ntmps77
  go_wp2_with (go_at_call 125; (with_reducible refine (signed_14 _).mono ?_); rintro e w1 ⟨rfl, hb1⟩; have F1 := (Blk.new w 99 #[.int .i64 0, .int .i64 0, .int .i64 0, .int .i64 0, .int .u64 0, .int .u64 0, .int .u64 0]).ext hb1; have cF := F1.cell; have fF := F1.frozen; have lF := F1.lt)
  have hx1 : Ext w w1 := ((Ext.refl w).alloc _).trans hb1
  clear cF fF
  have B8 := Blk.set7 F1 (a0 := .int .i64 2) (a1 := .int .i64 64) (a2 := .int .i64 52) (a3 := .int .i64 1023) (a4 := .int .u64 9218868437227405311) (a5 := .int .u64 9218868437227405312) (a6 := .int .u64 9221120237041090560)
  exact bodyPost_ret (v := .tuple #[.agg #[.int .i64 2, .int .i64 64, .int .i64 52, .int .i64 1023, .int .u64 9218868437227405311, .int .u64 9218868437227405312, .int .u64 9221120237041090560], .bool true]) (ret_blk Tryd.results77 rfl (load99 B8) rfl) rfl ⟨rfl, by (repeat (first | (with_reducible exact Ext.refl _) | (with_reducible assumption) | (with_reducible refine Ext.drew ?_) | (with_reducible refine Ext.drewN ?_ _) | (with_reducible refine Ext.alloc ?_ _) | (with_reducible refine Ext.setCell ?_ (Nat.le_refl _) _) | (with_reducible refine Ext.setCell ?_ (by simp; try omega) _) | (with_reducible refine Ext.trans ?_ (by with_reducible assumption))))⟩

/-- The document's Of, of a form. -/
theorem rof_yes (n : Nat) (h1 : 1 ≤ n) (h2 : n ≤ 14) (w : World) :
    Calls Tryd.prog 77 #[.int .i64 n] w fun e w' => e = .returned (.tuple #[.agg #[.int .i64 (frm n).kind, .int .i64 (frm n).width, .int .i64 (frm n).man, .int .i64 (frm n).bias, .int .u64 (frm n).top, .int .u64 (frm n).inf, .int .u64 (frm n).nan], .bool true]) ∧ Ext w w' := by
  have : n = 1 ∨ n = 2 ∨ n = 3 ∨ n = 4 ∨ n = 5 ∨ n = 6 ∨ n = 7 ∨ n = 8 ∨ n = 9 ∨ n = 10 ∨ n = 11 ∨ n = 12 ∨ n = 13 ∨ n = 14 := by omega
  rcases this with rfl | rfl | rfl | rfl | rfl | rfl | rfl | rfl | rfl | rfl | rfl | rfl | rfl | rfl
  · exact rof_1 w
  · exact rof_2 w
  · exact rof_3 w
  · exact rof_4 w
  · exact rof_5 w
  · exact rof_6 w
  · exact rof_7 w
  · exact rof_8 w
  · exact rof_9 w
  · exact rof_10 w
  · exact rof_11 w
  · exact rof_12 w
  · exact rof_13 w
  · exact rof_14 w

set_option maxRecDepth 100000 in
set_option maxHeartbeats 1600000 in
/-- The document's Of, of no form. -/
theorem rof_no (i : Int) (h : ¬ isForm i) (w : World) :
    Calls Tryd.prog 77 #[.int .i64 i] w fun e w' => e = .returned (.tuple #[.agg #[.int .i64 (frm 0).kind, .int .i64 (frm 0).width, .int .i64 (frm 0).man, .int .i64 (frm 0).bias, .int .u64 (frm 0).top, .int .u64 (frm 0).inf, .int .u64 (frm 0).nan], .bool false]) ∧ Ext w w' := by
  have n1 : (i == 1) = false := by rw [beq_eq_false_iff_ne]; rintro rfl; exact h (by decide)
  have n2 : (i == 2) = false := by rw [beq_eq_false_iff_ne]; rintro rfl; exact h (by decide)
  have n3 : (i == 3) = false := by rw [beq_eq_false_iff_ne]; rintro rfl; exact h (by decide)
  have n4 : (i == 4) = false := by rw [beq_eq_false_iff_ne]; rintro rfl; exact h (by decide)
  have n5 : (i == 5) = false := by rw [beq_eq_false_iff_ne]; rintro rfl; exact h (by decide)
  have n6 : (i == 6) = false := by rw [beq_eq_false_iff_ne]; rintro rfl; exact h (by decide)
  have n7 : (i == 7) = false := by rw [beq_eq_false_iff_ne]; rintro rfl; exact h (by decide)
  have n8 : (i == 8) = false := by rw [beq_eq_false_iff_ne]; rintro rfl; exact h (by decide)
  have n9 : (i == 9) = false := by rw [beq_eq_false_iff_ne]; rintro rfl; exact h (by decide)
  have n10 : (i == 10) = false := by rw [beq_eq_false_iff_ne]; rintro rfl; exact h (by decide)
  have n11 : (i == 11) = false := by rw [beq_eq_false_iff_ne]; rintro rfl; exact h (by decide)
  have n12 : (i == 12) = false := by rw [beq_eq_false_iff_ne]; rintro rfl; exact h (by decide)
  have n13 : (i == 13) = false := by rw [beq_eq_false_iff_ne]; rintro rfl; exact h (by decide)
  have n14 : (i == 14) = false := by rw [beq_eq_false_iff_ne]; rintro rfl; exact h (by decide)
  clear h
  go_enter Tryd.func77, Tryd.ntmps77
  go_wp2_with fail
  exact bodyPost_ret (v := .tuple #[.agg #[.int .i64 (frm 0).kind, .int .i64 (frm 0).width, .int .i64 (frm 0).man, .int .i64 (frm 0).bias, .int .u64 (frm 0).top, .int .u64 (frm 0).inf, .int .u64 (frm 0).nan], .bool false]) (by simp [results, Tryd.results77, go_sem, frm]) rfl ⟨rfl, by (repeat (first | (with_reducible exact Ext.refl _) | (with_reducible assumption) | (with_reducible refine Ext.drew ?_) | (with_reducible refine Ext.drewN ?_ _) | (with_reducible refine Ext.alloc ?_ _) | (with_reducible refine Ext.setCell ?_ (Nat.le_refl _) _) | (with_reducible refine Ext.setCell ?_ (by simp; try omega) _) | (with_reducible refine Ext.trans ?_ (by with_reducible assumption))))⟩
end Go.Proofs.YtogdiobbjlpmoaaDoor

