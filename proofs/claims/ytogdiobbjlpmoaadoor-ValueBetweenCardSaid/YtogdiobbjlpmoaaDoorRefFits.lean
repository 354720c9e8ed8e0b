/- What the document says of a magnitude: may it be? No condition. -/
import Derived.Test.YtogdiobbjlpmoaaDoorRefMost
namespace Go.Proofs.YtogdiobbjlpmoaaDoor
open Go Go.RowKit Cal

set_option maxRecDepth 100000 in
set_option maxHeartbeats 1600000 in
theorem rkfits_no (i : Int) (key : Nat) (hi : ¬ isForm i) (w : World) :
    Calls Tryd.prog 82 #[.int .i64 i, .int .u64 key] w fun e w' => e = .returned (.tuple #[.agg #[.int .i64 (frm 0).kind, .int .i64 (frm 0).width, .int .i64 (frm 0).man, .int .i64 (frm 0).bias, .int .u64 (frm 0).top, .int .u64 (frm 0).inf, .int .u64 (frm 0).nan], .int .i64 3]) ∧ Ext w w' := by
  have c77 := Lib.hid (fun W => rof_no i hi W)
  generalize frm 0 = f at *
  clear hi
  go_enter Tryd.func82, Tryd.ntmps82
  go_wp2_with (first | (go_at_call 77; refine (c77.out _).mono ?_; rintro e w1 ⟨rfl, hb1⟩; have F1 := (Blk.new w 99 #[.int .i64 0, .int .i64 0, .int .i64 0, .int .i64 0, .int .u64 0, .int .u64 0, .int .u64 0]).ext hb1; have cF := F1.cell; have fF := F1.frozen; have lF := F1.lt))
  have hx1 : Ext w w1 := ((Ext.refl w).alloc _).trans hb1
  clear cF fF
  have B8 := (Blk.set7 F1 (a0 := .int .i64 f.kind) (a1 := .int .i64 f.width) (a2 := .int .i64 f.man) (a3 := .int .i64 f.bias) (a4 := .int .u64 f.top) (a5 := .int .u64 f.inf) (a6 := .int .u64 f.nan)).alloc (.cells #[.int .i64 (f).kind, .int .i64 (f).width, .int .i64 (f).man, .int .i64 (f).bias, .int .u64 (f).top, .int .u64 (f).inf, .int .u64 (f).nan] 99)
  exact bodyPost_ret (v := .tuple #[.agg #[.int .i64 (f).kind, .int .i64 (f).width, .int .i64 (f).man, .int .i64 (f).bias, .int .u64 (f).top, .int .u64 (f).inf, .int .u64 (f).nan], .int .i64 3]) (ret_blk Tryd.results82 rfl (load99 B8) rfl) rfl ⟨rfl, by (repeat (first | (with_reducible exact Ext.refl _) | (with_reducible assumption) | (with_reducible refine Ext.drew ?_) | (with_reducible refine Ext.drewN ?_ _) | (with_reducible refine Ext.alloc ?_ _) | (with_reducible refine Ext.setCell ?_ (Nat.le_refl _) _) | (with_reducible refine Ext.setCell ?_ (by simp; try omega) _) | (with_reducible refine Ext.trans ?_ (by with_reducible assumption))))⟩

set_option maxRecDepth 100000 in
set_option maxHeartbeats 3200000 in
theorem rkfits_yes (n key : Nat) (h1 : 1 ≤ n) (h2 : n ≤ 14) (w : World) :
    Calls Tryd.prog 82 #[.int .i64 n, .int .u64 key] w fun e w' => e = .returned (.tuple #[.agg #[.int .i64 (frm n).kind, .int .i64 (frm n).width, .int .i64 (frm n).man, .int .i64 (frm n).bias, .int .u64 (frm n).top, .int .u64 (frm n).inf, .int .u64 (frm n).nan], .int .i64 (keyE n key)]) ∧ Ext w w' := by
  have c77 := Lib.hid (fun W => rof_yes n h1 h2 W)
  have hr : keyE n key = if lastKey (frm n) < key then 4 else 0 := by unfold keyE; rw [if_neg (by simpa using isForm_of h1 h2)]; simp
  have htp := (lastKey_lt n h1 h2).1
  have hlt := (lastKey_lt n h1 h2).2.1
  have hl : lastKey (frm n) = if (frm n).kind = 3 then (frm n).top + 1 else (frm n).top := rfl
  rw [hr]
  generalize lastKey (frm n) = l at *
  generalize frm n = f at *
  by_cases ht : f.top < key
  · have d1 : decide (f.top < key) = true := decide_eq_true ht
    have d1' : decide ((f.top : Int) < (key : Int)) = true := decide_eq_true (by omega)
    by_cases k3 : f.kind = 3
    · have a3 : ((f.kind : Int) != 3) = false := nfalse (b := 3) k3
      rw [if_pos k3] at hl
      by_cases h : l < key
      · rw [if_pos h]
        have d2 : decide (f.top + 1 < key) = true := decide_eq_true (by omega)
        have d2' : decide ((f.top : Int) + 1 < (key : Int)) = true := decide_eq_true (by omega)
        clear hr hl h k3 ht
        go_enter Tryd.func82, Tryd.ntmps82
        go_wp2_with (first | (go_at_call 77; refine (c77.out _).mono ?_; rintro e w1 ⟨rfl, hb1⟩; have F1 := (Blk.new w 99 #[.int .i64 0, .int .i64 0, .int .i64 0, .int .i64 0, .int .u64 0, .int .u64 0, .int .u64 0]).ext hb1; have cF := F1.cell; have fF := F1.frozen; have lF := F1.lt))
        have hx1 : Ext w w1 := ((Ext.refl w).alloc _).trans hb1
        clear cF fF
        have B8 := (Blk.set7 F1 (a0 := .int .i64 f.kind) (a1 := .int .i64 f.width) (a2 := .int .i64 f.man) (a3 := .int .i64 f.bias) (a4 := .int .u64 f.top) (a5 := .int .u64 f.inf) (a6 := .int .u64 f.nan)).alloc (.cells #[.int .i64 (f).kind, .int .i64 (f).width, .int .i64 (f).man, .int .i64 (f).bias, .int .u64 (f).top, .int .u64 (f).inf, .int .u64 (f).nan] 99)
        exact bodyPost_ret (v := .tuple #[.agg #[.int .i64 (f).kind, .int .i64 (f).width, .int .i64 (f).man, .int .i64 (f).bias, .int .u64 (f).top, .int .u64 (f).inf, .int .u64 (f).nan], .int .i64 4]) (ret_blk Tryd.results82 rfl (load99 B8) rfl) rfl ⟨rfl, by (repeat (first | (with_reducible exact Ext.refl _) | (with_reducible assumption) | (with_reducible refine Ext.drew ?_) | (with_reducible refine Ext.drewN ?_ _) | (with_reducible refine Ext.alloc ?_ _) | (with_reducible refine Ext.setCell ?_ (Nat.le_refl _) _) | (with_reducible refine Ext.setCell ?_ (by simp; try omega) _) | (with_reducible refine Ext.trans ?_ (by with_reducible assumption))))⟩
      · rw [if_neg h]
        have d2 : decide (f.top + 1 < key) = false := decide_eq_false (by omega)
        have d2' : decide ((f.top : Int) + 1 < (key : Int)) = false := decide_eq_false (by omega)
        clear hr hl h k3 ht
        go_enter Tryd.func82, Tryd.ntmps82
        go_wp2_with (first | (go_at_call 77; refine (c77.out _).mono ?_; rintro e w1 ⟨rfl, hb1⟩; have F1 := (Blk.new w 99 #[.int .i64 0, .int .i64 0, .int .i64 0, .int .i64 0, .int .u64 0, .int .u64 0, .int .u64 0]).ext hb1; have cF := F1.cell; have fF := F1.frozen; have lF := F1.lt))
        have hx1 : Ext w w1 := ((Ext.refl w).alloc _).trans hb1
        clear cF fF
        have B8 := (Blk.set7 F1 (a0 := .int .i64 f.kind) (a1 := .int .i64 f.width) (a2 := .int .i64 f.man) (a3 := .int .i64 f.bias) (a4 := .int .u64 f.top) (a5 := .int .u64 f.inf) (a6 := .int .u64 f.nan)).alloc (.cells #[.int .i64 (f).kind, .int .i64 (f).width, .int .i64 (f).man, .int .i64 (f).bias, .int .u64 (f).top, .int .u64 (f).inf, .int .u64 (f).nan] 99)
        exact bodyPost_ret (v := .tuple #[.agg #[.int .i64 (f).kind, .int .i64 (f).width, .int .i64 (f).man, .int .i64 (f).bias, .int .u64 (f).top, .int .u64 (f).inf, .int .u64 (f).nan], .int .i64 0]) (ret_blk Tryd.results82 rfl (load99 B8) rfl) rfl ⟨rfl, by (repeat (first | (with_reducible exact Ext.refl _) | (with_reducible assumption) | (with_reducible refine Ext.drew ?_) | (with_reducible refine Ext.drewN ?_ _) | (with_reducible refine Ext.alloc ?_ _) | (with_reducible refine Ext.setCell ?_ (Nat.le_refl _) _) | (with_reducible refine Ext.setCell ?_ (by simp; try omega) _) | (with_reducible refine Ext.trans ?_ (by with_reducible assumption))))⟩
    · have a3 : ((f.kind : Int) != 3) = true := ntrue (b := 3) k3
      rw [if_neg k3] at hl
      rw [if_pos (by omega)]
      clear hr hl k3 ht
      go_enter Tryd.func82, Tryd.ntmps82
      go_wp2_with (first | (go_at_call 77; refine (c77.out _).mono ?_; rintro e w1 ⟨rfl, hb1⟩; have F1 := (Blk.new w 99 #[.int .i64 0, .int .i64 0, .int .i64 0, .int .i64 0, .int .u64 0, .int .u64 0, .int .u64 0]).ext hb1; have cF := F1.cell; have fF := F1.frozen; have lF := F1.lt))
      have hx1 : Ext w w1 := ((Ext.refl w).alloc _).trans hb1
      clear cF fF
      have B8 := (Blk.set7 F1 (a0 := .int .i64 f.kind) (a1 := .int .i64 f.width) (a2 := .int .i64 f.man) (a3 := .int .i64 f.bias) (a4 := .int .u64 f.top) (a5 := .int .u64 f.inf) (a6 := .int .u64 f.nan)).alloc (.cells #[.int .i64 (f).kind, .int .i64 (f).width, .int .i64 (f).man, .int .i64 (f).bias, .int .u64 (f).top, .int .u64 (f).inf, .int .u64 (f).nan] 99)
      exact bodyPost_ret (v := .tuple #[.agg #[.int .i64 (f).kind, .int .i64 (f).width, .int .i64 (f).man, .int .i64 (f).bias, .int .u64 (f).top, .int .u64 (f).inf, .int .u64 (f).nan], .int .i64 4]) (ret_blk Tryd.results82 rfl (load99 B8) rfl) rfl ⟨rfl, by (repeat (first | (with_reducible exact Ext.refl _) | (with_reducible assumption) | (with_reducible refine Ext.drew ?_) | (with_reducible refine Ext.drewN ?_ _) | (with_reducible refine Ext.alloc ?_ _) | (with_reducible refine Ext.setCell ?_ (Nat.le_refl _) _) | (with_reducible refine Ext.setCell ?_ (by simp; try omega) _) | (with_reducible refine Ext.trans ?_ (by with_reducible assumption))))⟩
  · have d1 : decide (f.top < key) = false := decide_eq_false ht
    have d1' : decide ((f.top : Int) < (key : Int)) = false := decide_eq_false (by omega)
    rw [if_neg (by omega)]
    clear hr hl ht
    go_enter Tryd.func82, Tryd.ntmps82
    go_wp2_with (first | (go_at_call 77; refine (c77.out _).mono ?_; rintro e w1 ⟨rfl, hb1⟩; have F1 := (Blk.new w 99 #[.int .i64 0, .int .i64 0, .int .i64 0, .int .i64 0, .int .u64 0, .int .u64 0, .int .u64 0]).ext hb1; have cF := F1.cell; have fF := F1.frozen; have lF := F1.lt))
    have hx1 : Ext w w1 := ((Ext.refl w).alloc _).trans hb1
    clear cF fF
    have B8 := (Blk.set7 F1 (a0 := .int .i64 f.kind) (a1 := .int .i64 f.width) (a2 := .int .i64 f.man) (a3 := .int .i64 f.bias) (a4 := .int .u64 f.top) (a5 := .int .u64 f.inf) (a6 := .int .u64 f.nan)).alloc (.cells #[.int .i64 (f).kind, .int .i64 (f).width, .int .i64 (f).man, .int .i64 (f).bias, .int .u64 (f).top, .int .u64 (f).inf, .int .u64 (f).nan] 99)
    exact bodyPost_ret (v := .tuple #[.agg #[.int .i64 (f).kind, .int .i64 (f).width, .int .i64 (f).man, .int .i64 (f).bias, .int .u64 (f).top, .int .u64 (f).inf, .int .u64 (f).nan], .int .i64 0]) (ret_blk Tryd.results82 rfl (load99 B8) rfl) rfl ⟨rfl, by (repeat (first | (with_reducible exact Ext.refl _) | (with_reducible assumption) | (with_reducible refine Ext.drew ?_) | (with_reducible refine Ext.drewN ?_ _) | (with_reducible refine Ext.alloc ?_ _) | (with_reducible refine Ext.setCell ?_ (Nat.le_refl _) _) | (with_reducible refine Ext.setCell ?_ (by simp; try omega) _) | (with_reducible refine Ext.trans ?_ (by with_reducible assumption))))⟩
end Go.Proofs.YtogdiobbjlpmoaaDoor

