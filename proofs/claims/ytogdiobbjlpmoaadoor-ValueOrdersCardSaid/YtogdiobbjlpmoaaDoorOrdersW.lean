/- ValueOrders answers true, whatever the numbers handed in. No condition but that the package variables hold what they are laid with. -/
import Derived.Test.YtogdiobbjlpmoaaDoorShown07
import Derived.Test.YtogdiobbjlpmoaaDoorOrders
import Derived.Test.YtogdiobbjlpmoaaDoorBackW
import Derived.Deep.QuietTactic
import Derived.BigQuiet
import Derived.Deep.Cut
namespace Go.Proofs.YtogdiobbjlpmoaaDoor
open Go Go.RowKit Cal

set_option linter.unusedVariables false
set_option maxRecDepth 100000 in
set_option maxHeartbeats 3200000 in
theorem orders_err1 (i : Int) (m p q P Q M S x y k n : Nat) (er es : Int) (a b : Bool) (f : Frm) (hm : m < 4) (hi : bits BinOp.and IntKind.i64 i 3 = (m : Int)) (hP : bits BinOp.and IntKind.u64 (p : Int) (M : Int) = P) (hQ : bits BinOp.and IntKind.u64 (q : Int) (M : Int) = Q) (d1 : (er != 0) = true) (n1 : ((P : Int) == (f.nan : Int)) = true)
    (c39 : Hid (∀ W, Env W → Calls Tryd.prog 39 #[.int .i64 (1 + (m : Int))] W fun e w' => e = .returned (.tuple #[.agg #[.int .i64 (f).kind, .int .i64 (f).width, .int .i64 (f).man, .int .i64 (f).bias, .int .u64 (f).top, .int .u64 (f).inf, .int .u64 (f).nan], .int .i64 0]) ∧ Ext W w'))
    (c40 : Hid (∀ W, Calls Tryd.prog 40 #[.agg #[.int .i64 (f).kind, .int .i64 (f).width, .int .i64 (f).man, .int .i64 (f).bias, .int .u64 (f).top, .int .u64 (f).inf, .int .u64 (f).nan]] W fun e w' => e = .returned (.int .u64 M) ∧ Ext W w'))
    (c33 : Hid (∀ W, Env W → Calls Tryd.prog 33 #[.int .i64 (1 + (m : Int)), .int .u64 P] W fun e w' => e = .returned (.tuple #[.bool a, .int .u64 k, .int .i64 er]) ∧ Ext W w'))
    (d33 : Hid (∀ W, Env W → Calls Tryd.prog 33 #[.int .i64 (1 + (m : Int)), .int .u64 Q] W fun e w' => e = .returned (.tuple #[.bool b, .int .u64 n, .int .i64 es]) ∧ Ext W w'))
    (w : World) (hE : Env w) :
    Calls Tryd.prog 8 #[.int .i64 i, .int .u64 p, .int .u64 q] w fun e w' => e = .returned (.bool true) ∧ Ext w w' := by
  have c25 := Lib.hid (fun W h => shown_any W h)
  go_enter Tryd.func8, Tryd.ntmps8
  go_wp2_with (first | (go_at_call 25; refine (c25.out _ hE).mono ?_; rintro e w1 ⟨rfl, hb1⟩; have E1 := hE.ext hb1) | (go_at_call 39; refine (c39.out _ E1).mono ?_; rintro e w2 ⟨rfl, hb2⟩; have E2 := (E1.ext hb2).alloc (.cells #[.int .i64 (f).kind, .int .i64 (f).width, .int .i64 (f).man, .int .i64 (f).bias, .int .u64 (f).top, .int .u64 (f).inf, .int .u64 (f).nan] 40); have F2 := Blk.new w2 40 #[.int .i64 (f).kind, .int .i64 (f).width, .int .i64 (f).man, .int .i64 (f).bias, .int .u64 (f).top, .int .u64 (f).inf, .int .u64 (f).nan]) | (go_at_call 40; (with_reducible refine (c40.out (w2.alloc _)).mono ?_); rintro e w3 ⟨rfl, hb3⟩; have E3 := E2.ext hb3; have F3 := F2.ext hb3; have cF3 := F3.cell) | (go_at_call 40; (with_reducible refine (c40.out w3).mono ?_); rintro e w4 ⟨rfl, hb4⟩; have E4 := E3.ext hb4; have F4 := F3.ext hb4) | (go_at_call 33; (with_reducible refine (c33.out w4 E4).mono ?_); rintro e w5 ⟨rfl, hb5⟩; have E5 := E4.ext hb5; have F5 := F4.ext hb5) | (go_at_call 33; (with_reducible refine (d33.out w5 E5).mono ?_); rintro e w6 ⟨rfl, hb6⟩; have F6 := F5.ext hb6; have cF6 := F6.cell))
  go_ret
  exact ⟨rfl, by (repeat (first | (with_reducible exact Ext.refl _) | (with_reducible assumption) | (with_reducible refine Ext.drew ?_) | (with_reducible refine Ext.drewN ?_ _) | (with_reducible refine Ext.alloc ?_ _) | (with_reducible refine Ext.setCell ?_ (Nat.le_refl _) _) | (with_reducible refine Ext.setCell ?_ (by simp; try omega) _) | (with_reducible refine Ext.trans ?_ (by with_reducible assumption))))⟩

set_option maxRecDepth 100000 in
set_option maxHeartbeats 3200000 in
theorem orders_err2t (i : Int) (m p q P Q M S x y k n : Nat) (er es : Int) (a b : Bool) (f : Frm) (hm : m < 4) (hi : bits BinOp.and IntKind.i64 i 3 = (m : Int)) (hP : bits BinOp.and IntKind.u64 (p : Int) (M : Int) = P) (hQ : bits BinOp.and IntKind.u64 (q : Int) (M : Int) = Q) (d1 : (es != 0) = true) (n1 : ((P : Int) == (f.nan : Int)) = true) (n2 : ((Q : Int) == (f.nan : Int)) = true)
    (c39 : Hid (∀ W, Env W → Calls Tryd.prog 39 #[.int .i64 (1 + (m : Int))] W fun e w' => e = .returned (.tuple #[.agg #[.int .i64 (f).kind, .int .i64 (f).width, .int .i64 (f).man, .int .i64 (f).bias, .int .u64 (f).top, .int .u64 (f).inf, .int .u64 (f).nan], .int .i64 0]) ∧ Ext W w'))
    (c40 : Hid (∀ W, Calls Tryd.prog 40 #[.agg #[.int .i64 (f).kind, .int .i64 (f).width, .int .i64 (f).man, .int .i64 (f).bias, .int .u64 (f).top, .int .u64 (f).inf, .int .u64 (f).nan]] W fun e w' => e = .returned (.int .u64 M) ∧ Ext W w'))
    (c33 : Hid (∀ W, Env W → Calls Tryd.prog 33 #[.int .i64 (1 + (m : Int)), .int .u64 P] W fun e w' => e = .returned (.tuple #[.bool a, .int .u64 k, .int .i64 0]) ∧ Ext W w'))
    (d33 : Hid (∀ W, Env W → Calls Tryd.prog 33 #[.int .i64 (1 + (m : Int)), .int .u64 Q] W fun e w' => e = .returned (.tuple #[.bool b, .int .u64 n, .int .i64 es]) ∧ Ext W w'))
    (w : World) (hE : Env w) :
    Calls Tryd.prog 8 #[.int .i64 i, .int .u64 p, .int .u64 q] w fun e w' => e = .returned (.bool true) ∧ Ext w w' := by
  have c25 := Lib.hid (fun W h => shown_any W h)
  go_enter Tryd.func8, Tryd.ntmps8
  go_wp2_with (first | (go_at_call 25; refine (c25.out _ hE).mono ?_; rintro e w1 ⟨rfl, hb1⟩; have E1 := hE.ext hb1) | (go_at_call 39; refine (c39.out _ E1).mono ?_; rintro e w2 ⟨rfl, hb2⟩; have E2 := (E1.ext hb2).alloc (.cells #[.int .i64 (f).kind, .int .i64 (f).width, .int .i64 (f).man, .int .i64 (f).bias, .int .u64 (f).top, .int .u64 (f).inf, .int .u64 (f).nan] 40); have F2 := Blk.new w2 40 #[.int .i64 (f).kind, .int .i64 (f).width, .int .i64 (f).man, .int .i64 (f).bias, .int .u64 (f).top, .int .u64 (f).inf, .int .u64 (f).nan]) | (go_at_call 40; (with_reducible refine (c40.out (w2.alloc _)).mono ?_); rintro e w3 ⟨rfl, hb3⟩; have E3 := E2.ext hb3; have F3 := F2.ext hb3; have cF3 := F3.cell) | (go_at_call 40; (with_reducible refine (c40.out w3).mono ?_); rintro e w4 ⟨rfl, hb4⟩; have E4 := E3.ext hb4; have F4 := F3.ext hb4) | (go_at_call 33; (with_reducible refine (c33.out w4 E4).mono ?_); rintro e w5 ⟨rfl, hb5⟩; have E5 := E4.ext hb5; have F5 := F4.ext hb5) | (go_at_call 33; (with_reducible refine (d33.out w5 E5).mono ?_); rintro e w6 ⟨rfl, hb6⟩; have F6 := F5.ext hb6; have cF6 := F6.cell))
  go_ret
  exact ⟨rfl, by (repeat (first | (with_reducible exact Ext.refl _) | (with_reducible assumption) | (with_reducible refine Ext.drew ?_) | (with_reducible refine Ext.drewN ?_ _) | (with_reducible refine Ext.alloc ?_ _) | (with_reducible refine Ext.setCell ?_ (Nat.le_refl _) _) | (with_reducible refine Ext.setCell ?_ (by simp; try omega) _) | (with_reducible refine Ext.trans ?_ (by with_reducible assumption))))⟩

set_option maxRecDepth 100000 in
set_option maxHeartbeats 3200000 in
theorem orders_err2f (i : Int) (m p q P Q M S x y k n : Nat) (er es : Int) (a b : Bool) (f : Frm) (hm : m < 4) (hi : bits BinOp.and IntKind.i64 i 3 = (m : Int)) (hP : bits BinOp.and IntKind.u64 (p : Int) (M : Int) = P) (hQ : bits BinOp.and IntKind.u64 (q : Int) (M : Int) = Q) (d1 : (es != 0) = true) (n1 : ((P : Int) == (f.nan : Int)) = false) (n2 : ((Q : Int) == (f.nan : Int)) = true)
    (c39 : Hid (∀ W, Env W → Calls Tryd.prog 39 #[.int .i64 (1 + (m : Int))] W fun e w' => e = .returned (.tuple #[.agg #[.int .i64 (f).kind, .int .i64 (f).width, .int .i64 (f).man, .int .i64 (f).bias, .int .u64 (f).top, .int .u64 (f).inf, .int .u64 (f).nan], .int .i64 0]) ∧ Ext W w'))
    (c40 : Hid (∀ W, Calls Tryd.prog 40 #[.agg #[.int .i64 (f).kind, .int .i64 (f).width, .int .i64 (f).man, .int .i64 (f).bias, .int .u64 (f).top, .int .u64 (f).inf, .int .u64 (f).nan]] W fun e w' => e = .returned (.int .u64 M) ∧ Ext W w'))
    (c33 : Hid (∀ W, Env W → Calls Tryd.prog 33 #[.int .i64 (1 + (m : Int)), .int .u64 P] W fun e w' => e = .returned (.tuple #[.bool a, .int .u64 k, .int .i64 0]) ∧ Ext W w'))
    (d33 : Hid (∀ W, Env W → Calls Tryd.prog 33 #[.int .i64 (1 + (m : Int)), .int .u64 Q] W fun e w' => e = .returned (.tuple #[.bool b, .int .u64 n, .int .i64 es]) ∧ Ext W w'))
    (w : World) (hE : Env w) :
    Calls Tryd.prog 8 #[.int .i64 i, .int .u64 p, .int .u64 q] w fun e w' => e = .returned (.bool true) ∧ Ext w w' := by
  have c25 := Lib.hid (fun W h => shown_any W h)
  go_enter Tryd.func8, Tryd.ntmps8
  go_wp2_with (first | (go_at_call 25; refine (c25.out _ hE).mono ?_; rintro e w1 ⟨rfl, hb1⟩; have E1 := hE.ext hb1) | (go_at_call 39; refine (c39.out _ E1).mono ?_; rintro e w2 ⟨rfl, hb2⟩; have E2 := (E1.ext hb2).alloc (.cells #[.int .i64 (f).kind, .int .i64 (f).width, .int .i64 (f).man, .int .i64 (f).bias, .int .u64 (f).top, .int .u64 (f).inf, .int .u64 (f).nan] 40); have F2 := Blk.new w2 40 #[.int .i64 (f).kind, .int .i64 (f).width, .int .i64 (f).man, .int .i64 (f).bias, .int .u64 (f).top, .int .u64 (f).inf, .int .u64 (f).nan]) | (go_at_call 40; (with_reducible refine (c40.out (w2.alloc _)).mono ?_); rintro e w3 ⟨rfl, hb3⟩; have E3 := E2.ext hb3; have F3 := F2.ext hb3; have cF3 := F3.cell) | (go_at_call 40; (with_reducible refine (c40.out w3).mono ?_); rintro e w4 ⟨rfl, hb4⟩; have E4 := E3.ext hb4; have F4 := F3.ext hb4) | (go_at_call 33; (with_reducible refine (c33.out w4 E4).mono ?_); rintro e w5 ⟨rfl, hb5⟩; have E5 := E4.ext hb5; have F5 := F4.ext hb5) | (go_at_call 33; (with_reducible refine (d33.out w5 E5).mono ?_); rintro e w6 ⟨rfl, hb6⟩; have F6 := F5.ext hb6; have cF6 := F6.cell))
  go_ret
  exact ⟨rfl, by (repeat (first | (with_reducible exact Ext.refl _) | (with_reducible assumption) | (with_reducible refine Ext.drew ?_) | (with_reducible refine Ext.drewN ?_ _) | (with_reducible refine Ext.alloc ?_ _) | (with_reducible refine Ext.setCell ?_ (Nat.le_refl _) _) | (with_reducible refine Ext.setCell ?_ (by simp; try omega) _) | (with_reducible refine Ext.trans ?_ (by with_reducible assumption))))⟩

set_option maxRecDepth 100000 in
set_option maxHeartbeats 3200000 in
theorem orders_tft (i : Int) (m p q P Q M S x y k n : Nat) (er es : Int) (a b : Bool) (f : Frm) (hm : m < 4) (hi : bits BinOp.and IntKind.i64 i 3 = (m : Int)) (hP : bits BinOp.and IntKind.u64 (p : Int) (M : Int) = P) (hQ : bits BinOp.and IntKind.u64 (q : Int) (M : Int) = Q) (hx : bits BinOp.xor IntKind.u64 (P : Int) (S : Int) = x) (hy : bits BinOp.xor IntKind.u64 (Q : Int) (S : Int) = y) (o1 : decide (x < y) = true) (o2 : decide ((x : Int) < (y : Int)) = true)
    (c39 : Hid (∀ W, Env W → Calls Tryd.prog 39 #[.int .i64 (1 + (m : Int))] W fun e w' => e = .returned (.tuple #[.agg #[.int .i64 (f).kind, .int .i64 (f).width, .int .i64 (f).man, .int .i64 (f).bias, .int .u64 (f).top, .int .u64 (f).inf, .int .u64 (f).nan], .int .i64 0]) ∧ Ext W w'))
    (c40 : Hid (∀ W, Calls Tryd.prog 40 #[.agg #[.int .i64 (f).kind, .int .i64 (f).width, .int .i64 (f).man, .int .i64 (f).bias, .int .u64 (f).top, .int .u64 (f).inf, .int .u64 (f).nan]] W fun e w' => e = .returned (.int .u64 M) ∧ Ext W w'))
    (c33 : Hid (∀ W, Env W → Calls Tryd.prog 33 #[.int .i64 (1 + (m : Int)), .int .u64 P] W fun e w' => e = .returned (.tuple #[.bool true, .int .u64 k, .int .i64 0]) ∧ Ext W w'))
    (d33 : Hid (∀ W, Env W → Calls Tryd.prog 33 #[.int .i64 (1 + (m : Int)), .int .u64 Q] W fun e w' => e = .returned (.tuple #[.bool false, .int .u64 n, .int .i64 0]) ∧ Ext W w'))
    (c41 : Hid (∀ W, Calls Tryd.prog 41 #[.agg #[.int .i64 (f).kind, .int .i64 (f).width, .int .i64 (f).man, .int .i64 (f).bias, .int .u64 (f).top, .int .u64 (f).inf, .int .u64 (f).nan]] W fun e w' => e = .returned (.int .u64 S) ∧ Ext W w'))
    (w : World) (hE : Env w) :
    Calls Tryd.prog 8 #[.int .i64 i, .int .u64 p, .int .u64 q] w fun e w' => e = .returned (.bool true) ∧ Ext w w' := by
  have c25 := Lib.hid (fun W h => shown_any W h)
  go_enter Tryd.func8, Tryd.ntmps8
  go_upto_region 17 with (first | (go_at_call 25; refine (c25.out _ hE).mono ?_; rintro e w1 ⟨rfl, hb1⟩; have E1 := hE.ext hb1) | (go_at_call 39; refine (c39.out _ E1).mono ?_; rintro e w2 ⟨rfl, hb2⟩; have E2 := (E1.ext hb2).alloc (.cells #[.int .i64 (f).kind, .int .i64 (f).width, .int .i64 (f).man, .int .i64 (f).bias, .int .u64 (f).top, .int .u64 (f).inf, .int .u64 (f).nan] 40); have F2 := Blk.new w2 40 #[.int .i64 (f).kind, .int .i64 (f).width, .int .i64 (f).man, .int .i64 (f).bias, .int .u64 (f).top, .int .u64 (f).inf, .int .u64 (f).nan]) | (go_at_call 40; (with_reducible refine (c40.out (w2.alloc _)).mono ?_); rintro e w3 ⟨rfl, hb3⟩; have E3 := E2.ext hb3; have F3 := F2.ext hb3; have cF3 := F3.cell) | (go_at_call 40; (with_reducible refine (c40.out w3).mono ?_); rintro e w4 ⟨rfl, hb4⟩; have E4 := E3.ext hb4; have F4 := F3.ext hb4) | (go_at_call 33; (with_reducible refine (c33.out w4 E4).mono ?_); rintro e w5 ⟨rfl, hb5⟩; have E5 := E4.ext hb5; have F5 := F4.ext hb5) | (go_at_call 33; (with_reducible refine (d33.out w5 E5).mono ?_); rintro e w6 ⟨rfl, hb6⟩; have F6 := F5.ext hb6; have cF6 := F6.cell))
  go_region_with (go_at_call 41; (with_reducible refine (c41.out _).mono ?_); rintro e w7 ⟨rfl, hb7⟩; first | (have F7 := F6.drew.ext hb7; have cF7 := F7.cell) | skip)
  all_goals go_wp2_with fail
  all_goals go_ret
  all_goals exact ⟨rfl, by (repeat (first | (with_reducible exact Ext.refl _) | (with_reducible assumption) | (with_reducible refine Ext.drew ?_) | (with_reducible refine Ext.drewN ?_ _) | (with_reducible refine Ext.alloc ?_ _) | (with_reducible refine Ext.setCell ?_ (Nat.le_refl _) _) | (with_reducible refine Ext.setCell ?_ (by simp; try omega) _) | (with_reducible refine Ext.trans ?_ (by with_reducible assumption))))⟩

set_option maxRecDepth 100000 in
set_option maxHeartbeats 3200000 in
theorem orders_ftf (i : Int) (m p q P Q M S x y k n : Nat) (er es : Int) (a b : Bool) (f : Frm) (hm : m < 4) (hi : bits BinOp.and IntKind.i64 i 3 = (m : Int)) (hP : bits BinOp.and IntKind.u64 (p : Int) (M : Int) = P) (hQ : bits BinOp.and IntKind.u64 (q : Int) (M : Int) = Q) (hx : bits BinOp.xor IntKind.u64 (P : Int) (S : Int) = x) (hy : bits BinOp.xor IntKind.u64 (Q : Int) (S : Int) = y) (o1 : decide (x < y) = false) (o2 : decide ((x : Int) < (y : Int)) = false)
    (c39 : Hid (∀ W, Env W → Calls Tryd.prog 39 #[.int .i64 (1 + (m : Int))] W fun e w' => e = .returned (.tuple #[.agg #[.int .i64 (f).kind, .int .i64 (f).width, .int .i64 (f).man, .int .i64 (f).bias, .int .u64 (f).top, .int .u64 (f).inf, .int .u64 (f).nan], .int .i64 0]) ∧ Ext W w'))
    (c40 : Hid (∀ W, Calls Tryd.prog 40 #[.agg #[.int .i64 (f).kind, .int .i64 (f).width, .int .i64 (f).man, .int .i64 (f).bias, .int .u64 (f).top, .int .u64 (f).inf, .int .u64 (f).nan]] W fun e w' => e = .returned (.int .u64 M) ∧ Ext W w'))
    (c33 : Hid (∀ W, Env W → Calls Tryd.prog 33 #[.int .i64 (1 + (m : Int)), .int .u64 P] W fun e w' => e = .returned (.tuple #[.bool false, .int .u64 k, .int .i64 0]) ∧ Ext W w'))
    (d33 : Hid (∀ W, Env W → Calls Tryd.prog 33 #[.int .i64 (1 + (m : Int)), .int .u64 Q] W fun e w' => e = .returned (.tuple #[.bool true, .int .u64 n, .int .i64 0]) ∧ Ext W w'))
    (c41 : Hid (∀ W, Calls Tryd.prog 41 #[.agg #[.int .i64 (f).kind, .int .i64 (f).width, .int .i64 (f).man, .int .i64 (f).bias, .int .u64 (f).top, .int .u64 (f).inf, .int .u64 (f).nan]] W fun e w' => e = .returned (.int .u64 S) ∧ Ext W w'))
    (w : World) (hE : Env w) :
    Calls Tryd.prog 8 #[.int .i64 i, .int .u64 p, .int .u64 q] w fun e w' => e = .returned (.bool true) ∧ Ext w w' := by
  have c25 := Lib.hid (fun W h => shown_any W h)
  go_enter Tryd.func8, Tryd.ntmps8
  go_upto_region 17 with (first | (go_at_call 25; refine (c25.out _ hE).mono ?_; rintro e w1 ⟨rfl, hb1⟩; have E1 := hE.ext hb1) | (go_at_call 39; refine (c39.out _ E1).mono ?_; rintro e w2 ⟨rfl, hb2⟩; have E2 := (E1.ext hb2).alloc (.cells #[.int .i64 (f).kind, .int .i64 (f).width, .int .i64 (f).man, .int .i64 (f).bias, .int .u64 (f).top, .int .u64 (f).inf, .int .u64 (f).nan] 40); have F2 := Blk.new w2 40 #[.int .i64 (f).kind, .int .i64 (f).width, .int .i64 (f).man, .int .i64 (f).bias, .int .u64 (f).top, .int .u64 (f).inf, .int .u64 (f).nan]) | (go_at_call 40; (with_reducible refine (c40.out (w2.alloc _)).mono ?_); rintro e w3 ⟨rfl, hb3⟩; have E3 := E2.ext hb3; have F3 := F2.ext hb3; have cF3 := F3.cell) | (go_at_call 40; (with_reducible refine (c40.out w3).mono ?_); rintro e w4 ⟨rfl, hb4⟩; have E4 := E3.ext hb4; have F4 := F3.ext hb4) | (go_at_call 33; (with_reducible refine (c33.out w4 E4).mono ?_); rintro e w5 ⟨rfl, hb5⟩; have E5 := E4.ext hb5; have F5 := F4.ext hb5) | (go_at_call 33; (with_reducible refine (d33.out w5 E5).mono ?_); rintro e w6 ⟨rfl, hb6⟩; have F6 := F5.ext hb6; have cF6 := F6.cell))
  go_region_with (go_at_call 41; (with_reducible refine (c41.out _).mono ?_); rintro e w7 ⟨rfl, hb7⟩; first | (have F7 := F6.drew.ext hb7; have cF7 := F7.cell) | skip)
  all_goals go_wp2_with fail
  all_goals go_ret
  all_goals exact ⟨rfl, by (repeat (first | (with_reducible exact Ext.refl _) | (with_reducible assumption) | (with_reducible refine Ext.drew ?_) | (with_reducible refine Ext.drewN ?_ _) | (with_reducible refine Ext.alloc ?_ _) | (with_reducible refine Ext.setCell ?_ (Nat.le_refl _) _) | (with_reducible refine Ext.setCell ?_ (by simp; try omega) _) | (with_reducible refine Ext.trans ?_ (by with_reducible assumption))))⟩

set_option maxRecDepth 100000 in
set_option maxHeartbeats 3200000 in
theorem orders_ttt (i : Int) (m p q P Q M S x y k n : Nat) (er es : Int) (a b : Bool) (f : Frm) (hm : m < 4) (hi : bits BinOp.and IntKind.i64 i 3 = (m : Int)) (hP : bits BinOp.and IntKind.u64 (p : Int) (M : Int) = P) (hQ : bits BinOp.and IntKind.u64 (q : Int) (M : Int) = Q) (hx : bits BinOp.xor IntKind.u64 (P : Int) (S : Int) = x) (hy : bits BinOp.xor IntKind.u64 (Q : Int) (S : Int) = y) (o1 : decide (x < y) = true) (o2 : decide ((x : Int) < (y : Int)) = true) (o3 : decide (n < k) = true) (o4 : decide ((n : Int) < (k : Int)) = true)
    (c39 : Hid (∀ W, Env W → Calls Tryd.prog 39 #[.int .i64 (1 + (m : Int))] W fun e w' => e = .returned (.tuple #[.agg #[.int .i64 (f).kind, .int .i64 (f).width, .int .i64 (f).man, .int .i64 (f).bias, .int .u64 (f).top, .int .u64 (f).inf, .int .u64 (f).nan], .int .i64 0]) ∧ Ext W w'))
    (c40 : Hid (∀ W, Calls Tryd.prog 40 #[.agg #[.int .i64 (f).kind, .int .i64 (f).width, .int .i64 (f).man, .int .i64 (f).bias, .int .u64 (f).top, .int .u64 (f).inf, .int .u64 (f).nan]] W fun e w' => e = .returned (.int .u64 M) ∧ Ext W w'))
    (c33 : Hid (∀ W, Env W → Calls Tryd.prog 33 #[.int .i64 (1 + (m : Int)), .int .u64 P] W fun e w' => e = .returned (.tuple #[.bool true, .int .u64 k, .int .i64 0]) ∧ Ext W w'))
    (d33 : Hid (∀ W, Env W → Calls Tryd.prog 33 #[.int .i64 (1 + (m : Int)), .int .u64 Q] W fun e w' => e = .returned (.tuple #[.bool true, .int .u64 n, .int .i64 0]) ∧ Ext W w'))
    (c41 : Hid (∀ W, Calls Tryd.prog 41 #[.agg #[.int .i64 (f).kind, .int .i64 (f).width, .int .i64 (f).man, .int .i64 (f).bias, .int .u64 (f).top, .int .u64 (f).inf, .int .u64 (f).nan]] W fun e w' => e = .returned (.int .u64 S) ∧ Ext W w'))
    (w : World) (hE : Env w) :
    Calls Tryd.prog 8 #[.int .i64 i, .int .u64 p, .int .u64 q] w fun e w' => e = .returned (.bool true) ∧ Ext w w' := by
  have c25 := Lib.hid (fun W h => shown_any W h)
  go_enter Tryd.func8, Tryd.ntmps8
  go_upto_region 17 with (first | (go_at_call 25; refine (c25.out _ hE).mono ?_; rintro e w1 ⟨rfl, hb1⟩; have E1 := hE.ext hb1) | (go_at_call 39; refine (c39.out _ E1).mono ?_; rintro e w2 ⟨rfl, hb2⟩; have E2 := (E1.ext hb2).alloc (.cells #[.int .i64 (f).kind, .int .i64 (f).width, .int .i64 (f).man, .int .i64 (f).bias, .int .u64 (f).top, .int .u64 (f).inf, .int .u64 (f).nan] 40); have F2 := Blk.new w2 40 #[.int .i64 (f).kind, .int .i64 (f).width, .int .i64 (f).man, .int .i64 (f).bias, .int .u64 (f).top, .int .u64 (f).inf, .int .u64 (f).nan]) | (go_at_call 40; (with_reducible refine (c40.out (w2.alloc _)).mono ?_); rintro e w3 ⟨rfl, hb3⟩; have E3 := E2.ext hb3; have F3 := F2.ext hb3; have cF3 := F3.cell) | (go_at_call 40; (with_reducible refine (c40.out w3).mono ?_); rintro e w4 ⟨rfl, hb4⟩; have E4 := E3.ext hb4; have F4 := F3.ext hb4) | (go_at_call 33; (with_reducible refine (c33.out w4 E4).mono ?_); rintro e w5 ⟨rfl, hb5⟩; have E5 := E4.ext hb5; have F5 := F4.ext hb5) | (go_at_call 33; (with_reducible refine (d33.out w5 E5).mono ?_); rintro e w6 ⟨rfl, hb6⟩; have F6 := F5.ext hb6; have cF6 := F6.cell))
  go_region_with (go_at_call 41; (with_reducible refine (c41.out _).mono ?_); rintro e w7 ⟨rfl, hb7⟩; first | (have F7 := F6.drew.ext hb7; have cF7 := F7.cell) | skip)
  all_goals go_wp2_with fail
  all_goals go_ret
  all_goals exact ⟨rfl, by (repeat (first | (with_reducible exact Ext.refl _) | (with_reducible assumption) | (with_reducible refine Ext.drew ?_) | (with_reducible refine Ext.drewN ?_ _) | (with_reducible refine Ext.alloc ?_ _) | (with_reducible refine Ext.setCell ?_ (Nat.le_refl _) _) | (with_reducible refine Ext.setCell ?_ (by simp; try omega) _) | (with_reducible refine Ext.trans ?_ (by with_reducible assumption))))⟩

set_option maxRecDepth 100000 in
set_option maxHeartbeats 3200000 in
theorem orders_ttf (i : Int) (m p q P Q M S x y k n : Nat) (er es : Int) (a b : Bool) (f : Frm) (hm : m < 4) (hi : bits BinOp.and IntKind.i64 i 3 = (m : Int)) (hP : bits BinOp.and IntKind.u64 (p : Int) (M : Int) = P) (hQ : bits BinOp.and IntKind.u64 (q : Int) (M : Int) = Q) (hx : bits BinOp.xor IntKind.u64 (P : Int) (S : Int) = x) (hy : bits BinOp.xor IntKind.u64 (Q : Int) (S : Int) = y) (o1 : decide (x < y) = false) (o2 : decide ((x : Int) < (y : Int)) = false) (o3 : decide (n < k) = false) (o4 : decide ((n : Int) < (k : Int)) = false)
    (c39 : Hid (∀ W, Env W → Calls Tryd.prog 39 #[.int .i64 (1 + (m : Int))] W fun e w' => e = .returned (.tuple #[.agg #[.int .i64 (f).kind, .int .i64 (f).width, .int .i64 (f).man, .int .i64 (f).bias, .int .u64 (f).top, .int .u64 (f).inf, .int .u64 (f).nan], .int .i64 0]) ∧ Ext W w'))
    (c40 : Hid (∀ W, Calls Tryd.prog 40 #[.agg #[.int .i64 (f).kind, .int .i64 (f).width, .int .i64 (f).man, .int .i64 (f).bias, .int .u64 (f).top, .int .u64 (f).inf, .int .u64 (f).nan]] W fun e w' => e = .returned (.int .u64 M) ∧ Ext W w'))
    (c33 : Hid (∀ W, Env W → Calls Tryd.prog 33 #[.int .i64 (1 + (m : Int)), .int .u64 P] W fun e w' => e = .returned (.tuple #[.bool true, .int .u64 k, .int .i64 0]) ∧ Ext W w'))
    (d33 : Hid (∀ W, Env W → Calls Tryd.prog 33 #[.int .i64 (1 + (m : Int)), .int .u64 Q] W fun e w' => e = .returned (.tuple #[.bool true, .int .u64 n, .int .i64 0]) ∧ Ext W w'))
    (c41 : Hid (∀ W, Calls Tryd.prog 41 #[.agg #[.int .i64 (f).kind, .int .i64 (f).width, .int .i64 (f).man, .int .i64 (f).bias, .int .u64 (f).top, .int .u64 (f).inf, .int .u64 (f).nan]] W fun e w' => e = .returned (.int .u64 S) ∧ Ext W w'))
    (w : World) (hE : Env w) :
    Calls Tryd.prog 8 #[.int .i64 i, .int .u64 p, .int .u64 q] w fun e w' => e = .returned (.bool true) ∧ Ext w w' := by
  have c25 := Lib.hid (fun W h => shown_any W h)
  go_enter Tryd.func8, Tryd.ntmps8
  go_upto_region 17 with (first | (go_at_call 25; refine (c25.out _ hE).mono ?_; rintro e w1 ⟨rfl, hb1⟩; have E1 := hE.ext hb1) | (go_at_call 39; refine (c39.out _ E1).mono ?_; rintro e w2 ⟨rfl, hb2⟩; have E2 := (E1.ext hb2).alloc (.cells #[.int .i64 (f).kind, .int .i64 (f).width, .int .i64 (f).man, .int .i64 (f).bias, .int .u64 (f).top, .int .u64 (f).inf, .int .u64 (f).nan] 40); have F2 := Blk.new w2 40 #[.int .i64 (f).kind, .int .i64 (f).width, .int .i64 (f).man, .int .i64 (f).bias, .int .u64 (f).top, .int .u64 (f).inf, .int .u64 (f).nan]) | (go_at_call 40; (with_reducible refine (c40.out (w2.alloc _)).mono ?_); rintro e w3 ⟨rfl, hb3⟩; have E3 := E2.ext hb3; have F3 := F2.ext hb3; have cF3 := F3.cell) | (go_at_call 40; (with_reducible refine (c40.out w3).mono ?_); rintro e w4 ⟨rfl, hb4⟩; have E4 := E3.ext hb4; have F4 := F3.ext hb4) | (go_at_call 33; (with_reducible refine (c33.out w4 E4).mono ?_); rintro e w5 ⟨rfl, hb5⟩; have E5 := E4.ext hb5; have F5 := F4.ext hb5) | (go_at_call 33; (with_reducible refine (d33.out w5 E5).mono ?_); rintro e w6 ⟨rfl, hb6⟩; have F6 := F5.ext hb6; have cF6 := F6.cell))
  go_region_with (go_at_call 41; (with_reducible refine (c41.out _).mono ?_); rintro e w7 ⟨rfl, hb7⟩; first | (have F7 := F6.drew.ext hb7; have cF7 := F7.cell) | skip)
  all_goals go_wp2_with fail
  all_goals go_ret
  all_goals exact ⟨rfl, by (repeat (first | (with_reducible exact Ext.refl _) | (with_reducible assumption) | (with_reducible refine Ext.drew ?_) | (with_reducible refine Ext.drewN ?_ _) | (with_reducible refine Ext.alloc ?_ _) | (with_reducible refine Ext.setCell ?_ (Nat.le_refl _) _) | (with_reducible refine Ext.setCell ?_ (by simp; try omega) _) | (with_reducible refine Ext.trans ?_ (by with_reducible assumption))))⟩

set_option maxRecDepth 100000 in
set_option maxHeartbeats 3200000 in
theorem orders_fft (i : Int) (m p q P Q M S x y k n : Nat) (er es : Int) (a b : Bool) (f : Frm) (hm : m < 4) (hi : bits BinOp.and IntKind.i64 i 3 = (m : Int)) (hP : bits BinOp.and IntKind.u64 (p : Int) (M : Int) = P) (hQ : bits BinOp.and IntKind.u64 (q : Int) (M : Int) = Q) (hx : bits BinOp.xor IntKind.u64 (P : Int) (S : Int) = x) (hy : bits BinOp.xor IntKind.u64 (Q : Int) (S : Int) = y) (o1 : decide (x < y) = true) (o2 : decide ((x : Int) < (y : Int)) = true) (o3 : decide (k < n) = true) (o4 : decide ((k : Int) < (n : Int)) = true)
    (c39 : Hid (∀ W, Env W → Calls Tryd.prog 39 #[.int .i64 (1 + (m : Int))] W fun e w' => e = .returned (.tuple #[.agg #[.int .i64 (f).kind, .int .i64 (f).width, .int .i64 (f).man, .int .i64 (f).bias, .int .u64 (f).top, .int .u64 (f).inf, .int .u64 (f).nan], .int .i64 0]) ∧ Ext W w'))
    (c40 : Hid (∀ W, Calls Tryd.prog 40 #[.agg #[.int .i64 (f).kind, .int .i64 (f).width, .int .i64 (f).man, .int .i64 (f).bias, .int .u64 (f).top, .int .u64 (f).inf, .int .u64 (f).nan]] W fun e w' => e = .returned (.int .u64 M) ∧ Ext W w'))
    (c33 : Hid (∀ W, Env W → Calls Tryd.prog 33 #[.int .i64 (1 + (m : Int)), .int .u64 P] W fun e w' => e = .returned (.tuple #[.bool false, .int .u64 k, .int .i64 0]) ∧ Ext W w'))
    (d33 : Hid (∀ W, Env W → Calls Tryd.prog 33 #[.int .i64 (1 + (m : Int)), .int .u64 Q] W fun e w' => e = .returned (.tuple #[.bool false, .int .u64 n, .int .i64 0]) ∧ Ext W w'))
    (c41 : Hid (∀ W, Calls Tryd.prog 41 #[.agg #[.int .i64 (f).kind, .int .i64 (f).width, .int .i64 (f).man, .int .i64 (f).bias, .int .u64 (f).top, .int .u64 (f).inf, .int .u64 (f).nan]] W fun e w' => e = .returned (.int .u64 S) ∧ Ext W w'))
    (w : World) (hE : Env w) :
    Calls Tryd.prog 8 #[.int .i64 i, .int .u64 p, .int .u64 q] w fun e w' => e = .returned (.bool true) ∧ Ext w w' := by
  have c25 := Lib.hid (fun W h => shown_any W h)
  go_enter Tryd.func8, Tryd.ntmps8
  go_upto_region 17 with (first | (go_at_call 25; refine (c25.out _ hE).mono ?_; rintro e w1 ⟨rfl, hb1⟩; have E1 := hE.ext hb1) | (go_at_call 39; refine (c39.out _ E1).mono ?_; rintro e w2 ⟨rfl, hb2⟩; have E2 := (E1.ext hb2).alloc (.cells #[.int .i64 (f).kind, .int .i64 (f).width, .int .i64 (f).man, .int .i64 (f).bias, .int .u64 (f).top, .int .u64 (f).inf, .int .u64 (f).nan] 40); have F2 := Blk.new w2 40 #[.int .i64 (f).kind, .int .i64 (f).width, .int .i64 (f).man, .int .i64 (f).bias, .int .u64 (f).top, .int .u64 (f).inf, .int .u64 (f).nan]) | (go_at_call 40; (with_reducible refine (c40.out (w2.alloc _)).mono ?_); rintro e w3 ⟨rfl, hb3⟩; have E3 := E2.ext hb3; have F3 := F2.ext hb3; have cF3 := F3.cell) | (go_at_call 40; (with_reducible refine (c40.out w3).mono ?_); rintro e w4 ⟨rfl, hb4⟩; have E4 := E3.ext hb4; have F4 := F3.ext hb4) | (go_at_call 33; (with_reducible refine (c33.out w4 E4).mono ?_); rintro e w5 ⟨rfl, hb5⟩; have E5 := E4.ext hb5; have F5 := F4.ext hb5) | (go_at_call 33; (with_reducible refine (d33.out w5 E5).mono ?_); rintro e w6 ⟨rfl, hb6⟩; have F6 := F5.ext hb6; have cF6 := F6.cell))
  go_region_with (go_at_call 41; (with_reducible refine (c41.out _).mono ?_); rintro e w7 ⟨rfl, hb7⟩; first | (have F7 := F6.drew.ext hb7; have cF7 := F7.cell) | skip)
  all_goals go_wp2_with fail
  all_goals go_ret
  all_goals exact ⟨rfl, by (repeat (first | (with_reducible exact Ext.refl _) | (with_reducible assumption) | (with_reducible refine Ext.drew ?_) | (with_reducible refine Ext.drewN ?_ _) | (with_reducible refine Ext.alloc ?_ _) | (with_reducible refine Ext.setCell ?_ (Nat.le_refl _) _) | (with_reducible refine Ext.setCell ?_ (by simp; try omega) _) | (with_reducible refine Ext.trans ?_ (by with_reducible assumption))))⟩

set_option maxRecDepth 100000 in
set_option maxHeartbeats 3200000 in
theorem orders_fff (i : Int) (m p q P Q M S x y k n : Nat) (er es : Int) (a b : Bool) (f : Frm) (hm : m < 4) (hi : bits BinOp.and IntKind.i64 i 3 = (m : Int)) (hP : bits BinOp.and IntKind.u64 (p : Int) (M : Int) = P) (hQ : bits BinOp.and IntKind.u64 (q : Int) (M : Int) = Q) (hx : bits BinOp.xor IntKind.u64 (P : Int) (S : Int) = x) (hy : bits BinOp.xor IntKind.u64 (Q : Int) (S : Int) = y) (o1 : decide (x < y) = false) (o2 : decide ((x : Int) < (y : Int)) = false) (o3 : decide (k < n) = false) (o4 : decide ((k : Int) < (n : Int)) = false)
    (c39 : Hid (∀ W, Env W → Calls Tryd.prog 39 #[.int .i64 (1 + (m : Int))] W fun e w' => e = .returned (.tuple #[.agg #[.int .i64 (f).kind, .int .i64 (f).width, .int .i64 (f).man, .int .i64 (f).bias, .int .u64 (f).top, .int .u64 (f).inf, .int .u64 (f).nan], .int .i64 0]) ∧ Ext W w'))
    (c40 : Hid (∀ W, Calls Tryd.prog 40 #[.agg #[.int .i64 (f).kind, .int .i64 (f).width, .int .i64 (f).man, .int .i64 (f).bias, .int .u64 (f).top, .int .u64 (f).inf, .int .u64 (f).nan]] W fun e w' => e = .returned (.int .u64 M) ∧ Ext W w'))
    (c33 : Hid (∀ W, Env W → Calls Tryd.prog 33 #[.int .i64 (1 + (m : Int)), .int .u64 P] W fun e w' => e = .returned (.tuple #[.bool false, .int .u64 k, .int .i64 0]) ∧ Ext W w'))
    (d33 : Hid (∀ W, Env W → Calls Tryd.prog 33 #[.int .i64 (1 + (m : Int)), .int .u64 Q] W fun e w' => e = .returned (.tuple #[.bool false, .int .u64 n, .int .i64 0]) ∧ Ext W w'))
    (c41 : Hid (∀ W, Calls Tryd.prog 41 #[.agg #[.int .i64 (f).kind, .int .i64 (f).width, .int .i64 (f).man, .int .i64 (f).bias, .int .u64 (f).top, .int .u64 (f).inf, .int .u64 (f).nan]] W fun e w' => e = .returned (.int .u64 S) ∧ Ext W w'))
    (w : World) (hE : Env w) :
    Calls Tryd.prog 8 #[.int .i64 i, .int .u64 p, .int .u64 q] w fun e w' => e = .returned (.bool true) ∧ Ext w w' := by
  have c25 := Lib.hid (fun W h => shown_any W h)
  go_enter Tryd.func8, Tryd.ntmps8
  go_upto_region 17 with (first | (go_at_call 25; refine (c25.out _ hE).mono ?_; rintro e w1 ⟨rfl, hb1⟩; have E1 := hE.ext hb1) | (go_at_call 39; refine (c39.out _ E1).mono ?_; rintro e w2 ⟨rfl, hb2⟩; have E2 := (E1.ext hb2).alloc (.cells #[.int .i64 (f).kind, .int .i64 (f).width, .int .i64 (f).man, .int .i64 (f).bias, .int .u64 (f).top, .int .u64 (f).inf, .int .u64 (f).nan] 40); have F2 := Blk.new w2 40 #[.int .i64 (f).kind, .int .i64 (f).width, .int .i64 (f).man, .int .i64 (f).bias, .int .u64 (f).top, .int .u64 (f).inf, .int .u64 (f).nan]) | (go_at_call 40; (with_reducible refine (c40.out (w2.alloc _)).mono ?_); rintro e w3 ⟨rfl, hb3⟩; have E3 := E2.ext hb3; have F3 := F2.ext hb3; have cF3 := F3.cell) | (go_at_call 40; (with_reducible refine (c40.out w3).mono ?_); rintro e w4 ⟨rfl, hb4⟩; have E4 := E3.ext hb4; have F4 := F3.ext hb4) | (go_at_call 33; (with_reducible refine (c33.out w4 E4).mono ?_); rintro e w5 ⟨rfl, hb5⟩; have E5 := E4.ext hb5; have F5 := F4.ext hb5) | (go_at_call 33; (with_reducible refine (d33.out w5 E5).mono ?_); rintro e w6 ⟨rfl, hb6⟩; have F6 := F5.ext hb6; have cF6 := F6.cell))
  go_region_with (go_at_call 41; (with_reducible refine (c41.out _).mono ?_); rintro e w7 ⟨rfl, hb7⟩; first | (have F7 := F6.drew.ext hb7; have cF7 := F7.cell) | skip)
  all_goals go_wp2_with fail
  all_goals go_ret
  all_goals exact ⟨rfl, by (repeat (first | (with_reducible exact Ext.refl _) | (with_reducible assumption) | (with_reducible refine Ext.drew ?_) | (with_reducible refine Ext.drewN ?_ _) | (with_reducible refine Ext.alloc ?_ _) | (with_reducible refine Ext.setCell ?_ (Nat.le_refl _) _) | (with_reducible refine Ext.setCell ?_ (by simp; try omega) _) | (with_reducible refine Ext.trans ?_ (by with_reducible assumption))))⟩

end Go.Proofs.YtogdiobbjlpmoaaDoor

