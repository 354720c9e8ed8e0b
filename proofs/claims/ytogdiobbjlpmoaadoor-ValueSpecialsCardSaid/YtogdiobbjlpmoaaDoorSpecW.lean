/- ValueSpecials answers true, whatever the form and the pattern. No condition but that the package variables hold what they are laid with. -/
import Derived.Test.YtogdiobbjlpmoaaDoorShown07
import Derived.Test.YtogdiobbjlpmoaaDoorCanon
import Derived.Test.YtogdiobbjlpmoaaDoorBackW
import Derived.Deep.QuietTactic
import Derived.BigQuiet
import Derived.Deep.Cut
namespace Go.Proofs.YtogdiobbjlpmoaaDoor
open Go Go.RowKit Cal

set_option linter.unusedVariables false
set_option maxRecDepth 100000 in
set_option maxHeartbeats 1600000 in
theorem special_410 (n p c x sg vm : Nat) (ve : Int) (vn : Bool) (f : Frm) (n1 : ((f.nan : Int) != 0) = true) (n2 : ((c : Int) == (f.nan : Int)) = true) (i1 : ((f.inf : Int) != 0) = false)
    (c26 : Hid (∀ W, Env W → Calls Tryd.prog 26 #[.int .i64 n, .int .u64 p] W fun e w' => e = .returned (.tuple #[.agg #[.int .i64 4, .bool vn, .int .u64 0, .int .i64 0], .int .i64 0]) ∧ Ext W w'))
    (c39 : Hid (∀ W, Env W → Calls Tryd.prog 39 #[.int .i64 n] W fun e w' => e = .returned (.tuple #[.agg #[.int .i64 (f).kind, .int .i64 (f).width, .int .i64 (f).man, .int .i64 (f).bias, .int .u64 (f).top, .int .u64 (f).inf, .int .u64 (f).nan], .int .i64 0]) ∧ Ext W w'))
    (c42 : Hid (∀ W, Env W → Calls Tryd.prog 42 #[.int .i64 n, .int .u64 p] W fun e w' => e = .returned (.tuple #[.int .u64 c, .int .i64 0]) ∧ Ext W w'))
    (w : World) (hE : Env w) :
    Calls Tryd.prog 9 #[.int .i64 n, .int .u64 p] w fun e w' => e = .returned (.bool true) ∧ Ext w w' := by
  have c25 := Lib.hid (fun W h => shown_any W h)
  go_enter Tryd.func9, Tryd.ntmps9
  go_wp2_with (first | (go_at_call 25; refine (c25.out _ hE).mono ?_; rintro e w1 ⟨rfl, hb1⟩; have E1 := hE.ext hb1) | (go_at_call 26; refine (c26.out _ E1).mono ?_; rintro e w2 ⟨rfl, hb2⟩; have E2 := (E1.ext hb2).alloc (.cells #[.int .i64 4, .bool vn, .int .u64 0, .int .i64 0] 25); have V2 := Blk.new w2 25 #[.int .i64 4, .bool vn, .int .u64 0, .int .i64 0]) | (go_at_call 39; refine (c39.out _ E2).mono ?_; rintro e w3 ⟨rfl, hb3⟩; have E3 := (E2.ext hb3).alloc (.cells #[.int .i64 (f).kind, .int .i64 (f).width, .int .i64 (f).man, .int .i64 (f).bias, .int .u64 (f).top, .int .u64 (f).inf, .int .u64 (f).nan] 40); have V3 := (V2.ext hb3).alloc (.cells #[.int .i64 (f).kind, .int .i64 (f).width, .int .i64 (f).man, .int .i64 (f).bias, .int .u64 (f).top, .int .u64 (f).inf, .int .u64 (f).nan] 40); have F3 := Blk.new w3 40 #[.int .i64 (f).kind, .int .i64 (f).width, .int .i64 (f).man, .int .i64 (f).bias, .int .u64 (f).top, .int .u64 (f).inf, .int .u64 (f).nan]) | (go_at_call 42; refine (c42.out _ E3).mono ?_; rintro e w4 ⟨rfl, hb4⟩; have V4 := V3.ext hb4; have F4 := F3.ext hb4; have cV4 := V4.cell; have cF4 := F4.cell; have lV4 := V4.lt; have lF4 := F4.lt))
  go_quiet (fail)
  go_wp2_with fail
  go_ret
  exact ⟨rfl, by (repeat (first | (with_reducible exact Ext.refl _) | (with_reducible assumption) | (with_reducible refine Ext.drew ?_) | (with_reducible refine Ext.drewN ?_ _) | (with_reducible refine Ext.alloc ?_ _) | (with_reducible refine Ext.setCell ?_ (Nat.le_refl _) _) | (with_reducible refine Ext.setCell ?_ (by simp; try omega) _) | (with_reducible refine Ext.trans ?_ (by with_reducible assumption))))⟩

set_option maxRecDepth 100000 in
set_option maxHeartbeats 1600000 in
theorem special_412 (n p c x sg vm : Nat) (ve : Int) (vn : Bool) (f : Frm) (n1 : ((f.nan : Int) != 0) = true) (n2 : ((c : Int) == (f.nan : Int)) = true) (i1 : ((f.inf : Int) != 0) = true) (i2 : ((x : Int) == (f.inf : Int)) = false)
    (hx : bits BinOp.andNot IntKind.u64 (p : Int) (sg : Int) = x)
    (c26 : Hid (∀ W, Env W → Calls Tryd.prog 26 #[.int .i64 n, .int .u64 p] W fun e w' => e = .returned (.tuple #[.agg #[.int .i64 4, .bool vn, .int .u64 0, .int .i64 0], .int .i64 0]) ∧ Ext W w'))
    (c39 : Hid (∀ W, Env W → Calls Tryd.prog 39 #[.int .i64 n] W fun e w' => e = .returned (.tuple #[.agg #[.int .i64 (f).kind, .int .i64 (f).width, .int .i64 (f).man, .int .i64 (f).bias, .int .u64 (f).top, .int .u64 (f).inf, .int .u64 (f).nan], .int .i64 0]) ∧ Ext W w'))
    (c42 : Hid (∀ W, Env W → Calls Tryd.prog 42 #[.int .i64 n, .int .u64 p] W fun e w' => e = .returned (.tuple #[.int .u64 c, .int .i64 0]) ∧ Ext W w'))
    (c41 : Hid (∀ W, Calls Tryd.prog 41 #[.agg #[.int .i64 (f).kind, .int .i64 (f).width, .int .i64 (f).man, .int .i64 (f).bias, .int .u64 (f).top, .int .u64 (f).inf, .int .u64 (f).nan]] W fun e w' => e = .returned (.int .u64 sg) ∧ Ext W w'))
    (w : World) (hE : Env w) :
    Calls Tryd.prog 9 #[.int .i64 n, .int .u64 p] w fun e w' => e = .returned (.bool true) ∧ Ext w w' := by
  have c25 := Lib.hid (fun W h => shown_any W h)
  go_enter Tryd.func9, Tryd.ntmps9
  go_upto_region 8 with (first | (go_at_call 25; refine (c25.out _ hE).mono ?_; rintro e w1 ⟨rfl, hb1⟩; have E1 := hE.ext hb1) | (go_at_call 26; refine (c26.out _ E1).mono ?_; rintro e w2 ⟨rfl, hb2⟩; have E2 := (E1.ext hb2).alloc (.cells #[.int .i64 4, .bool vn, .int .u64 0, .int .i64 0] 25); have V2 := Blk.new w2 25 #[.int .i64 4, .bool vn, .int .u64 0, .int .i64 0]) | (go_at_call 39; refine (c39.out _ E2).mono ?_; rintro e w3 ⟨rfl, hb3⟩; have E3 := (E2.ext hb3).alloc (.cells #[.int .i64 (f).kind, .int .i64 (f).width, .int .i64 (f).man, .int .i64 (f).bias, .int .u64 (f).top, .int .u64 (f).inf, .int .u64 (f).nan] 40); have V3 := (V2.ext hb3).alloc (.cells #[.int .i64 (f).kind, .int .i64 (f).width, .int .i64 (f).man, .int .i64 (f).bias, .int .u64 (f).top, .int .u64 (f).inf, .int .u64 (f).nan] 40); have F3 := Blk.new w3 40 #[.int .i64 (f).kind, .int .i64 (f).width, .int .i64 (f).man, .int .i64 (f).bias, .int .u64 (f).top, .int .u64 (f).inf, .int .u64 (f).nan]) | (go_at_call 42; refine (c42.out _ E3).mono ?_; rintro e w4 ⟨rfl, hb4⟩; have V4 := V3.ext hb4; have F4 := F3.ext hb4; have cV4 := V4.cell; have cF4 := F4.cell; have lV4 := V4.lt; have lF4 := F4.lt))
  go_region_with (go_at_call 41; (with_reducible refine (c41.out _).mono ?_); rintro e w5 ⟨rfl, hb5⟩; have V5 := V4.drew.ext hb5; have F5 := F4.drew.ext hb5; have cF5 := F5.cell; have cV5 := V5.cell; have lV5 := V5.lt)
  all_goals go_wp2_with fail
  all_goals go_ret
  all_goals exact ⟨rfl, by (repeat (first | (with_reducible exact Ext.refl _) | (with_reducible assumption) | (with_reducible refine Ext.drew ?_) | (with_reducible refine Ext.drewN ?_ _) | (with_reducible refine Ext.alloc ?_ _) | (with_reducible refine Ext.setCell ?_ (Nat.le_refl _) _) | (with_reducible refine Ext.setCell ?_ (by simp; try omega) _) | (with_reducible refine Ext.trans ?_ (by with_reducible assumption))))⟩

set_option maxRecDepth 100000 in
set_option maxHeartbeats 1600000 in
theorem special_301 (n p c x sg vm : Nat) (ve : Int) (vn : Bool) (f : Frm) (n1 : ((f.nan : Int) != 0) = false) (i1 : ((f.inf : Int) != 0) = true) (i2 : ((x : Int) == (f.inf : Int)) = true)
    (hx : bits BinOp.andNot IntKind.u64 (p : Int) (sg : Int) = x)
    (c26 : Hid (∀ W, Env W → Calls Tryd.prog 26 #[.int .i64 n, .int .u64 p] W fun e w' => e = .returned (.tuple #[.agg #[.int .i64 3, .bool vn, .int .u64 0, .int .i64 0], .int .i64 0]) ∧ Ext W w'))
    (c39 : Hid (∀ W, Env W → Calls Tryd.prog 39 #[.int .i64 n] W fun e w' => e = .returned (.tuple #[.agg #[.int .i64 (f).kind, .int .i64 (f).width, .int .i64 (f).man, .int .i64 (f).bias, .int .u64 (f).top, .int .u64 (f).inf, .int .u64 (f).nan], .int .i64 0]) ∧ Ext W w'))
    (c42 : Hid (∀ W, Env W → Calls Tryd.prog 42 #[.int .i64 n, .int .u64 p] W fun e w' => e = .returned (.tuple #[.int .u64 c, .int .i64 0]) ∧ Ext W w'))
    (c41 : Hid (∀ W, Calls Tryd.prog 41 #[.agg #[.int .i64 (f).kind, .int .i64 (f).width, .int .i64 (f).man, .int .i64 (f).bias, .int .u64 (f).top, .int .u64 (f).inf, .int .u64 (f).nan]] W fun e w' => e = .returned (.int .u64 sg) ∧ Ext W w'))
    (w : World) (hE : Env w) :
    Calls Tryd.prog 9 #[.int .i64 n, .int .u64 p] w fun e w' => e = .returned (.bool true) ∧ Ext w w' := by
  have c25 := Lib.hid (fun W h => shown_any W h)
  go_enter Tryd.func9, Tryd.ntmps9
  go_upto_region 8 with (first | (go_at_call 25; refine (c25.out _ hE).mono ?_; rintro e w1 ⟨rfl, hb1⟩; have E1 := hE.ext hb1) | (go_at_call 26; refine (c26.out _ E1).mono ?_; rintro e w2 ⟨rfl, hb2⟩; have E2 := (E1.ext hb2).alloc (.cells #[.int .i64 3, .bool vn, .int .u64 0, .int .i64 0] 25); have V2 := Blk.new w2 25 #[.int .i64 3, .bool vn, .int .u64 0, .int .i64 0]) | (go_at_call 39; refine (c39.out _ E2).mono ?_; rintro e w3 ⟨rfl, hb3⟩; have E3 := (E2.ext hb3).alloc (.cells #[.int .i64 (f).kind, .int .i64 (f).width, .int .i64 (f).man, .int .i64 (f).bias, .int .u64 (f).top, .int .u64 (f).inf, .int .u64 (f).nan] 40); have V3 := (V2.ext hb3).alloc (.cells #[.int .i64 (f).kind, .int .i64 (f).width, .int .i64 (f).man, .int .i64 (f).bias, .int .u64 (f).top, .int .u64 (f).inf, .int .u64 (f).nan] 40); have F3 := Blk.new w3 40 #[.int .i64 (f).kind, .int .i64 (f).width, .int .i64 (f).man, .int .i64 (f).bias, .int .u64 (f).top, .int .u64 (f).inf, .int .u64 (f).nan]) | (go_at_call 42; refine (c42.out _ E3).mono ?_; rintro e w4 ⟨rfl, hb4⟩; have V4 := V3.ext hb4; have F4 := F3.ext hb4; have cV4 := V4.cell; have cF4 := F4.cell; have lV4 := V4.lt; have lF4 := F4.lt))
  go_region_with (go_at_call 41; (with_reducible refine (c41.out _).mono ?_); rintro e w5 ⟨rfl, hb5⟩; have V5 := V4.drew.ext hb5; have F5 := F4.drew.ext hb5; have cF5 := F5.cell; have cV5 := V5.cell; have lV5 := V5.lt)
  all_goals go_wp2_with fail
  all_goals go_ret
  all_goals exact ⟨rfl, by (repeat (first | (with_reducible exact Ext.refl _) | (with_reducible assumption) | (with_reducible refine Ext.drew ?_) | (with_reducible refine Ext.drewN ?_ _) | (with_reducible refine Ext.alloc ?_ _) | (with_reducible refine Ext.setCell ?_ (Nat.le_refl _) _) | (with_reducible refine Ext.setCell ?_ (by simp; try omega) _) | (with_reducible refine Ext.trans ?_ (by with_reducible assumption))))⟩

set_option maxRecDepth 100000 in
set_option maxHeartbeats 1600000 in
theorem special_321 (n p c x sg vm : Nat) (ve : Int) (vn : Bool) (f : Frm) (n1 : ((f.nan : Int) != 0) = true) (n2 : ((c : Int) == (f.nan : Int)) = false) (i1 : ((f.inf : Int) != 0) = true) (i2 : ((x : Int) == (f.inf : Int)) = true)
    (hx : bits BinOp.andNot IntKind.u64 (p : Int) (sg : Int) = x)
    (c26 : Hid (∀ W, Env W → Calls Tryd.prog 26 #[.int .i64 n, .int .u64 p] W fun e w' => e = .returned (.tuple #[.agg #[.int .i64 3, .bool vn, .int .u64 0, .int .i64 0], .int .i64 0]) ∧ Ext W w'))
    (c39 : Hid (∀ W, Env W → Calls Tryd.prog 39 #[.int .i64 n] W fun e w' => e = .returned (.tuple #[.agg #[.int .i64 (f).kind, .int .i64 (f).width, .int .i64 (f).man, .int .i64 (f).bias, .int .u64 (f).top, .int .u64 (f).inf, .int .u64 (f).nan], .int .i64 0]) ∧ Ext W w'))
    (c42 : Hid (∀ W, Env W → Calls Tryd.prog 42 #[.int .i64 n, .int .u64 p] W fun e w' => e = .returned (.tuple #[.int .u64 c, .int .i64 0]) ∧ Ext W w'))
    (c41 : Hid (∀ W, Calls Tryd.prog 41 #[.agg #[.int .i64 (f).kind, .int .i64 (f).width, .int .i64 (f).man, .int .i64 (f).bias, .int .u64 (f).top, .int .u64 (f).inf, .int .u64 (f).nan]] W fun e w' => e = .returned (.int .u64 sg) ∧ Ext W w'))
    (w : World) (hE : Env w) :
    Calls Tryd.prog 9 #[.int .i64 n, .int .u64 p] w fun e w' => e = .returned (.bool true) ∧ Ext w w' := by
  have c25 := Lib.hid (fun W h => shown_any W h)
  go_enter Tryd.func9, Tryd.ntmps9
  go_upto_region 8 with (first | (go_at_call 25; refine (c25.out _ hE).mono ?_; rintro e w1 ⟨rfl, hb1⟩; have E1 := hE.ext hb1) | (go_at_call 26; refine (c26.out _ E1).mono ?_; rintro e w2 ⟨rfl, hb2⟩; have E2 := (E1.ext hb2).alloc (.cells #[.int .i64 3, .bool vn, .int .u64 0, .int .i64 0] 25); have V2 := Blk.new w2 25 #[.int .i64 3, .bool vn, .int .u64 0, .int .i64 0]) | (go_at_call 39; refine (c39.out _ E2).mono ?_; rintro e w3 ⟨rfl, hb3⟩; have E3 := (E2.ext hb3).alloc (.cells #[.int .i64 (f).kind, .int .i64 (f).width, .int .i64 (f).man, .int .i64 (f).bias, .int .u64 (f).top, .int .u64 (f).inf, .int .u64 (f).nan] 40); have V3 := (V2.ext hb3).alloc (.cells #[.int .i64 (f).kind, .int .i64 (f).width, .int .i64 (f).man, .int .i64 (f).bias, .int .u64 (f).top, .int .u64 (f).inf, .int .u64 (f).nan] 40); have F3 := Blk.new w3 40 #[.int .i64 (f).kind, .int .i64 (f).width, .int .i64 (f).man, .int .i64 (f).bias, .int .u64 (f).top, .int .u64 (f).inf, .int .u64 (f).nan]) | (go_at_call 42; refine (c42.out _ E3).mono ?_; rintro e w4 ⟨rfl, hb4⟩; have V4 := V3.ext hb4; have F4 := F3.ext hb4; have cV4 := V4.cell; have cF4 := F4.cell; have lV4 := V4.lt; have lF4 := F4.lt))
  go_region_with (go_at_call 41; (with_reducible refine (c41.out _).mono ?_); rintro e w5 ⟨rfl, hb5⟩; have V5 := V4.drew.ext hb5; have F5 := F4.drew.ext hb5; have cF5 := F5.cell; have cV5 := V5.cell; have lV5 := V5.lt)
  all_goals go_wp2_with fail
  all_goals go_ret
  all_goals exact ⟨rfl, by (repeat (first | (with_reducible exact Ext.refl _) | (with_reducible assumption) | (with_reducible refine Ext.drew ?_) | (with_reducible refine Ext.drewN ?_ _) | (with_reducible refine Ext.alloc ?_ _) | (with_reducible refine Ext.setCell ?_ (Nat.le_refl _) _) | (with_reducible refine Ext.setCell ?_ (by simp; try omega) _) | (with_reducible refine Ext.trans ?_ (by with_reducible assumption))))⟩

set_option maxRecDepth 100000 in
set_option maxHeartbeats 1600000 in
theorem special_100 (n p c x sg vm : Nat) (ve : Int) (vn : Bool) (f : Frm) (n1 : ((f.nan : Int) != 0) = false) (i1 : ((f.inf : Int) != 0) = false)
    (c26 : Hid (∀ W, Env W → Calls Tryd.prog 26 #[.int .i64 n, .int .u64 p] W fun e w' => e = .returned (.tuple #[.agg #[.int .i64 1, .bool vn, .int .u64 0, .int .i64 0], .int .i64 0]) ∧ Ext W w'))
    (c39 : Hid (∀ W, Env W → Calls Tryd.prog 39 #[.int .i64 n] W fun e w' => e = .returned (.tuple #[.agg #[.int .i64 (f).kind, .int .i64 (f).width, .int .i64 (f).man, .int .i64 (f).bias, .int .u64 (f).top, .int .u64 (f).inf, .int .u64 (f).nan], .int .i64 0]) ∧ Ext W w'))
    (c42 : Hid (∀ W, Env W → Calls Tryd.prog 42 #[.int .i64 n, .int .u64 p] W fun e w' => e = .returned (.tuple #[.int .u64 c, .int .i64 0]) ∧ Ext W w'))
    (w : World) (hE : Env w) :
    Calls Tryd.prog 9 #[.int .i64 n, .int .u64 p] w fun e w' => e = .returned (.bool true) ∧ Ext w w' := by
  have c25 := Lib.hid (fun W h => shown_any W h)
  go_enter Tryd.func9, Tryd.ntmps9
  go_wp2_with (first | (go_at_call 25; refine (c25.out _ hE).mono ?_; rintro e w1 ⟨rfl, hb1⟩; have E1 := hE.ext hb1) | (go_at_call 26; refine (c26.out _ E1).mono ?_; rintro e w2 ⟨rfl, hb2⟩; have E2 := (E1.ext hb2).alloc (.cells #[.int .i64 1, .bool vn, .int .u64 0, .int .i64 0] 25); have V2 := Blk.new w2 25 #[.int .i64 1, .bool vn, .int .u64 0, .int .i64 0]) | (go_at_call 39; refine (c39.out _ E2).mono ?_; rintro e w3 ⟨rfl, hb3⟩; have E3 := (E2.ext hb3).alloc (.cells #[.int .i64 (f).kind, .int .i64 (f).width, .int .i64 (f).man, .int .i64 (f).bias, .int .u64 (f).top, .int .u64 (f).inf, .int .u64 (f).nan] 40); have V3 := (V2.ext hb3).alloc (.cells #[.int .i64 (f).kind, .int .i64 (f).width, .int .i64 (f).man, .int .i64 (f).bias, .int .u64 (f).top, .int .u64 (f).inf, .int .u64 (f).nan] 40); have F3 := Blk.new w3 40 #[.int .i64 (f).kind, .int .i64 (f).width, .int .i64 (f).man, .int .i64 (f).bias, .int .u64 (f).top, .int .u64 (f).inf, .int .u64 (f).nan]) | (go_at_call 42; refine (c42.out _ E3).mono ?_; rintro e w4 ⟨rfl, hb4⟩; have V4 := V3.ext hb4; have F4 := F3.ext hb4; have cV4 := V4.cell; have cF4 := F4.cell; have lV4 := V4.lt; have lF4 := F4.lt))
  go_quiet (fail)
  go_wp2_with fail
  go_ret
  exact ⟨rfl, by (repeat (first | (with_reducible exact Ext.refl _) | (with_reducible assumption) | (with_reducible refine Ext.drew ?_) | (with_reducible refine Ext.drewN ?_ _) | (with_reducible refine Ext.alloc ?_ _) | (with_reducible refine Ext.setCell ?_ (Nat.le_refl _) _) | (with_reducible refine Ext.setCell ?_ (by simp; try omega) _) | (with_reducible refine Ext.trans ?_ (by with_reducible assumption))))⟩

set_option maxRecDepth 100000 in
set_option maxHeartbeats 1600000 in
theorem special_102 (n p c x sg vm : Nat) (ve : Int) (vn : Bool) (f : Frm) (n1 : ((f.nan : Int) != 0) = false) (i1 : ((f.inf : Int) != 0) = true) (i2 : ((x : Int) == (f.inf : Int)) = false)
    (hx : bits BinOp.andNot IntKind.u64 (p : Int) (sg : Int) = x)
    (c26 : Hid (∀ W, Env W → Calls Tryd.prog 26 #[.int .i64 n, .int .u64 p] W fun e w' => e = .returned (.tuple #[.agg #[.int .i64 1, .bool vn, .int .u64 0, .int .i64 0], .int .i64 0]) ∧ Ext W w'))
    (c39 : Hid (∀ W, Env W → Calls Tryd.prog 39 #[.int .i64 n] W fun e w' => e = .returned (.tuple #[.agg #[.int .i64 (f).kind, .int .i64 (f).width, .int .i64 (f).man, .int .i64 (f).bias, .int .u64 (f).top, .int .u64 (f).inf, .int .u64 (f).nan], .int .i64 0]) ∧ Ext W w'))
    (c42 : Hid (∀ W, Env W → Calls Tryd.prog 42 #[.int .i64 n, .int .u64 p] W fun e w' => e = .returned (.tuple #[.int .u64 c, .int .i64 0]) ∧ Ext W w'))
    (c41 : Hid (∀ W, Calls Tryd.prog 41 #[.agg #[.int .i64 (f).kind, .int .i64 (f).width, .int .i64 (f).man, .int .i64 (f).bias, .int .u64 (f).top, .int .u64 (f).inf, .int .u64 (f).nan]] W fun e w' => e = .returned (.int .u64 sg) ∧ Ext W w'))
    (w : World) (hE : Env w) :
    Calls Tryd.prog 9 #[.int .i64 n, .int .u64 p] w fun e w' => e = .returned (.bool true) ∧ Ext w w' := by
  have c25 := Lib.hid (fun W h => shown_any W h)
  go_enter Tryd.func9, Tryd.ntmps9
  go_upto_region 8 with (first | (go_at_call 25; refine (c25.out _ hE).mono ?_; rintro e w1 ⟨rfl, hb1⟩; have E1 := hE.ext hb1) | (go_at_call 26; refine (c26.out _ E1).mono ?_; rintro e w2 ⟨rfl, hb2⟩; have E2 := (E1.ext hb2).alloc (.cells #[.int .i64 1, .bool vn, .int .u64 0, .int .i64 0] 25); have V2 := Blk.new w2 25 #[.int .i64 1, .bool vn, .int .u64 0, .int .i64 0]) | (go_at_call 39; refine (c39.out _ E2).mono ?_; rintro e w3 ⟨rfl, hb3⟩; have E3 := (E2.ext hb3).alloc (.cells #[.int .i64 (f).kind, .int .i64 (f).width, .int .i64 (f).man, .int .i64 (f).bias, .int .u64 (f).top, .int .u64 (f).inf, .int .u64 (f).nan] 40); have V3 := (V2.ext hb3).alloc (.cells #[.int .i64 (f).kind, .int .i64 (f).width, .int .i64 (f).man, .int .i64 (f).bias, .int .u64 (f).top, .int .u64 (f).inf, .int .u64 (f).nan] 40); have F3 := Blk.new w3 40 #[.int .i64 (f).kind, .int .i64 (f).width, .int .i64 (f).man, .int .i64 (f).bias, .int .u64 (f).top, .int .u64 (f).inf, .int .u64 (f).nan]) | (go_at_call 42; refine (c42.out _ E3).mono ?_; rintro e w4 ⟨rfl, hb4⟩; have V4 := V3.ext hb4; have F4 := F3.ext hb4; have cV4 := V4.cell; have cF4 := F4.cell; have lV4 := V4.lt; have lF4 := F4.lt))
  go_region_with (go_at_call 41; (with_reducible refine (c41.out _).mono ?_); rintro e w5 ⟨rfl, hb5⟩; have V5 := V4.drew.ext hb5; have F5 := F4.drew.ext hb5; have cF5 := F5.cell; have cV5 := V5.cell; have lV5 := V5.lt)
  all_goals go_wp2_with fail
  all_goals go_ret
  all_goals exact ⟨rfl, by (repeat (first | (with_reducible exact Ext.refl _) | (with_reducible assumption) | (with_reducible refine Ext.drew ?_) | (with_reducible refine Ext.drewN ?_ _) | (with_reducible refine Ext.alloc ?_ _) | (with_reducible refine Ext.setCell ?_ (Nat.le_refl _) _) | (with_reducible refine Ext.setCell ?_ (by simp; try omega) _) | (with_reducible refine Ext.trans ?_ (by with_reducible assumption))))⟩

set_option maxRecDepth 100000 in
set_option maxHeartbeats 1600000 in
theorem special_120 (n p c x sg vm : Nat) (ve : Int) (vn : Bool) (f : Frm) (n1 : ((f.nan : Int) != 0) = true) (n2 : ((c : Int) == (f.nan : Int)) = false) (i1 : ((f.inf : Int) != 0) = false)
    (c26 : Hid (∀ W, Env W → Calls Tryd.prog 26 #[.int .i64 n, .int .u64 p] W fun e w' => e = .returned (.tuple #[.agg #[.int .i64 1, .bool vn, .int .u64 0, .int .i64 0], .int .i64 0]) ∧ Ext W w'))
    (c39 : Hid (∀ W, Env W → Calls Tryd.prog 39 #[.int .i64 n] W fun e w' => e = .returned (.tuple #[.agg #[.int .i64 (f).kind, .int .i64 (f).width, .int .i64 (f).man, .int .i64 (f).bias, .int .u64 (f).top, .int .u64 (f).inf, .int .u64 (f).nan], .int .i64 0]) ∧ Ext W w'))
    (c42 : Hid (∀ W, Env W → Calls Tryd.prog 42 #[.int .i64 n, .int .u64 p] W fun e w' => e = .returned (.tuple #[.int .u64 c, .int .i64 0]) ∧ Ext W w'))
    (w : World) (hE : Env w) :
    Calls Tryd.prog 9 #[.int .i64 n, .int .u64 p] w fun e w' => e = .returned (.bool true) ∧ Ext w w' := by
  have c25 := Lib.hid (fun W h => shown_any W h)
  go_enter Tryd.func9, Tryd.ntmps9
  go_wp2_with (first | (go_at_call 25; refine (c25.out _ hE).mono ?_; rintro e w1 ⟨rfl, hb1⟩; have E1 := hE.ext hb1) | (go_at_call 26; refine (c26.out _ E1).mono ?_; rintro e w2 ⟨rfl, hb2⟩; have E2 := (E1.ext hb2).alloc (.cells #[.int .i64 1, .bool vn, .int .u64 0, .int .i64 0] 25); have V2 := Blk.new w2 25 #[.int .i64 1, .bool vn, .int .u64 0, .int .i64 0]) | (go_at_call 39; refine (c39.out _ E2).mono ?_; rintro e w3 ⟨rfl, hb3⟩; have E3 := (E2.ext hb3).alloc (.cells #[.int .i64 (f).kind, .int .i64 (f).width, .int .i64 (f).man, .int .i64 (f).bias, .int .u64 (f).top, .int .u64 (f).inf, .int .u64 (f).nan] 40); have V3 := (V2.ext hb3).alloc (.cells #[.int .i64 (f).kind, .int .i64 (f).width, .int .i64 (f).man, .int .i64 (f).bias, .int .u64 (f).top, .int .u64 (f).inf, .int .u64 (f).nan] 40); have F3 := Blk.new w3 40 #[.int .i64 (f).kind, .int .i64 (f).width, .int .i64 (f).man, .int .i64 (f).bias, .int .u64 (f).top, .int .u64 (f).inf, .int .u64 (f).nan]) | (go_at_call 42; refine (c42.out _ E3).mono ?_; rintro e w4 ⟨rfl, hb4⟩; have V4 := V3.ext hb4; have F4 := F3.ext hb4; have cV4 := V4.cell; have cF4 := F4.cell; have lV4 := V4.lt; have lF4 := F4.lt))
  go_quiet (fail)
  go_wp2_with fail
  go_ret
  exact ⟨rfl, by (repeat (first | (with_reducible exact Ext.refl _) | (with_reducible assumption) | (with_reducible refine Ext.drew ?_) | (with_reducible refine Ext.drewN ?_ _) | (with_reducible refine Ext.alloc ?_ _) | (with_reducible refine Ext.setCell ?_ (Nat.le_refl _) _) | (with_reducible refine Ext.setCell ?_ (by simp; try omega) _) | (with_reducible refine Ext.trans ?_ (by with_reducible assumption))))⟩

set_option maxRecDepth 100000 in
set_option maxHeartbeats 1600000 in
theorem special_122 (n p c x sg vm : Nat) (ve : Int) (vn : Bool) (f : Frm) (n1 : ((f.nan : Int) != 0) = true) (n2 : ((c : Int) == (f.nan : Int)) = false) (i1 : ((f.inf : Int) != 0) = true) (i2 : ((x : Int) == (f.inf : Int)) = false)
    (hx : bits BinOp.andNot IntKind.u64 (p : Int) (sg : Int) = x)
    (c26 : Hid (∀ W, Env W → Calls Tryd.prog 26 #[.int .i64 n, .int .u64 p] W fun e w' => e = .returned (.tuple #[.agg #[.int .i64 1, .bool vn, .int .u64 0, .int .i64 0], .int .i64 0]) ∧ Ext W w'))
    (c39 : Hid (∀ W, Env W → Calls Tryd.prog 39 #[.int .i64 n] W fun e w' => e = .returned (.tuple #[.agg #[.int .i64 (f).kind, .int .i64 (f).width, .int .i64 (f).man, .int .i64 (f).bias, .int .u64 (f).top, .int .u64 (f).inf, .int .u64 (f).nan], .int .i64 0]) ∧ Ext W w'))
    (c42 : Hid (∀ W, Env W → Calls Tryd.prog 42 #[.int .i64 n, .int .u64 p] W fun e w' => e = .returned (.tuple #[.int .u64 c, .int .i64 0]) ∧ Ext W w'))
    (c41 : Hid (∀ W, Calls Tryd.prog 41 #[.agg #[.int .i64 (f).kind, .int .i64 (f).width, .int .i64 (f).man, .int .i64 (f).bias, .int .u64 (f).top, .int .u64 (f).inf, .int .u64 (f).nan]] W fun e w' => e = .returned (.int .u64 sg) ∧ Ext W w'))
    (w : World) (hE : Env w) :
    Calls Tryd.prog 9 #[.int .i64 n, .int .u64 p] w fun e w' => e = .returned (.bool true) ∧ Ext w w' := by
  have c25 := Lib.hid (fun W h => shown_any W h)
  go_enter Tryd.func9, Tryd.ntmps9
  go_upto_region 8 with (first | (go_at_call 25; refine (c25.out _ hE).mono ?_; rintro e w1 ⟨rfl, hb1⟩; have E1 := hE.ext hb1) | (go_at_call 26; refine (c26.out _ E1).mono ?_; rintro e w2 ⟨rfl, hb2⟩; have E2 := (E1.ext hb2).alloc (.cells #[.int .i64 1, .bool vn, .int .u64 0, .int .i64 0] 25); have V2 := Blk.new w2 25 #[.int .i64 1, .bool vn, .int .u64 0, .int .i64 0]) | (go_at_call 39; refine (c39.out _ E2).mono ?_; rintro e w3 ⟨rfl, hb3⟩; have E3 := (E2.ext hb3).alloc (.cells #[.int .i64 (f).kind, .int .i64 (f).width, .int .i64 (f).man, .int .i64 (f).bias, .int .u64 (f).top, .int .u64 (f).inf, .int .u64 (f).nan] 40); have V3 := (V2.ext hb3).alloc (.cells #[.int .i64 (f).kind, .int .i64 (f).width, .int .i64 (f).man, .int .i64 (f).bias, .int .u64 (f).top, .int .u64 (f).inf, .int .u64 (f).nan] 40); have F3 := Blk.new w3 40 #[.int .i64 (f).kind, .int .i64 (f).width, .int .i64 (f).man, .int .i64 (f).bias, .int .u64 (f).top, .int .u64 (f).inf, .int .u64 (f).nan]) | (go_at_call 42; refine (c42.out _ E3).mono ?_; rintro e w4 ⟨rfl, hb4⟩; have V4 := V3.ext hb4; have F4 := F3.ext hb4; have cV4 := V4.cell; have cF4 := F4.cell; have lV4 := V4.lt; have lF4 := F4.lt))
  go_region_with (go_at_call 41; (with_reducible refine (c41.out _).mono ?_); rintro e w5 ⟨rfl, hb5⟩; have V5 := V4.drew.ext hb5; have F5 := F4.drew.ext hb5; have cF5 := F5.cell; have cV5 := V5.cell; have lV5 := V5.lt)
  all_goals go_wp2_with fail
  all_goals go_ret
  all_goals exact ⟨rfl, by (repeat (first | (with_reducible exact Ext.refl _) | (with_reducible assumption) | (with_reducible refine Ext.drew ?_) | (with_reducible refine Ext.drewN ?_ _) | (with_reducible refine Ext.alloc ?_ _) | (with_reducible refine Ext.setCell ?_ (Nat.le_refl _) _) | (with_reducible refine Ext.setCell ?_ (by simp; try omega) _) | (with_reducible refine Ext.trans ?_ (by with_reducible assumption))))⟩

set_option maxRecDepth 100000 in
set_option maxHeartbeats 1600000 in
theorem special_200 (n p c x sg vm : Nat) (ve : Int) (vn : Bool) (f : Frm) (n1 : ((f.nan : Int) != 0) = false) (i1 : ((f.inf : Int) != 0) = false)
    (c26 : Hid (∀ W, Env W → Calls Tryd.prog 26 #[.int .i64 n, .int .u64 p] W fun e w' => e = .returned (.tuple #[.agg #[.int .i64 2, .bool vn, .int .u64 vm, .int .i64 ve], .int .i64 0]) ∧ Ext W w'))
    (c39 : Hid (∀ W, Env W → Calls Tryd.prog 39 #[.int .i64 n] W fun e w' => e = .returned (.tuple #[.agg #[.int .i64 (f).kind, .int .i64 (f).width, .int .i64 (f).man, .int .i64 (f).bias, .int .u64 (f).top, .int .u64 (f).inf, .int .u64 (f).nan], .int .i64 0]) ∧ Ext W w'))
    (c42 : Hid (∀ W, Env W → Calls Tryd.prog 42 #[.int .i64 n, .int .u64 p] W fun e w' => e = .returned (.tuple #[.int .u64 c, .int .i64 0]) ∧ Ext W w'))
    (w : World) (hE : Env w) :
    Calls Tryd.prog 9 #[.int .i64 n, .int .u64 p] w fun e w' => e = .returned (.bool true) ∧ Ext w w' := by
  have c25 := Lib.hid (fun W h => shown_any W h)
  go_enter Tryd.func9, Tryd.ntmps9
  go_wp2_with (first | (go_at_call 25; refine (c25.out _ hE).mono ?_; rintro e w1 ⟨rfl, hb1⟩; have E1 := hE.ext hb1) | (go_at_call 26; refine (c26.out _ E1).mono ?_; rintro e w2 ⟨rfl, hb2⟩; have E2 := (E1.ext hb2).alloc (.cells #[.int .i64 2, .bool vn, .int .u64 vm, .int .i64 ve] 25); have V2 := Blk.new w2 25 #[.int .i64 2, .bool vn, .int .u64 vm, .int .i64 ve]) | (go_at_call 39; refine (c39.out _ E2).mono ?_; rintro e w3 ⟨rfl, hb3⟩; have E3 := (E2.ext hb3).alloc (.cells #[.int .i64 (f).kind, .int .i64 (f).width, .int .i64 (f).man, .int .i64 (f).bias, .int .u64 (f).top, .int .u64 (f).inf, .int .u64 (f).nan] 40); have V3 := (V2.ext hb3).alloc (.cells #[.int .i64 (f).kind, .int .i64 (f).width, .int .i64 (f).man, .int .i64 (f).bias, .int .u64 (f).top, .int .u64 (f).inf, .int .u64 (f).nan] 40); have F3 := Blk.new w3 40 #[.int .i64 (f).kind, .int .i64 (f).width, .int .i64 (f).man, .int .i64 (f).bias, .int .u64 (f).top, .int .u64 (f).inf, .int .u64 (f).nan]) | (go_at_call 42; refine (c42.out _ E3).mono ?_; rintro e w4 ⟨rfl, hb4⟩; have V4 := V3.ext hb4; have F4 := F3.ext hb4; have cV4 := V4.cell; have cF4 := F4.cell; have lV4 := V4.lt; have lF4 := F4.lt))
  go_quiet (fail)
  go_wp2_with fail
  go_ret
  exact ⟨rfl, by (repeat (first | (with_reducible exact Ext.refl _) | (with_reducible assumption) | (with_reducible refine Ext.drew ?_) | (with_reducible refine Ext.drewN ?_ _) | (with_reducible refine Ext.alloc ?_ _) | (with_reducible refine Ext.setCell ?_ (Nat.le_refl _) _) | (with_reducible refine Ext.setCell ?_ (by simp; try omega) _) | (with_reducible refine Ext.trans ?_ (by with_reducible assumption))))⟩

set_option maxRecDepth 100000 in
set_option maxHeartbeats 1600000 in
theorem special_202 (n p c x sg vm : Nat) (ve : Int) (vn : Bool) (f : Frm) (n1 : ((f.nan : Int) != 0) = false) (i1 : ((f.inf : Int) != 0) = true) (i2 : ((x : Int) == (f.inf : Int)) = false)
    (hx : bits BinOp.andNot IntKind.u64 (p : Int) (sg : Int) = x)
    (c26 : Hid (∀ W, Env W → Calls Tryd.prog 26 #[.int .i64 n, .int .u64 p] W fun e w' => e = .returned (.tuple #[.agg #[.int .i64 2, .bool vn, .int .u64 vm, .int .i64 ve], .int .i64 0]) ∧ Ext W w'))
    (c39 : Hid (∀ W, Env W → Calls Tryd.prog 39 #[.int .i64 n] W fun e w' => e = .returned (.tuple #[.agg #[.int .i64 (f).kind, .int .i64 (f).width, .int .i64 (f).man, .int .i64 (f).bias, .int .u64 (f).top, .int .u64 (f).inf, .int .u64 (f).nan], .int .i64 0]) ∧ Ext W w'))
    (c42 : Hid (∀ W, Env W → Calls Tryd.prog 42 #[.int .i64 n, .int .u64 p] W fun e w' => e = .returned (.tuple #[.int .u64 c, .int .i64 0]) ∧ Ext W w'))
    (c41 : Hid (∀ W, Calls Tryd.prog 41 #[.agg #[.int .i64 (f).kind, .int .i64 (f).width, .int .i64 (f).man, .int .i64 (f).bias, .int .u64 (f).top, .int .u64 (f).inf, .int .u64 (f).nan]] W fun e w' => e = .returned (.int .u64 sg) ∧ Ext W w'))
    (w : World) (hE : Env w) :
    Calls Tryd.prog 9 #[.int .i64 n, .int .u64 p] w fun e w' => e = .returned (.bool true) ∧ Ext w w' := by
  have c25 := Lib.hid (fun W h => shown_any W h)
  go_enter Tryd.func9, Tryd.ntmps9
  go_upto_region 8 with (first | (go_at_call 25; refine (c25.out _ hE).mono ?_; rintro e w1 ⟨rfl, hb1⟩; have E1 := hE.ext hb1) | (go_at_call 26; refine (c26.out _ E1).mono ?_; rintro e w2 ⟨rfl, hb2⟩; have E2 := (E1.ext hb2).alloc (.cells #[.int .i64 2, .bool vn, .int .u64 vm, .int .i64 ve] 25); have V2 := Blk.new w2 25 #[.int .i64 2, .bool vn, .int .u64 vm, .int .i64 ve]) | (go_at_call 39; refine (c39.out _ E2).mono ?_; rintro e w3 ⟨rfl, hb3⟩; have E3 := (E2.ext hb3).alloc (.cells #[.int .i64 (f).kind, .int .i64 (f).width, .int .i64 (f).man, .int .i64 (f).bias, .int .u64 (f).top, .int .u64 (f).inf, .int .u64 (f).nan] 40); have V3 := (V2.ext hb3).alloc (.cells #[.int .i64 (f).kind, .int .i64 (f).width, .int .i64 (f).man, .int .i64 (f).bias, .int .u64 (f).top, .int .u64 (f).inf, .int .u64 (f).nan] 40); have F3 := Blk.new w3 40 #[.int .i64 (f).kind, .int .i64 (f).width, .int .i64 (f).man, .int .i64 (f).bias, .int .u64 (f).top, .int .u64 (f).inf, .int .u64 (f).nan]) | (go_at_call 42; refine (c42.out _ E3).mono ?_; rintro e w4 ⟨rfl, hb4⟩; have V4 := V3.ext hb4; have F4 := F3.ext hb4; have cV4 := V4.cell; have cF4 := F4.cell; have lV4 := V4.lt; have lF4 := F4.lt))
  go_region_with (go_at_call 41; (with_reducible refine (c41.out _).mono ?_); rintro e w5 ⟨rfl, hb5⟩; have V5 := V4.drew.ext hb5; have F5 := F4.drew.ext hb5; have cF5 := F5.cell; have cV5 := V5.cell; have lV5 := V5.lt)
  all_goals go_wp2_with fail
  all_goals go_ret
  all_goals exact ⟨rfl, by (repeat (first | (with_reducible exact Ext.refl _) | (with_reducible assumption) | (with_reducible refine Ext.drew ?_) | (with_reducible refine Ext.drewN ?_ _) | (with_reducible refine Ext.alloc ?_ _) | (with_reducible refine Ext.setCell ?_ (Nat.le_refl _) _) | (with_reducible refine Ext.setCell ?_ (by simp; try omega) _) | (with_reducible refine Ext.trans ?_ (by with_reducible assumption))))⟩

set_option maxRecDepth 100000 in
set_option maxHeartbeats 1600000 in
theorem special_220 (n p c x sg vm : Nat) (ve : Int) (vn : Bool) (f : Frm) (n1 : ((f.nan : Int) != 0) = true) (n2 : ((c : Int) == (f.nan : Int)) = false) (i1 : ((f.inf : Int) != 0) = false)
    (c26 : Hid (∀ W, Env W → Calls Tryd.prog 26 #[.int .i64 n, .int .u64 p] W fun e w' => e = .returned (.tuple #[.agg #[.int .i64 2, .bool vn, .int .u64 vm, .int .i64 ve], .int .i64 0]) ∧ Ext W w'))
    (c39 : Hid (∀ W, Env W → Calls Tryd.prog 39 #[.int .i64 n] W fun e w' => e = .returned (.tuple #[.agg #[.int .i64 (f).kind, .int .i64 (f).width, .int .i64 (f).man, .int .i64 (f).bias, .int .u64 (f).top, .int .u64 (f).inf, .int .u64 (f).nan], .int .i64 0]) ∧ Ext W w'))
    (c42 : Hid (∀ W, Env W → Calls Tryd.prog 42 #[.int .i64 n, .int .u64 p] W fun e w' => e = .returned (.tuple #[.int .u64 c, .int .i64 0]) ∧ Ext W w'))
    (w : World) (hE : Env w) :
    Calls Tryd.prog 9 #[.int .i64 n, .int .u64 p] w fun e w' => e = .returned (.bool true) ∧ Ext w w' := by
  have c25 := Lib.hid (fun W h => shown_any W h)
  go_enter Tryd.func9, Tryd.ntmps9
  go_wp2_with (first | (go_at_call 25; refine (c25.out _ hE).mono ?_; rintro e w1 ⟨rfl, hb1⟩; have E1 := hE.ext hb1) | (go_at_call 26; refine (c26.out _ E1).mono ?_; rintro e w2 ⟨rfl, hb2⟩; have E2 := (E1.ext hb2).alloc (.cells #[.int .i64 2, .bool vn, .int .u64 vm, .int .i64 ve] 25); have V2 := Blk.new w2 25 #[.int .i64 2, .bool vn, .int .u64 vm, .int .i64 ve]) | (go_at_call 39; refine (c39.out _ E2).mono ?_; rintro e w3 ⟨rfl, hb3⟩; have E3 := (E2.ext hb3).alloc (.cells #[.int .i64 (f).kind, .int .i64 (f).width, .int .i64 (f).man, .int .i64 (f).bias, .int .u64 (f).top, .int .u64 (f).inf, .int .u64 (f).nan] 40); have V3 := (V2.ext hb3).alloc (.cells #[.int .i64 (f).kind, .int .i64 (f).width, .int .i64 (f).man, .int .i64 (f).bias, .int .u64 (f).top, .int .u64 (f).inf, .int .u64 (f).nan] 40); have F3 := Blk.new w3 40 #[.int .i64 (f).kind, .int .i64 (f).width, .int .i64 (f).man, .int .i64 (f).bias, .int .u64 (f).top, .int .u64 (f).inf, .int .u64 (f).nan]) | (go_at_call 42; refine (c42.out _ E3).mono ?_; rintro e w4 ⟨rfl, hb4⟩; have V4 := V3.ext hb4; have F4 := F3.ext hb4; have cV4 := V4.cell; have cF4 := F4.cell; have lV4 := V4.lt; have lF4 := F4.lt))
  go_quiet (fail)
  go_wp2_with fail
  go_ret
  exact ⟨rfl, by (repeat (first | (with_reducible exact Ext.refl _) | (with_reducible assumption) | (with_reducible refine Ext.drew ?_) | (with_reducible refine Ext.drewN ?_ _) | (with_reducible refine Ext.alloc ?_ _) | (with_reducible refine Ext.setCell ?_ (Nat.le_refl _) _) | (with_reducible refine Ext.setCell ?_ (by simp; try omega) _) | (with_reducible refine Ext.trans ?_ (by with_reducible assumption))))⟩

set_option maxRecDepth 100000 in
set_option maxHeartbeats 1600000 in
theorem special_222 (n p c x sg vm : Nat) (ve : Int) (vn : Bool) (f : Frm) (n1 : ((f.nan : Int) != 0) = true) (n2 : ((c : Int) == (f.nan : Int)) = false) (i1 : ((f.inf : Int) != 0) = true) (i2 : ((x : Int) == (f.inf : Int)) = false)
    (hx : bits BinOp.andNot IntKind.u64 (p : Int) (sg : Int) = x)
    (c26 : Hid (∀ W, Env W → Calls Tryd.prog 26 #[.int .i64 n, .int .u64 p] W fun e w' => e = .returned (.tuple #[.agg #[.int .i64 2, .bool vn, .int .u64 vm, .int .i64 ve], .int .i64 0]) ∧ Ext W w'))
    (c39 : Hid (∀ W, Env W → Calls Tryd.prog 39 #[.int .i64 n] W fun e w' => e = .returned (.tuple #[.agg #[.int .i64 (f).kind, .int .i64 (f).width, .int .i64 (f).man, .int .i64 (f).bias, .int .u64 (f).top, .int .u64 (f).inf, .int .u64 (f).nan], .int .i64 0]) ∧ Ext W w'))
    (c42 : Hid (∀ W, Env W → Calls Tryd.prog 42 #[.int .i64 n, .int .u64 p] W fun e w' => e = .returned (.tuple #[.int .u64 c, .int .i64 0]) ∧ Ext W w'))
    (c41 : Hid (∀ W, Calls Tryd.prog 41 #[.agg #[.int .i64 (f).kind, .int .i64 (f).width, .int .i64 (f).man, .int .i64 (f).bias, .int .u64 (f).top, .int .u64 (f).inf, .int .u64 (f).nan]] W fun e w' => e = .returned (.int .u64 sg) ∧ Ext W w'))
    (w : World) (hE : Env w) :
    Calls Tryd.prog 9 #[.int .i64 n, .int .u64 p] w fun e w' => e = .returned (.bool true) ∧ Ext w w' := by
  have c25 := Lib.hid (fun W h => shown_any W h)
  go_enter Tryd.func9, Tryd.ntmps9
  go_upto_region 8 with (first | (go_at_call 25; refine (c25.out _ hE).mono ?_; rintro e w1 ⟨rfl, hb1⟩; have E1 := hE.ext hb1) | (go_at_call 26; refine (c26.out _ E1).mono ?_; rintro e w2 ⟨rfl, hb2⟩; have E2 := (E1.ext hb2).alloc (.cells #[.int .i64 2, .bool vn, .int .u64 vm, .int .i64 ve] 25); have V2 := Blk.new w2 25 #[.int .i64 2, .bool vn, .int .u64 vm, .int .i64 ve]) | (go_at_call 39; refine (c39.out _ E2).mono ?_; rintro e w3 ⟨rfl, hb3⟩; have E3 := (E2.ext hb3).alloc (.cells #[.int .i64 (f).kind, .int .i64 (f).width, .int .i64 (f).man, .int .i64 (f).bias, .int .u64 (f).top, .int .u64 (f).inf, .int .u64 (f).nan] 40); have V3 := (V2.ext hb3).alloc (.cells #[.int .i64 (f).kind, .int .i64 (f).width, .int .i64 (f).man, .int .i64 (f).bias, .int .u64 (f).top, .int .u64 (f).inf, .int .u64 (f).nan] 40); have F3 := Blk.new w3 40 #[.int .i64 (f).kind, .int .i64 (f).width, .int .i64 (f).man, .int .i64 (f).bias, .int .u64 (f).top, .int .u64 (f).inf, .int .u64 (f).nan]) | (go_at_call 42; refine (c42.out _ E3).mono ?_; rintro e w4 ⟨rfl, hb4⟩; have V4 := V3.ext hb4; have F4 := F3.ext hb4; have cV4 := V4.cell; have cF4 := F4.cell; have lV4 := V4.lt; have lF4 := F4.lt))
  go_region_with (go_at_call 41; (with_reducible refine (c41.out _).mono ?_); rintro e w5 ⟨rfl, hb5⟩; have V5 := V4.drew.ext hb5; have F5 := F4.drew.ext hb5; have cF5 := F5.cell; have cV5 := V5.cell; have lV5 := V5.lt)
  all_goals go_wp2_with fail
  all_goals go_ret
  all_goals exact ⟨rfl, by (repeat (first | (with_reducible exact Ext.refl _) | (with_reducible assumption) | (with_reducible refine Ext.drew ?_) | (with_reducible refine Ext.drewN ?_ _) | (with_reducible refine Ext.alloc ?_ _) | (with_reducible refine Ext.setCell ?_ (Nat.le_refl _) _) | (with_reducible refine Ext.setCell ?_ (by simp; try omega) _) | (with_reducible refine Ext.trans ?_ (by with_reducible assumption))))⟩

end Go.Proofs.YtogdiobbjlpmoaaDoor

