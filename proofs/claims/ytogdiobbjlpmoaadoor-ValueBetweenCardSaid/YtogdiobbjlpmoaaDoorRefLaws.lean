/- ValueDecodes, ValueKeys, ValueBetween answer true. No condition but that the package variables hold what they are laid with. -/
import Derived.Test.YtogdiobbjlpmoaaDoorRefKey
import Derived.Test.YtogdiobbjlpmoaaDoorRefMag
import Derived.Test.YtogdiobbjlpmoaaDoorRefPat
import Derived.Test.YtogdiobbjlpmoaaDoorShown07
import Derived.Test.YtogdiobbjlpmoaaDoorBackW
namespace Go.Proofs.YtogdiobbjlpmoaaDoor
open Go Go.RowKit Cal

set_option maxRecDepth 100000 in
set_option maxHeartbeats 1600000 in
theorem decodes_any (i : Int) (p : Nat) (hp : p < 18446744073709551616) (w : World) (hE : Env w) :
    Calls Tryd.prog 3 #[.int .i64 i, .int .u64 p] w fun e w' => e = .returned (.bool true) ∧ Ext w w' := by
  have c25 := Lib.hid (fun W h => shown_any W h)
  have c26 := Lib.hid (fun W h => decode_any i p hp W h)
  have c27 := Lib.hid (fun W => rdecode_any i p hp W)
  generalize means i p = v at *
  generalize fitsE i p = er at *
  obtain ⟨vc, vn, vm, ve⟩ := v
  simp only at c26 c27
  go_enter Tryd.func3, Tryd.ntmps3
  go_wp2_with (first | (go_at_call 25; refine (c25.out _ hE).mono ?_; rintro e w1 ⟨rfl, hb1⟩; have E1 := hE.ext hb1) | (go_at_call 26; refine (c26.out _ E1).mono ?_; rintro e w2 ⟨rfl, hb2⟩; have V2 := Blk.new w2 25 #[.int .i64 vc, .bool vn, .int .u64 vm, .int .i64 ve]) | (go_at_call 27; refine (c27.out _).mono ?_; rintro e w3 ⟨rfl, hb3⟩; have V3 := V2.ext hb3; have cV := V3.cell; have lV := V3.lt))
  go_ret
  exact ⟨rfl, by (repeat (first | (with_reducible exact Ext.refl _) | (with_reducible assumption) | (with_reducible refine Ext.drew ?_) | (with_reducible refine Ext.drewN ?_ _) | (with_reducible refine Ext.alloc ?_ _) | (with_reducible refine Ext.setCell ?_ (Nat.le_refl _) _) | (with_reducible refine Ext.setCell ?_ (by simp; try omega) _) | (with_reducible refine Ext.trans ?_ (by with_reducible assumption))))⟩

theorem decodes_args (a0 : Int) (_w0 : (Lit.int .i64 a0).wf = true) (a1 : Int) (w1 : (Lit.int .u64 a1).wf = true) (W : World) (hE : Env W) :
    Calls Tryd.prog 3 #[.int .i64 a0, .int .u64 a1] W fun e w' => e = .returned (.bool true) ∧ Ext W w' := by
  obtain ⟨n, rfl, hn⟩ := u64_nat w1
  exact decodes_any a0 n hn W hE

set_option maxRecDepth 100000 in
set_option maxHeartbeats 1600000 in
theorem betw_any (i : Int) (key : Nat) (hk : key < 18446744073709551616) (w : World) (hE : Env w) :
    Calls Tryd.prog 4 #[.int .i64 i, .int .u64 key] w fun e w' => e = .returned (.bool true) ∧ Ext w w' := by
  have c25 := Lib.hid (fun W h => shown_any W h)
  have c28 := Lib.hid (fun W h => at_any i key hk W h)
  have c29 := Lib.hid (fun W => rat_any i key hk W)
  have c30 := Lib.hid (fun W h => between_any i key W h)
  have c31 := Lib.hid (fun W => rbet_any i key hk W)
  generalize atV i key = v at *
  generalize betV i key = u at *
  obtain ⟨va, vb, vc⟩ := v
  obtain ⟨ua, ub, uc⟩ := u
  simp only at c28 c29 c30 c31
  go_enter Tryd.func4, Tryd.ntmps4
  go_wp2_with (first | (go_at_call 25; refine (c25.out _ hE).mono ?_; rintro e w1 ⟨rfl, hb1⟩; have E1 := hE.ext hb1) | (go_at_call 28; refine (c28.out _ E1).mono ?_; rintro e w2 ⟨rfl, hb2⟩; have E2 := E1.ext hb2) | (go_at_call 29; refine (c29.out _).mono ?_; rintro e w3 ⟨rfl, hb3⟩; have E3 := E2.ext hb3) | (go_at_call 30; refine (c30.out _ E3).mono ?_; rintro e w4 ⟨rfl, hb4⟩) | (go_at_call 31; refine (c31.out _).mono ?_; rintro e w5 ⟨rfl, hb5⟩))
  go_ret
  exact ⟨rfl, by (repeat (first | (with_reducible exact Ext.refl _) | (with_reducible assumption) | (with_reducible refine Ext.drew ?_) | (with_reducible refine Ext.drewN ?_ _) | (with_reducible refine Ext.alloc ?_ _) | (with_reducible refine Ext.setCell ?_ (Nat.le_refl _) _) | (with_reducible refine Ext.setCell ?_ (by simp; try omega) _) | (with_reducible refine Ext.trans ?_ (by with_reducible assumption))))⟩

theorem betw_args (a0 : Int) (_w0 : (Lit.int .i64 a0).wf = true) (a1 : Int) (w1 : (Lit.int .u64 a1).wf = true) (W : World) (hE : Env W) :
    Calls Tryd.prog 4 #[.int .i64 a0, .int .u64 a1] W fun e w' => e = .returned (.bool true) ∧ Ext W w' := by
  obtain ⟨n, rfl, hn⟩ := u64_nat w1
  exact betw_any a0 n hn W hE

set_option maxRecDepth 100000 in
set_option maxHeartbeats 1600000 in
theorem keys_any (i : Int) (p : Nat) (neg : Bool) (key : Nat) (hp : p < 18446744073709551616) (hk : key < 18446744073709551616) (w : World) (hE : Env w) :
    Calls Tryd.prog 6 #[.int .i64 i, .int .u64 p, .bool neg, .int .u64 key] w fun e w' => e = .returned (.bool true) ∧ Ext w w' := by
  have c25 := Lib.hid (fun W h => shown_any W h)
  have c33 := Lib.hid (fun W h => key_any i p hp W h)
  have c34 := Lib.hid (fun W => rkey_any i p hp W)
  have c35 := Lib.hid (fun W h => most_any i neg W h)
  have c36 := Lib.hid (fun W => rmost_any i neg W)
  have c37 := Lib.hid (fun W h => pattern_any i neg key hk W h)
  have c38 := Lib.hid (fun W => rpattern_any i neg key hk W)
  generalize keyV i p = v at *
  generalize mostV i neg = u at *
  generalize patV i neg key = t at *
  obtain ⟨va, vb, vc⟩ := v
  obtain ⟨ua, ub⟩ := u
  obtain ⟨ta, tb⟩ := t
  simp only at c33 c34 c35 c36 c37 c38
  go_enter Tryd.func6, Tryd.ntmps6
  go_wp2_with (first | (go_at_call 25; refine (c25.out _ hE).mono ?_; rintro e w1 ⟨rfl, hb1⟩; have E1 := hE.ext hb1) | (go_at_call 33; refine (c33.out _ E1).mono ?_; rintro e w2 ⟨rfl, hb2⟩; have E2 := E1.ext hb2) | (go_at_call 34; refine (c34.out _).mono ?_; rintro e w3 ⟨rfl, hb3⟩; have E3 := E2.ext hb3) | (go_at_call 35; refine (c35.out _ E3).mono ?_; rintro e w4 ⟨rfl, hb4⟩; have E4 := E3.ext hb4) | (go_at_call 36; refine (c36.out _).mono ?_; rintro e w5 ⟨rfl, hb5⟩; have E5 := E4.ext hb5) | (go_at_call 37; refine (c37.out _ E5).mono ?_; rintro e w6 ⟨rfl, hb6⟩; have E6 := E5.ext hb6) | (go_at_call 38; refine (c38.out _).mono ?_; rintro e w7 ⟨rfl, hb7⟩))
  go_ret
  exact ⟨rfl, by (repeat (first | (with_reducible exact Ext.refl _) | (with_reducible assumption) | (with_reducible refine Ext.drew ?_) | (with_reducible refine Ext.drewN ?_ _) | (with_reducible refine Ext.alloc ?_ _) | (with_reducible refine Ext.setCell ?_ (Nat.le_refl _) _) | (with_reducible refine Ext.setCell ?_ (by simp; try omega) _) | (with_reducible refine Ext.trans ?_ (by with_reducible assumption))))⟩

theorem keys_args (a0 : Int) (_w0 : (Lit.int .i64 a0).wf = true) (a1 : Int) (w1 : (Lit.int .u64 a1).wf = true) (a2 : Bool) (a3 : Int) (w3 : (Lit.int .u64 a3).wf = true) (W : World) (hE : Env W) :
    Calls Tryd.prog 6 #[.int .i64 a0, .int .u64 a1, .bool a2, .int .u64 a3] W fun e w' => e = .returned (.bool true) ∧ Ext W w' := by
  obtain ⟨n, rfl, hn⟩ := u64_nat w1
  obtain ⟨k, rfl, hk⟩ := u64_nat w3
  exact keys_any a0 n a2 k hn hk W hE
end Go.Proofs.YtogdiobbjlpmoaaDoor

