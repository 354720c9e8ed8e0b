/- ValueTurned answers true, whatever the form and the pattern. No condition but that the package variables hold what they are laid with. -/
import Derived.Test.YtogdiobbjlpmoaaDoorShown07
import Derived.Test.YtogdiobbjlpmoaaDoorTurn
import Derived.Test.YtogdiobbjlpmoaaDoorBackW
namespace Go.Proofs.YtogdiobbjlpmoaaDoor
open Go Go.RowKit Cal

set_option maxRecDepth 100000 in
set_option maxHeartbeats 1600000 in
theorem turned_err (i : Int) (p : Nat) (hp : p < 18446744073709551616) (he : (keyV i p).2.2 ≠ 0) (w : World) (hE : Env w) :
    Calls Tryd.prog 7 #[.int .i64 i, .int .u64 p] w fun e w' => e = .returned (.bool true) ∧ Ext w w' := by
  have c25 := Lib.hid (fun W h => shown_any W h)
  have c33 := Lib.hid (fun W h => key_any i p hp W h)
  have d1 : (((keyV i p).2.2 : Int) != 0) = true := by rw [bne_iff_ne]; exact he
  generalize keyV i p = kv at *
  obtain ⟨ng, key, er⟩ := kv
  simp only at d1 c33
  clear he
  go_enter Tryd.func7, Tryd.ntmps7
  go_wp2_with (first | (go_at_call 25; refine (c25.out _ hE).mono ?_; rintro e w1 ⟨rfl, hb1⟩; have E1 := hE.ext hb1) | (go_at_call 33; refine (c33.out _ E1).mono ?_; rintro e w2 ⟨rfl, hb2⟩; have E2 := E1.ext hb2))
  go_ret
  exact ⟨rfl, by (repeat (first | (with_reducible exact Ext.refl _) | (with_reducible assumption) | (with_reducible refine Ext.drew ?_) | (with_reducible refine Ext.drewN ?_ _) | (with_reducible refine Ext.alloc ?_ _) | (with_reducible refine Ext.setCell ?_ (Nat.le_refl _) _) | (with_reducible refine Ext.setCell ?_ (by simp; try omega) _) | (with_reducible refine Ext.trans ?_ (by with_reducible assumption))))⟩

set_option maxRecDepth 100000 in
set_option maxHeartbeats 1600000 in
/-- There is none of the other sign. -/
theorem turned_none (n p key : Nat) (ng : Bool) (f : Frm) (er : Int) (her : er ≠ 0) (hno : f.kind = 4 ∨ (f.kind = 3 ∧ ng = true ∧ f.top < key))
    (c33 : Hid (∀ W, Env W → Calls Tryd.prog 33 #[.int .i64 n, .int .u64 p] W fun e w' => e = .returned (.tuple #[.bool ng, .int .u64 key, .int .i64 0]) ∧ Ext W w'))
    (c39 : Hid (∀ W, Env W → Calls Tryd.prog 39 #[.int .i64 n] W fun e w' => e = .returned (.tuple #[.agg #[.int .i64 (f).kind, .int .i64 (f).width, .int .i64 (f).man, .int .i64 (f).bias, .int .u64 (f).top, .int .u64 (f).inf, .int .u64 (f).nan], .int .i64 0]) ∧ Ext W w'))
    (c37 : Hid (∀ W, Env W → Calls Tryd.prog 37 #[.int .i64 n, .bool (!ng), .int .u64 key] W fun e w' => e = .returned (.tuple #[.int .u64 0, .int .i64 er]) ∧ Ext W w')) (w : World) (hE : Env w) :
    Calls Tryd.prog 7 #[.int .i64 n, .int .u64 p] w fun e w' => e = .returned (.bool true) ∧ Ext w w' := by
  have c25 := Lib.hid (fun W h => shown_any W h)
  have d1 : ((er : Int) != 0) = true := by rw [bne_iff_ne]; exact her
  by_cases k4 : f.kind = 4
  · have d4 : ((f.kind : Int) == 4) = true := btrue (b := 4) k4
    clear her hno k4
    go_enter Tryd.func7, Tryd.ntmps7
    go_wp2_with (first | (go_at_call 25; refine (c25.out _ hE).mono ?_; rintro e w1 ⟨rfl, hb1⟩; have E1 := hE.ext hb1) | (go_at_call 33; refine (c33.out _ E1).mono ?_; rintro e w2 ⟨rfl, hb2⟩; have E2 := E1.ext hb2) | (go_at_call 39; refine (c39.out _ E2).mono ?_; rintro e w3 ⟨rfl, hb3⟩; have E3 := (E2.ext hb3).alloc (.cells #[.int .i64 (f).kind, .int .i64 (f).width, .int .i64 (f).man, .int .i64 (f).bias, .int .u64 (f).top, .int .u64 (f).inf, .int .u64 (f).nan] 40); have F3 := Blk.new w3 40 #[.int .i64 (f).kind, .int .i64 (f).width, .int .i64 (f).man, .int .i64 (f).bias, .int .u64 (f).top, .int .u64 (f).inf, .int .u64 (f).nan]) | (go_at_call 37; refine (c37.out _ E3).mono ?_; rintro e w4 ⟨rfl, hb4⟩; have F4 := F3.ext hb4; have cF := F4.cell))
    go_ret
    exact ⟨rfl, by (repeat (first | (with_reducible exact Ext.refl _) | (with_reducible assumption) | (with_reducible refine Ext.drew ?_) | (with_reducible refine Ext.drewN ?_ _) | (with_reducible refine Ext.alloc ?_ _) | (with_reducible refine Ext.setCell ?_ (Nat.le_refl _) _) | (with_reducible refine Ext.setCell ?_ (by simp; try omega) _) | (with_reducible refine Ext.trans ?_ (by with_reducible assumption))))⟩
  · have h3 : f.kind = 3 ∧ ng = true ∧ f.top < key := by
      rcases hno with h | h
      · exact absurd h k4
      · exact h
    obtain ⟨k3, rfl, ht⟩ := h3
    have d4 : ((f.kind : Int) == 4) = false := bfalse (b := 4) k4
    have d3 : ((f.kind : Int) == 3) = true := btrue (b := 3) k3
    have d5 : decide ((f.top : Int) < (key : Int)) = true := decide_eq_true (by omega)
    clear her hno k4 k3
    go_enter Tryd.func7, Tryd.ntmps7
    go_wp2_with (first | (go_at_call 25; refine (c25.out _ hE).mono ?_; rintro e w1 ⟨rfl, hb1⟩; have E1 := hE.ext hb1) | (go_at_call 33; refine (c33.out _ E1).mono ?_; rintro e w2 ⟨rfl, hb2⟩; have E2 := E1.ext hb2) | (go_at_call 39; refine (c39.out _ E2).mono ?_; rintro e w3 ⟨rfl, hb3⟩; have E3 := (E2.ext hb3).alloc (.cells #[.int .i64 (f).kind, .int .i64 (f).width, .int .i64 (f).man, .int .i64 (f).bias, .int .u64 (f).top, .int .u64 (f).inf, .int .u64 (f).nan] 40); have F3 := Blk.new w3 40 #[.int .i64 (f).kind, .int .i64 (f).width, .int .i64 (f).man, .int .i64 (f).bias, .int .u64 (f).top, .int .u64 (f).inf, .int .u64 (f).nan]) | (go_at_call 37; refine (c37.out _ E3).mono ?_; rintro e w4 ⟨rfl, hb4⟩; have F4 := F3.ext hb4; have cF := F4.cell))
    go_ret
    exact ⟨rfl, by (repeat (first | (with_reducible exact Ext.refl _) | (with_reducible assumption) | (with_reducible refine Ext.drew ?_) | (with_reducible refine Ext.drewN ?_ _) | (with_reducible refine Ext.alloc ?_ _) | (with_reducible refine Ext.setCell ?_ (Nat.le_refl _) _) | (with_reducible refine Ext.setCell ?_ (by simp; try omega) _) | (with_reducible refine Ext.trans ?_ (by with_reducible assumption))))⟩

set_option maxRecDepth 100000 in
set_option maxHeartbeats 3200000 in
/-- There is one of the other sign, and it means the same size. -/
theorem turned_some (n p key q : Nat) (ng : Bool) (f : Frm) (v u : Val) (hm : u.m = v.m) (he : u.e = v.e) (hc : u.cls = v.cls) (hsg : u.neg ≠ v.neg ∨ (v.cls = 1 ∧ f.kind ≠ 2)) (k4 : f.kind ≠ 4) (k3 : f.kind = 3 → ng = true → ¬ f.top < key)
    (c33 : Hid (∀ W, Env W → Calls Tryd.prog 33 #[.int .i64 n, .int .u64 p] W fun e w' => e = .returned (.tuple #[.bool ng, .int .u64 key, .int .i64 0]) ∧ Ext W w'))
    (c39 : Hid (∀ W, Env W → Calls Tryd.prog 39 #[.int .i64 n] W fun e w' => e = .returned (.tuple #[.agg #[.int .i64 (f).kind, .int .i64 (f).width, .int .i64 (f).man, .int .i64 (f).bias, .int .u64 (f).top, .int .u64 (f).inf, .int .u64 (f).nan], .int .i64 0]) ∧ Ext W w'))
    (c37 : Hid (∀ W, Env W → Calls Tryd.prog 37 #[.int .i64 n, .bool (!ng), .int .u64 key] W fun e w' => e = .returned (.tuple #[.int .u64 q, .int .i64 0]) ∧ Ext W w'))
    (c26 : Hid (∀ W, Env W → Calls Tryd.prog 26 #[.int .i64 n, .int .u64 p] W fun e w' => e = .returned (.tuple #[.agg #[.int .i64 v.cls, .bool v.neg, .int .u64 v.m, .int .i64 v.e], .int .i64 0]) ∧ Ext W w'))
    (d26 : Hid (∀ W, Env W → Calls Tryd.prog 26 #[.int .i64 n, .int .u64 q] W fun e w' => e = .returned (.tuple #[.agg #[.int .i64 u.cls, .bool u.neg, .int .u64 u.m, .int .i64 u.e], .int .i64 0]) ∧ Ext W w')) (w : World) (hE : Env w) :
    Calls Tryd.prog 7 #[.int .i64 n, .int .u64 p] w fun e w' => e = .returned (.bool true) ∧ Ext w w' := by
  have c25 := Lib.hid (fun W h => shown_any W h)
  have d4 : ((f.kind : Int) == 4) = false := bfalse (b := 4) k4
  obtain ⟨vc, vn, vm, ve⟩ := v
  obtain ⟨uc, un, um, ue⟩ := u
  simp only at hm he hc hsg c26 d26
  subst hm he hc
  have hpart : (f.kind = 3 ∧ ng = true ∧ decide (f.top < key) = false) ∨ (f.kind = 3 ∧ ng = false) ∨ f.kind ≠ 3 := by
    by_cases h3 : f.kind = 3
    · cases ng with
      | false => exact .inr (.inl ⟨h3, rfl⟩)
      | true => exact .inl ⟨h3, rfl, decide_eq_false (k3 h3 rfl)⟩
    · exact .inr (.inr h3)
  have hsg2 : (un = true ∧ vn = false) ∨ (un = false ∧ vn = true) ∨ (un = vn ∧ ((uc : Int) == 1) = true ∧ ((f.kind : Int) != 2) = true) := by
    by_cases h : un = vn
    · rcases hsg with h' | h'
      · exact absurd h h'
      · exact .inr (.inr ⟨h, btrue (b := 1) h'.1, ntrue (b := 2) h'.2⟩)
    · cases un <;> cases vn <;> simp_all
  clear hsg k3
  rcases hpart with ⟨h3, rfl, d5⟩ | ⟨h3, rfl⟩ | h3
  · have d3 : ((f.kind : Int) == 3) = true := btrue (b := 3) h3
    clear h3 k4
    rcases hsg2 with ⟨rfl, rfl⟩ | ⟨rfl, rfl⟩ | ⟨rfl, e1, e2⟩
    · go_enter Tryd.func7, Tryd.ntmps7
      go_wp2_with (first | (go_at_call 25; refine (c25.out _ hE).mono ?_; rintro e w1 ⟨rfl, hb1⟩; have E1 := hE.ext hb1) | (go_at_call 33; refine (c33.out _ E1).mono ?_; rintro e w2 ⟨rfl, hb2⟩; have E2 := E1.ext hb2) | (go_at_call 39; refine (c39.out _ E2).mono ?_; rintro e w3 ⟨rfl, hb3⟩; have E3 := (E2.ext hb3).alloc (.cells #[.int .i64 (f).kind, .int .i64 (f).width, .int .i64 (f).man, .int .i64 (f).bias, .int .u64 (f).top, .int .u64 (f).inf, .int .u64 (f).nan] 40); have F3 := Blk.new w3 40 #[.int .i64 (f).kind, .int .i64 (f).width, .int .i64 (f).man, .int .i64 (f).bias, .int .u64 (f).top, .int .u64 (f).inf, .int .u64 (f).nan]) | (go_at_call 37; refine (c37.out _ E3).mono ?_; rintro e w4 ⟨rfl, hb4⟩; have E4 := E3.ext hb4; have F4 := F3.ext hb4; have cF := F4.cell) | (go_at_call 26; (with_reducible refine (c26.out _ E4).mono ?_); rintro e w5 ⟨rfl, hb5⟩; clear cF; have E5 := (E4.ext hb5).alloc (.cells #[.int .i64 uc, .bool false, .int .u64 um, .int .i64 ue] 25); have F5 := (F4.ext hb5).alloc (.cells #[.int .i64 uc, .bool false, .int .u64 um, .int .i64 ue] 25); have V5 := Blk.new w5 25 #[.int .i64 uc, .bool false, .int .u64 um, .int .i64 ue]) | (go_at_call 26; (with_reducible refine (d26.out _ E5).mono ?_); rintro e w6 ⟨rfl, hb6⟩; have F6 := F5.ext hb6; have V6 := V5.ext hb6; have cF6 := F6.cell; have cV6 := V6.cell; have lF := F6.lt; have lV := V6.lt))
      go_ret
      exact ⟨rfl, by (repeat (first | (with_reducible exact Ext.refl _) | (with_reducible assumption) | (with_reducible refine Ext.drew ?_) | (with_reducible refine Ext.drewN ?_ _) | (with_reducible refine Ext.alloc ?_ _) | (with_reducible refine Ext.setCell ?_ (Nat.le_refl _) _) | (with_reducible refine Ext.setCell ?_ (by simp; try omega) _) | (with_reducible refine Ext.trans ?_ (by with_reducible assumption))))⟩
    · go_enter Tryd.func7, Tryd.ntmps7
      go_wp2_with (first | (go_at_call 25; refine (c25.out _ hE).mono ?_; rintro e w1 ⟨rfl, hb1⟩; have E1 := hE.ext hb1) | (go_at_call 33; refine (c33.out _ E1).mono ?_; rintro e w2 ⟨rfl, hb2⟩; have E2 := E1.ext hb2) | (go_at_call 39; refine (c39.out _ E2).mono ?_; rintro e w3 ⟨rfl, hb3⟩; have E3 := (E2.ext hb3).alloc (.cells #[.int .i64 (f).kind, .int .i64 (f).width, .int .i64 (f).man, .int .i64 (f).bias, .int .u64 (f).top, .int .u64 (f).inf, .int .u64 (f).nan] 40); have F3 := Blk.new w3 40 #[.int .i64 (f).kind, .int .i64 (f).width, .int .i64 (f).man, .int .i64 (f).bias, .int .u64 (f).top, .int .u64 (f).inf, .int .u64 (f).nan]) | (go_at_call 37; refine (c37.out _ E3).mono ?_; rintro e w4 ⟨rfl, hb4⟩; have E4 := E3.ext hb4; have F4 := F3.ext hb4; have cF := F4.cell) | (go_at_call 26; (with_reducible refine (c26.out _ E4).mono ?_); rintro e w5 ⟨rfl, hb5⟩; clear cF; have E5 := (E4.ext hb5).alloc (.cells #[.int .i64 uc, .bool true, .int .u64 um, .int .i64 ue] 25); have F5 := (F4.ext hb5).alloc (.cells #[.int .i64 uc, .bool true, .int .u64 um, .int .i64 ue] 25); have V5 := Blk.new w5 25 #[.int .i64 uc, .bool true, .int .u64 um, .int .i64 ue]) | (go_at_call 26; (with_reducible refine (d26.out _ E5).mono ?_); rintro e w6 ⟨rfl, hb6⟩; have F6 := F5.ext hb6; have V6 := V5.ext hb6; have cF6 := F6.cell; have cV6 := V6.cell; have lF := F6.lt; have lV := V6.lt))
      go_ret
      exact ⟨rfl, by (repeat (first | (with_reducible exact Ext.refl _) | (with_reducible assumption) | (with_reducible refine Ext.drew ?_) | (with_reducible refine Ext.drewN ?_ _) | (with_reducible refine Ext.alloc ?_ _) | (with_reducible refine Ext.setCell ?_ (Nat.le_refl _) _) | (with_reducible refine Ext.setCell ?_ (by simp; try omega) _) | (with_reducible refine Ext.trans ?_ (by with_reducible assumption))))⟩
    · go_enter Tryd.func7, Tryd.ntmps7
      go_wp2_with (first | (go_at_call 25; refine (c25.out _ hE).mono ?_; rintro e w1 ⟨rfl, hb1⟩; have E1 := hE.ext hb1) | (go_at_call 33; refine (c33.out _ E1).mono ?_; rintro e w2 ⟨rfl, hb2⟩; have E2 := E1.ext hb2) | (go_at_call 39; refine (c39.out _ E2).mono ?_; rintro e w3 ⟨rfl, hb3⟩; have E3 := (E2.ext hb3).alloc (.cells #[.int .i64 (f).kind, .int .i64 (f).width, .int .i64 (f).man, .int .i64 (f).bias, .int .u64 (f).top, .int .u64 (f).inf, .int .u64 (f).nan] 40); have F3 := Blk.new w3 40 #[.int .i64 (f).kind, .int .i64 (f).width, .int .i64 (f).man, .int .i64 (f).bias, .int .u64 (f).top, .int .u64 (f).inf, .int .u64 (f).nan]) | (go_at_call 37; refine (c37.out _ E3).mono ?_; rintro e w4 ⟨rfl, hb4⟩; have E4 := E3.ext hb4; have F4 := F3.ext hb4; have cF := F4.cell) | (go_at_call 26; (with_reducible refine (c26.out _ E4).mono ?_); rintro e w5 ⟨rfl, hb5⟩; clear cF; have E5 := (E4.ext hb5).alloc (.cells #[.int .i64 uc, .bool un, .int .u64 um, .int .i64 ue] 25); have F5 := (F4.ext hb5).alloc (.cells #[.int .i64 uc, .bool un, .int .u64 um, .int .i64 ue] 25); have V5 := Blk.new w5 25 #[.int .i64 uc, .bool un, .int .u64 um, .int .i64 ue]) | (go_at_call 26; (with_reducible refine (d26.out _ E5).mono ?_); rintro e w6 ⟨rfl, hb6⟩; have F6 := F5.ext hb6; have V6 := V5.ext hb6; have cF6 := F6.cell; have cV6 := V6.cell; have lF := F6.lt; have lV := V6.lt))
      go_ret
      exact ⟨rfl, by (repeat (first | (with_reducible exact Ext.refl _) | (with_reducible assumption) | (with_reducible refine Ext.drew ?_) | (with_reducible refine Ext.drewN ?_ _) | (with_reducible refine Ext.alloc ?_ _) | (with_reducible refine Ext.setCell ?_ (Nat.le_refl _) _) | (with_reducible refine Ext.setCell ?_ (by simp; try omega) _) | (with_reducible refine Ext.trans ?_ (by with_reducible assumption))))⟩
  · have d3 : ((f.kind : Int) == 3) = true := btrue (b := 3) h3
    clear h3 k4
    rcases hsg2 with ⟨rfl, rfl⟩ | ⟨rfl, rfl⟩ | ⟨rfl, e1, e2⟩
    · go_enter Tryd.func7, Tryd.ntmps7
      go_wp2_with (first | (go_at_call 25; refine (c25.out _ hE).mono ?_; rintro e w1 ⟨rfl, hb1⟩; have E1 := hE.ext hb1) | (go_at_call 33; refine (c33.out _ E1).mono ?_; rintro e w2 ⟨rfl, hb2⟩; have E2 := E1.ext hb2) | (go_at_call 39; refine (c39.out _ E2).mono ?_; rintro e w3 ⟨rfl, hb3⟩; have E3 := (E2.ext hb3).alloc (.cells #[.int .i64 (f).kind, .int .i64 (f).width, .int .i64 (f).man, .int .i64 (f).bias, .int .u64 (f).top, .int .u64 (f).inf, .int .u64 (f).nan] 40); have F3 := Blk.new w3 40 #[.int .i64 (f).kind, .int .i64 (f).width, .int .i64 (f).man, .int .i64 (f).bias, .int .u64 (f).top, .int .u64 (f).inf, .int .u64 (f).nan]) | (go_at_call 37; refine (c37.out _ E3).mono ?_; rintro e w4 ⟨rfl, hb4⟩; have E4 := E3.ext hb4; have F4 := F3.ext hb4; have cF := F4.cell) | (go_at_call 26; (with_reducible refine (c26.out _ E4).mono ?_); rintro e w5 ⟨rfl, hb5⟩; clear cF; have E5 := (E4.ext hb5).alloc (.cells #[.int .i64 uc, .bool false, .int .u64 um, .int .i64 ue] 25); have F5 := (F4.ext hb5).alloc (.cells #[.int .i64 uc, .bool false, .int .u64 um, .int .i64 ue] 25); have V5 := Blk.new w5 25 #[.int .i64 uc, .bool false, .int .u64 um, .int .i64 ue]) | (go_at_call 26; (with_reducible refine (d26.out _ E5).mono ?_); rintro e w6 ⟨rfl, hb6⟩; have F6 := F5.ext hb6; have V6 := V5.ext hb6; have cF6 := F6.cell; have cV6 := V6.cell; have lF := F6.lt; have lV := V6.lt))
      go_ret
      exact ⟨rfl, by (repeat (first | (with_reducible exact Ext.refl _) | (with_reducible assumption) | (with_reducible refine Ext.drew ?_) | (with_reducible refine Ext.drewN ?_ _) | (with_reducible refine Ext.alloc ?_ _) | (with_reducible refine Ext.setCell ?_ (Nat.le_refl _) _) | (with_reducible refine Ext.setCell ?_ (by simp; try omega) _) | (with_reducible refine Ext.trans ?_ (by with_reducible assumption))))⟩
    · go_enter Tryd.func7, Tryd.ntmps7
      go_wp2_with (first | (go_at_call 25; refine (c25.out _ hE).mono ?_; rintro e w1 ⟨rfl, hb1⟩; have E1 := hE.ext hb1) | (go_at_call 33; refine (c33.out _ E1).mono ?_; rintro e w2 ⟨rfl, hb2⟩; have E2 := E1.ext hb2) | (go_at_call 39; refine (c39.out _ E2).mono ?_; rintro e w3 ⟨rfl, hb3⟩; have E3 := (E2.ext hb3).alloc (.cells #[.int .i64 (f).kind, .int .i64 (f).width, .int .i64 (f).man, .int .i64 (f).bias, .int .u64 (f).top, .int .u64 (f).inf, .int .u64 (f).nan] 40); have F3 := Blk.new w3 40 #[.int .i64 (f).kind, .int .i64 (f).width, .int .i64 (f).man, .int .i64 (f).bias, .int .u64 (f).top, .int .u64 (f).inf, .int .u64 (f).nan]) | (go_at_call 37; refine (c37.out _ E3).mono ?_; rintro e w4 ⟨rfl, hb4⟩; have E4 := E3.ext hb4; have F4 := F3.ext hb4; have cF := F4.cell) | (go_at_call 26; (with_reducible refine (c26.out _ E4).mono ?_); rintro e w5 ⟨rfl, hb5⟩; clear cF; have E5 := (E4.ext hb5).alloc (.cells #[.int .i64 uc, .bool true, .int .u64 um, .int .i64 ue] 25); have F5 := (F4.ext hb5).alloc (.cells #[.int .i64 uc, .bool true, .int .u64 um, .int .i64 ue] 25); have V5 := Blk.new w5 25 #[.int .i64 uc, .bool true, .int .u64 um, .int .i64 ue]) | (go_at_call 26; (with_reducible refine (d26.out _ E5).mono ?_); rintro e w6 ⟨rfl, hb6⟩; have F6 := F5.ext hb6; have V6 := V5.ext hb6; have cF6 := F6.cell; have cV6 := V6.cell; have lF := F6.lt; have lV := V6.lt))
      go_ret
      exact ⟨rfl, by (repeat (first | (with_reducible exact Ext.refl _) | (with_reducible assumption) | (with_reducible refine Ext.drew ?_) | (with_reducible refine Ext.drewN ?_ _) | (with_reducible refine Ext.alloc ?_ _) | (with_reducible refine Ext.setCell ?_ (Nat.le_refl _) _) | (with_reducible refine Ext.setCell ?_ (by simp; try omega) _) | (with_reducible refine Ext.trans ?_ (by with_reducible assumption))))⟩
    · go_enter Tryd.func7, Tryd.ntmps7
      go_wp2_with (first | (go_at_call 25; refine (c25.out _ hE).mono ?_; rintro e w1 ⟨rfl, hb1⟩; have E1 := hE.ext hb1) | (go_at_call 33; refine (c33.out _ E1).mono ?_; rintro e w2 ⟨rfl, hb2⟩; have E2 := E1.ext hb2) | (go_at_call 39; refine (c39.out _ E2).mono ?_; rintro e w3 ⟨rfl, hb3⟩; have E3 := (E2.ext hb3).alloc (.cells #[.int .i64 (f).kind, .int .i64 (f).width, .int .i64 (f).man, .int .i64 (f).bias, .int .u64 (f).top, .int .u64 (f).inf, .int .u64 (f).nan] 40); have F3 := Blk.new w3 40 #[.int .i64 (f).kind, .int .i64 (f).width, .int .i64 (f).man, .int .i64 (f).bias, .int .u64 (f).top, .int .u64 (f).inf, .int .u64 (f).nan]) | (go_at_call 37; refine (c37.out _ E3).mono ?_; rintro e w4 ⟨rfl, hb4⟩; have E4 := E3.ext hb4; have F4 := F3.ext hb4; have cF := F4.cell) | (go_at_call 26; (with_reducible refine (c26.out _ E4).mono ?_); rintro e w5 ⟨rfl, hb5⟩; clear cF; have E5 := (E4.ext hb5).alloc (.cells #[.int .i64 uc, .bool un, .int .u64 um, .int .i64 ue] 25); have F5 := (F4.ext hb5).alloc (.cells #[.int .i64 uc, .bool un, .int .u64 um, .int .i64 ue] 25); have V5 := Blk.new w5 25 #[.int .i64 uc, .bool un, .int .u64 um, .int .i64 ue]) | (go_at_call 26; (with_reducible refine (d26.out _ E5).mono ?_); rintro e w6 ⟨rfl, hb6⟩; have F6 := F5.ext hb6; have V6 := V5.ext hb6; have cF6 := F6.cell; have cV6 := V6.cell; have lF := F6.lt; have lV := V6.lt))
      go_ret
      exact ⟨rfl, by (repeat (first | (with_reducible exact Ext.refl _) | (with_reducible assumption) | (with_reducible refine Ext.drew ?_) | (with_reducible refine Ext.drewN ?_ _) | (with_reducible refine Ext.alloc ?_ _) | (with_reducible refine Ext.setCell ?_ (Nat.le_refl _) _) | (with_reducible refine Ext.setCell ?_ (by simp; try omega) _) | (with_reducible refine Ext.trans ?_ (by with_reducible assumption))))⟩
  · have d3 : ((f.kind : Int) == 3) = false := bfalse (b := 3) h3
    clear h3 k4
    rcases hsg2 with ⟨rfl, rfl⟩ | ⟨rfl, rfl⟩ | ⟨rfl, e1, e2⟩
    · go_enter Tryd.func7, Tryd.ntmps7
      go_wp2_with (first | (go_at_call 25; refine (c25.out _ hE).mono ?_; rintro e w1 ⟨rfl, hb1⟩; have E1 := hE.ext hb1) | (go_at_call 33; refine (c33.out _ E1).mono ?_; rintro e w2 ⟨rfl, hb2⟩; have E2 := E1.ext hb2) | (go_at_call 39; refine (c39.out _ E2).mono ?_; rintro e w3 ⟨rfl, hb3⟩; have E3 := (E2.ext hb3).alloc (.cells #[.int .i64 (f).kind, .int .i64 (f).width, .int .i64 (f).man, .int .i64 (f).bias, .int .u64 (f).top, .int .u64 (f).inf, .int .u64 (f).nan] 40); have F3 := Blk.new w3 40 #[.int .i64 (f).kind, .int .i64 (f).width, .int .i64 (f).man, .int .i64 (f).bias, .int .u64 (f).top, .int .u64 (f).inf, .int .u64 (f).nan]) | (go_at_call 37; refine (c37.out _ E3).mono ?_; rintro e w4 ⟨rfl, hb4⟩; have E4 := E3.ext hb4; have F4 := F3.ext hb4; have cF := F4.cell) | (go_at_call 26; (with_reducible refine (c26.out _ E4).mono ?_); rintro e w5 ⟨rfl, hb5⟩; clear cF; have E5 := (E4.ext hb5).alloc (.cells #[.int .i64 uc, .bool false, .int .u64 um, .int .i64 ue] 25); have F5 := (F4.ext hb5).alloc (.cells #[.int .i64 uc, .bool false, .int .u64 um, .int .i64 ue] 25); have V5 := Blk.new w5 25 #[.int .i64 uc, .bool false, .int .u64 um, .int .i64 ue]) | (go_at_call 26; (with_reducible refine (d26.out _ E5).mono ?_); rintro e w6 ⟨rfl, hb6⟩; have F6 := F5.ext hb6; have V6 := V5.ext hb6; have cF6 := F6.cell; have cV6 := V6.cell; have lF := F6.lt; have lV := V6.lt))
      go_ret
      exact ⟨rfl, by (repeat (first | (with_reducible exact Ext.refl _) | (with_reducible assumption) | (with_reducible refine Ext.drew ?_) | (with_reducible refine Ext.drewN ?_ _) | (with_reducible refine Ext.alloc ?_ _) | (with_reducible refine Ext.setCell ?_ (Nat.le_refl _) _) | (with_reducible refine Ext.setCell ?_ (by simp; try omega) _) | (with_reducible refine Ext.trans ?_ (by with_reducible assumption))))⟩
    · go_enter Tryd.func7, Tryd.ntmps7
      go_wp2_with (first | (go_at_call 25; refine (c25.out _ hE).mono ?_; rintro e w1 ⟨rfl, hb1⟩; have E1 := hE.ext hb1) | (go_at_call 33; refine (c33.out _ E1).mono ?_; rintro e w2 ⟨rfl, hb2⟩; have E2 := E1.ext hb2) | (go_at_call 39; refine (c39.out _ E2).mono ?_; rintro e w3 ⟨rfl, hb3⟩; have E3 := (E2.ext hb3).alloc (.cells #[.int .i64 (f).kind, .int .i64 (f).width, .int .i64 (f).man, .int .i64 (f).bias, .int .u64 (f).top, .int .u64 (f).inf, .int .u64 (f).nan] 40); have F3 := Blk.new w3 40 #[.int .i64 (f).kind, .int .i64 (f).width, .int .i64 (f).man, .int .i64 (f).bias, .int .u64 (f).top, .int .u64 (f).inf, .int .u64 (f).nan]) | (go_at_call 37; refine (c37.out _ E3).mono ?_; rintro e w4 ⟨rfl, hb4⟩; have E4 := E3.ext hb4; have F4 := F3.ext hb4; have cF := F4.cell) | (go_at_call 26; (with_reducible refine (c26.out _ E4).mono ?_); rintro e w5 ⟨rfl, hb5⟩; clear cF; have E5 := (E4.ext hb5).alloc (.cells #[.int .i64 uc, .bool true, .int .u64 um, .int .i64 ue] 25); have F5 := (F4.ext hb5).alloc (.cells #[.int .i64 uc, .bool true, .int .u64 um, .int .i64 ue] 25); have V5 := Blk.new w5 25 #[.int .i64 uc, .bool true, .int .u64 um, .int .i64 ue]) | (go_at_call 26; (with_reducible refine (d26.out _ E5).mono ?_); rintro e w6 ⟨rfl, hb6⟩; have F6 := F5.ext hb6; have V6 := V5.ext hb6; have cF6 := F6.cell; have cV6 := V6.cell; have lF := F6.lt; have lV := V6.lt))
      go_ret
      exact ⟨rfl, by (repeat (first | (with_reducible exact Ext.refl _) | (with_reducible assumption) | (with_reducible refine Ext.drew ?_) | (with_reducible refine Ext.drewN ?_ _) | (with_reducible refine Ext.alloc ?_ _) | (with_reducible refine Ext.setCell ?_ (Nat.le_refl _) _) | (with_reducible refine Ext.setCell ?_ (by simp; try omega) _) | (with_reducible refine Ext.trans ?_ (by with_reducible assumption))))⟩
    · go_enter Tryd.func7, Tryd.ntmps7
      go_wp2_with (first | (go_at_call 25; refine (c25.out _ hE).mono ?_; rintro e w1 ⟨rfl, hb1⟩; have E1 := hE.ext hb1) | (go_at_call 33; refine (c33.out _ E1).mono ?_; rintro e w2 ⟨rfl, hb2⟩; have E2 := E1.ext hb2) | (go_at_call 39; refine (c39.out _ E2).mono ?_; rintro e w3 ⟨rfl, hb3⟩; have E3 := (E2.ext hb3).alloc (.cells #[.int .i64 (f).kind, .int .i64 (f).width, .int .i64 (f).man, .int .i64 (f).bias, .int .u64 (f).top, .int .u64 (f).inf, .int .u64 (f).nan] 40); have F3 := Blk.new w3 40 #[.int .i64 (f).kind, .int .i64 (f).width, .int .i64 (f).man, .int .i64 (f).bias, .int .u64 (f).top, .int .u64 (f).inf, .int .u64 (f).nan]) | (go_at_call 37; refine (c37.out _ E3).mono ?_; rintro e w4 ⟨rfl, hb4⟩; have E4 := E3.ext hb4; have F4 := F3.ext hb4; have cF := F4.cell) | (go_at_call 26; (with_reducible refine (c26.out _ E4).mono ?_); rintro e w5 ⟨rfl, hb5⟩; clear cF; have E5 := (E4.ext hb5).alloc (.cells #[.int .i64 uc, .bool un, .int .u64 um, .int .i64 ue] 25); have F5 := (F4.ext hb5).alloc (.cells #[.int .i64 uc, .bool un, .int .u64 um, .int .i64 ue] 25); have V5 := Blk.new w5 25 #[.int .i64 uc, .bool un, .int .u64 um, .int .i64 ue]) | (go_at_call 26; (with_reducible refine (d26.out _ E5).mono ?_); rintro e w6 ⟨rfl, hb6⟩; have F6 := F5.ext hb6; have V6 := V5.ext hb6; have cF6 := F6.cell; have cV6 := V6.cell; have lF := F6.lt; have lV := V6.lt))
      go_ret
      exact ⟨rfl, by (repeat (first | (with_reducible exact Ext.refl _) | (with_reducible assumption) | (with_reducible refine Ext.drew ?_) | (with_reducible refine Ext.drewN ?_ _) | (with_reducible refine Ext.alloc ?_ _) | (with_reducible refine Ext.setCell ?_ (Nat.le_refl _) _) | (with_reducible refine Ext.setCell ?_ (by simp; try omega) _) | (with_reducible refine Ext.trans ?_ (by with_reducible assumption))))⟩

/-- ValueTurned. -/
theorem turned_any (i : Int) (p : Nat) (hp : p < 18446744073709551616) (w : World) (hE : Env w) :
    Calls Tryd.prog 7 #[.int .i64 i, .int .u64 p] w fun e w' => e = .returned (.bool true) ∧ Ext w w' := by
  by_cases he : (keyV i p).2.2 = 0
  · obtain ⟨n, rfl, h1, h2, hpn, hf, hc, hk⟩ := keyV_ok he
    obtain ⟨w4, w64⟩ := frm_width n h1 h2
    obtain ⟨t1, t2⟩ := turn_law n p h1 h2 hpn hc
    have hk64 := key_lt (frm n) p w64 hpn
    have c33 := Lib.hid (fun W h => key_any n p hp W h)
    have c39 := Lib.hid (fun W h => formsOf_yes n W h h1 h2)
    have c37 := Lib.hid (fun W h => pattern_any n (!negP (frm n) p) (keyP (frm n) p) hk64 W h)
    have c26 := Lib.hid (fun W h => decode_any n p hp W h)
    rw [hk] at c33
    rw [hf] at c26
    by_cases hno : (frm n).kind = 4 ∨ ((frm n).kind = 3 ∧ negP (frm n) p = true ∧ (frm n).top < keyP (frm n) p)
    · obtain ⟨a, b⟩ := t1 hno
      rw [a] at c37
      exact turned_none n p (keyP (frm n) p) (negP (frm n) p) (frm n) _ b hno c33 c39 c37 w hE
    · obtain ⟨q, hq, hqn, hm, hee, hcc, hsg⟩ := t2 hno
      rw [hq] at c37
      have hq64 : q < 18446744073709551616 := Nat.lt_of_lt_of_le hqn (pow_le64 w64)
      have hfq : fitsE n q = 0 := by unfold fitsE; rw [if_pos (isForm_of h1 h2), if_pos (by simpa using hqn)]
      have d26 := Lib.hid (fun W h => decode_any n q hq64 W h)
      rw [hfq] at d26
      exact turned_some n p (keyP (frm n) p) q (negP (frm n) p) (frm n) (means n p) (means n q) hm hee hcc hsg (fun h => hno (.inl h)) (fun h3 hn ht => hno (.inr ⟨h3, hn, ht⟩)) c33 c39 c37 c26 d26 w hE
  · exact turned_err i p hp he w hE

theorem turned_args (a0 : Int) (_w0 : (Lit.int .i64 a0).wf = true) (a1 : Int) (w1 : (Lit.int .u64 a1).wf = true) (W : World) (hE : Env W) :
    Calls Tryd.prog 7 #[.int .i64 a0, .int .u64 a1] W fun e w' => e = .returned (.bool true) ∧ Ext W w' := by
  obtain ⟨n, rfl, hn⟩ := u64_nat w1
  exact turned_any a0 n hn W hE
end Go.Proofs.YtogdiobbjlpmoaaDoor

