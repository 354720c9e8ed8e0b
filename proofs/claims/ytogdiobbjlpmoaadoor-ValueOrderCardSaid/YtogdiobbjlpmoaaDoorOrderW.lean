/- ValueOrder answers true, whatever the form and the magnitude. No condition but that the package variables hold what they are laid with. -/
import Derived.Test.YtogdiobbjlpmoaaDoorShown07
import Derived.Test.YtogdiobbjlpmoaaDoorOrderLaw
import Derived.Test.YtogdiobbjlpmoaaDoorAbove
import Derived.Test.YtogdiobbjlpmoaaDoorBackW
namespace Go.Proofs.YtogdiobbjlpmoaaDoor
open Go Go.RowKit Cal

set_option linter.unusedVariables false
set_option maxRecDepth 100000 in
set_option maxHeartbeats 1600000 in
theorem order_err (i : Int) (key : Nat) (er : Int) (her : er ≠ 0)
    (c28 : Hid (∀ W, Env W → Calls Tryd.prog 28 #[.int .i64 i, .int .u64 key] W fun e w' => e = .returned (.tuple #[.int .u64 0, .int .i64 0, .int .i64 er]) ∧ Ext W w'))
    (c30 : Hid (∀ W, Env W → Calls Tryd.prog 30 #[.int .i64 i, .int .u64 key] W fun e w' => e = .returned (.tuple #[.int .u64 0, .int .i64 0, .int .i64 er]) ∧ Ext W w')) (w : World) (hE : Env w) :
    Calls Tryd.prog 5 #[.int .i64 i, .int .u64 key] w fun e w' => e = .returned (.bool true) ∧ Ext w w' := by
  have c25 := Lib.hid (fun W h => shown_any W h)
  have d1 : ((er : Int) != 0) = true := by rw [bne_iff_ne]; exact her
  clear her
  go_enter Tryd.func5, Tryd.ntmps5
  go_wp2_with (first | (go_at_call 25; refine (c25.out _ hE).mono ?_; rintro e w1 ⟨rfl, hb1⟩; have E1 := hE.ext hb1) | (go_at_call 28; refine (c28.out _ E1).mono ?_; rintro e w2 ⟨rfl, hb2⟩; have E2 := E1.ext hb2) | (go_at_call 30; refine (c30.out _ E2).mono ?_; rintro e w3 ⟨rfl, hb3⟩))
  go_ret
  exact ⟨rfl, by (repeat (first | (with_reducible exact Ext.refl _) | (with_reducible assumption) | (with_reducible refine Ext.drew ?_) | (with_reducible refine Ext.drewN ?_ _) | (with_reducible refine Ext.alloc ?_ _) | (with_reducible refine Ext.setCell ?_ (Nat.le_refl _) _) | (with_reducible refine Ext.setCell ?_ (by simp; try omega) _) | (with_reducible refine Ext.trans ?_ (by with_reducible assumption))))⟩

set_option maxRecDepth 100000 in
set_option maxHeartbeats 1600000 in
/-- The last magnitude. -/
theorem order_end (i : Int) (key m n : Nat) (d f : Int) (x : Nat) (y er : Int) (her : er ≠ 0) (hk : key < 9223372036854775808)
    (c28 : Hid (∀ W, Env W → Calls Tryd.prog 28 #[.int .i64 i, .int .u64 key] W fun e w' => e = .returned (.tuple #[.int .u64 m, .int .i64 d, .int .i64 0]) ∧ Ext W w'))
    (c30 : Hid (∀ W, Env W → Calls Tryd.prog 30 #[.int .i64 i, .int .u64 key] W fun e w' => e = .returned (.tuple #[.int .u64 n, .int .i64 f, .int .i64 0]) ∧ Ext W w'))
    (c32 : Hid (∀ W, Calls Tryd.prog 32 #[.int .u64 n, .int .i64 f, .int .u64 m, .int .i64 d] W fun e w' => e = .returned (.bool true) ∧ W = w'))
    (d28 : Hid (∀ W, Env W → Calls Tryd.prog 28 #[.int .i64 i, .int .u64 ((key : Int) + 1)] W fun e w' => e = .returned (.tuple #[.int .u64 x, .int .i64 y, .int .i64 er]) ∧ Ext W w')) (w : World) (hE : Env w) :
    Calls Tryd.prog 5 #[.int .i64 i, .int .u64 key] w fun e w' => e = .returned (.bool true) ∧ Ext w w' := by
  have c25 := Lib.hid (fun W h => shown_any W h)
  have d1 : ((er : Int) != 0) = true := by rw [bne_iff_ne]; exact her
  clear her
  go_enter Tryd.func5, Tryd.ntmps5
  go_wp2_with (first | (go_at_call 25; refine (c25.out _ hE).mono ?_; rintro e w1 ⟨rfl, hb1⟩; have E1 := hE.ext hb1) | (go_at_call 28; (with_reducible refine (c28.out _ E1).mono ?_); rintro e w2 ⟨rfl, hb2⟩; have E2 := E1.ext hb2) | (go_at_call 30; refine (c30.out _ E2).mono ?_; rintro e w3 ⟨rfl, hb3⟩; have E3 := E2.ext hb3) | (go_at_call 32; (with_reducible refine (c32.out _).mono ?_); rintro e w4 ⟨rfl, rfl⟩) | (go_at_call 28; (with_reducible refine (d28.out _ E3).mono ?_); rintro e w5 ⟨rfl, hb5⟩))
  go_ret
  exact ⟨rfl, by (repeat (first | (with_reducible exact Ext.refl _) | (with_reducible assumption) | (with_reducible refine Ext.drew ?_) | (with_reducible refine Ext.drewN ?_ _) | (with_reducible refine Ext.alloc ?_ _) | (with_reducible refine Ext.setCell ?_ (Nat.le_refl _) _) | (with_reducible refine Ext.setCell ?_ (by simp; try omega) _) | (with_reducible refine Ext.trans ?_ (by with_reducible assumption))))⟩

set_option maxRecDepth 100000 in
set_option maxHeartbeats 1600000 in
/-- Any other one. -/
theorem order_mid (i : Int) (key m n : Nat) (d f : Int) (x : Nat) (y : Int) (hk : key < 9223372036854775808)
    (c28 : Hid (∀ W, Env W → Calls Tryd.prog 28 #[.int .i64 i, .int .u64 key] W fun e w' => e = .returned (.tuple #[.int .u64 m, .int .i64 d, .int .i64 0]) ∧ Ext W w'))
    (c30 : Hid (∀ W, Env W → Calls Tryd.prog 30 #[.int .i64 i, .int .u64 key] W fun e w' => e = .returned (.tuple #[.int .u64 n, .int .i64 f, .int .i64 0]) ∧ Ext W w'))
    (c32 : Hid (∀ W, Calls Tryd.prog 32 #[.int .u64 n, .int .i64 f, .int .u64 m, .int .i64 d] W fun e w' => e = .returned (.bool true) ∧ W = w'))
    (d28 : Hid (∀ W, Env W → Calls Tryd.prog 28 #[.int .i64 i, .int .u64 ((key : Int) + 1)] W fun e w' => e = .returned (.tuple #[.int .u64 x, .int .i64 y, .int .i64 0]) ∧ Ext W w'))
    (d32 : Hid (∀ W, Calls Tryd.prog 32 #[.int .u64 x, .int .i64 y, .int .u64 n, .int .i64 f] W fun e w' => e = .returned (.bool true) ∧ W = w')) (w : World) (hE : Env w) :
    Calls Tryd.prog 5 #[.int .i64 i, .int .u64 key] w fun e w' => e = .returned (.bool true) ∧ Ext w w' := by
  have c25 := Lib.hid (fun W h => shown_any W h)
  go_enter Tryd.func5, Tryd.ntmps5
  go_wp2_with (first | (go_at_call 25; refine (c25.out _ hE).mono ?_; rintro e w1 ⟨rfl, hb1⟩; have E1 := hE.ext hb1) | (go_at_call 28; (with_reducible refine (c28.out _ E1).mono ?_); rintro e w2 ⟨rfl, hb2⟩; have E2 := E1.ext hb2) | (go_at_call 30; refine (c30.out _ E2).mono ?_; rintro e w3 ⟨rfl, hb3⟩; have E3 := E2.ext hb3) | (go_at_call 32; (with_reducible refine (c32.out _).mono ?_); rintro e w4 ⟨rfl, rfl⟩) | (go_at_call 28; (with_reducible refine (d28.out _ E3).mono ?_); rintro e w5 ⟨rfl, hb5⟩) | (go_at_call 32; (with_reducible refine (d32.out _).mono ?_); rintro e w6 ⟨rfl, rfl⟩))
  go_ret
  exact ⟨rfl, by (repeat (first | (with_reducible exact Ext.refl _) | (with_reducible assumption) | (with_reducible refine Ext.drew ?_) | (with_reducible refine Ext.drewN ?_ _) | (with_reducible refine Ext.alloc ?_ _) | (with_reducible refine Ext.setCell ?_ (Nat.le_refl _) _) | (with_reducible refine Ext.setCell ?_ (by simp; try omega) _) | (with_reducible refine Ext.trans ?_ (by with_reducible assumption))))⟩

/-- above, of bounded numbers. -/
theorem above_any (a b : Nat) (d e : Int) (ha : a < 2 ^ 64) (hb : b < 2 ^ 64) (d1 : -20000 ≤ d) (d2 : d ≤ 20000) (e1 : -20000 ≤ e) (e2 : e ≤ 20000) (w : World) :
    Calls Tryd.prog 32 #[.int .u64 a, .int .i64 d, .int .u64 b, .int .i64 e] w fun r w' => r = .returned (.bool (aboveV a d b e)) ∧ w = w' := by
  by_cases h : b = 0 ∨ a = 0
  · have hv : aboveV a d b e = decide (a ≠ 0) := by unfold aboveV; rw [if_pos h]
    rw [hv]
    exact above_none a b d e h w
  · exact above_some a b d e (by omega) (by omega) ha hb (by omega) (by omega) (by omega) (by omega) w

/-- ValueOrder. -/
theorem order_any (i : Int) (key : Nat) (hkey : key < 18446744073709551616) (w : World) (hE : Env w) :
    Calls Tryd.prog 5 #[.int .i64 i, .int .u64 key] w fun e w' => e = .returned (.bool true) ∧ Ext w w' := by
  have c28 := Lib.hid (fun W h => at_any i key hkey W h)
  have c30 := Lib.hid (fun W h => between_any i key W h)
  by_cases he : keyE i key = 0
  · have hi : isForm i := by
      by_cases hi : isForm i
      · exact hi
      · exact absurd he (by rw [keyE_no hi]; decide)
    obtain ⟨n, rfl, h1, h2⟩ := isForm_nat hi
    have hk : key ≤ lastKey (frm n) := by
      rcases keyE_cases (key := key) h1 h2 with ⟨_, h⟩ | ⟨h, _⟩
      · exact h
      · rw [h] at he; exact absurd he (by decide)
    have hl := (lastKey_lt n h1 h2).1
    obtain ⟨a1, a2, a3, a4⟩ := at_bounds n key h1 h2 hk
    obtain ⟨b1, b2, b3, b4⟩ := bet_bounds n key h1 h2 hk
    have hob := order_between n key h1 h2 hk
    have c32 := Lib.hid (fun W => above_any (betV n key).1 (atV n key).1 (betV n key).2.1 (atV n key).2.1 b1 a1 b2 b3 a2 a3 W)
    rw [hob] at c32
    rw [a4] at c28
    rw [b4] at c30
    have d28 := Lib.hid (fun W h => at_any n (key + 1) (by omega) W h)
    rw [show ((key + 1 : Nat) : Int) = (key : Int) + 1 from by omega] at d28
    by_cases hk1 : key + 1 ≤ lastKey (frm n)
    · obtain ⟨x1, x2, x3, x4⟩ := at_bounds n (key + 1) h1 h2 hk1
      have hon := order_next n key h1 h2 hk1
      have d32 := Lib.hid (fun W => above_any (atV n (key + 1)).1 (betV n key).1 (atV n (key + 1)).2.1 (betV n key).2.1 x1 b1 x2 x3 b2 b3 W)
      rw [hon] at d32
      rw [x4] at d28
      exact order_mid n key _ _ _ _ _ _ (by omega) c28 c30 c32 d28 d32 w hE
    · have hx : (atV n (key + 1)).2.2 ≠ 0 := by
        rcases keyE_cases (key := key + 1) h1 h2 with ⟨_, h⟩ | ⟨h, _⟩
        · omega
        · unfold atV
          rw [if_pos (.inl (by rw [h]; decide)), h]
          decide
      exact order_end n key _ _ _ _ _ _ _ hx (by omega) c28 c30 c32 d28 w hE
  · have ha : atV i key = (0, 0, keyE i key) := by unfold atV; rw [if_pos (.inl he)]
    have hb : betV i key = (0, 0, keyE i key) := by unfold betV; rw [if_pos he]
    rw [ha] at c28
    rw [hb] at c30
    exact order_err i key _ he c28 c30 w hE

theorem order_args (a0 : Int) (_w0 : (Lit.int .i64 a0).wf = true) (a1 : Int) (w1 : (Lit.int .u64 a1).wf = true) (W : World) (hE : Env W) :
    Calls Tryd.prog 5 #[.int .i64 a0, .int .u64 a1] W fun e w' => e = .returned (.bool true) ∧ Ext W w' := by
  obtain ⟨n, rfl, hn⟩ := u64_nat w1
  exact order_any a0 n hn W hE
end Go.Proofs.YtogdiobbjlpmoaaDoor

