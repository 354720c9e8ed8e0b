/- What mini.Value answers of a magnitude that may be. No condition but those written, and that the table of trailing noughts holds what it is laid with. -/
import Derived.Test.YtogdiobbjlpmoaaDoorOdd
import Derived.Test.YtogdiobbjlpmoaaDoorForms
import Derived.Deep.QuietTactic
import Derived.BigQuiet
namespace Go.Proofs.YtogdiobbjlpmoaaDoor
open Go Go.RowKit Cal

theorem max_cast (a : Nat) : max (a : Int) 1 = ((max a 1 : Nat) : Int) := by omega

theorem mfits_ok (man bias : Nat) (h1 : man ≤ 60) (h2 : bias ≤ 2000) (w : World) :
    Calls Tryd.prog 159 #[.int .i64 man, .int .i64 bias] w fun e w' => e = .returned (.bool true) ∧ w = w' := by
  have d1 : decide ((man : Int) ≤ 60) = true := by simp; omega
  have d2 : decide ((bias : Int) ≤ 2000) = true := by simp; omega
  have d3 : decide ((-2000 : Int) ≤ (bias : Int)) = true := decide_eq_true (by omega)
  have d4 : decide ((0 : Int) ≤ (man : Int)) = true := by simp
  go_enter Tryd.func159, Tryd.ntmps159
  go_wp2
  go_ret
  exact ⟨rfl, rfl⟩

set_option maxHeartbeats 800000 in
theorem msplit_walk (man key f M R : Nat) (h1 : man ≤ 60) (hf : (key : Int) / 2 ^ man = f) (hf2 : f ≤ 4095) (hM : IntKind.u64.wrap (IntKind.u64.wrap (2 ^ man) - 1) = M)
    (hR : bits BinOp.and IntKind.u64 (key : Int) M = R) (w : World) :
    Calls Tryd.prog 158 #[.int .i64 man, .int .u64 key] w fun e w' => e = .returned (.tuple #[.int .u64 f, .int .u64 R, .int .i64 0]) ∧ ∃ n, w' = w.drewN n := by
  have d1 : decide ((4095 : Int) < (f : Int)) = false := by simp; omega
  have c159 := Lib.hid (fun W => mfits_ok man 0 h1 (by omega) W)
  go_enter Tryd.func158, Tryd.ntmps158
  go_wp2_with (first | (go_at_call 159; refine (c159.out _).mono ?_; rintro e w1 ⟨rfl, rfl⟩))
  go_quiet (fail)
  go_wp2_with fail
  go_ret3
  exact ⟨rfl, _, rfl⟩

theorem msplit_any (man key : Nat) (h1 : man ≤ 60) (hk : key < 18446744073709551616) (hf2 : key / 2 ^ man ≤ 4095) (w : World) :
    Calls Tryd.prog 158 #[.int .i64 man, .int .u64 key] w fun e w' => e = .returned (.tuple #[.int .u64 ((key / 2 ^ man : Nat) : Int), .int .u64 ((key % 2 ^ man : Nat) : Int), .int .i64 0]) ∧ ∃ n, w' = w.drewN n := by
  have hM : IntKind.u64.wrap (IntKind.u64.wrap (2 ^ man) - 1) = ((2 ^ man - 1 : Nat) : Int) := by
    have := u64_mask man (by omega)
    rwa [Int.one_mul] at this
  exact msplit_walk man key _ _ _ h1 (zdiv key man) hf2 hM (u_and_mask key man hk (by omega)) w

/-- mini.Value of 0. -/
theorem mValue_zero (man bias : Nat) (h1 : man ≤ 60) (h2 : bias ≤ 2000) (w : World) :
    Calls Tryd.prog 147 #[.int .i64 man, .int .i64 bias, .int .u64 0] w fun e w' => e = .returned (.tuple #[.int .u64 0, .int .i64 0, .int .i64 0]) ∧ Ext w w' := by
  have c158 := Lib.hid (fun W => msplit_any man 0 h1 (by omega) (by simp) W)
  have c159 := Lib.hid (fun W => mfits_ok man bias h1 h2 W)
  go_enter Tryd.func147, Tryd.ntmps147
  go_wp2_with (first | (go_at_call 158; refine (c158.out _).mono ?_; rintro e w1 ⟨rfl, n1, rfl⟩) | (go_at_call 159; refine (c159.out _).mono ?_; rintro e w1 ⟨rfl, rfl⟩))
  go_ret3
  exact ⟨rfl, by (repeat (first | (with_reducible exact Ext.refl _) | (with_reducible assumption) | (with_reducible refine Ext.drew ?_) | (with_reducible refine Ext.drewN ?_ _) | (with_reducible refine Ext.alloc ?_ _) | (with_reducible refine Ext.setCell ?_ (Nat.le_refl _) _) | (with_reducible refine Ext.setCell ?_ (by simp; try omega) _) | (with_reducible refine Ext.trans ?_ (by with_reducible assumption))))⟩

set_option maxHeartbeats 800000 in
theorem mValue_walk (man bias key f R k : Nat) (hm : man ≤ 60) (hb : bias ≤ 2000) (hf : f ≤ 4095) (hk0 : ((key : Int) == 0) = false) (M : Nat) (hk : k < 64)
    (hM : (f = 0 ∧ M = R) ∨ (0 < f ∧ bits BinOp.or IntKind.u64 (R : Int) (IntKind.u64.wrap (2 ^ man)) = M)) (g : Int) (hg : max (f : Int) 1 = g)
    (c158 : Hid (∀ W, Calls Tryd.prog 158 #[.int .i64 man, .int .u64 key] W fun e w' => e = .returned (.tuple #[.int .u64 f, .int .u64 R, .int .i64 0]) ∧ ∃ n, w' = W.drewN n))
    (c160 : Hid (∀ W, Env W → Calls Tryd.prog 160 #[.int .u64 M] W fun e w' => e = .returned (.int .i64 k) ∧ W = w')) (w : World) (hE : Env w) :
    Calls Tryd.prog 147 #[.int .i64 man, .int .i64 bias, .int .u64 key] w fun e w' => e = .returned (.tuple #[.int .u64 ((M / 2 ^ k : Nat) : Int), .int .i64 (g - bias - man + k), .int .i64 0]) ∧ Ext w w' := by
  have c159 := Lib.hid (fun W => mfits_ok man bias hm hb W)
  have hg1 : 1 ≤ g := by omega
  have hg2 : g ≤ 4095 := by omega
  have hEn := fun n => hE.drewN n
  rcases hM with ⟨h0, rfl⟩ | ⟨h0, hM⟩
  · subst h0
    go_enter Tryd.func147, Tryd.ntmps147
    go_wp2_with (first | (go_at_call 158; refine (c158.out _).mono ?_; rintro e w1 ⟨rfl, n1, rfl⟩) | (go_at_call 159; refine (c159.out _).mono ?_; rintro e w1 ⟨rfl, rfl⟩) | (go_at_call 160; refine (c160.out _ (hEn _)).mono ?_; rintro e w1 ⟨rfl, rfl⟩))
    go_ret3
    exact ⟨ret3 (zdiv _ _) (by omega) rfl, by (repeat (first | (with_reducible exact Ext.refl _) | (with_reducible assumption) | (with_reducible refine Ext.drew ?_) | (with_reducible refine Ext.drewN ?_ _) | (with_reducible refine Ext.alloc ?_ _) | (with_reducible refine Ext.setCell ?_ (Nat.le_refl _) _) | (with_reducible refine Ext.setCell ?_ (by simp; try omega) _) | (with_reducible refine Ext.trans ?_ (by with_reducible assumption))))⟩
  · go_enter Tryd.func147, Tryd.ntmps147
    go_wp2_with (first | (go_at_call 158; refine (c158.out _).mono ?_; rintro e w1 ⟨rfl, n1, rfl⟩) | (go_at_call 159; refine (c159.out _).mono ?_; rintro e w1 ⟨rfl, rfl⟩) | (go_at_call 160; refine (c160.out _ (hEn _)).mono ?_; rintro e w1 ⟨rfl, rfl⟩))
    go_ret3
    exact ⟨ret3 (zdiv _ _) (by omega) rfl, by (repeat (first | (with_reducible exact Ext.refl _) | (with_reducible assumption) | (with_reducible refine Ext.drew ?_) | (with_reducible refine Ext.drewN ?_ _) | (with_reducible refine Ext.alloc ?_ _) | (with_reducible refine Ext.setCell ?_ (Nat.le_refl _) _) | (with_reducible refine Ext.setCell ?_ (by simp; try omega) _) | (with_reducible refine Ext.trans ?_ (by with_reducible assumption))))⟩

/-- mini.Value, of a magnitude that may be. -/
theorem mValue_any (man bias key : Nat) (hm : man ≤ 60) (hb : bias ≤ 2000) (hk : key < 18446744073709551616) (hf : key / 2 ^ man ≤ 4095) (w : World) (hE : Env w) :
    Calls Tryd.prog 147 #[.int .i64 man, .int .i64 bias, .int .u64 key] w fun e w' => e = .returned (.tuple #[.int .u64 ((mval man bias key).1 : Nat), .int .i64 (mval man bias key).2, .int .i64 0]) ∧ Ext w w' := by
  by_cases h0 : key = 0
  · subst h0
    exact mValue_zero man bias hm hb w
  · have hp := two_pos man
    have hlt := Nat.mod_lt key hp
    have hpm : 2 ^ man ≤ 2 ^ 60 := Nat.pow_le_pow_right (by decide) hm
    have hdm := Nat.div_add_mod key (2 ^ man)
    have hM0 : 0 < key % 2 ^ man + (if key / 2 ^ man = 0 then 0 else 2 ^ man) := by
      split
      · rename_i h
        rw [h, Nat.mul_zero] at hdm
        omega
      · omega
    have hM1 : key % 2 ^ man + (if key / 2 ^ man = 0 then 0 else 2 ^ man) < 18446744073709551616 := by split <;> omega
    have hv : mval man bias key = (((key % 2 ^ man + (if key / 2 ^ man = 0 then 0 else 2 ^ man)) / 2 ^ Lib.ctz 64 (key % 2 ^ man + (if key / 2 ^ man = 0 then 0 else 2 ^ man))),
        ((max (key / 2 ^ man) 1 : Nat) : Int) - bias - man + Lib.ctz 64 (key % 2 ^ man + (if key / 2 ^ man = 0 then 0 else 2 ^ man))) := by
      unfold mval odd
      rw [if_neg h0, if_neg (by omega)]
    have hk64 := ctz_lt _ hM0 hM1
    rw [hv]
    refine mValue_walk man bias key (key / 2 ^ man) (key % 2 ^ man) _ hm hb hf (by rw [beq_eq_false_iff_ne]; omega) _ hk64 ?_ _ (max_cast _) (Lib.hid (fun W => msplit_any man key hm hk hf W))
      (Lib.hid (fun W h => tz_any _ hM0 hM1 W h)) w hE
    by_cases hz : key / 2 ^ man = 0
    · exact .inl ⟨hz, by rw [if_pos hz, Nat.add_zero]⟩
    · refine .inr ⟨Nat.pos_of_ne_zero hz, ?_⟩
      rw [if_neg hz, zpow, u_id _ (by omega)]
      exact u_or_bit' _ man (by omega) hlt
end Go.Proofs.YtogdiobbjlpmoaaDoor

