/- The document's minifloats. No condition but those written. -/
import Derived.Test.YtogdiobbjlpmoaaDoorRefParts
import Derived.Test.YtogdiobbjlpmoaaDoorOrderLaw
import Derived.Deep.LoopGhost
namespace Go.Proofs.YtogdiobbjlpmoaaDoor
open Go Go.RowKit Cal

set_option maxRecDepth 100000 in
set_option maxHeartbeats 800000 in
theorem rsplit6_any (man key : Nat) (h : man ≤ 60) (hk : key < 18446744073709551616) (w : World) :
    Calls Tryd.prog 128 #[.int .i64 man, .int .u64 key] w fun e w' => e = .returned (.tuple #[.int .u64 ((key / 2 ^ man : Nat) : Int), .int .u64 ((key % 2 ^ man : Nat) : Int)]) ∧ Ext w w' := by
  have c := Lib.hid (fun W => power_any man (by omega) W)
  have hp := two_pos man
  have h64 := pow_lt64 (k := man) (by omega)
  generalize 2 ^ man = X at *
  have z1 : ((X : Int) == 0) = false := bfalse (b := 0) (by omega)
  have z2 : ¬ ((X : Int) = 0) := by omega
  clear h64 hp
  go_enter Tryd.func128, Tryd.ntmps128
  go_wp2_with (go_at_call 129; (with_reducible refine (c.out _).mono ?_); rintro e w1 ⟨rfl, rfl⟩)
  go_region
  go_wp2
  go_ret2
  refine ⟨?_, by (repeat (first | (with_reducible exact Ext.refl _) | (with_reducible assumption) | (with_reducible refine Ext.drew ?_) | (with_reducible refine Ext.drewN ?_ _) | (with_reducible refine Ext.alloc ?_ _) | (with_reducible refine Ext.setCell ?_ (Nat.le_refl _) _) | (with_reducible refine Ext.setCell ?_ (by simp; try omega) _) | (with_reducible refine Ext.trans ?_ (by with_reducible assumption))))⟩
  have l1 : key / X < 18446744073709551616 := Nat.lt_of_le_of_lt (Nat.div_le_self _ _) hk
  simp
  simpa using u_id (key / X) l1

set_option maxRecDepth 100000 in
set_option maxHeartbeats 1600000 in
/-- The document's Value of a minifloat, the loop from here. -/
theorem rvalue6_any (man bias key : Nat) (h : man ≤ 60) (hb : bias ≤ 2000) (hk : key < 18446744073709551616) (hf : key / 2 ^ man ≤ 4095) (w : World) :
    Calls Tryd.prog 84 #[.int .i64 man, .int .i64 bias, .int .u64 key] w fun e w' => e = .returned (.tuple #[.int .u64 ((mval man bias key).1 : Nat), .int .i64 (mval man bias key).2]) ∧ Ext w w' := by
  have c128 := Lib.hid (fun W => rsplit6_any man key h hk W)
  have c129 := Lib.hid (fun W => power_any man (by omega) W)
  by_cases h0 : key = 0
  · subst h0
    have hv : mval man bias 0 = (0, 0) := rfl
    rw [hv]
    have hz : 0 / 2 ^ man = 0 := Nat.zero_div _
    have hz2 : 0 % 2 ^ man = 0 := Nat.zero_mod _
    rw [hz, hz2] at c128
    clear hz hz2 hf hv
    go_enter Tryd.func84, Tryd.ntmps84
    go_wp2_with (first | (go_at_call 128; refine (c128.out _).mono ?_; rintro e w1 ⟨rfl, hb1⟩))
    go_ret2
    exact ⟨rfl, by (repeat (first | (with_reducible exact Ext.refl _) | (with_reducible assumption) | (with_reducible refine Ext.drew ?_) | (with_reducible refine Ext.drewN ?_ _) | (with_reducible refine Ext.alloc ?_ _) | (with_reducible refine Ext.setCell ?_ (Nat.le_refl _) _) | (with_reducible refine Ext.setCell ?_ (by simp; try omega) _) | (with_reducible refine Ext.trans ?_ (by with_reducible assumption))))⟩
  · have hv := mval_eq man bias key h0
    have hp := mnum_pos man key h0
    have hl := mnum_lt man key (by omega)
    have hm : mnum man key = key % 2 ^ man + (if key / 2 ^ man = 0 then 0 else 2 ^ man) := rfl
    rw [hv]
    have hP64 := pow_lt64 (k := man) (by omega)
    generalize key / 2 ^ man = F at *
    generalize key % 2 ^ man = R at *
    generalize mnum man key = N at *
    generalize 2 ^ man = P at *
    generalize hE : ((max F 1 : Nat) : Int) - (bias : Int) - man = E at *
    have hE1 : -5000 ≤ E ∧ E ≤ 5000 := by omega
    generalize ho : odd N E = o
    have HO := Lib.hid ho
    clear ho hv
    by_cases hF : F = 0
    · subst hF
      obtain rfl : N = R := by simpa using hm
      obtain rfl : E = 1 - (bias : Int) - man := by rw [← hE]; simp
      have z1 : ((N : Int) == 0) = false := bfalse (b := 0) (by omega)
      clear hm hE c129
      go_enter Tryd.func84, Tryd.ntmps84
      go_wp2_with (first | (go_at_call 128; refine (c128.out _).mono ?_; rintro e w1 ⟨rfl, hb1⟩))
      go_loopg [9, 10] N (fun g s9 s10 wr => ∃ k j : Nat, k ≤ g ∧ 0 < k ∧ Hid (k * 2 ^ j ≤ N) ∧ Hid (odd k (1 - (bias : Int) - man + j) = o) ∧ s9 = .int .u64 (k : Int) ∧ s10 = .int .i64 (1 - (bias : Int) - man + j) ∧ w1 = wr)
      case atStart => exact ⟨N, 0, Nat.le_refl _, by omega, (by simp : N * 2 ^ 0 ≤ N), (by simpa using HO.out : odd N (1 - (bias : Int) - man + (0 : Nat)) = o), rfl, by simp, rfl⟩
      case round =>
        obtain ⟨k, j, hkg, hk0, hkj, hko, rfl, rfl, rfl⟩ := hrel
        have hj : j < 64 := by
          rcases Nat.lt_or_ge j 64 with hj | hj
          · exact hj
          · have h3 : 2 ^ 64 ≤ 2 ^ j := Nat.pow_le_pow_right (by decide) hj
            have h4 := hkj.out
            have h5 : 1 * 2 ^ j ≤ k * 2 ^ j := Nat.mul_le_mul_right _ hk0
            omega
        have hk64 : k < 18446744073709551616 := by
          have h4 := hkj.out
          have h5 : k * 1 ≤ k * 2 ^ j := Nat.mul_le_mul_left _ (two_pos j)
          omega
        by_cases hp2 : k % 2 = 0
        · have d1 : ((k : Int) % 2 == 0) = true := by rw [beq_iff_eq]; omega
          have H1 : Hid (odd (k / 2) (1 - (bias : Int) - man + ((j + 1 : Nat) : Int)) = o) := by
            have h6 := odd_half k (1 - (bias : Int) - man + j) hk0 hk64 hp2
            show odd (k / 2) (1 - (bias : Int) - man + ((j + 1 : Nat) : Int)) = o
            rw [show 1 - (bias : Int) - man + ((j + 1 : Nat) : Int) = 1 - (bias : Int) - man + (j : Int) + 1 from by omega, ← h6]
            exact hko.out
          have H2 : Hid (k / 2 * 2 ^ (j + 1) ≤ N) := by
            have h4 := hkj.out
            show k / 2 * 2 ^ (j + 1) ≤ N
            have h7 : k / 2 * 2 ^ (j + 1) = (k / 2 * 2) * 2 ^ j := by rw [Nat.pow_succ, Nat.mul_comm (2 ^ j) 2, Nat.mul_assoc]
            rw [h7, Nat.div_mul_cancel (Nat.dvd_of_mod_eq_zero hp2)]
            exact h4
          go_wp2
          go_roundg (k / 2)
          case measure => omega
          case rel => exact ⟨k / 2, j + 1, Nat.le_refl _, by omega, H2, H1, by first | rfl | simp, by first | rfl | (simp; omega), rfl⟩
        · have d1 : ((k : Int) % 2 == 0) = false := by rw [beq_eq_false_iff_ne]; omega
          have ho2 := odd_self k (1 - (bias : Int) - man + j) hk64 (by omega)
          have ho3 : o = (k, 1 - (bias : Int) - man + (j : Int)) := by rw [← ho2]; exact hko.out.symm
          subst ho3
          clear ho2 hko HO
          go_wp2
          go_ret2
          exact ⟨rfl, by (repeat (first | (with_reducible exact Ext.refl _) | (with_reducible assumption) | (with_reducible refine Ext.drew ?_) | (with_reducible refine Ext.drewN ?_ _) | (with_reducible refine Ext.alloc ?_ _) | (with_reducible refine Ext.setCell ?_ (Nat.le_refl _) _) | (with_reducible refine Ext.setCell ?_ (by simp; try omega) _) | (with_reducible refine Ext.trans ?_ (by with_reducible assumption))))⟩
    · have z0 : ((F : Int) == 0) = false := bfalse (b := 0) hF
      have hF0 : 0 < F := by omega
      obtain rfl : N = R + P := by rw [if_neg hF] at hm; exact hm
      obtain rfl : E = (F : Int) - (bias : Int) - man := by rw [← hE]; omega
      have z1 : (((R : Int) + (P : Int)) == 0) = false := by rw [beq_eq_false_iff_ne]; omega
      clear hm hE hF
      go_enter Tryd.func84, Tryd.ntmps84
      go_wp2_with (first | (go_at_call 128; refine (c128.out _).mono ?_; rintro e w1 ⟨rfl, hb1⟩) | (go_at_call 129; (with_reducible refine (c129.out _).mono ?_); rintro e w2 ⟨rfl, rfl⟩))
      go_loopg [9, 10] (R + P) (fun g s9 s10 wr => ∃ k j : Nat, k ≤ g ∧ 0 < k ∧ Hid (k * 2 ^ j ≤ R + P) ∧ Hid (odd k ((F : Int) - (bias : Int) - man + j) = o) ∧ s9 = .int .u64 (k : Int) ∧ s10 = .int .i64 ((F : Int) - (bias : Int) - man + j) ∧ w1 = wr)
      case atStart => exact ⟨R + P, 0, Nat.le_refl _, by omega, (by simp : (R + P) * 2 ^ 0 ≤ R + P), (by simpa using HO.out : odd (R + P) ((F : Int) - (bias : Int) - man + (0 : Nat)) = o), by first | rfl | simp, by simp, rfl⟩
      case round =>
        obtain ⟨k, j, hkg, hk0, hkj, hko, rfl, rfl, rfl⟩ := hrel
        have hj : j < 64 := by
          rcases Nat.lt_or_ge j 64 with hj | hj
          · exact hj
          · have h3 : 2 ^ 64 ≤ 2 ^ j := Nat.pow_le_pow_right (by decide) hj
            have h4 := hkj.out
            have h5 : 1 * 2 ^ j ≤ k * 2 ^ j := Nat.mul_le_mul_right _ hk0
            omega
        have hk64 : k < 18446744073709551616 := by
          have h4 := hkj.out
          have h5 : k * 1 ≤ k * 2 ^ j := Nat.mul_le_mul_left _ (two_pos j)
          omega
        by_cases hp2 : k % 2 = 0
        · have d1 : ((k : Int) % 2 == 0) = true := by rw [beq_iff_eq]; omega
          have H1 : Hid (odd (k / 2) ((F : Int) - (bias : Int) - man + ((j + 1 : Nat) : Int)) = o) := by
            have h6 := odd_half k ((F : Int) - (bias : Int) - man + j) hk0 hk64 hp2
            show odd (k / 2) ((F : Int) - (bias : Int) - man + ((j + 1 : Nat) : Int)) = o
            rw [show (F : Int) - (bias : Int) - man + ((j + 1 : Nat) : Int) = (F : Int) - (bias : Int) - man + (j : Int) + 1 from by omega, ← h6]
            exact hko.out
          have H2 : Hid (k / 2 * 2 ^ (j + 1) ≤ R + P) := by
            have h4 := hkj.out
            show k / 2 * 2 ^ (j + 1) ≤ R + P
            have h7 : k / 2 * 2 ^ (j + 1) = (k / 2 * 2) * 2 ^ j := by rw [Nat.pow_succ, Nat.mul_comm (2 ^ j) 2, Nat.mul_assoc]
            rw [h7, Nat.div_mul_cancel (Nat.dvd_of_mod_eq_zero hp2)]
            exact h4
          go_wp2
          go_roundg (k / 2)
          case measure => omega
          case rel => exact ⟨k / 2, j + 1, Nat.le_refl _, by omega, H2, H1, by first | rfl | simp, by first | rfl | (simp; omega), rfl⟩
        · have d1 : ((k : Int) % 2 == 0) = false := by rw [beq_eq_false_iff_ne]; omega
          have ho2 := odd_self k ((F : Int) - (bias : Int) - man + j) hk64 (by omega)
          have ho3 : o = (k, (F : Int) - (bias : Int) - man + (j : Int)) := by rw [← ho2]; exact hko.out.symm
          subst ho3
          clear ho2 hko HO
          go_wp2
          go_ret2
          exact ⟨rfl, by (repeat (first | (with_reducible exact Ext.refl _) | (with_reducible assumption) | (with_reducible refine Ext.drew ?_) | (with_reducible refine Ext.drewN ?_ _) | (with_reducible refine Ext.alloc ?_ _) | (with_reducible refine Ext.setCell ?_ (Nat.le_refl _) _) | (with_reducible refine Ext.setCell ?_ (by simp; try omega) _) | (with_reducible refine Ext.trans ?_ (by with_reducible assumption))))⟩
end Go.Proofs.YtogdiobbjlpmoaaDoor

