/- The run of equal bits ahead of a posit's magnitude, as the code finds it by leading noughts. No condition but those written. -/
import Derived.Test.YtogdiobbjlpmoaaDoorNumLaws
namespace Go.Proofs.YtogdiobbjlpmoaaDoor.Cal
open Go

theorem pow_split {n : Nat} (h : n ≤ 64) : 2 ^ n * 2 ^ (64 - n) = 18446744073709551616 := by
  rw [← Nat.pow_add, show n + (64 - n) = 64 from by omega]

theorem high_lt {n key : Nat} (hn : n ≤ 64) (hk : key < 2 ^ n) : key * 2 ^ (64 - n) < 2 ^ 64 := by
  have h := pow_split hn
  have := Nat.mul_lt_mul_of_pos_right hk (two_pos (64 - n))
  omega

theorem clz_high {n key : Nat} (hn : n ≤ 64) (h0 : 0 < key) (hk : key < 2 ^ n) : Lib.bitLen (key * 2 ^ (64 - n)) = Lib.bitLen key + (64 - n) :=
  bitLen_mul key (64 - n) h0 (high_lt hn hk)

theorem bitLen_le_n {n key : Nat} (hn : n ≤ 64) (hk : key < 2 ^ n) : Lib.bitLen key ≤ n := Lib.bitLen_le key n hn hk

theorem bitLen_top {n key : Nat} (hn0 : 0 < n) (hn : n ≤ 64) (hk : key < 2 ^ n) : Lib.bitLen key = n ↔ 2 ^ (n - 1) ≤ key := by
  have h64 : key < 2 ^ 64 := Nat.lt_of_lt_of_le hk (Nat.pow_le_pow_right (by decide) hn)
  have a := bitLen_le_n hn hk
  have b := bitLen_le_iff key (n - 1) h64
  omega

/-- All ones: the complement has no bits. -/
theorem clz_not {n key : Nat} (hn : n ≤ 64) (hk : key < 2 ^ n) :
    min (64 - Lib.bitLen (18446744073709551615 - key * 2 ^ (64 - n))) n = n - Lib.bitLen (2 ^ n - 1 - key) := by
  have hs := pow_split hn
  have hp := two_pos (64 - n)
  have hlt := high_lt hn hk
  obtain ⟨d, hd⟩ : ∃ d, 2 ^ n = key + 1 + d := ⟨2 ^ n - key - 1, by omega⟩
  have e1 : 18446744073709551615 - key * 2 ^ (64 - n) = d * 2 ^ (64 - n) + (2 ^ (64 - n) - 1) := by
    rw [hd, Nat.add_mul, Nat.add_mul] at hs
    omega
  have e2 : 2 ^ n - 1 - key = d := by omega
  rw [e1, e2]
  have hdn : d < 2 ^ n := by omega
  have hb := bitLen_le_n hn hdn
  rcases Nat.eq_zero_or_pos d with h0 | h0
  · subst h0
    have hle : Lib.bitLen (0 * 2 ^ (64 - n) + (2 ^ (64 - n) - 1)) ≤ 64 - n := Lib.bitLen_le _ _ (by omega) (by omega)
    rw [bitLen_zero]
    omega
  · have hd64 : d < 2 ^ 64 := Nat.lt_of_lt_of_le hdn (Nat.pow_le_pow_right (by decide) hn)
    obtain ⟨a, b, c⟩ := bitLen_bounds 64 d (by omega) h0 hd64
    obtain ⟨j, hj⟩ : ∃ j, Lib.bitLen d = j + 1 := ⟨Lib.bitLen d - 1, by omega⟩
    rw [hj] at a b hb ⊢
    simp only [Nat.add_sub_cancel] at b
    have l1 : 2 ^ (j + (64 - n)) ≤ d * 2 ^ (64 - n) := by rw [Nat.pow_add]; exact Nat.mul_le_mul_right _ b
    have l2 : d * 2 ^ (64 - n) + 2 ^ (64 - n) ≤ 2 ^ (j + (64 - n) + 1) := by
      have e : 2 ^ (j + (64 - n) + 1) = 2 ^ (j + 1) * 2 ^ (64 - n) := by rw [← Nat.pow_add]; congr 1; omega
      have e' : d * 2 ^ (64 - n) + 2 ^ (64 - n) = (d + 1) * 2 ^ (64 - n) := by rw [Nat.add_mul, Nat.one_mul]
      rw [e, e']
      exact Nat.mul_le_mul_right _ a
    rw [bitLen_eq _ (j + (64 - n)) (by omega) (by omega) (by omega)]
    omega
end Go.Proofs.YtogdiobbjlpmoaaDoor.Cal
