/- Laws of odd numbers and of bit lengths, in plain Lean. No condition but those written. -/
import Derived.Test.YtogdiobbjlpmoaaDoorNum
namespace Go.Proofs.YtogdiobbjlpmoaaDoor.Cal
open Go

theorem two_pos (k : Nat) : 0 < 2 ^ k := Nat.pow_pos (by decide)

/-- A power of two times an odd number is so in one way alone. -/
theorem odd_unique : ∀ (k c o m : Nat), o % 2 = 1 → m % 2 = 1 → o * 2 ^ k = m * 2 ^ c → k = c ∧ o = m
  | 0, 0, o, m, _, _, h => by simpa using h
  | 0, c + 1, o, m, ho, _, h => by
    rw [Nat.pow_succ, ← Nat.mul_assoc, Nat.pow_zero, Nat.mul_one] at h
    omega
  | k + 1, 0, o, m, _, hm, h => by
    rw [Nat.pow_succ, ← Nat.mul_assoc, Nat.pow_zero, Nat.mul_one] at h
    omega
  | k + 1, c + 1, o, m, ho, hm, h => by
    rw [Nat.pow_succ, Nat.pow_succ, ← Nat.mul_assoc, ← Nat.mul_assoc] at h
    obtain ⟨h1, h2⟩ := odd_unique k c o m ho hm (by omega)
    exact ⟨by omega, h2⟩

theorem ctz_mul (o k : Nat) (ho : o % 2 = 1) (h : o * 2 ^ k < 2 ^ 64) : Lib.ctz 64 (o * 2 ^ k) = k := by
  have hp := two_pos k
  have h0 : 0 < o * 2 ^ k := Nat.mul_pos (by omega) hp
  have hc : Lib.ctz 64 (o * 2 ^ k) = Lib.ctzFrom 64 (o * 2 ^ k) := by unfold Lib.ctz; rw [if_neg (by omega)]
  obtain ⟨m, hm, _⟩ := Lib.ctzFrom_spec 64 (o * 2 ^ k) h0 h
  obtain ⟨h1, _⟩ := odd_unique k (Lib.ctzFrom 64 (o * 2 ^ k)) o (2 * m + 1) ho (by omega) (by rw [Nat.mul_comm (2 * m + 1)]; exact hm)
  omega

theorem odd_mul (o k : Nat) (e : Int) (ho : o % 2 = 1) (h : o * 2 ^ k < 2 ^ 64) : odd (o * 2 ^ k) e = (o, e + k) := by
  have hp := two_pos k
  have h0 : 0 < o * 2 ^ k := Nat.mul_pos (by omega) hp
  unfold odd
  rw [if_neg (by omega), ctz_mul o k ho h, Nat.mul_div_cancel _ hp]

/-- Every number but 0 is an odd one times a power of two. -/
theorem odd_parts (m : Nat) (h0 : 0 < m) (h : m < 2 ^ 64) : ∃ o k, m = o * 2 ^ k ∧ o % 2 = 1 ∧ k < 64 ∧ Lib.ctz 64 m = k := by
  obtain ⟨q, hq, hk⟩ := Lib.ctzFrom_spec 64 m h0 h
  refine ⟨2 * q + 1, Lib.ctzFrom 64 m, by rw [Nat.mul_comm]; exact hq, by omega, hk, ?_⟩
  unfold Lib.ctz
  rw [if_neg (by omega)]

theorem ctz_lt (m : Nat) (h0 : 0 < m) (h : m < 2 ^ 64) : Lib.ctz 64 m < 64 := by
  obtain ⟨_, k, _, _, hk, he⟩ := odd_parts m h0 h
  omega

/-- Taking out one two does not matter. -/
theorem odd_half (m : Nat) (e : Int) (h0 : 0 < m) (h : m < 2 ^ 64) (h2 : m % 2 = 0) : odd m e = odd (m / 2) (e + 1) := by
  obtain ⟨o, k, rfl, ho, _, _⟩ := odd_parts m h0 h
  rcases k with _ | k
  · simp at h2; omega
  · have e1 : o * 2 ^ (k + 1) / 2 = o * 2 ^ k := by rw [Nat.pow_succ, ← Nat.mul_assoc, Nat.mul_div_cancel _ (by decide)]
    have h' : o * 2 ^ k < 2 ^ 64 := by rw [Nat.pow_succ, ← Nat.mul_assoc] at h; omega
    rw [e1, odd_mul o (k + 1) e ho h, odd_mul o k _ ho h']
    simp only [Prod.mk.injEq, true_and]
    omega

theorem odd_self (m : Nat) (e : Int) (h : m < 2 ^ 64) (h2 : m % 2 = 1) : odd m e = (m, e) := by
  have := odd_mul m 0 e h2 (by simpa using h)
  simpa using this

theorem bitLen_zero : Lib.bitLen 0 = 0 := rfl
theorem bitLen_bounds : ∀ (k x : Nat), k ≤ 64 → 0 < x → x < 2 ^ k → x < 2 ^ Lib.bitLen x ∧ 2 ^ (Lib.bitLen x - 1) ≤ x ∧ 0 < Lib.bitLen x
  | 0, x, _, h0, h => by simp at h; omega
  | k + 1, x, hk, h0, h => by
    have h64 : x < 2 ^ 64 := Nat.lt_of_lt_of_le h (Nat.pow_le_pow_right (by decide) hk)
    rw [Lib.bitLen_half x (by omega) h64]
    by_cases h1 : x / 2 = 0
    · rw [h1, bitLen_zero]
      have : x = 1 := by omega
      subst this
      decide
    · obtain ⟨a, b, c⟩ := bitLen_bounds k (x / 2) (by omega) (by omega) (by rw [Nat.pow_succ] at h; omega)
      obtain ⟨j, hj⟩ : ∃ j, Lib.bitLen (x / 2) = j + 1 := ⟨Lib.bitLen (x / 2) - 1, by omega⟩
      rw [hj] at a b ⊢
      have e1 : 1 + (j + 1) - 1 = j + 1 := by omega
      have e2 : 1 + (j + 1) = j + 1 + 1 := by omega
      rw [e1, e2]
      simp only [Nat.add_sub_cancel] at b
      rw [Nat.pow_succ 2 (j + 1)]
      rw [Nat.pow_succ] at a ⊢
      omega
theorem lt_bitLen (x : Nat) (h : x < 2 ^ 64) : x < 2 ^ Lib.bitLen x := by
  rcases Nat.eq_zero_or_pos x with h0 | h0
  · subst h0; decide
  · exact (bitLen_bounds 64 x (by omega) h0 h).1
theorem bitLen_le_iff (x k : Nat) (h : x < 2 ^ 64) : Lib.bitLen x ≤ k ↔ x < 2 ^ k := by
  constructor
  · intro hk
    exact Nat.lt_of_lt_of_le (lt_bitLen x h) (Nat.pow_le_pow_right (by decide) hk)
  · intro hx
    by_cases hk : k ≤ 64
    · exact Lib.bitLen_le x k hk hx
    · exact Nat.le_trans (Lib.bitLen_le x 64 (by omega) h) (by omega)
/-- The bit length is known by its bounds. -/
theorem bitLen_eq (x k : Nat) (hk : k < 64) (h1 : 2 ^ k ≤ x) (h2 : x < 2 ^ (k + 1)) : Lib.bitLen x = k + 1 := by
  have h64 : x < 2 ^ 64 := Nat.lt_of_lt_of_le h2 (Nat.pow_le_pow_right (by decide) (by omega))
  have a := (bitLen_le_iff x (k + 1) h64).2 h2
  have b : ¬ Lib.bitLen x ≤ k := fun h => by
    have := (bitLen_le_iff x k h64).1 h
    omega
  omega
theorem bitLen_mul (x k : Nat) (h0 : 0 < x) (h : x * 2 ^ k < 2 ^ 64) : Lib.bitLen (x * 2 ^ k) = Lib.bitLen x + k := by
  have hp := two_pos k
  have hx : x < 2 ^ 64 := Nat.lt_of_le_of_lt (Nat.le_mul_of_pos_right _ hp) h
  obtain ⟨a, b, c⟩ := bitLen_bounds 64 x (by omega) h0 hx
  obtain ⟨j, hj⟩ : ∃ j, Lib.bitLen x = j + 1 := ⟨Lib.bitLen x - 1, by omega⟩
  rw [hj] at a b ⊢
  simp only [Nat.add_sub_cancel] at b
  have l1 : 2 ^ (j + k) ≤ x * 2 ^ k := by rw [Nat.pow_add]; exact Nat.mul_le_mul_right _ b
  have l2 : x * 2 ^ k < 2 ^ (j + k + 1) := by
    have : 2 ^ (j + k + 1) = 2 ^ (j + 1) * 2 ^ k := by rw [← Nat.pow_add]; congr 1; omega
    rw [this]
    exact Nat.mul_lt_mul_of_pos_right a hp
  have hlt : j + k < 64 := by
    apply Nat.lt_of_not_le
    intro hle
    have := Nat.pow_le_pow_right (n := 2) (by decide) hle
    omega
  rw [bitLen_eq _ _ hlt l1 l2]
  omega
end Go.Proofs.YtogdiobbjlpmoaaDoor.Cal
