/- The run of equal bits ahead of a posit's magnitude, as it is found bit by bit. No condition but those written. -/
import Derived.Test.YtogdiobbjlpmoaaDoorRuns
namespace Go.Proofs.YtogdiobbjlpmoaaDoor.Cal
open Go

/-- The bit j from the highest one on, of a key of n bits. -/
def bitAt (n key j : Nat) : Nat := key / 2 ^ (n - 1 - j) % 2

theorem bitAt_lt (n key j : Nat) : bitAt n key j < 2 := Nat.mod_lt _ (by decide)

theorem top_step (n key r : Nat) (h : r < n) : key / 2 ^ (n - (r + 1)) = 2 * (key / 2 ^ (n - r)) + bitAt n key r := by
  have e : n - r = n - (r + 1) + 1 := by omega
  unfold bitAt
  rw [e, Nat.pow_succ, ← Nat.div_div_eq_div_mul, show n - 1 - r = n - (r + 1) from by omega]
  omega

theorem top_zeros (n key : Nat) (hk : key < 2 ^ n) : ∀ r, r ≤ n → (∀ j, j < r → bitAt n key j = 0) → key / 2 ^ (n - r) = 0
  | 0, _, _ => Nat.div_eq_of_lt hk
  | r + 1, hr, h => by
    rw [top_step n key r (by omega), top_zeros n key hk r (by omega) (fun j hj => h j (by omega)), h r (by omega)]

theorem top_ones (n key : Nat) (hk : key < 2 ^ n) : ∀ r, r ≤ n → (∀ j, j < r → bitAt n key j = 1) → key / 2 ^ (n - r) = 2 ^ r - 1
  | 0, _, _ => Nat.div_eq_of_lt hk
  | r + 1, hr, h => by
    rw [top_step n key r (by omega), top_ones n key hk r (by omega) (fun j hj => h j (by omega)), h r (by omega), Nat.pow_succ]
    have := two_pos r
    omega

theorem bitAt_zero (n key : Nat) (hn : 0 < n) (hk : key < 2 ^ n) : bitAt n key 0 = if 2 ^ (n - 1) ≤ key then 1 else 0 := by
  have h := top_step n key 0 hn
  rw [Nat.sub_zero, Nat.div_eq_of_lt hk] at h
  have e : 2 ^ n = 2 * 2 ^ (n - 1) := by
    rw [← Nat.pow_succ']
    congr 1
    omega
  have hp := two_pos (n - 1)
  split
  · rename_i hle
    have h1 : 1 ≤ key / 2 ^ (n - 1) := (Nat.le_div_iff_mul_le hp).2 (by omega)
    have := bitAt_lt n key 0
    simp only [Nat.zero_add] at h
    omega
  · rename_i hle
    have h1 : key / 2 ^ (n - 1) = 0 := Nat.div_eq_of_lt (by omega)
    simp only [Nat.zero_add] at h
    omega

/-- The run is told by its bits. -/
theorem prun_of (n key r : Nat) (hn0 : 0 < n) (hn : n ≤ 64) (h0 : 0 < key) (hk : key < 2 ^ n) (hr : r ≤ n) (hr0 : 0 < r) (hall : ∀ j, j < r → bitAt n key j = bitAt n key 0)
    (hend : r < n → bitAt n key r ≠ bitAt n key 0) : prun n key = r := by
  have hb0 := bitAt_zero n key hn0 hk
  unfold prun
  by_cases ht : 2 ^ (n - 1) ≤ key
  · rw [if_pos ht] at hb0 ⊢
    have ho := top_ones n key hk r hr (fun j hj => (hall j hj).trans hb0)
    have hp := two_pos (n - r)
    have hpr := two_pos r
    have es : 2 ^ r * 2 ^ (n - r) = 2 ^ n := by rw [← Nat.pow_add]; congr 1; omega
    have hlow : 2 ^ n - 2 ^ (n - r) ≤ key := by
      have : (2 ^ r - 1) * 2 ^ (n - r) ≤ key := by rw [← ho]; exact Nat.div_mul_le_self _ _
      rw [Nat.sub_mul, es, Nat.one_mul] at this
      exact this
    have hd64 : 2 ^ n - 1 - key < 2 ^ 64 := by
      have := Nat.pow_le_pow_right (n := 2) (by decide) hn
      omega
    have hle := (bitLen_le_iff (2 ^ n - 1 - key) (n - r) hd64).2 (by omega)
    rcases Nat.lt_or_ge r n with hlt | hge
    · have hbr : bitAt n key r = 0 := by
        have := bitAt_lt n key r
        have := hend hlt
        omega
      have hs := top_step n key r hlt
      rw [ho, hbr] at hs
      have hp1 := two_pos (n - (r + 1))
      have hup : key < (2 ^ (r + 1) - 1) * 2 ^ (n - (r + 1)) := by
        have h1 : key / 2 ^ (n - (r + 1)) < 2 ^ (r + 1) - 1 := by rw [hs, Nat.pow_succ]; omega
        exact (Nat.div_lt_iff_lt_mul hp1).1 h1
      have es1 : 2 ^ (r + 1) * 2 ^ (n - (r + 1)) = 2 ^ n := by rw [← Nat.pow_add]; congr 1; omega
      rw [Nat.sub_mul, es1, Nat.one_mul] at hup
      have hnot : ¬ Lib.bitLen (2 ^ n - 1 - key) ≤ n - (r + 1) := fun h => by
        have := (bitLen_le_iff _ _ hd64).1 h
        omega
      omega
    · have : n - r = 0 := by omega
      omega
  · rw [if_neg ht] at hb0 ⊢
    have ho := top_zeros n key hk r hr (fun j hj => (hall j hj).trans hb0)
    have hp := two_pos (n - r)
    have h64 : key < 2 ^ 64 := Nat.lt_of_lt_of_le hk (Nat.pow_le_pow_right (by decide) hn)
    have hlt' : key < 2 ^ (n - r) := (Nat.div_eq_zero_iff_lt hp).1 ho
    have hle := (bitLen_le_iff key (n - r) h64).2 hlt'
    rcases Nat.lt_or_ge r n with hlt | hge
    · have hbr : bitAt n key r = 1 := by
        have := bitAt_lt n key r
        have := hend hlt
        omega
      have hs := top_step n key r hlt
      rw [ho, hbr] at hs
      have hp1 := two_pos (n - (r + 1))
      have hge1 : 2 ^ (n - (r + 1)) ≤ key := by
        have h1 : 1 ≤ key / 2 ^ (n - (r + 1)) := by omega
        have := (Nat.le_div_iff_mul_le hp1).1 h1
        omega
      have hnot : ¬ Lib.bitLen key ≤ n - (r + 1) := fun h => by
        have := (bitLen_le_iff _ _ h64).1 h
        omega
      omega
    · have e : n - r = 0 := by omega
      rw [e] at hlt'
      simp at hlt'
      omega

theorem prun_le (n key : Nat) : prun n key ≤ n := by unfold prun; split <;> omega
theorem prun_pos (n key : Nat) (hn0 : 0 < n) (hn : n ≤ 64) (hk : key < 2 ^ n) : 0 < prun n key := by
  have e : 2 ^ n = 2 * 2 ^ (n - 1) := by
    rw [← Nat.pow_succ']
    congr 1
    omega
  have h64 := Nat.pow_le_pow_right (n := 2) (by decide) hn
  unfold prun
  split
  · have := (bitLen_le_iff (2 ^ n - 1 - key) (n - 1) (by omega)).2 (by omega)
    omega
  · have := (bitLen_le_iff key (n - 1) (by omega)).2 (by omega)
    omega
end Go.Proofs.YtogdiobbjlpmoaaDoor.Cal
