/- The bits of a key, cut: what is behind the run, and the first two of that. No condition but those written. -/
import Derived.Test.YtogdiobbjlpmoaaDoorRefNum
namespace Go.Proofs.YtogdiobbjlpmoaaDoor
open Go Go.RowKit Cal

theorem blist_drop (k key j : Nat) (h : j ≤ k) : (blist k key).drop j = blist (k - j) key := by
  induction j generalizing k with
  | zero => simp
  | succ j ih =>
    obtain ⟨m, rfl⟩ : ∃ m, k = m + 1 := ⟨k - 1, by omega⟩
    have := ih m (by omega)
    rw [show m + 1 - (j + 1) = m - j from by omega, ← this]
    rfl
theorem blist_two (L key : Nat) : (blist (L + 2) key).take 2 = blist 2 (key / 2 ^ L) := by
  have e1 : key / 2 ^ (L + 1) = key / 2 ^ L / 2 := by rw [Nat.pow_succ, Nat.div_div_eq_div_mul]
  simp [blist, e1]
theorem blist_pad (rest : List UInt8) (L key : Nat) (h : rest = blist L key) :
    (rest ++ [48, 48]).take 2 = blist 2 (if 2 ≤ L then key / 2 ^ (L - 2) else key % 2 ^ L * 2 ^ (2 - L)) := by
  subst h
  by_cases h2 : 2 ≤ L
  · obtain ⟨m, rfl⟩ : ∃ m, L = m + 2 := ⟨L - 2, by omega⟩
    rw [if_pos h2, Nat.add_sub_cancel, ← blist_two, List.take_append_of_le_length (by rw [blist_length]; omega)]
  · rw [if_neg h2]
    have : L = 0 ∨ L = 1 := by omega
    rcases this with rfl | rfl
    · simp [blist, Nat.mod_one]
    · have : key % 2 = 0 ∨ key % 2 = 1 := by omega
      rcases this with h | h <;> simp [blist, h]
end Go.Proofs.YtogdiobbjlpmoaaDoor

