/- Which magnitudes patterns have. No condition but those written. -/
import Derived.Test.YtogdiobbjlpmoaaDoorNumOk
import Derived.Test.YtogdiobbjlpmoaaDoorClass
namespace Go.Proofs.YtogdiobbjlpmoaaDoor
open Go Go.RowKit Cal

theorem key_last (i p : Nat) (h1 : 1 ≤ i) (h2 : i ≤ 14) (hp : p < 2 ^ (frm i).width) (hc : cls (frm i) p = 2 ∨ cls (frm i) p = 1) : keyP (frm i) p ≤ lastKey (frm i) := by
  have : i = 1 ∨ i = 2 ∨ i = 3 ∨ i = 4 ∨ i = 5 ∨ i = 6 ∨ i = 7 ∨ i = 8 ∨ i = 9 ∨ i = 10 ∨ i = 11 ∨ i = 12 ∨ i = 13 ∨ i = 14 := by omega
  rcases this with rfl | rfl | rfl | rfl | rfl | rfl | rfl | rfl | rfl | rfl | rfl | rfl | rfl | rfl
  all_goals
    simp [frm] at hp
    simp only [cls, keyP, negP, frm, lastKey, decide_eq_true_eq] at hc ⊢
    simp at hc ⊢
    repeat' split at hc
    all_goals (repeat' split)
    all_goals omega

theorem key_pos (f : Frm) (p : Nat) (hc : cls f p = 2) (hk : f.kind ≠ 4) : 0 < keyP f p := by
  unfold cls at hc
  split at hc
  · omega
  · split at hc
    · omega
    · split at hc
      · omega
      · rename_i h
        exact Nat.pos_of_ne_zero fun h0 => h ⟨h0, hk⟩

theorem key_lt (f : Frm) (p : Nat) (hw : f.width ≤ 64) (hp : p < 2 ^ f.width) : keyP f p < 18446744073709551616 := by
  have h := pow_le64 hw
  have h0 := two_pos (f.width - 1)
  unfold keyP
  split
  · rename_i hn
    unfold negP at hn
    have := (of_decide_eq_true hn).2
    split <;> omega
  · omega
end Go.Proofs.YtogdiobbjlpmoaaDoor

