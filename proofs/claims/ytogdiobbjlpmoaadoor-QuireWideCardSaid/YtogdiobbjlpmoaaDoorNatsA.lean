/- Natural numbers as words of 64 bits, in plain Lean. No condition but those written. A number's words in memory: what a stored word does to it; sums of products, and shifts, word by word. No condition but those written. A natural number in memory, as a slice of words; nat.trim. No condition but those written. nat.at, nat.Bits, nat.Bit, nat.Even, nat.Cmp: what they answer of a number in memory. No condition but those written. nat.Add: the sum. No condition but those written. nat.Sub: the difference, if there is one. No condition but those written. -/
import Derived.Test.YtogdiobbjlpmoaaDoorEnv
import Derived.Test.YtogdiobbjlpmoaaDoorClass
import Derived.Test.YtogdiobbjlpmoaaDoorShelf
import Derived.Test.YtogdiobbjlpmoaaDoorPval
import Derived.Deep.LoopGhost
import Derived.Deep.QuietTactic
import Derived.BigQuiet
import Derived.Outline
import Derived.Laws.Externs
import Derived.Laws.MakeOwn
import Derived.StillTailTactics
import Derived.Shelf.Spec.BitsCarry
import Derived.Deep.RegionWith
namespace Go.Proofs.YtogdiobbjlpmoaaDoor
open Go Go.RowKit Cal

/-- The word i of a number. -/
def word (n i : Nat) : Nat := n / 2 ^ (64 * i) % 18446744073709551616
/-- How many bits, and words, a number has. -/
def nbits (n : Nat) : Nat := if n = 0 then 0 else n.log2 + 1
def wlen (n : Nat) : Nat := (nbits n + 63) / 64

theorem nbits_le (n k : Nat) : nbits n ≤ k ↔ n < 2 ^ k := by
  unfold nbits
  split
  · rename_i h
    subst h
    have := two_pos k
    omega
  · rename_i h
    rw [← Nat.log2_lt h]
    omega
theorem wlen_le (n k : Nat) : wlen n ≤ k ↔ n < 2 ^ (64 * k) := by
  rw [← nbits_le]
  unfold wlen
  omega
theorem wlen_zero : wlen 0 = 0 := by decide
theorem wlen_pos {n : Nat} : 0 < wlen n ↔ 0 < n := by
  have := wlen_le n 0
  simp at this
  omega
theorem wlen_mono {n m : Nat} (h : n ≤ m) : wlen n ≤ wlen m := (wlen_le n _).2 (Nat.lt_of_le_of_lt h ((wlen_le m _).1 (Nat.le_refl _)))
theorem lt_wlen (n : Nat) : n < 2 ^ (64 * wlen n) := (wlen_le n _).1 (Nat.le_refl _)
theorem word_lt (n i : Nat) : word n i < 18446744073709551616 := Nat.mod_lt _ (by decide)
theorem pow64_succ (i : Nat) : 2 ^ (64 * (i + 1)) = 2 ^ (64 * i) * 18446744073709551616 := by
  rw [Nat.mul_add, Nat.pow_add]
theorem div_step (n i : Nat) : n / 2 ^ (64 * i) = word n i + 18446744073709551616 * (n / 2 ^ (64 * (i + 1))) := by
  rw [pow64_succ, ← Nat.div_div_eq_div_mul]
  unfold word
  omega
theorem word_zero (n : Nat) : word n 0 = n % 18446744073709551616 := by simp [word]
theorem word_hi {n i : Nat} (h : n < 2 ^ (64 * i)) : word n i = 0 := by
  unfold word
  rw [Nat.div_eq_of_lt h]
theorem word_of_zero (i : Nat) : word 0 i = 0 := by simp [word]
theorem word_small {n : Nat} (h : n < 18446744073709551616) : word n 0 = n := by rw [word_zero]; omega
theorem word_wlen {n i : Nat} (h : wlen n ≤ i) : word n i = 0 := word_hi ((wlen_le n i).1 h)
/-- A word less, if the highest one is nought. -/
theorem trim_step {n j : Nat} (h : n < 2 ^ (64 * (j + 1))) (h0 : word n j = 0) : n < 2 ^ (64 * j) := by
  have h1 := div_step n j
  rw [h0, Nat.div_eq_of_lt h] at h1
  exact (Nat.div_eq_zero_iff_lt (two_pos _)).1 h1
theorem trim_end {n j : Nat} (h : n < 2 ^ (64 * j)) (h0 : j = 0 ∨ word n (j - 1) ≠ 0) : wlen n = j := by
  have h1 := (wlen_le n j).2 h
  rcases h0 with h0 | h0
  · omega
  · rcases Nat.lt_or_ge (wlen n) j with h2 | h2
    · exact absurd (word_wlen (show wlen n ≤ j - 1 by omega)) h0
    · omega
theorem word_top {n : Nat} (h : 0 < n) : word n (wlen n - 1) ≠ 0 := by
  intro h0
  have h1 := wlen_pos.2 h
  have h2 := lt_wlen n
  rw [show wlen n = wlen n - 1 + 1 from by omega] at h2
  have := (wlen_le n _).2 (trim_step h2 h0)
  omega
/-- Any words are those of a number. -/
theorem words_number (f : Nat → Nat) (k : Nat) (h : ∀ i, i < k → f i < 18446744073709551616) : ∃ n, n < 2 ^ (64 * k) ∧ ∀ i, i < k → word n i = f i := by
  induction k with
  | zero => exact ⟨0, by simp, fun i hi => by omega⟩
  | succ k ih =>
    obtain ⟨n, hn, hw⟩ := ih (fun i hi => h i (by omega))
    have hk := h k (by omega)
    have hp := two_pos (64 * k)
    refine ⟨n + 2 ^ (64 * k) * f k, ?_, ?_⟩
    · rw [pow64_succ]
      have : 2 ^ (64 * k) * (f k + 1) ≤ 2 ^ (64 * k) * 18446744073709551616 := Nat.mul_le_mul_left _ hk
      rw [Nat.mul_add] at this
      omega
    · intro i hi
      rcases Nat.lt_or_ge i k with hlt | hge
      · rw [← hw i hlt]
        unfold word
        have e : 2 ^ (64 * k) = 2 ^ (64 * i) * (18446744073709551616 * 2 ^ (64 * (k - i - 1))) := by
          rw [← Nat.mul_assoc, ← pow64_succ, ← Nat.pow_add]
          congr 1
          omega
        rw [e, Nat.mul_assoc, Nat.add_mul_div_left _ _ (two_pos _), Nat.mul_assoc]
        omega
      · obtain rfl : i = k := by omega
        unfold word
        rw [Nat.add_mul_div_left _ _ hp, Nat.div_eq_of_lt hn]
        omega
theorem words_eq {n m k : Nat} (hn : n < 2 ^ (64 * k)) (hm : m < 2 ^ (64 * k)) (h : ∀ i, i < k → word n i = word m i) : n = m := by
  have key : ∀ j, j ≤ k → n / 2 ^ (64 * (k - j)) = m / 2 ^ (64 * (k - j)) := by
    intro j
    induction j with
    | zero => intro _; rw [Nat.sub_zero, Nat.div_eq_of_lt hn, Nat.div_eq_of_lt hm]
    | succ j ih =>
      intro hj
      have e : k - j = k - (j + 1) + 1 := by omega
      have h1 := ih (by omega)
      have a := div_step n (k - (j + 1))
      have b := div_step m (k - (j + 1))
      rw [← e] at a b
      rw [a, b, h1, h _ (by omega)]
  have := key k (Nat.le_refl _)
  simpa using this
theorem nbits_zero : nbits 0 = 0 := rfl
theorem nbits_pos {n : Nat} : 0 < nbits n ↔ 0 < n := by
  have := nbits_le n 0
  simp at this
  omega
theorem nbits_top {n : Nat} (h : 0 < n) : 2 ^ (nbits n - 1) ≤ n := by
  have h1 := nbits_pos.2 h
  rcases Nat.lt_or_ge n (2 ^ (nbits n - 1)) with h2 | h2
  · have := (nbits_le n _).2 h2
    omega
  · exact h2
theorem nbits_eq {n k : Nat} (h : 2 ^ k ≤ n) (h2 : n < 2 ^ (k + 1)) : nbits n = k + 1 := by
  have a := (nbits_le n (k + 1)).2 h2
  rcases Nat.lt_or_ge (nbits n) (k + 1) with b | b
  · have := (nbits_le n k).1 (by omega)
    omega
  · omega
/-- The bits of a number are those of its highest word, and those below it. -/
theorem nbits_words {n : Nat} (h : 0 < n) : nbits n = 64 * (wlen n - 1) + nbits (word n (wlen n - 1)) := by
  have h1 := wlen_pos.2 h
  have h2 := lt_wlen n
  have hd := div_step n (wlen n - 1)
  rw [show wlen n - 1 + 1 = wlen n from by omega, Nat.div_eq_of_lt h2, Nat.mul_zero, Nat.add_zero] at hd
  have hw := word_top h
  generalize word n (wlen n - 1) = x at *
  have hx0 : 0 < x := by omega
  have t := nbits_top hx0
  have u := (nbits_le x _).1 (Nat.le_refl _)
  have v := nbits_pos.2 hx0
  generalize nbits x = b at *
  have e1 : 2 ^ (64 * (wlen n - 1) + (b - 1)) ≤ n := by
    rw [Nat.pow_add]
    have : 2 ^ (64 * (wlen n - 1)) * 2 ^ (b - 1) ≤ 2 ^ (64 * (wlen n - 1)) * x := Nat.mul_le_mul_left _ t
    have := Nat.mul_div_le n (2 ^ (64 * (wlen n - 1)))
    rw [hd] at this
    omega
  have e2 : n < 2 ^ (64 * (wlen n - 1) + (b - 1) + 1) := by
    rw [show 64 * (wlen n - 1) + (b - 1) + 1 = 64 * (wlen n - 1) + b from by omega, Nat.pow_add, Nat.mul_comm]
    exact (Nat.div_lt_iff_lt_mul (two_pos _)).1 (by rw [hd]; exact u)
  rw [nbits_eq e1 e2]
  omega
theorem nbits_bitLen (x : Nat) (h : x < 18446744073709551616) : nbits x = Lib.bitLen x := by
  have a : ∀ k, nbits x ≤ k ↔ Lib.bitLen x ≤ k := fun k => by rw [nbits_le, bitLen_le_iff x k (by omega)]
  have b := (a (nbits x)).1 (Nat.le_refl _)
  have c := (a (Lib.bitLen x)).2 (Nat.le_refl _)
  omega

/-- What is carried in a sum. -/
def carryAt (a b i : Nat) : Nat := (a + b) / 2 ^ (64 * i) - a / 2 ^ (64 * i) - b / 2 ^ (64 * i)
theorem add_div_two (a b p : Nat) (hp : 0 < p) : a / p + b / p ≤ (a + b) / p ∧ (a + b) / p ≤ a / p + b / p + 1 := by
  have ha := Nat.div_add_mod a p
  have hb := Nat.div_add_mod b p
  have la := Nat.mod_lt a hp
  have lb := Nat.mod_lt b hp
  generalize a / p = x at *
  generalize b / p = y at *
  constructor
  · rw [Nat.le_div_iff_mul_le hp, Nat.add_mul, Nat.mul_comm x, Nat.mul_comm y]
    omega
  · apply Nat.le_of_lt_succ
    rw [Nat.div_lt_iff_lt_mul hp]
    have : (x + y + 1).succ * p = p * x + p * y + p + p := by
      rw [Nat.succ_mul, Nat.add_mul, Nat.add_mul, Nat.mul_comm x, Nat.mul_comm y, Nat.one_mul]
    omega
theorem carry_eq (a b i : Nat) : (a + b) / 2 ^ (64 * i) = a / 2 ^ (64 * i) + b / 2 ^ (64 * i) + carryAt a b i := by
  have := (add_div_two a b _ (two_pos (64 * i))).1
  unfold carryAt
  omega
theorem carry_le (a b i : Nat) : carryAt a b i ≤ 1 := by
  have := (add_div_two a b _ (two_pos (64 * i))).2
  unfold carryAt
  omega
theorem carry_zero (a b : Nat) : carryAt a b 0 = 0 := by simp [carryAt]
theorem carry_step (a b i : Nat) : word a i + word b i + carryAt a b i = word (a + b) i + 18446744073709551616 * carryAt a b (i + 1) := by
  have h1 := carry_eq a b i
  have h2 := carry_eq a b (i + 1)
  have ha := div_step a i
  have hb := div_step b i
  have hc := div_step (a + b) i
  omega
/-- What is borrowed in a difference. -/
def borrowAt (a b i : Nat) : Nat := carryAt (a - b) b i
theorem borrow_le (a b i : Nat) : borrowAt a b i ≤ 1 := carry_le _ _ _
theorem borrow_zero (a b : Nat) : borrowAt a b 0 = 0 := carry_zero _ _
theorem borrow_step (a b i : Nat) (h : b ≤ a) : word (a - b) i + word b i + borrowAt a b i = word a i + 18446744073709551616 * borrowAt a b (i + 1) := by
  have := carry_step (a - b) b i
  rw [Nat.sub_add_cancel h] at this
  exact this

/-- Numbers are compared from the highest word on. -/
def ncmp (a b : Nat) : Int := if a < b then -1 else if b < a then 1 else 0
theorem ncmp_refl (a : Nat) : ncmp a a = 0 := by simp [ncmp]
theorem ncmp_lt {a b : Nat} (h : a < b) : ncmp a b = -1 := by simp [ncmp, h]
theorem ncmp_gt {a b : Nat} (h : b < a) : ncmp a b = 1 := by unfold ncmp; rw [if_neg (by omega), if_pos h]
theorem ncmp_eq {a b : Nat} : ncmp a b = 0 ↔ a = b := by
  unfold ncmp
  split
  · simp; omega
  · split
    · simp; omega
    · simp; omega
theorem ncmp_neg {a b : Nat} : ncmp a b < 0 ↔ a < b := by
  unfold ncmp
  split
  · simp; omega
  · split
    · simp; omega
    · simp; omega
theorem cmp_len {a b : Nat} (h : wlen a < wlen b) : a < b := by
  rcases Nat.lt_or_ge a b with h1 | h1
  · exact h1
  · have := wlen_mono h1
    omega
theorem cmp_word {a b i : Nat} (h : a / 2 ^ (64 * (i + 1)) = b / 2 ^ (64 * (i + 1))) (hw : word a i < word b i) : a < b := by
  have ha := div_step a i
  have hb := div_step b i
  rcases Nat.lt_or_ge a b with h1 | h1
  · exact h1
  · have := Nat.div_le_div_right (c := 2 ^ (64 * i)) h1
    omega
theorem cmp_next {a b i : Nat} (h : a / 2 ^ (64 * (i + 1)) = b / 2 ^ (64 * (i + 1))) (hw : word a i = word b i) : a / 2 ^ (64 * i) = b / 2 ^ (64 * i) := by
  have ha := div_step a i
  have hb := div_step b i
  omega
end Go.Proofs.YtogdiobbjlpmoaaDoor

namespace Go.Proofs.YtogdiobbjlpmoaaDoor
open Go Go.RowKit Cal

theorem word_mod {n i j : Nat} (h : i < j) : word (n % 2 ^ (64 * j)) i = word n i := by
  have e : 2 ^ (64 * j) = 2 ^ (64 * i) * (18446744073709551616 * 2 ^ (64 * (j - i - 1))) := by
    rw [← Nat.mul_assoc, ← pow64_succ, ← Nat.pow_add]
    congr 1
    omega
  unfold word
  rw [e, Nat.mod_mul_right_div_self, Nat.mod_mul_right_mod]
theorem word_mod_hi {n i j : Nat} (h : j ≤ i) : word (n % 2 ^ (64 * j)) i = 0 :=
  word_hi (Nat.lt_of_lt_of_le (Nat.mod_lt _ (two_pos _)) (Nat.pow_le_pow_right (by decide) (by omega)))
theorem word_div (n i j : Nat) : word (n / 2 ^ (64 * j)) i = word n (j + i) := by
  unfold word
  rw [Nat.div_div_eq_div_mul, ← Nat.pow_add, Nat.mul_add]
theorem mod_succ (n j : Nat) : n % 2 ^ (64 * (j + 1)) = n % 2 ^ (64 * j) + word n j * 2 ^ (64 * j) := by
  rw [pow64_succ, Nat.mod_mul]
  unfold word
  rw [Nat.mul_comm (2 ^ (64 * j)) (_ % _)]
theorem word_parts (n j : Nat) : n = n % 2 ^ (64 * j) + word n j * 2 ^ (64 * j) + n / 2 ^ (64 * (j + 1)) * 2 ^ (64 * (j + 1)) := by
  have h := Nat.div_add_mod n (2 ^ (64 * (j + 1)))
  rw [mod_succ, Nat.mul_comm] at h
  omega
/-- One word is stored. -/
theorem set_word {n n' j y : Nat} (hy : y < 18446744073709551616) (h : n' + word n j * 2 ^ (64 * j) = n + y * 2 ^ (64 * j)) (i : Nat) :
    word n' i = if i = j then y else word n i := by
  have hp := two_pos (64 * j)
  have hw := word_parts n j
  have hl := Nat.mod_lt n hp
  have e : n' = n % 2 ^ (64 * j) + 2 ^ (64 * j) * (y + 18446744073709551616 * (n / 2 ^ (64 * (j + 1)))) := by
    have : 2 ^ (64 * j) * (y + 18446744073709551616 * (n / 2 ^ (64 * (j + 1)))) = y * 2 ^ (64 * j) + n / 2 ^ (64 * (j + 1)) * 2 ^ (64 * (j + 1)) := by
      rw [Nat.mul_add, pow64_succ, Nat.mul_comm y, ← Nat.mul_assoc, Nat.mul_comm (n / _)]
    rw [this]
    generalize n / 2 ^ (64 * (j + 1)) * 2 ^ (64 * (j + 1)) = A at *
    generalize word n j * 2 ^ (64 * j) = C at *
    generalize y * 2 ^ (64 * j) = D at *
    generalize n % 2 ^ (64 * j) = E at *
    omega
  have hm : n' % 2 ^ (64 * j) = n % 2 ^ (64 * j) := by rw [e, Nat.add_mul_mod_self_left, Nat.mod_mod]
  have hd : n' / 2 ^ (64 * j) = y + 18446744073709551616 * (n / 2 ^ (64 * (j + 1))) := by
    rw [e, Nat.add_mul_div_left _ _ hp, Nat.div_eq_of_lt hl, Nat.zero_add]
  have hd1 : n' / 2 ^ (64 * (j + 1)) = n / 2 ^ (64 * (j + 1)) := by
    rw [pow64_succ, ← Nat.div_div_eq_div_mul, hd, ← pow64_succ]
    omega
  rcases Nat.lt_trichotomy i j with hlt | rfl | hgt
  · rw [if_neg (by omega), ← word_mod (n := n') hlt, hm, word_mod hlt]
  · rw [if_pos rfl]
    unfold word
    rw [hd]
    omega
  · rw [if_neg (by omega), show i = j + 1 + (i - j - 1) from by omega, ← word_div, hd1, word_div]
theorem set_lt {n n' j y k : Nat} (hy : y < 18446744073709551616) (h : n' + word n j * 2 ^ (64 * j) = n + y * 2 ^ (64 * j)) (hj : j < k) (hn : n < 2 ^ (64 * k)) : n' < 2 ^ (64 * k) := by
  have hs := set_word hy h
  have key : ∀ d, n' < 2 ^ (64 * (k + d)) → n' < 2 ^ (64 * k) := by
    intro d
    induction d with
    | zero => exact id
    | succ d ih =>
      intro hd
      refine ih (trim_step hd ?_)
      rw [hs, if_neg (by omega)]
      exact word_hi (Nat.lt_of_lt_of_le hn (Nat.pow_le_pow_right (by decide) (by omega)))
  have hb := lt_wlen n'
  exact key (wlen n') (Nat.lt_of_lt_of_le hb (Nat.pow_le_pow_right (by decide) (by omega)))

/-- The cells of a number's first words. -/
def wcells (k n : Nat) : Array Value := ((List.range k).map fun i => Value.int .u64 (word n i : Nat)).toArray
theorem wcells_size (k n : Nat) : (wcells k n).size = k := by simp [wcells]
theorem wcells_get {k n i : Nat} (h : i < k) : (wcells k n)[i]? = some (.int .u64 (word n i : Nat)) := by simp [wcells, h]
theorem wcells_ext {k n m : Nat} (h : ∀ i, i < k → word n i = word m i) : wcells k n = wcells k m := by
  unfold wcells
  congr 1
  exact List.map_congr_left fun i hi => by rw [h i (List.mem_range.1 hi)]
theorem wcells_set {k n n' j y : Nat} (hy : y < 18446744073709551616) (h : n' + word n j * 2 ^ (64 * j) = n + y * 2 ^ (64 * j)) :
    (wcells k n).setIfInBounds j (.int .u64 (y : Nat)) = wcells k n' := by
  have hs := set_word hy h
  apply Array.ext
  · simp [wcells]
  · intro i h1 h2
    have hi : i < k := by simpa [wcells] using h2
    rw [Array.getElem_setIfInBounds]
    simp only [wcells, List.getElem_toArray, List.getElem_map, List.getElem_range, hs]
    by_cases hij : j = i
    · rw [if_pos hij, if_pos hij.symm]
    · rw [if_neg hij, if_neg (fun e => hij e.symm)]
    all_goals simp [wcells, hi]
theorem wcells_zeros (k : Nat) : Array.replicate k (Value.int .u64 0) = wcells k 0 := by
  apply Array.ext
  · simp [wcells]
  · intro i h1 h2
    simp [wcells, word_of_zero]
/-- The words are stored one behind the other. -/
theorem wcells_fill (k m i : Nat) : (wcells k (m % 2 ^ (64 * i))).setIfInBounds i (.int .u64 (word m i : Nat)) = wcells k (m % 2 ^ (64 * (i + 1))) :=
  wcells_set (word_lt m i) (by rw [word_mod_hi (Nat.le_refl i), mod_succ, Nat.zero_mul, Nat.add_zero])

/-- One word of a sum of products, and what is carried. -/
theorem mul_step {x b P m c y c' A k i : Nat} (hi : m + c * 2 ^ (64 * (i + k)) = A + x * (b % 2 ^ (64 * k)) * 2 ^ (64 * i))
    (h : y + 18446744073709551616 * c' = word m (i + k) + x * word b k + c) (hP : P + word m (i + k) * 2 ^ (64 * (i + k)) = m + y * 2 ^ (64 * (i + k))) :
    P + c' * 2 ^ (64 * (i + (k + 1))) = A + x * (b % 2 ^ (64 * (k + 1))) * 2 ^ (64 * i) := by
  rw [mod_succ, show i + (k + 1) = i + k + 1 from rfl, pow64_succ]
  have e : x * (b % 2 ^ (64 * k) + word b k * 2 ^ (64 * k)) * 2 ^ (64 * i) = x * (b % 2 ^ (64 * k)) * 2 ^ (64 * i) + x * word b k * 2 ^ (64 * (i + k)) := by
    rw [Nat.mul_add, Nat.add_mul, Nat.mul_add 64 i k, Nat.pow_add]
    congr 1
    rw [← Nat.mul_assoc, Nat.mul_assoc, Nat.mul_comm (2 ^ (64 * k))]
  rw [e, ← Nat.add_assoc, ← hi]
  have h2 : (y + 18446744073709551616 * c') * 2 ^ (64 * (i + k)) = (word m (i + k) + x * word b k + c) * 2 ^ (64 * (i + k)) := by rw [h]
  rw [Nat.add_mul, Nat.add_mul, Nat.add_mul] at h2
  have e2 : c' * (2 ^ (64 * (i + k)) * 18446744073709551616) = 18446744073709551616 * c' * 2 ^ (64 * (i + k)) := by
    rw [Nat.mul_comm (2 ^ (64 * (i + k))), ← Nat.mul_assoc, Nat.mul_comm c']
  rw [e2]
  generalize 18446744073709551616 * c' * 2 ^ (64 * (i + k)) = Z at *
  generalize y * 2 ^ (64 * (i + k)) = Y at *
  generalize word m (i + k) * 2 ^ (64 * (i + k)) = X at *
  generalize x * word b k * 2 ^ (64 * (i + k)) = V at *
  generalize c * 2 ^ (64 * (i + k)) = C at *
  omega
theorem mul_row {m b c a i lb : Nat} (hb : b < 2 ^ (64 * lb)) (h : m + c * 2 ^ (64 * (i + lb)) = (a % 2 ^ (64 * i)) * b + word a i * (b % 2 ^ (64 * lb)) * 2 ^ (64 * i)) :
    m + c * 2 ^ (64 * (i + lb)) = (a % 2 ^ (64 * (i + 1))) * b := by
  rw [h, Nat.mod_eq_of_lt hb, mod_succ, Nat.add_mul]
  congr 1
  rw [Nat.mul_assoc, Nat.mul_comm b, ← Nat.mul_assoc]

/-- Or is a sum, if no bit is in both. -/
theorem or_shift {o x s : Nat} (ho : o < 2 ^ s) (hs : s ≤ 64) : o ||| x * 2 ^ s % 18446744073709551616 = o + x * 2 ^ s % 18446744073709551616 := by
  have e : x * 2 ^ s % 18446744073709551616 = (x % 2 ^ (64 - s)) <<< s := by
    rw [Nat.shiftLeft_eq, show (18446744073709551616 : Nat) = 2 ^ (64 - s) * 2 ^ s from by rw [← Nat.pow_add, show 64 - s + s = 64 from by omega], Nat.mul_mod_mul_right]
  rw [e, Nat.or_comm, ← Nat.shiftLeft_add_eq_or_of_lt ho, Nat.add_comm]
/-- What has been shifted is below the next word's first bits. -/
theorem shl_lt (a i n : Nat) : (a % 2 ^ (64 * i)) * 2 ^ n < 2 ^ (64 * (i + n / 64)) * 2 ^ (n % 64) := by
  have h : 2 ^ n = 2 ^ (64 * (n / 64)) * 2 ^ (n % 64) := by rw [← Nat.pow_add, Nat.div_add_mod]
  rw [h, Nat.mul_add, Nat.pow_add, Nat.mul_assoc (2 ^ (64 * i))]
  exact Nat.mul_lt_mul_of_pos_right (Nat.mod_lt _ (two_pos _)) (Nat.mul_pos (two_pos _) (two_pos _))
theorem shl_old (a i n : Nat) : word ((a % 2 ^ (64 * i)) * 2 ^ n) (i + n / 64) < 2 ^ (n % 64) := by
  have h := shl_lt a i n
  have : (a % 2 ^ (64 * i)) * 2 ^ n / 2 ^ (64 * (i + n / 64)) < 2 ^ (n % 64) := by
    rw [Nat.div_lt_iff_lt_mul (two_pos _), Nat.mul_comm (2 ^ (n % 64))]
    exact h
  unfold word
  exact Nat.lt_of_le_of_lt (Nat.mod_le _ _) this
/-- The two words that a shifted word goes to. -/
theorem shl_split (x s : Nat) (hs : s < 64) : x * 2 ^ s = x * 2 ^ s % 18446744073709551616 + 18446744073709551616 * (x / 2 ^ (64 - s)) := by
  have e : x * 2 ^ s / 18446744073709551616 = x / 2 ^ (64 - s) := by
    rw [show (18446744073709551616 : Nat) = 2 ^ (64 - s) * 2 ^ s from by rw [← Nat.pow_add, show 64 - s + s = 64 from by omega], Nat.mul_div_mul_right _ _ (two_pos s)]
  have := Nat.div_add_mod (x * 2 ^ s) 18446744073709551616
  omega
theorem shl_step (a i n : Nat) : (a % 2 ^ (64 * (i + 1))) * 2 ^ n =
    (a % 2 ^ (64 * i)) * 2 ^ n + (word a i * 2 ^ (n % 64) % 18446744073709551616) * 2 ^ (64 * (i + n / 64)) + (word a i / 2 ^ (64 - n % 64)) * 2 ^ (64 * (i + n / 64 + 1)) := by
  have hsp := shl_split (word a i) (n % 64) (Nat.mod_lt _ (by decide))
  have h : 2 ^ n = 2 ^ (64 * (n / 64)) * 2 ^ (n % 64) := by rw [← Nat.pow_add, Nat.div_add_mod]
  rw [mod_succ, Nat.add_mul, pow64_succ, Nat.add_assoc]
  congr 1
  have e : word a i * 2 ^ (64 * i) * 2 ^ n = word a i * 2 ^ (n % 64) * 2 ^ (64 * (i + n / 64)) := by
    rw [h, Nat.mul_add 64, Nat.pow_add]
    simp only [Nat.mul_assoc, Nat.mul_comm, Nat.mul_left_comm]
  rw [e]
  generalize 2 ^ (64 * (i + n / 64)) = P at *
  generalize word a i * 2 ^ (n % 64) % 18446744073709551616 = r at *
  generalize word a i / 2 ^ (64 - n % 64) = q at *
  rw [hsp, Nat.add_mul]
  congr 1
  rw [Nat.mul_comm 18446744073709551616 q, Nat.mul_assoc, Nat.mul_comm P]
end Go.Proofs.YtogdiobbjlpmoaaDoor

namespace Go.Proofs.YtogdiobbjlpmoaaDoor
open Go Go.RowKit Cal

/-- A slice of k words whose number is n. -/
def NatV (w : World) (v : Value) (k n : Nat) : Prop :=
  n < 2 ^ (64 * k) ∧ ∃ (A : Option Addr) (cap : Nat), v = .slice A k cap ∧ k ≤ cap ∧ cap ≤ maxLen ∧
    (0 < k → ∃ b off, A = some ⟨b, off, none⟩ ∧ b < w.heap.size ∧ ∀ i, i < k → w.cell? ⟨b, off + i, none⟩ = some (.int .u64 (word n i : Nat)))
theorem NatV.lt {w : World} {v : Value} {k n : Nat} (h : NatV w v k n) : n < 2 ^ (64 * k) := h.1
theorem NatV.len {w : World} {v : Value} {k n : Nat} (h : NatV w v k n) : k ≤ maxLen := by
  obtain ⟨_, A, cap, _, h1, h2, _⟩ := h
  omega
theorem NatV.keep {w w' : World} {v : Value} {k n : Nat} (h : NatV w v k n) (hs : w.heap.size ≤ w'.heap.size) (hk : ∀ p : Addr, p.block < w.heap.size → w'.cell? p = w.cell? p) : NatV w' v k n := by
  obtain ⟨h0, A, cap, h1, h2, h3, h4⟩ := h
  refine ⟨h0, A, cap, h1, h2, h3, fun hk0 => ?_⟩
  obtain ⟨b, off, e, hb, hc⟩ := h4 hk0
  exact ⟨b, off, e, by omega, fun i hi => (hk _ hb).trans (hc i hi)⟩
theorem NatV.ext {w w' : World} {v : Value} {k n : Nat} (h : NatV w v k n) (hb : Ext w w') : NatV w' v k n := h.keep hb.size fun _ hp => hb.cell hp
theorem NatV.alloc {w : World} {v : Value} {k n : Nat} (h : NatV w v k n) (o : Obj) : NatV (w.alloc o) v k n := h.ext ((Ext.refl w).alloc o)
theorem NatV.drew {w : World} {v : Value} {k n : Nat} (h : NatV w v k n) : NatV w.drew v k n := h
theorem NatV.drewN {w : World} {v : Value} {k n : Nat} (h : NatV w v k n) (m : Nat) : NatV (w.drewN m) v k n := h
/-- Down: no words, or words at an address. -/
theorem NatV.open_ {w : World} {v : Value} {k n : Nat} (h : NatV w v k n) :
    (k = 0 ∧ n = 0 ∧ ∃ A cap, v = .slice A 0 cap ∧ cap ≤ maxLen) ∨
    (0 < k ∧ ∃ b off cap, v = .slice (some ⟨b, off, none⟩) k cap ∧ k ≤ cap ∧ cap ≤ maxLen ∧ b < w.heap.size ∧ ∀ i, i < k → w.cell? ⟨b, off + i, none⟩ = some (.int .u64 (word n i : Nat))) := by
  obtain ⟨h0, A, cap, h1, h2, h3, h4⟩ := h
  rcases Nat.eq_zero_or_pos k with hk | hk
  · subst hk
    exact .inl ⟨rfl, by simpa using h0, A, cap, h1, h3⟩
  · obtain ⟨b, off, rfl, hb, hc⟩ := h4 hk
    exact .inr ⟨hk, b, off, cap, h1, h2, h3, hb, hc⟩
theorem NatV.none_ (w : World) (A : Option Addr) (cap : Nat) (h : cap ≤ maxLen) : NatV w (.slice A 0 cap) 0 0 := ⟨by simp, A, cap, rfl, Nat.zero_le _, h, fun h => absurd h (Nat.lt_irrefl 0)⟩
theorem NatV.some_ {w : World} {b off k n cap : Nat} (h : n < 2 ^ (64 * k)) (hc : k ≤ cap) (hm : cap ≤ maxLen) (hb : b < w.heap.size) (hcell : ∀ i, i < k → w.cell? ⟨b, off + i, none⟩ = some (.int .u64 (word n i : Nat))) :
    NatV w (.slice (some ⟨b, off, none⟩) k cap) k n := ⟨h, _, cap, rfl, hc, hm, fun _ => ⟨b, off, rfl, hb, hcell⟩⟩
theorem NatV.of_blk {w : World} {b k n : Nat} (h : n < 2 ^ (64 * k)) (hm : k ≤ maxLen) (hb : Blk w b 22 (wcells k n)) : NatV w (.slice (some ⟨b, 0, none⟩) k k) k n :=
  NatV.some_ h (Nat.le_refl _) hm hb.lt (fun i hi => by rw [Nat.zero_add, hb.cell, wcells_get hi])

/-- A number is answered, in as few words as may be; the world stays, or grows. -/
def RetNatS (w : World) (n : Nat) (e : Ending) (w' : World) : Prop := ∃ v, e = .returned v ∧ NatV w v (wlen n) n ∧ w = w'
def RetNat (w : World) (n : Nat) (e : Ending) (w' : World) : Prop := ∃ v, e = .returned v ∧ NatV w' v (wlen n) n ∧ Ext w w'
theorem RetNatS.grow {w : World} {n : Nat} {e : Ending} {w' : World} (h : RetNatS w n e w') : RetNat w n e w' := by
  obtain ⟨v, h1, h2, rfl⟩ := h
  exact ⟨v, h1, h2, Ext.refl w⟩

set_option maxRecDepth 100000 in
set_option maxHeartbeats 800000 in
/-- nat.trim. -/
theorem trim_any (v : Value) (k n : Nat) (w : World) (h : NatV w v k n) : Calls Tryd.prog 96 #[v] w (RetNatS w n) := by
  rcases h.open_ with ⟨rfl, rfl, A, cap, rfl, hm⟩ | ⟨hk, b, off, cap, rfl, hkc, hm, hb, hc⟩
  · unfold maxLen at hm
    rcases A with _ | a
    all_goals
      go_enter Tryd.func96, Tryd.ntmps96
      go_wp2
      go_loopg [3] 0 (fun g s3 wr => s3 = .int .i64 0 ∧ w = wr)
      case atStart => exact ⟨rfl, rfl⟩
      case round =>
        obtain ⟨rfl, rfl⟩ := hrel
        go_wp2
        go_ret
        exact ⟨_, rfl, NatV.none_ w _ 0 (by decide), rfl⟩
  · have hlt := h.lt
    unfold maxLen at hm
    have HC := Lib.hid hc
    have HL := Lib.hid hlt
    clear hc hlt h
    go_enter Tryd.func96, Tryd.ntmps96
    go_wp2
    go_loopg [3] k (fun g s3 wr => s3 = .int .i64 (g : Int) ∧ g ≤ k ∧ Hid (n < 2 ^ (64 * g)) ∧ w = wr)
    case atStart => exact ⟨rfl, Nat.le_refl _, HL.out, rfl⟩
    case round =>
      obtain ⟨rfl, hgk, hn, rfl⟩ := hrel
      cases gk with
      | zero =>
        have hn0 : n = 0 := by simpa using hn.out
        subst hn0
        clear hn HL HC
        go_wp2
        go_ret
        exact ⟨_, rfl, NatV.none_ w _ 0 (by decide), rfl⟩
      | succ g =>
        have hcg := HC.out g (by omega)
        have hpos : decide ((0 : Int) < (g : Int) + 1) = true := decide_eq_true (by omega)
        by_cases hw : word n g = 0
        · have d : ((word n g : Int) == 0) = true := btrue (b := 0) hw
          have H1 : Hid (n < 2 ^ (64 * g)) := trim_step hn.out hw
          generalize word n g = x at *
          clear hw
          go_wp2
          go_roundg g
          case measure => omega
          case rel => exact ⟨by first | rfl | simp, by omega, H1, rfl⟩
        · have d : ((word n g : Int) == 0) = false := bfalse (b := 0) hw
          have H1 : Hid (wlen n = g + 1) := trim_end hn.out (.inr (by simpa using hw))
          generalize hx : word n g = x at *
          clear hw hx
          go_wp2
          go_ret
          refine ⟨_, rfl, ?_, rfl⟩
          rw [H1.out]
          exact NatV.some_ hn.out (Nat.le_refl _) (by unfold maxLen; omega) hb (fun i hi => HC.out i (by omega))
end Go.Proofs.YtogdiobbjlpmoaaDoor

namespace Go.Proofs.YtogdiobbjlpmoaaDoor
open Go Go.RowKit Cal

set_option maxRecDepth 100000 in
set_option maxHeartbeats 800000 in
/-- nat.at. -/
theorem nat_at (v : Value) (k n : Nat) (w : World) (h : NatV w v k n) (i : Nat) : Calls Tryd.prog 112 #[v, .int .i64 i] w fun e w' => e = .returned (.int .u64 ((word n i : Nat) : Int)) ∧ w = w' := by
  have hlt := h.lt
  rcases h.open_ with ⟨rfl, rfl, A, cap, rfl, hm⟩ | ⟨hk, b, off, cap, rfl, hkc, hm, hb, hc⟩
  · rw [word_of_zero]
    have d0 : decide ((i : Int) < 0) = false := decide_eq_false (by omega)
    have d1 : decide ((0 : Int) ≤ (i : Int)) = true := decide_eq_true (by omega)
    go_enter Tryd.func112, Tryd.ntmps112
    go_wp2
    go_ret
    exact ⟨rfl, rfl⟩
  · unfold maxLen at hm
    have d0 : decide ((i : Int) < 0) = false := decide_eq_false (by omega)
    by_cases hik : i < k
    · have d1 : decide ((k : Int) ≤ (i : Int)) = false := decide_eq_false (by omega)
      have d1' : decide (k ≤ i) = false := decide_eq_false (by omega)
      have hci := hc i hik
      generalize word n i = x at *
      clear hc hlt h
      go_enter Tryd.func112, Tryd.ntmps112
      go_wp2
      go_ret
      exact ⟨rfl, rfl⟩
    · have d1 : decide ((k : Int) ≤ (i : Int)) = true := decide_eq_true (by omega)
      have d1' : decide (k ≤ i) = true := decide_eq_true (by omega)
      rw [word_hi (Nat.lt_of_lt_of_le hlt (Nat.pow_le_pow_right (by decide) (by omega)))]
      clear hc hlt h
      go_enter Tryd.func112, Tryd.ntmps112
      go_wp2
      go_ret
      exact ⟨rfl, rfl⟩

set_option maxRecDepth 100000 in
set_option maxHeartbeats 800000 in
/-- nat.Bits. -/
theorem nat_bits (v : Value) (k n : Nat) (w : World) (h : NatV w v k n) (hk : k ≤ 100000) : Calls Tryd.prog 64 #[v] w fun e w' => e = .returned (.int .i64 ((nbits n : Nat) : Int)) ∧ w = w' := by
  have c96 := Lib.hid (fun W h => trim_any v k n W h)
  have hwl : wlen n ≤ k := (wlen_le n k).2 h.lt
  rcases Nat.eq_zero_or_pos n with h0 | h0
  · subst h0
    rw [nbits_zero]
    rw [wlen_zero] at hwl
    go_enter Tryd.func64, Tryd.ntmps64
    go_wp2_with (go_at_call 96; (with_reducible refine (c96.out _ h).mono ?_); rintro e w1 ⟨v1, rfl, h1, rfl⟩; rw [wlen_zero] at h1; obtain ⟨_, A, cap, rfl, _⟩ := h1)
    go_ret
    exact ⟨rfl, rfl⟩
  · have hb := nbits_words h0
    have hw := wlen_pos.2 h0
    have hx := word_lt n (wlen n - 1)
    rw [nbits_bitLen _ hx] at hb
    have c113 := Lib.hid (fun W => Tryd.bits_Len64 ((word n (wlen n - 1) : Nat) : Int) W (by omega) (by omega))
    simp only [Int.toNat_natCast] at c113
    rw [hb]
    obtain ⟨L, hL⟩ : ∃ L, wlen n = L + 1 := ⟨wlen n - 1, by omega⟩
    have hbl : Lib.bitLen (word n (wlen n - 1)) ≤ 64 := (bitLen_le_iff _ 64 (by omega)).2 (by omega)
    rw [hL, Nat.add_sub_cancel] at hb c113 hbl hx ⊢
    generalize hxx : Lib.bitLen (word n L) = B at *
    generalize hxw : word n L = x at *
    have HXW := Lib.hid hxw
    have HL := Lib.hid hL
    have hLb : L ≤ 100000 := by omega
    clear hL hb hxx hwl hxw
    go_enter Tryd.func64, Tryd.ntmps64
    go_wp2_with fail
    refine (c96.out _ h).mono ?_
    rintro e w1 ⟨v1, rfl, h1, rfl⟩
    rw [HL.out] at h1
    obtain ⟨_, A, cap, rfl, hl1, hl2, h4⟩ := h1
    obtain ⟨b, off, rfl, hb, hc⟩ := h4 (by omega)
    have hcl := hc L (by omega)
    rw [HXW.out] at hcl
    clear hc h4 h hw h0 hk
    unfold maxLen at hl2
    obtain ⟨len, hlen⟩ : ∃ len, len = L + 1 := ⟨_, rfl⟩
    rw [← hlen] at hl1 ⊢
    have hz : ((len : Int) == 0) = false := bfalse (b := 0) (by omega)
    have hll : (len : Int) - 1 = (L : Int) := by omega
    have hlz : 0 < len := by omega
    clear hlen
    go_wp2_with (go_at_call 113; (with_reducible refine (c113.out _).mono ?_); rintro e w1 ⟨rfl, rfl⟩)
    go_ret
    exact ⟨ret1 (by omega), rfl⟩

theorem bit_word (n i : Nat) : n / 2 ^ i % 2 = word n (i / 64) / 2 ^ (i % 64) % 2 := by
  have h : 2 ^ i = 2 ^ (64 * (i / 64)) * 2 ^ (i % 64) := by rw [← Nat.pow_add, Nat.div_add_mod]
  rw [h, ← Nat.div_div_eq_div_mul]
  unfold word
  generalize n / 2 ^ (64 * (i / 64)) = m
  have hr : i % 64 < 64 := Nat.mod_lt _ (by decide)
  generalize i % 64 = r at *
  have e : (18446744073709551616 : Nat) = 2 ^ r * (2 * 2 ^ (63 - r)) := by
    rw [← Nat.pow_succ', ← Nat.pow_add, show r + (63 - r + 1) = 64 from by omega]
  rw [e, Nat.mod_mul_right_div_self, Nat.mod_mul_right_mod]

set_option maxRecDepth 100000 in
set_option maxHeartbeats 800000 in
/-- nat.Bit. -/
theorem nat_bit (v : Value) (k n : Nat) (w : World) (h : NatV w v k n) (i : Nat) (hi : i ≤ 10000000) : Calls Tryd.prog 142 #[v, .int .i64 i] w fun e w' => e = .returned (.bool (decide (n / 2 ^ i % 2 = 1))) ∧ w = w' := by
  have c112 := Lib.hid (fun W h => nat_at v k n W h (i / 64))
  rw [bit_word n i]
  have hx := word_lt n (i / 64)
  rw [show ((i / 64 : Nat) : Int) = (i : Int) / 64 from by omega] at c112
  generalize word n (i / 64) = x at *
  have d0 : decide ((0 : Int) ≤ (i : Int)) = true := decide_eq_true (by omega)
  have hq : 0 ≤ (i : Int) / 64 := by omega
  have hs : ((i : Int) % 64) = ((i % 64 : Nat) : Int) := by omega
  generalize i % 64 = s at *
  generalize hy : x / 2 ^ s = y
  have hxy : (x : Int) / 2 ^ s = (y : Int) := by rw [zdiv, hy]
  have hyl : y < 18446744073709551616 := by rw [← hy]; exact Nat.lt_of_le_of_lt (Nat.div_le_self _ _) hx
  have hand : bits .and .u64 (y : Int) 1 = ((y % 2 : Nat) : Int) := by
    have := u_and_mask y 1 hyl (by decide)
    simpa using this
  have H : Hid (decide (y % 2 = 1) = (((y % 2 : Nat) : Int) == 1)) := by
    show decide (y % 2 = 1) = (((y % 2 : Nat) : Int) == 1)
    by_cases h : y % 2 = 1
    · rw [decide_eq_true h]
      symm
      rw [beq_iff_eq]
      omega
    · rw [decide_eq_false h]
      symm
      rw [beq_eq_false_iff_ne]
      omega
  rw [H.out]
  clear hy
  go_enter Tryd.func142, Tryd.ntmps142
  go_wp2_with (go_at_call 112; (with_reducible refine (c112.out _ h).mono ?_); rintro e w1 ⟨rfl, rfl⟩)
  go_ret
  exact ⟨rfl, rfl⟩

theorem isNaN64 (x : Nat) (w : World) : Calls Tryd.prog 154 #[.int .u64 x] w fun e w' => e = .returned (.bool false) ∧ w = w' := by
  go_enter Tryd.func154, Tryd.ntmps154
  go_wp2
  go_ret
  exact ⟨rfl, rfl⟩
set_option maxRecDepth 100000 in
set_option maxHeartbeats 800000 in
theorem cmp64 (x y : Nat) (w : World) : Calls Tryd.prog 131 #[.int .u64 x, .int .u64 y] w fun e w' => e = .returned (.int .i64 (ncmp x y)) ∧ w = w' := by
  rcases Nat.lt_trichotomy x y with h | h | h
  · rw [ncmp_lt h]
    have d1 : decide (x < y) = true := decide_eq_true h
    have d1' : decide ((x : Int) < (y : Int)) = true := decide_eq_true (by omega)
    go_enter Tryd.func131, Tryd.ntmps131
    go_wp2_with (go_at_call 154; (with_reducible refine (isNaN64 _ _).mono ?_); rintro e w1 ⟨rfl, rfl⟩)
    go_ret
    exact ⟨rfl, rfl⟩
  · subst h
    rw [ncmp_refl]
    have d1 : decide (x < x) = false := decide_eq_false (by omega)
    have d1' : decide ((x : Int) < (x : Int)) = false := decide_eq_false (by omega)
    go_enter Tryd.func131, Tryd.ntmps131
    go_wp2_with (go_at_call 154; (with_reducible refine (isNaN64 _ _).mono ?_); rintro e w1 ⟨rfl, rfl⟩)
    go_ret
    exact ⟨rfl, rfl⟩
  · rw [ncmp_gt h]
    have d1 : decide (x < y) = false := decide_eq_false (by omega)
    have d1' : decide ((x : Int) < (y : Int)) = false := decide_eq_false (by omega)
    have d2 : decide (y < x) = true := decide_eq_true (by omega)
    have d2' : decide ((y : Int) < (x : Int)) = true := decide_eq_true (by omega)
    go_enter Tryd.func131, Tryd.ntmps131
    go_wp2_with (go_at_call 154; (with_reducible refine (isNaN64 _ _).mono ?_); rintro e w1 ⟨rfl, rfl⟩)
    go_ret
    exact ⟨rfl, rfl⟩
theorem cmpI (x y : Nat) (w : World) : Calls Tryd.prog 130 #[.int .i64 x, .int .i64 y] w fun e w' => e = .returned (.int .i64 (ncmp x y)) ∧ w = w' := by
  refine (Tryd.cmp_Compare_int x y w).mono ?_
  rintro e w1 ⟨rfl, rfl⟩
  refine ⟨ret1 ?_, rfl⟩
  unfold Lib.compareInt
  rcases Nat.lt_trichotomy x y with h | h | h
  · rw [if_pos (by omega), ncmp_lt h]
  · rw [if_neg (by omega), if_neg (by omega), ncmp_eq.2 h]
  · rw [if_neg (by omega), if_pos (by omega), ncmp_gt h]

set_option maxRecDepth 100000 in
set_option maxHeartbeats 1600000 in
/-- nat.Cmp. -/
theorem nat_cmp (v u : Value) (k l n m : Nat) (w : World) (h : NatV w v k n) (h' : NatV w u l m) : Calls Tryd.prog 97 #[v, u] w fun e w' => e = .returned (.int .i64 (ncmp n m)) ∧ Ext w w' := by
  have c96 := Lib.hid (fun W h => trim_any v k n W h)
  have d96 := Lib.hid (fun W h => trim_any u l m W h)
  have c130 := Lib.hid (fun W => cmpI (wlen n) (wlen m) W)
  by_cases hw : wlen n = wlen m
  · clear c130
    generalize hwn : wlen n = K at *
    have HN := Lib.hid hwn
    have HM := Lib.hid hw.symm
    have c130 := Lib.hid (fun W => cmpI K K W)
    rw [ncmp_refl] at c130
    have hnK : n < 2 ^ (64 * K) := by rw [← hwn]; exact lt_wlen n
    have hmK : m < 2 ^ (64 * K) := by rw [hw]; exact lt_wlen m
    have HD : Hid (n / 2 ^ (64 * K) = m / 2 ^ (64 * K)) := by
      show n / 2 ^ (64 * K) = m / 2 ^ (64 * K)
      rw [Nat.div_eq_of_lt hnK, Nat.div_eq_of_lt hmK]
    generalize hC : ncmp n m = C
    have HC := Lib.hid hC
    clear hwn hw hnK hmK hC
    go_enter Tryd.func97, Tryd.ntmps97
    go_wp2_with fail
    refine (c96.out _ h).mono ?_
    rintro e w1 ⟨v1, rfl, h1, rfl⟩
    go_wp2_with fail
    refine (d96.out _ h').mono ?_
    rintro e w1 ⟨u1, rfl, h2, rfl⟩
    rw [HN.out] at h1
    rw [HM.out] at h2
    obtain ⟨_, A1, cap1, rfl, hl1, hm1, h14⟩ := h1
    obtain ⟨_, A2, cap2, rfl, hl2, hm2, h24⟩ := h2
    clear h h'
    unfold maxLen at hm1 hm2
    go_wp2_with fail
    refine (c130.out _).mono ?_
    rintro e w1 ⟨rfl, rfl⟩
    rcases Nat.eq_zero_or_pos K with hK0 | hK0
    · subst hK0
      have hC0 : C = 0 := by
        have := HD.out
        rw [← HC.out]
        exact ncmp_eq.2 (by simpa using this)
      subst hC0
      clear h14 h24
      go_wp2_with fail
      go_loopg [6] 0 (fun g s6 wr => s6 = .int .i64 (-1) ∧ w = wr)
      case atStart => exact ⟨rfl, rfl⟩
      case round =>
        obtain ⟨rfl, rfl⟩ := hrel
        go_wp2
        go_ret
        exact ⟨rfl, Ext.refl _⟩
    · obtain ⟨b1, off1, rfl, hb1, hc1⟩ := h14 hK0
      obtain ⟨b2, off2, rfl, hb2, hc2⟩ := h24 hK0
      have HC1 := Lib.hid hc1
      have HC2 := Lib.hid hc2
      clear hc1 hc2 h14 h24
      go_wp2_with fail
      go_loopg [6] K (fun g s6 wr => s6 = .int .i64 ((g : Int) - 1) ∧ g ≤ K ∧ Hid (n / 2 ^ (64 * g) = m / 2 ^ (64 * g)) ∧ Ext w wr)
      case atStart => exact ⟨rfl, Nat.le_refl _, HD, Ext.refl _⟩
      case round =>
        obtain ⟨rfl, hgK, hq, hbr⟩ := hrel
        cases gk with
        | zero =>
          have hC0 : C = 0 := by
            have := hq.out
            rw [← HC.out]
            exact ncmp_eq.2 (by simpa using this)
          subst hC0
          clear hq HC HC1 HC2 HD
          go_wp2_with fail
          go_ret
          exact ⟨rfl, hbr⟩
        | succ g =>
          have e1 := (hbr.cell (p := ⟨b1, off1 + g, none⟩) hb1).trans (HC1.out g (by omega))
          have e2 := (hbr.cell (p := ⟨b2, off2 + g, none⟩) hb2).trans (HC2.out g (by omega))
          have hg1 : (g : Int) < (K : Int) := by omega
          have hg0 : (0 : Int) ≤ (g : Int) := by omega
          have c131 := Lib.hid (fun W => cmp64 (word n g) (word m g) W)
          by_cases hxy : word n g = word m g
          · have H1 : Hid (n / 2 ^ (64 * g) = m / 2 ^ (64 * g)) := cmp_next hq.out hxy
            rw [hxy, ncmp_refl] at c131
            rw [hxy] at e1
            generalize word m g = x at *
            clear hxy
            go_wp2_with fail
            go_quiet ((go_at_call 131; (with_reducible exact quiet_left (c131.out _))))
            go_wp2_with fail
            go_roundg g
            case measure => omega
            case rel => exact ⟨by first | rfl | simp, by omega, H1, by (repeat (first | (with_reducible exact Ext.refl _) | (with_reducible assumption) | (with_reducible refine Ext.drew ?_) | (with_reducible refine Ext.drewN ?_ _) | (with_reducible refine Ext.alloc ?_ _) | (with_reducible refine Ext.setCell ?_ (Nat.le_refl _) _) | (with_reducible refine Ext.setCell ?_ (by simp; try omega) _) | (with_reducible refine Ext.trans ?_ (by with_reducible assumption))))⟩
          · have hCe : C = ncmp (word n g) (word m g) := by
              rw [← HC.out]
              rcases Nat.lt_or_ge (word n g) (word m g) with h | h
              · rw [ncmp_lt h, ncmp_lt (cmp_word hq.out h)]
              · rw [ncmp_gt (show word m g < word n g by omega), ncmp_gt (cmp_word hq.out.symm (show word m g < word n g by omega))]
            have hd : (ncmp (word n g) (word m g) != 0) = true := by rw [bne_iff_ne]; exact fun e => hxy (ncmp_eq.1 e)
            rw [← hCe] at hd c131
            generalize word n g = x at *
            generalize word m g = y at *
            clear hxy hCe HC
            go_wp2_with fail
            go_quiet ((go_at_call 131; (with_reducible exact quiet_left (c131.out _))))
            go_wp2_with fail
            go_ret
            exact ⟨rfl, by (repeat (first | (with_reducible exact Ext.refl _) | (with_reducible assumption) | (with_reducible refine Ext.drew ?_) | (with_reducible refine Ext.drewN ?_ _) | (with_reducible refine Ext.alloc ?_ _) | (with_reducible refine Ext.setCell ?_ (Nat.le_refl _) _) | (with_reducible refine Ext.setCell ?_ (by simp; try omega) _) | (with_reducible refine Ext.trans ?_ (by with_reducible assumption))))⟩
  · have hne : ncmp (wlen n) (wlen m) ≠ 0 := fun e => hw (ncmp_eq.1 e)
    have he : ncmp n m = ncmp (wlen n) (wlen m) := by
      rcases Nat.lt_or_ge (wlen n) (wlen m) with h1 | h1
      · rw [ncmp_lt h1, ncmp_lt (cmp_len h1)]
      · rw [ncmp_gt (show wlen m < wlen n by omega), ncmp_gt (cmp_len (show wlen m < wlen n by omega))]
    rw [he]
    have hd : (ncmp (wlen n) (wlen m) != 0) = true := by rw [bne_iff_ne]; exact hne
    generalize hwn : wlen n = a at *
    generalize hwm : wlen m = b at *
    generalize ncmp a b = C at *
    have HN := Lib.hid hwn
    have HM := Lib.hid hwm
    clear hwn hwm he hne hw
    go_enter Tryd.func97, Tryd.ntmps97
    go_wp2_with (first
      | (go_at_call 96; (with_reducible refine (c96.out _ h).mono ?_); rintro e w1 ⟨v1, rfl, h1, rfl⟩; rw [HN.out] at h1; obtain ⟨_, A1, cap1, rfl, _⟩ := h1)
      | (go_at_call 96; (with_reducible refine (d96.out _ h').mono ?_); rintro e w1 ⟨u1, rfl, h2, rfl⟩; rw [HM.out] at h2; obtain ⟨_, A2, cap2, rfl, _⟩ := h2)
      | (go_at_call 130; (with_reducible refine (c130.out _).mono ?_); rintro e w1 ⟨rfl, rfl⟩))
    go_ret
    exact ⟨rfl, Ext.refl _⟩
end Go.Proofs.YtogdiobbjlpmoaaDoor

namespace Go.Proofs.YtogdiobbjlpmoaaDoor
open Go Go.RowKit Cal

theorem still_of {f : FuncId} {args : Array Value} {w : World} {v : Value} (h : Calls Tryd.prog f args w fun e w' => e = .returned v ∧ w = w') : Calls Tryd.prog f args w fun e w' => e = .returned v ∧ w' = w :=
  h.mono fun _ _ ⟨a, b⟩ => ⟨a, b.symm⟩
theorem add64_run (x y c : Nat) (hc : c ≤ 1) (w : World) : (callFunc 111 #[.int .u64 x, .int .u64 y, .int .u64 c]).run Tryd.prog w =
    .ok (.value (.tuple #[.int .u64 (((x + y + c) % 18446744073709551616 : Nat) : Int), .int .u64 (((x + y + c) / 18446744073709551616 : Nat) : Int)])) w := by
  rw [run_callFunc_extern Tryd.func111 (by kernel_rfl) (by kernel_rfl) (by kernel_rfl) (e := add64Entry) (by kernel_rfl), run_add64 x y c (by omega) (by omega) (by omega) (by omega)]
  simp only [Result.andThen]
  congr 5 <;> omega
theorem add_word (n m i : Nat) (w : World) : (callFunc 111 #[.int .u64 (word n i : Nat), .int .u64 (word m i : Nat), .int .u64 (carryAt n m i : Nat)]).run Tryd.prog w =
    .ok (.value (.tuple #[.int .u64 (word (n + m) i : Nat), .int .u64 (carryAt n m (i + 1) : Nat)])) w := by
  have h := carry_step n m i
  have hl := word_lt (n + m) i
  rw [add64_run _ _ _ (carry_le n m i), h, show (word (n + m) i + 18446744073709551616 * carryAt n m (i + 1)) % 18446744073709551616 = word (n + m) i from by omega,
    show (word (n + m) i + 18446744073709551616 * carryAt n m (i + 1)) / 18446744073709551616 = carryAt n m (i + 1) from by omega]
theorem sum_lt {n m k l : Nat} (h : n < 2 ^ (64 * k)) (h' : m < 2 ^ (64 * l)) : n + m < 2 ^ (64 * (max k l + 1)) := by
  have a : 2 ^ (64 * k) ≤ 2 ^ (64 * max k l) := Nat.pow_le_pow_right (by decide) (by omega)
  have b : 2 ^ (64 * l) ≤ 2 ^ (64 * max k l) := Nat.pow_le_pow_right (by decide) (by omega)
  rw [pow64_succ]
  omega
theorem u64_info : (Tryd.prog.info? 22).map (fun i => (i.zero, i.size, i.bytes)) = some (some (.int .u64 0), 1, 8) := by kernel_rfl
theorem made_zeros (K : Nat) : madeCells (Value.cells (.int .u64 0)) (K * 1) = wcells K 0 := by
  rw [← wcells_zeros]
  unfold madeCells
  apply Array.ext
  · simp
  · intro i h1 h2
    simp [Value.cells, Nat.mod_one]
/-- make of so many words. -/
theorem make_run (K : Nat) (hK : K ≤ 1000000) (w : World) : (Instr.makeSlice 47 (.int .i64 (K : Int)) (.int .i64 (K : Int))).run Tryd.prog w = .ok (.slice (some ⟨w.heap.size, 0, none⟩) K K) (w.alloc (.cells (wcells K 0) 22)) := by
  obtain ⟨i0, hi, hz0, hz1, hz2⟩ := info_parts u64_info
  have h := run_make (P := Tryd.prog) w 47 22 i0 _ Tryd.underlying47 hi hz0 .i64 .i64 K K (by omega) (by omega) (by rw [hz2]; omega) (by omega)
  rw [hz1] at h
  simp only [Int.toNat_natCast] at h
  rw [made_zeros] at h
  exact h

set_option maxRecDepth 100000 in
set_option maxHeartbeats 1600000 in
theorem nat_add (v u : Value) (k l n m : Nat) (w : World) (h : NatV w v k n) (h' : NatV w u l m) (hk : k ≤ 100000) (hl : l ≤ 100000) : Calls Tryd.prog 63 #[v, u] w (RetNat w (n + m)) := by
  have hlt := Lib.hid (sum_lt h.lt h'.lt)
  have hA := h
  have hB := h'
  obtain ⟨_, A1, c1, rfl, _⟩ := hA
  obtain ⟨_, A2, c2, rfl, _⟩ := hB
  obtain ⟨K, hK⟩ : ∃ K, K = max k l + 1 := ⟨_, rfl⟩
  have hKI : max (k : Int) (l : Int) + 1 = (K : Int) := by omega
  have hKb : K ≤ 1000000 := by omega
  have hmk := fun W => make_run K hKb W
  rw [← hK] at hlt
  clear hK
  go_enter Tryd.func63, Tryd.ntmps63
  go_wp2_with fail
  go_loopg [6, 17] K (fun g s6 s17 wr => ∃ i c : Nat, i + g = K ∧ Hid (c = carryAt n m i) ∧ s6 = .int .u64 (c : Int) ∧ s17 = .int .i64 (i : Int) ∧ Blk wr w.heap.size 22 (wcells K ((n + m) % 2 ^ (64 * i))) ∧ Ext w wr)
  case atStart => exact ⟨0, 0, by omega, (carry_zero n m).symm, rfl, rfl, by simpa [Nat.mod_one] using Blk.new w 22 (wcells K 0), (Ext.refl w).alloc _⟩
  case round =>
    obtain ⟨i, c, hi, hc, rfl, rfl, hB, hbr⟩ := hrel
    cases gk with
    | zero =>
      have hz : ¬ ((i : Int) < (K : Int)) := by omega
      obtain rfl : i = K := by omega
      rw [Nat.mod_eq_of_lt hlt.out] at hB
      have c96 := Lib.hid (trim_any _ _ _ wr (NatV.of_blk hlt.out (by unfold maxLen; omega) hB))
      clear hc hB hmk
      go_wp2_with fail
      refine c96.out.mono ?_
      rintro e w1 ⟨v1, rfl, h1, rfl⟩
      go_wp2_with fail
      go_ret
      exact ⟨_, rfl, h1, hbr⟩
    | succ g =>
      have hik : (i : Int) < (K : Int) := by omega
      have hlt0 : i < K := by omega
      have ha := fun W => add_word n m i W
      rw [← hc.out] at ha
      have HC1 := Lib.hid (rfl : carryAt n m (i + 1) = carryAt n m (i + 1))
      have cB := hB.cell i
      rw [wcells_get hlt0] at cB
      have fB := hB.frozen i
      have a1 := Lib.hid (nat_at _ k n _ (h.ext hbr) i)
      have a2 := Lib.hid (nat_at _ l m _ (h'.ext hbr) i)
      have hB2 := Lib.hid (hB.set_ i (.int .u64 (word (n + m) i : Nat)))
      have hF := Lib.hid (wcells_fill K (n + m) i)
      have hxr := Lib.hid hbr
      generalize hs : word (n + m) i = s at *
      generalize word n i = x at *
      generalize word m i = y at *
      generalize hc' : carryAt n m (i + 1) = c' at *
      have HC := Lib.hid hc'
      generalize word ((n + m) % 2 ^ (64 * i)) i = o at *
      clear hc hs hc' hB hmk HC1
      go_wp2_with fail
      refine a1.out.mono ?_
      rintro e w1 ⟨rfl, rfl⟩
      go_wp2_with fail
      refine a2.out.mono ?_
      rintro e w1 ⟨rfl, rfl⟩
      go_wp2_with fail
      go_roundg g
      case measure => omega
      case rel =>
        refine ⟨i + 1, c', by omega, HC.out.symm, rfl, by first | rfl | simp, ?_, Ext.setCell hxr.out (Nat.le_refl _) _⟩
        rw [← hF.out]
        exact hB2.out
end Go.Proofs.YtogdiobbjlpmoaaDoor

namespace Go.Proofs.YtogdiobbjlpmoaaDoor
open Go Go.RowKit Cal

/-- The model's entry for math/bits.Sub64, as it answers. -/
theorem sub64_run (x y b : Nat) (hb : b ≤ 1) (w : World) : (callFunc 118 #[.int .u64 x, .int .u64 y, .int .u64 b]).run Tryd.prog w =
    .ok (.value (.tuple #[.int .u64 (((x + 18446744073709551616 - y - b) % 18446744073709551616 : Nat) : Int), .int .u64 ((if x < y + b then 1 else 0 : Nat) : Int)])) w := by
  rw [run_callFunc_extern Tryd.func118 (by kernel_rfl) (by kernel_rfl) (by kernel_rfl) (e := Go.Proofs.sub64Entry) (by kernel_rfl), Go.Proofs.run_sub64 x y b hb]
  rfl
theorem sub_word (n m i : Nat) (h : m ≤ n) (w : World) : (callFunc 118 #[.int .u64 (word n i : Nat), .int .u64 (word m i : Nat), .int .u64 (borrowAt n m i : Nat)]).run Tryd.prog w =
    .ok (.value (.tuple #[.int .u64 (word (n - m) i : Nat), .int .u64 (borrowAt n m (i + 1) : Nat)])) w := by
  have hs := borrow_step n m i h
  have hl := word_lt (n - m) i
  have hb := borrow_le n m i
  have hb1 := borrow_le n m (i + 1)
  rw [sub64_run _ _ _ hb]
  have e1 : (word n i + 18446744073709551616 - word m i - borrowAt n m i) % 18446744073709551616 = word (n - m) i := by
    have : borrowAt n m (i + 1) = 0 ∨ borrowAt n m (i + 1) = 1 := by omega
    rcases this with h0 | h0 <;> rw [h0] at hs <;> omega
  have e2 : (if word n i < word m i + borrowAt n m i then 1 else 0) = borrowAt n m (i + 1) := by
    have : borrowAt n m (i + 1) = 0 ∨ borrowAt n m (i + 1) = 1 := by omega
    rcases this with h0 | h0 <;> rw [h0] at hs ⊢
    · rw [if_neg (by omega)]
    · rw [if_pos (by omega)]
  rw [e1, e2]

set_option maxRecDepth 100000 in
set_option maxHeartbeats 800000 in
theorem nat_sub_no (v u : Value) (k l n m : Nat) (w : World) (h : NatV w v k n) (h' : NatV w u l m) (hlt : n < m) :
    Calls Tryd.prog 69 #[v, u] w fun e w' => e = .returned (.tuple #[.slice none 0 0, .bool false]) ∧ Ext w w' := by
  have c97 := Lib.hid (fun W h h' => nat_cmp v u k l n m W h h')
  rw [ncmp_lt hlt] at c97
  clear hlt
  go_enter Tryd.func69, Tryd.ntmps69
  go_wp2_with fail
  refine (c97.out _ h h').mono ?_
  rintro e w1 ⟨rfl, hb1⟩
  go_wp2_with fail
  go_ret2
  exact ⟨rfl, hb1⟩

/-- A difference is answered. -/
def RetSub (w : World) (n : Nat) (e : Ending) (w' : World) : Prop := ∃ v, e = .returned (.tuple #[v, .bool true]) ∧ NatV w' v (wlen n) n ∧ Ext w w'

set_option maxRecDepth 100000 in
set_option maxHeartbeats 1600000 in
theorem nat_sub (v u : Value) (k l n m : Nat) (w : World) (h : NatV w v k n) (h' : NatV w u l m) (hk : k ≤ 100000) (hle : m ≤ n) : Calls Tryd.prog 69 #[v, u] w (RetSub w (n - m)) := by
  have c97 := Lib.hid (fun W h h' => nat_cmp v u k l n m W h h')
  have hn0 := Lib.hid h.lt
  have hlt : Hid (n - m < 2 ^ (64 * k)) := by have := h.lt; show n - m < 2 ^ (64 * k); omega
  have hc0 : decide (ncmp n m < 0) = false := by
    apply decide_eq_false
    rw [ncmp_neg]
    omega
  generalize ncmp n m = C at *
  have hmk := fun W => make_run k (by omega) W
  have hA := h
  obtain ⟨_, A1, c1, rfl, hk1, hk2, h14⟩ := hA
  have HLE := Lib.hid hle
  clear hle
  rcases Nat.eq_zero_or_pos k with hk0 | hk0
  · subst hk0
    have hnm : n - m = 0 := by have := hlt.out; simpa using this
    rw [hnm]
    clear h14 hn0 hlt hnm hmk
    have hmk : ∀ W : World, (Instr.makeSlice 47 (.int .i64 0) (.int .i64 0)).run Tryd.prog W = .ok (.slice (some ⟨W.heap.size, 0, none⟩) 0 0) (W.alloc (.cells (wcells 0 0) 22)) := fun W => make_run 0 (by decide) W
    unfold maxLen at hk2
    go_enter Tryd.func69, Tryd.ntmps69
    go_wp2_with fail
    refine (c97.out _ h h').mono ?_
    rintro e w1 ⟨rfl, hb1⟩
    go_wp2_with fail
    go_loopg [7, 18] 0 (fun g s7 s18 wr => s7 = .int .u64 0 ∧ s18 = .int .i64 0 ∧ Ext w wr)
    case atStart => exact ⟨rfl, rfl, hb1.alloc _⟩
    case round =>
      obtain ⟨rfl, rfl, hbr⟩ := hrel
      have c96 := Lib.hid (trim_any (.slice (some ⟨w1.heap.size, 0, none⟩) 0 0) 0 0 wr (NatV.none_ _ _ _ (by decide)))
      clear hmk
      go_wp2_with fail
      refine c96.out.mono ?_
      rintro e w2 ⟨v1, rfl, h1, rfl⟩
      go_wp2_with fail
      go_ret2
      exact ⟨_, rfl, h1, hbr⟩
  · obtain ⟨b1, off1, rfl, hb1, hcl⟩ := h14 hk0
    have HCL := Lib.hid hcl
    clear hcl
    unfold maxLen at hk2
    go_enter Tryd.func69, Tryd.ntmps69
    go_wp2_with fail
    refine (c97.out _ h h').mono ?_
    rintro e w1 ⟨rfl, hx1⟩
    go_wp2_with fail
    go_loopg [7, 18] k (fun g s7 s18 wr => ∃ i c : Nat, i + g = k ∧ Hid (c = borrowAt n m i) ∧ s7 = .int .u64 (c : Int) ∧ s18 = .int .i64 (i : Int) ∧ Blk wr w1.heap.size 22 (wcells k ((n - m) % 2 ^ (64 * i))) ∧ Ext w wr)
    case atStart => exact ⟨0, 0, by omega, (borrow_zero n m).symm, rfl, rfl, by simpa [Nat.mod_one] using Blk.new w1 22 (wcells k 0), hx1.alloc _⟩
    case round =>
      obtain ⟨i, c, hi, hc, rfl, rfl, hB, hbr⟩ := hrel
      cases gk with
      | zero =>
        have hz : ¬ ((i : Int) < (k : Int)) := by omega
        obtain rfl : i = k := by omega
        rw [Nat.mod_eq_of_lt hlt.out] at hB
        have c96 := Lib.hid (trim_any _ _ _ wr (NatV.of_blk hlt.out (by unfold maxLen; omega) hB))
        clear hc hB hmk
        go_wp2_with fail
        refine c96.out.mono ?_
        rintro e w2 ⟨v1, rfl, h1, rfl⟩
        go_wp2_with fail
        go_ret2
        exact ⟨_, rfl, h1, hbr⟩
      | succ g =>
        have hik : (i : Int) < (k : Int) := by omega
        have hlt0 : i < k := by omega
        have ha := fun W => sub_word n m i HLE.out W
        rw [← hc.out] at ha
        have cB := hB.cell i
        rw [wcells_get hlt0] at cB
        have fB := hB.frozen i
        have e1 := (hbr.drew.cell (p := ⟨b1, off1 + i, none⟩) hb1).trans (HCL.out i hlt0)
        have a2 := Lib.hid (nat_at _ l m _ ((h'.ext hbr).drew) i)
        have hB2 := Lib.hid ((hB.set_ i (.int .u64 (word (n - m) i : Nat))).drew)
        have hF := Lib.hid (wcells_fill k (n - m) i)
        have hxr := Lib.hid hbr
        have hsz := Lib.hid hx1.size
        generalize hs : word (n - m) i = s at *
        generalize word n i = x at *
        generalize word m i = y at *
        generalize hc' : borrowAt n m (i + 1) = c' at *
        have HC := Lib.hid hc'
        generalize word ((n - m) % 2 ^ (64 * i)) i = o at *
        clear hc hs hc' hB hmk
        have cB' : wr.drew.cell? ⟨w1.heap.size, i, none⟩ = some (.int .u64 (o : Int)) := cB
        have fB' : wr.drew.frozen? ⟨w1.heap.size, i, none⟩ = false := fB
        clear cB fB
        go_wp2_with fail
        go_region_with ((go_at_call 112; (with_reducible refine a2.out.mono ?_); rintro e w2 ⟨rfl, rfl⟩))
        all_goals go_wp2_with fail
        all_goals go_roundg g
        all_goals try (case measure => omega)
        all_goals
          refine ⟨i + 1, c', by omega, HC.out.symm, rfl, by first | rfl | simp, ?_, Ext.drew (Ext.setCell hxr.out hsz.out _)⟩
          rw [← hF.out]
          exact hB2.out
end Go.Proofs.YtogdiobbjlpmoaaDoor

