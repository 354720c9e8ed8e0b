/- Numbers as the order of chapter 7 takes them: what 'above' answers, and that each boundary stands between its neighbours, in plain Lean. No condition but those written. -/
import Derived.Test.YtogdiobbjlpmoaaDoorPure07
set_option linter.unusedVariables false
namespace Go.Proofs.YtogdiobbjlpmoaaDoor.Cal
open Go

/-- What above answers. -/
def aboveV (a : Nat) (d : Int) (b : Nat) (e : Int) : Bool :=
  if b = 0 ∨ a = 0 then decide (a ≠ 0)
  else if d + Lib.bitLen a ≠ e + Lib.bitLen b then decide (e + Lib.bitLen b < d + Lib.bitLen a)
  else decide (b * 2 ^ (64 - Lib.bitLen b) < a * 2 ^ (64 - Lib.bitLen a))

/-- One is more than the other: told over the same power of two. -/
theorem above_of (a b : Nat) (d e c : Int) (s t : Nat) (ha : 0 < a) (hb : 0 < b) (ha64 : a < 2 ^ 64) (hb64 : b < 2 ^ 64) (hs : d = c + s) (ht : e = c + t)
    (h : b * 2 ^ t < a * 2 ^ s) : aboveV a d b e = true := by
  obtain ⟨a1, a2, a3⟩ := bitLen_bounds 64 a (by omega) ha ha64
  obtain ⟨b1, b2, b3⟩ := bitLen_bounds 64 b (by omega) hb hb64
  have la : Lib.bitLen a ≤ 64 := (bitLen_le_iff a 64 ha64).2 ha64
  have lb : Lib.bitLen b ≤ 64 := (bitLen_le_iff b 64 hb64).2 hb64
  unfold aboveV
  rw [if_neg (by omega)]
  generalize Lib.bitLen a = x at *
  generalize Lib.bitLen b = y at *
  by_cases hne : d + x ≠ e + y
  · rw [if_pos hne, decide_eq_true_eq]
    rcases Int.lt_or_gt_of_ne hne with hl | hl
    · exfalso
      have h1 : x + s ≤ y - 1 + t := by omega
      have h2 : a * 2 ^ s < 2 ^ (x + s) := by rw [Nat.pow_add]; exact Nat.mul_lt_mul_of_pos_right a1 (two_pos s)
      have h3 : 2 ^ (x + s) ≤ 2 ^ (y - 1 + t) := Nat.pow_le_pow_right (by decide) h1
      have h4 : 2 ^ (y - 1 + t) ≤ b * 2 ^ t := by rw [Nat.pow_add]; exact Nat.mul_le_mul_right _ b2
      omega
    · exact hl
  · rw [if_neg hne, decide_eq_true_eq]
    have hT : x + s = y + t := by omega
    have e1 : a * 2 ^ (64 - x) * 2 ^ (x + s) = a * 2 ^ s * 2 ^ 64 := by
      rw [Nat.mul_assoc, ← Nat.pow_add, show 64 - x + (x + s) = s + 64 from by omega, Nat.pow_add, ← Nat.mul_assoc]
    have e2 : b * 2 ^ (64 - y) * 2 ^ (x + s) = b * 2 ^ t * 2 ^ 64 := by
      rw [hT, Nat.mul_assoc, ← Nat.pow_add, show 64 - y + (y + t) = t + 64 from by omega, Nat.pow_add, ← Nat.mul_assoc]
    have e3 : b * 2 ^ t * 2 ^ 64 < a * 2 ^ s * 2 ^ 64 := Nat.mul_lt_mul_of_pos_right h (two_pos 64)
    rw [← e1, ← e2] at e3
    exact Nat.lt_of_mul_lt_mul_right e3

/-- The same of numbers made odd. -/
theorem above_odd (a b : Nat) (d e c : Int) (s t : Nat) (ha : 0 < a) (hb : 0 < b) (ha64 : a < 2 ^ 64) (hb64 : b < 2 ^ 64) (hs : d = c + s) (ht : e = c + t)
    (h : b * 2 ^ t < a * 2 ^ s) : aboveV (odd a d).1 (odd a d).2 (odd b e).1 (odd b e).2 = true := by
  obtain ⟨o, k, rfl, ho, hk, _⟩ := odd_parts a ha ha64
  obtain ⟨p, l, rfl, hp, hl, _⟩ := odd_parts b hb hb64
  rw [odd_mul o k d ho ha64, odd_mul p l e hp hb64]
  have ho64 : o < 2 ^ 64 := Nat.lt_of_le_of_lt (Nat.le_mul_of_pos_right _ (two_pos k)) ha64
  have hp64 : p < 2 ^ 64 := Nat.lt_of_le_of_lt (Nat.le_mul_of_pos_right _ (two_pos l)) hb64
  refine above_of o p (d + k) (e + l) c (k + s) (l + t) (by omega) (by omega) ho64 hp64 (by omega) (by omega) ?_
  rw [Nat.pow_add, Nat.pow_add, ← Nat.mul_assoc, ← Nat.mul_assoc]
  exact h

theorem above_zero (a : Nat) (d e : Int) (ha : 0 < a) : aboveV a d 0 e = true := by
  unfold aboveV
  rw [if_pos (.inl rfl)]
  simpa using Nat.ne_of_gt ha

/-- A number made odd is none but nought if it was. -/
theorem odd_pos (a : Nat) (d : Int) (ha : 0 < a) (ha64 : a < 2 ^ 64) : 0 < (odd a d).1 := by
  obtain ⟨o, k, rfl, ho, hk, _⟩ := odd_parts a ha ha64
  rw [odd_mul o k d ho ha64]
  show 0 < o
  omega

/-! ### minifloats -/
def mnum (man key : Nat) : Nat := key % 2 ^ man + (if key / 2 ^ man = 0 then 0 else 2 ^ man)
theorem mval_eq (man bias key : Nat) (h : key ≠ 0) : mval man bias key = odd (mnum man key) ((max (key / 2 ^ man) 1 : Nat) - (bias : Int) - man) := by
  unfold mval mnum
  rw [if_neg h]
theorem mnum_pos (man key : Nat) (h : key ≠ 0) : 0 < mnum man key := by
  unfold mnum
  have := Nat.div_add_mod key (2 ^ man)
  have hp := two_pos man
  split
  · rename_i h0
    rw [h0] at this
    omega
  · omega
theorem mnum_lt (man key : Nat) (hm : man ≤ 62) : mnum man key < 2 ^ 64 := by
  unfold mnum
  have := Nat.mod_lt key (two_pos man)
  have h1 : 2 ^ man ≤ 2 ^ 62 := Nat.pow_le_pow_right (by decide) hm
  split <;> omega
theorem half_div (man key : Nat) : (2 * key + 1) / 2 ^ (man + 1) = key / 2 ^ man := by
  rw [Nat.pow_succ', ← Nat.div_div_eq_div_mul]
  congr 1
  omega
theorem half_mod (man key : Nat) : (2 * key + 1) % 2 ^ (man + 1) = 2 * (key % 2 ^ man) + 1 := by
  have h1 := Nat.div_add_mod (2 * key + 1) (2 ^ (man + 1))
  have h2 := Nat.div_add_mod key (2 ^ man)
  rw [half_div, Nat.pow_succ', Nat.mul_assoc] at h1
  rw [Nat.pow_succ']
  omega
theorem mnum_half (man key : Nat) : mnum (man + 1) (2 * key + 1) = 2 * mnum man key + 1 := by
  unfold mnum
  rw [half_div, half_mod]
  split
  · omega
  · rw [Nat.pow_succ']; omega
theorem step_divmod (m key : Nat) (hm : 0 < m) : ((key + 1) / m = key / m ∧ (key + 1) % m = key % m + 1) ∨ ((key + 1) / m = key / m + 1 ∧ (key + 1) % m = 0 ∧ key % m + 1 = m) := by
  have h1 := Nat.div_add_mod key m
  have h2 := Nat.mod_lt key hm
  by_cases h : key % m + 1 < m
  · left
    have e : key + 1 = m * (key / m) + (key % m + 1) := by omega
    generalize key / m = q at *
    generalize key % m = r at *
    rw [e, Nat.mul_add_div hm, Nat.div_eq_of_lt h, Nat.mul_add_mod, Nat.mod_eq_of_lt h]
    exact ⟨rfl, rfl⟩
  · right
    have e : key + 1 = m * (key / m + 1) := by rw [Nat.mul_add]; omega
    generalize key / m = q at *
    generalize key % m = r at *
    rw [e, Nat.mul_div_cancel_left _ hm, Nat.mul_mod_right]
    exact ⟨rfl, rfl, by omega⟩

/-- The next magnitude of a minifloat: more by one in the last place, or the next field. -/
theorem mnum_step (man key : Nat) :
    ((key + 1) / 2 ^ man = key / 2 ^ man ∧ mnum man (key + 1) = mnum man key + 1) ∨
    ((key + 1) / 2 ^ man = key / 2 ^ man + 1 ∧ mnum man (key + 1) = 2 ^ man ∧ ((key / 2 ^ man = 0 ∧ mnum man key + 1 = 2 ^ man) ∨ (key / 2 ^ man ≠ 0 ∧ mnum man key + 1 = 2 * 2 ^ man))) := by
  unfold mnum
  rcases step_divmod (2 ^ man) key (two_pos man) with ⟨a, b⟩ | ⟨a, b, c⟩
  · left
    rw [a, b]
    refine ⟨rfl, ?_⟩
    split <;> omega
  · right
    rw [a, b]
    refine ⟨rfl, by simp, ?_⟩
    by_cases h : key / 2 ^ man = 0
    · left; rw [if_pos h]; omega
    · right; rw [if_neg h]; omega

theorem mval_between (man bias key : Nat) (hm : man ≤ 60) :
    aboveV (mval (man + 1) bias (2 * key + 1)).1 (mval (man + 1) bias (2 * key + 1)).2 (mval man bias key).1 (mval man bias key).2 = true := by
  rw [mval_eq (man + 1) bias (2 * key + 1) (by omega)]
  by_cases h0 : key = 0
  · subst h0
    have : mval man bias 0 = (0, 0) := rfl
    rw [this]
    exact above_zero _ _ _ (odd_pos _ _ (mnum_pos _ _ (by omega)) (mnum_lt _ _ (by omega)))
  · rw [mval_eq man bias key h0]
    have hh := mnum_half man key
    refine above_odd _ _ _ _ ((max (key / 2 ^ man) 1 : Nat) - (bias : Int) - man - 1) 0 1 (mnum_pos _ _ (by omega)) (mnum_pos _ _ h0) (mnum_lt _ _ (by omega)) (mnum_lt _ _ (by omega)) ?_ (by omega) ?_
    · rw [half_div]; omega
    · rw [hh]; omega

theorem mval_next (man bias key : Nat) (hm : man ≤ 60) :
    aboveV (mval man bias (key + 1)).1 (mval man bias (key + 1)).2 (mval (man + 1) bias (2 * key + 1)).1 (mval (man + 1) bias (2 * key + 1)).2 = true := by
  rw [mval_eq (man + 1) bias (2 * key + 1) (by omega), mval_eq man bias (key + 1) (by omega)]
  have hh := mnum_half man key
  have p1 := mnum_pos man (key + 1) (by omega)
  have p2 := mnum_pos (man + 1) (2 * key + 1) (by omega)
  have l1 := mnum_lt man (key + 1) (by omega)
  have l2 := mnum_lt (man + 1) (2 * key + 1) (by omega)
  rcases mnum_step man key with ⟨a, b⟩ | ⟨a, b, ⟨c, d⟩ | ⟨c, d⟩⟩
  · refine above_odd _ _ _ _ ((max (key / 2 ^ man) 1 : Nat) - (bias : Int) - man - 1) 1 0 p1 p2 l1 l2 ?_ ?_ ?_
    · rw [a]; omega
    · rw [half_div]; omega
    · rw [hh, b]; omega
  · refine above_odd _ _ _ _ (1 - (bias : Int) - man - 1) 1 0 p1 p2 l1 l2 ?_ ?_ ?_
    · rw [a, c]; omega
    · rw [half_div, c]; omega
    · rw [hh, b]; omega
  · have hd := half_div man key
    generalize key / 2 ^ man = q at *
    refine above_odd _ _ _ _ ((q : Int) - (bias : Int) - man - 1) 2 0 p1 p2 l1 l2 ?_ ?_ ?_
    · rw [a]; omega
    · rw [hd]; omega
    · rw [hh, b]; omega

/-! ### the other kinds -/
theorem odd_between (key : Nat) (e : Int) (h : key < 2 ^ 62) : aboveV (odd (2 * key + 1) (e - 1)).1 (odd (2 * key + 1) (e - 1)).2 (odd key e).1 (odd key e).2 = true := by
  by_cases h0 : key = 0
  · subst h0
    exact above_zero _ _ _ (odd_pos _ _ (by omega) (by omega))
  · exact above_odd _ _ _ _ (e - 1) 0 1 (by omega) (by omega) (by omega) (by omega) (by omega) (by omega) (by omega)
theorem odd_next (key : Nat) (e : Int) (h : key < 2 ^ 62) : aboveV (odd (key + 1) e).1 (odd (key + 1) e).2 (odd (2 * key + 1) (e - 1)).1 (odd (2 * key + 1) (e - 1)).2 = true :=
  above_odd _ _ _ _ (e - 1) 1 0 (by omega) (by omega) (by omega) (by omega) (by omega) (by omega) (by omega)
theorem scale_between (e : Int) : aboveV 3 (e - 1) 1 e = true := above_of 3 1 _ _ (e - 1) 0 1 (by omega) (by omega) (by omega) (by omega) (by omega) (by omega) (by omega)
theorem scale_next (e : Int) : aboveV 1 (e + 1) 3 (e - 1) = true := above_of 1 3 _ _ (e - 1) 2 0 (by omega) (by omega) (by omega) (by omega) (by omega) (by omega) (by omega)

/-! ### posits -/
def pmant (L rest : Nat) : Nat := 2 ^ (L - 2) + rest % 2 ^ (L - 2)
def pscale (L rest : Nat) : Nat := rest / 2 ^ (L - 2) * 2 ^ (2 - L)
theorem pval_eq (n key : Nat) : pval n key = odd (pmant (pleft n key) (prest n key)) (4 * preg n key + pscale (pleft n key) (prest n key) - ((pleft n key - 2 : Nat) : Int)) := rfl
theorem pmant_pos (L rest : Nat) : 0 < pmant L rest := by unfold pmant; have := two_pos (L - 2); omega
theorem pmant_lt (L rest : Nat) (h : L ≤ 64) : pmant L rest < 2 ^ 64 := by
  unfold pmant
  have h1 := Nat.mod_lt rest (two_pos (L - 2))
  have h2 : 2 ^ (L - 2) ≤ 2 ^ 62 := Nat.pow_le_pow_right (by decide) (by omega)
  omega
theorem pscale_le (L rest : Nat) (h : rest < 2 ^ L) : pscale L rest ≤ 3 := by
  unfold pscale
  by_cases h2 : 2 ≤ L
  · have e : 2 ^ L = 4 * 2 ^ (L - 2) := by
      obtain ⟨m, rfl⟩ : ∃ m, L = m + 2 := ⟨L - 2, by omega⟩
      rw [Nat.pow_add, Nat.add_sub_cancel]; omega
    rw [show 2 - L = 0 from by omega, Nat.pow_zero, Nat.mul_one]
    have : rest / 2 ^ (L - 2) < 4 := Nat.div_lt_of_lt_mul (by rw [Nat.mul_comm, ← e]; exact h)
    omega
  · have : L = 0 ∨ L = 1 := by omega
    rcases this with rfl | rfl
    · simp at h; subst h; decide
    · have : rest = 0 ∨ rest = 1 := by simp at h; omega
      rcases this with rfl | rfl <;> decide

/-- The same run, one more bit behind it: between a magnitude and the next. -/
theorem pos_between (L rest : Nat) (g : Int) (hL : L ≤ 62) (h : rest < 2 ^ L) :
    aboveV (odd (pmant (L + 1) (2 * rest + 1)) (g + pscale (L + 1) (2 * rest + 1) - ((L + 1 - 2 : Nat) : Int))).1 (odd (pmant (L + 1) (2 * rest + 1)) (g + pscale (L + 1) (2 * rest + 1) - ((L + 1 - 2 : Nat) : Int))).2
      (odd (pmant L rest) (g + pscale L rest - ((L - 2 : Nat) : Int))).1 (odd (pmant L rest) (g + pscale L rest - ((L - 2 : Nat) : Int))).2 = true := by
  by_cases h2 : 2 ≤ L
  · obtain ⟨m, rfl⟩ : ∃ m, L = m + 2 := ⟨L - 2, by omega⟩
    have e1 : pmant (m + 2 + 1) (2 * rest + 1) = 2 * pmant (m + 2) rest + 1 := by
      unfold pmant
      rw [show m + 2 + 1 - 2 = m + 1 from by omega, show m + 2 - 2 = m from by omega, half_mod, Nat.pow_succ']
      omega
    have e2 : pscale (m + 2 + 1) (2 * rest + 1) = pscale (m + 2) rest := by
      unfold pscale
      rw [show m + 2 + 1 - 2 = m + 1 from by omega, show m + 2 - 2 = m from by omega, half_div, show 2 - (m + 2 + 1) = 0 from by omega, show 2 - (m + 2) = 0 from by omega]
    refine above_odd _ _ _ _ (g + pscale (m + 2) rest - m - 1) 0 1 (pmant_pos _ _) (pmant_pos _ _) (pmant_lt _ _ (by omega)) (pmant_lt _ _ (by omega)) ?_ ?_ ?_
    · rw [e2]; omega
    · omega
    · rw [e1]; omega
  · have : L = 0 ∨ L = 1 := by omega
    rcases this with rfl | rfl
    · have : rest = 0 := by simp at h; exact h
      subst this
      exact above_odd _ _ _ _ g 2 0 (by decide) (by decide) (by decide) (by decide) (by show g + 2 - 0 = g + 2; omega) (by show g + 0 - 0 = g + 0; omega) (by decide)
    · have : rest = 0 ∨ rest = 1 := by simp at h; omega
      rcases this with rfl | rfl
      · exact above_odd _ _ _ _ g 1 0 (by decide) (by decide) (by decide) (by decide) (by show g + 1 - 0 = g + 1; omega) (by show g + 0 - 0 = g + 0; omega) (by decide)
      · exact above_odd _ _ _ _ g 3 2 (by decide) (by decide) (by decide) (by decide) (by show g + 3 - 0 = g + 3; omega) (by show g + 2 - 0 = g + 2; omega) (by decide)

/-- The same run, one more in the last place. -/
theorem pos_next (L rest : Nat) (g : Int) (hL : L ≤ 62) (h : rest + 1 < 2 ^ L) :
    aboveV (odd (pmant L (rest + 1)) (g + pscale L (rest + 1) - ((L - 2 : Nat) : Int))).1 (odd (pmant L (rest + 1)) (g + pscale L (rest + 1) - ((L - 2 : Nat) : Int))).2
      (odd (pmant (L + 1) (2 * rest + 1)) (g + pscale (L + 1) (2 * rest + 1) - ((L + 1 - 2 : Nat) : Int))).1 (odd (pmant (L + 1) (2 * rest + 1)) (g + pscale (L + 1) (2 * rest + 1) - ((L + 1 - 2 : Nat) : Int))).2 = true := by
  by_cases h2 : 2 ≤ L
  · obtain ⟨m, rfl⟩ : ∃ m, L = m + 2 := ⟨L - 2, by omega⟩
    have e1 : pmant (m + 2 + 1) (2 * rest + 1) = 2 * pmant (m + 2) rest + 1 := by
      unfold pmant
      rw [show m + 2 + 1 - 2 = m + 1 from by omega, show m + 2 - 2 = m from by omega, half_mod, Nat.pow_succ']
      omega
    have e2 : pscale (m + 2 + 1) (2 * rest + 1) = pscale (m + 2) rest := by
      unfold pscale
      rw [show m + 2 + 1 - 2 = m + 1 from by omega, show m + 2 - 2 = m from by omega, half_div, show 2 - (m + 2 + 1) = 0 from by omega, show 2 - (m + 2) = 0 from by omega]
    rcases step_divmod (2 ^ m) rest (two_pos m) with ⟨a, b⟩ | ⟨a, b, c⟩
    · have e3 : pmant (m + 2) (rest + 1) = pmant (m + 2) rest + 1 := by unfold pmant; rw [show m + 2 - 2 = m from by omega, b]; omega
      have e4 : pscale (m + 2) (rest + 1) = pscale (m + 2) rest := by unfold pscale; rw [show m + 2 - 2 = m from by omega, a]
      refine above_odd _ _ _ _ (g + pscale (m + 2) rest - m - 1) 1 0 (pmant_pos _ _) (pmant_pos _ _) (pmant_lt _ _ (by omega)) (pmant_lt _ _ (by omega)) ?_ ?_ ?_
      · rw [e4]; omega
      · rw [e2]; omega
      · rw [e1, e3]; omega
    · have e3 : pmant (m + 2) (rest + 1) = 2 ^ m := by unfold pmant; rw [show m + 2 - 2 = m from by omega, b]; omega
      have e4 : pscale (m + 2) (rest + 1) = pscale (m + 2) rest + 1 := by unfold pscale; rw [show m + 2 - 2 = m from by omega, a, show 2 - (m + 2) = 0 from by omega]; omega
      have e5 : pmant (m + 2) rest + 1 = 2 * 2 ^ m := by unfold pmant; rw [show m + 2 - 2 = m from by omega]; omega
      refine above_odd _ _ _ _ (g + pscale (m + 2) rest - m - 1) 2 0 (pmant_pos _ _) (pmant_pos _ _) (pmant_lt _ _ (by omega)) (pmant_lt _ _ (by omega)) ?_ ?_ ?_
      · rw [e4]; omega
      · rw [e2]; omega
      · rw [e1, e3]; omega
  · have : L = 0 ∨ L = 1 := by omega
    rcases this with rfl | rfl
    · simp at h
    · have : rest = 0 := by simp at h; omega
      subst this
      exact above_odd _ _ _ _ g 2 1 (by decide) (by decide) (by decide) (by decide) (by show g + 2 - 0 = g + 2; omega) (by show g + 1 - 0 = g + 1; omega) (by decide)

/-- The next run. -/
theorem pos_up (L M rest : Nat) (g : Int) (hL : L ≤ 64) (hM : M ≤ 64) (h : rest < 2 ^ L) :
    aboveV (odd (pmant M 0) (g + 4 + pscale M 0 - ((M - 2 : Nat) : Int))).1 (odd (pmant M 0) (g + 4 + pscale M 0 - ((M - 2 : Nat) : Int))).2
      (odd (pmant L rest) (g + pscale L rest - ((L - 2 : Nat) : Int))).1 (odd (pmant L rest) (g + pscale L rest - ((L - 2 : Nat) : Int))).2 = true := by
  have e0 : pscale M 0 = 0 := by unfold pscale; simp
  have e1 : pmant M 0 = 2 ^ (M - 2) := by unfold pmant; simp
  have hx := pscale_le L rest h
  have hf : pmant L rest < 2 * 2 ^ (L - 2) := by unfold pmant; have := Nat.mod_lt rest (two_pos (L - 2)); omega
  rw [e0]
  refine above_odd _ _ _ _ (g - ((L - 2 : Nat) : Int) - ((M - 2 : Nat) : Int)) (4 + (L - 2)) (pscale L rest + (M - 2)) (pmant_pos _ _) (pmant_pos _ _) (pmant_lt _ _ hM) (pmant_lt _ _ hL) (by omega) (by omega) ?_
  rw [e1]
  generalize L - 2 = a at *
  generalize M - 2 = b at *
  generalize pmant L rest = m at *
  generalize pscale L rest = x at *
  have h1 : 2 ^ (x + b) ≤ 2 ^ (3 + b) := Nat.pow_le_pow_right (by decide) (by omega)
  have h2 : m * 2 ^ (x + b) ≤ m * 2 ^ (3 + b) := Nat.mul_le_mul_left _ h1
  have h3 : m * 2 ^ (3 + b) < 2 * 2 ^ a * 2 ^ (3 + b) := Nat.mul_lt_mul_of_pos_right hf (two_pos _)
  have h4 : 2 * 2 ^ a * 2 ^ (3 + b) = 2 ^ b * 2 ^ (4 + a) := by
    rw [← Nat.pow_succ', ← Nat.pow_add, ← Nat.pow_add]
    congr 1
    omega
  omega

/-! ### the runs of neighbours -/
theorem bitLen_zero_iff (x : Nat) (h : x < 2 ^ 64) : Lib.bitLen x = 0 ↔ x = 0 := by
  constructor
  · intro hx
    have := (bitLen_le_iff x 0 h).1 (by omega)
    simpa using this
  · rintro rfl; rfl
theorem bitLen_two (x : Nat) (h0 : 0 < x) (h : 2 * x < 2 ^ 64) : Lib.bitLen (2 * x) = Lib.bitLen x + 1 := by
  have := bitLen_mul x 1 h0 (by omega)
  rw [Nat.pow_one, Nat.mul_comm] at this
  exact this
theorem bitLen_two_one (x : Nat) (h : 2 * x + 1 < 2 ^ 64) : Lib.bitLen (2 * x + 1) = Lib.bitLen x + 1 := by
  rw [Lib.bitLen_half (2 * x + 1) (by omega) h, show (2 * x + 1) / 2 = x from by omega]
  omega

/-- A magnitude of n bits, by its run and what is behind it. -/
structure Shape (n key : Nat) (g : Int) (L rest : Nat) : Prop where
  reg : preg n key = g
  left : pleft n key = L
  rest : prest n key = rest

theorem shape_low (n b rest : Nat) (hb : b < n) (hr : rest < 2 ^ b) (hn : n ≤ 64) (hlow : b + 1 < n) : Shape n (2 ^ b + rest) (-((n - (b + 1) : Nat) : Int)) b rest := by
  have hp := two_pos b
  have h1 : 2 ^ b + rest < 2 ^ (b + 1) := by rw [Nat.pow_succ]; omega
  have h2 : 2 ^ (b + 1) ≤ 2 ^ (n - 1) := Nat.pow_le_pow_right (by decide) (by omega)
  have hl : Lib.bitLen (2 ^ b + rest) = b + 1 := bitLen_eq _ b (by omega) (by omega) h1
  have hrun : prun n (2 ^ b + rest) = n - (b + 1) := by unfold prun; rw [if_neg (by omega), hl]
  have hleft : pleft n (2 ^ b + rest) = b := by unfold pleft; rw [hrun]; omega
  refine ⟨?_, hleft, ?_⟩
  · unfold preg; rw [if_neg (by omega), hrun]
  · unfold prest; rw [hleft, Nat.add_mod_left, Nat.mod_eq_of_lt hr]

theorem shape_high (n b rest : Nat) (hb : b < n) (hr : rest < 2 ^ b) (hn : n ≤ 64) (hlow : b + 1 < n) : Shape n (2 ^ n - 2 ^ (b + 1) + rest) (((n - (b + 1) : Nat) : Int) - 1) b rest := by
  have hp := two_pos b
  have e2 : 2 ^ (b + 1) = 2 * 2 ^ b := Nat.pow_succ'
  have h2 : 2 ^ (b + 1) ≤ 2 ^ (n - 1) := Nat.pow_le_pow_right (by decide) (by omega)
  have e3 : 2 ^ n = 2 * 2 ^ (n - 1) := by rw [← Nat.pow_succ']; congr 1; omega
  have hc : 2 ^ n - 1 - (2 ^ n - 2 ^ (b + 1) + rest) = 2 ^ b + (2 ^ b - 1 - rest) := by omega
  have hl : Lib.bitLen (2 ^ n - 1 - (2 ^ n - 2 ^ (b + 1) + rest)) = b + 1 := by rw [hc]; exact bitLen_eq _ b (by omega) (by omega) (by omega)
  have hrun : prun n (2 ^ n - 2 ^ (b + 1) + rest) = n - (b + 1) := by unfold prun; rw [if_pos (by omega), hl]
  have hleft : pleft n (2 ^ n - 2 ^ (b + 1) + rest) = b := by unfold pleft; rw [hrun]; omega
  refine ⟨?_, hleft, ?_⟩
  · unfold preg; rw [if_pos (by omega), hrun]
  · unfold prest
    rw [hleft]
    have e4 : 2 ^ n - 2 ^ (b + 1) + rest = 2 ^ b * (2 ^ (n - b) - 2) + rest := by
      rw [Nat.mul_sub, ← Nat.pow_add, show b + (n - b) = n from by omega, e2, Nat.mul_comm (2 ^ b) 2]
    rw [e4, Nat.mul_add_mod, Nat.mod_eq_of_lt hr]

theorem shape_ones (n : Nat) (hn0 : 1 ≤ n) (hn : n ≤ 64) : Shape n (2 ^ n - 1) ((n : Int) - 1) 0 0 := by
  have e3 : 2 ^ n = 2 * 2 ^ (n - 1) := by rw [← Nat.pow_succ']; congr 1; omega
  have hp := two_pos (n - 1)
  have hl : Lib.bitLen (2 ^ n - 1 - (2 ^ n - 1)) = 0 := by rw [Nat.sub_self]; rfl
  have hrun : prun n (2 ^ n - 1) = n := by unfold prun; rw [if_pos (by omega), hl]; omega
  have hleft : pleft n (2 ^ n - 1) = 0 := by unfold pleft; rw [hrun]; omega
  refine ⟨?_, hleft, ?_⟩
  · unfold preg; rw [if_pos (by omega), hrun]
  · unfold prest; rw [hleft, Nat.pow_zero, Nat.mod_one]

/-- Every magnitude but nought has its shape: low, high, or all ones. -/
theorem shapes (n key : Nat) (hn0 : 1 ≤ n) (hn : n ≤ 64) (h0 : 0 < key) (hk : key < 2 ^ n) :
    (∃ b rest, b + 1 < n ∧ rest < 2 ^ b ∧ key = 2 ^ b + rest) ∨ (∃ b rest, b + 1 < n ∧ rest < 2 ^ b ∧ key = 2 ^ n - 2 ^ (b + 1) + rest) ∨ key = 2 ^ n - 1 := by
  have e3 : 2 ^ n = 2 * 2 ^ (n - 1) := by rw [← Nat.pow_succ']; congr 1; omega
  have h64 : 2 ^ n ≤ 2 ^ 64 := Nat.pow_le_pow_right (by decide) hn
  by_cases hs : 2 ^ (n - 1) ≤ key
  · right
    by_cases h1 : key = 2 ^ n - 1
    · exact .inr h1
    · left
      obtain ⟨a, b, c⟩ := bitLen_bounds 64 (2 ^ n - 1 - key) (by omega) (by omega) (by omega)
      have hle := (bitLen_le_iff (2 ^ n - 1 - key) (n - 1) (by omega)).2 (by omega)
      generalize Lib.bitLen (2 ^ n - 1 - key) = l at *
      obtain ⟨m, rfl⟩ : ∃ m, l = m + 1 := ⟨l - 1, by omega⟩
      rw [Nat.add_sub_cancel] at b
      have e2 : 2 ^ (m + 1) = 2 * 2 ^ m := Nat.pow_succ'
      have h2 : 2 ^ (m + 1) ≤ 2 ^ (n - 1) := Nat.pow_le_pow_right (by decide) (by omega)
      exact ⟨m, key - (2 ^ n - 2 ^ (m + 1)), by omega, by omega, by omega⟩
  · left
    obtain ⟨a, b, c⟩ := bitLen_bounds 64 key (by omega) h0 (by omega)
    have hle := (bitLen_le_iff key (n - 1) (by omega)).2 (by omega)
    generalize Lib.bitLen key = l at *
    obtain ⟨m, rfl⟩ : ∃ m, l = m + 1 := ⟨l - 1, by omega⟩
    rw [Nat.add_sub_cancel] at b
    have e2 : 2 ^ (m + 1) = 2 * 2 ^ m := Nat.pow_succ'
    exact ⟨m, key - 2 ^ m, by omega, by omega, by omega⟩

theorem pval_shape {n key : Nat} {g : Int} {L rest : Nat} (h : Shape n key g L rest) : pval n key = odd (pmant L rest) (4 * g + pscale L rest - ((L - 2 : Nat) : Int)) := by
  rw [pval_eq, h.reg, h.left, h.rest]

theorem pval_between (n key : Nat) (hn0 : 2 ≤ n) (hn : n ≤ 63) (h0 : 0 < key) (hk : key < 2 ^ n) :
    aboveV (pval (n + 1) (2 * key + 1)).1 (pval (n + 1) (2 * key + 1)).2 (pval n key).1 (pval n key).2 = true := by
  rcases shapes n key (by omega) (by omega) h0 hk with ⟨b, r, hb, hr, rfl⟩ | ⟨b, r, hb, hr, rfl⟩ | rfl
  · have s1 := shape_low n b r (by omega) hr (by omega) hb
    have s2 := shape_low (n + 1) (b + 1) (2 * r + 1) (by omega) (by rw [Nat.pow_succ']; omega) (by omega) (by omega)
    have e : 2 ^ (b + 1) + (2 * r + 1) = 2 * (2 ^ b + r) + 1 := by rw [Nat.pow_succ']; omega
    rw [e, show n + 1 - (b + 1 + 1) = n - (b + 1) from by omega] at s2
    rw [pval_shape s1, pval_shape s2]
    exact pos_between b r _ (by omega) hr
  · have s1 := shape_high n b r (by omega) hr (by omega) hb
    have s2 := shape_high (n + 1) (b + 1) (2 * r + 1) (by omega) (by rw [Nat.pow_succ']; omega) (by omega) (by omega)
    have h2 : 2 ^ (b + 1) ≤ 2 ^ n := Nat.pow_le_pow_right (by decide) (by omega)
    have e : 2 ^ (n + 1) - 2 ^ (b + 1 + 1) + (2 * r + 1) = 2 * (2 ^ n - 2 ^ (b + 1) + r) + 1 := by rw [Nat.pow_succ', Nat.pow_succ' (m := 2) (n := b + 1)]; omega
    rw [e, show n + 1 - (b + 1 + 1) = n - (b + 1) from by omega] at s2
    rw [pval_shape s1, pval_shape s2]
    exact pos_between b r _ (by omega) hr
  · have s1 := shape_ones n (by omega) (by omega)
    have s2 := shape_ones (n + 1) (by omega) (by omega)
    have hp := two_pos n
    rw [show 2 ^ (n + 1) - 1 = 2 * (2 ^ n - 1) + 1 from by rw [Nat.pow_succ']; omega] at s2
    rw [pval_shape s1, pval_shape s2]
    have := pos_up 0 0 0 (4 * ((n : Int) - 1)) (by omega) (by omega) (by decide)
    rw [show 4 * (((n + 1 : Nat) : Int) - 1) = 4 * ((n : Int) - 1) + 4 from by omega]
    exact this

theorem pval_next (n key : Nat) (hn0 : 2 ≤ n) (hn : n ≤ 63) (h0 : 0 < key) (hk : key + 1 < 2 ^ n) :
    aboveV (pval n (key + 1)).1 (pval n (key + 1)).2 (pval (n + 1) (2 * key + 1)).1 (pval (n + 1) (2 * key + 1)).2 = true := by
  rcases shapes n key (by omega) (by omega) h0 (by omega) with ⟨b, r, hb, hr, rfl⟩ | ⟨b, r, hb, hr, rfl⟩ | rfl
  · have s2 := shape_low (n + 1) (b + 1) (2 * r + 1) (by omega) (by rw [Nat.pow_succ']; omega) (by omega) (by omega)
    have e : 2 ^ (b + 1) + (2 * r + 1) = 2 * (2 ^ b + r) + 1 := by rw [Nat.pow_succ']; omega
    rw [e, show n + 1 - (b + 1 + 1) = n - (b + 1) from by omega] at s2
    rw [pval_shape s2]
    by_cases hr1 : r + 1 < 2 ^ b
    · have s1 := shape_low n b (r + 1) (by omega) hr1 (by omega) hb
      rw [show 2 ^ b + (r + 1) = 2 ^ b + r + 1 from by omega] at s1
      rw [pval_shape s1]
      exact pos_next b r _ (by omega) hr1
    · have e2 : 2 ^ b + r + 1 = 2 ^ (b + 1) + 0 := by rw [Nat.pow_succ']; omega
      rw [e2]
      by_cases hb2 : b + 2 < n
      · have s1 := shape_low n (b + 1) 0 (by omega) (two_pos _) (by omega) (by omega)
        rw [pval_shape s1, show 4 * -((n - (b + 1 + 1) : Nat) : Int) = 4 * -((n - (b + 1) : Nat) : Int) + 4 from by omega]
        exact pos_up _ _ _ _ (by omega) (by omega) (by rw [Nat.pow_succ']; omega)
      · obtain rfl : n = b + 2 := by omega
        by_cases hb0 : b = 0
        · subst hb0
          have s1 := shape_high 2 0 0 (by omega) (by decide) (by omega) (by omega)
          have e3 : 2 ^ 2 - 2 ^ (0 + 1) + 0 = 2 ^ (0 + 1) + 0 := by decide
          rw [e3] at s1
          rw [pval_shape s1]
          exact pos_up 1 0 (2 * r + 1) (4 * -((2 - 1 : Nat) : Int)) (by omega) (by omega) (by simp at hr; omega)
        · have s1 := shape_high (b + 2) b 0 (by omega) (two_pos _) (by omega) (by omega)
          have e3 : 2 ^ (b + 2) - 2 ^ (b + 1) + 0 = 2 ^ (b + 1) + 0 := by rw [Nat.pow_succ' (m := 2) (n := b + 1)]; omega
          rw [e3] at s1
          rw [pval_shape s1, show 4 * (((b + 2 - (b + 1) : Nat) : Int) - 1) = 4 * -((b + 2 - (b + 1) : Nat) : Int) + 4 from by omega]
          exact pos_up _ _ _ _ (by omega) (by omega) (by rw [Nat.pow_succ']; omega)
  · have s2 := shape_high (n + 1) (b + 1) (2 * r + 1) (by omega) (by rw [Nat.pow_succ']; omega) (by omega) (by omega)
    have h2 : 2 ^ (b + 1) ≤ 2 ^ n := Nat.pow_le_pow_right (by decide) (by omega)
    have e : 2 ^ (n + 1) - 2 ^ (b + 1 + 1) + (2 * r + 1) = 2 * (2 ^ n - 2 ^ (b + 1) + r) + 1 := by rw [Nat.pow_succ', Nat.pow_succ' (m := 2) (n := b + 1)]; omega
    rw [e, show n + 1 - (b + 1 + 1) = n - (b + 1) from by omega] at s2
    rw [pval_shape s2]
    by_cases hr1 : r + 1 < 2 ^ b
    · have s1 := shape_high n b (r + 1) (by omega) hr1 (by omega) hb
      rw [show 2 ^ n - 2 ^ (b + 1) + (r + 1) = 2 ^ n - 2 ^ (b + 1) + r + 1 from by omega] at s1
      rw [pval_shape s1]
      exact pos_next b r _ (by omega) hr1
    · have e4 : 2 ^ (b + 1) = 2 * 2 ^ b := Nat.pow_succ'
      have hu : ((n - (b + 1) : Nat) : Int) - 1 + 1 = ((n - b : Nat) : Int) - 1 := by omega
      cases b with
      | zero =>
        have s1 := shape_ones n (by omega) (by omega)
        have e5 : 2 ^ n - 2 ^ (0 + 1) + r + 1 = 2 ^ n - 1 := by simp at hr; subst hr; simp at h2 ⊢; omega
        rw [e5, pval_shape s1, show 4 * ((n : Int) - 1) = 4 * (((n - (0 + 1) : Nat) : Int) - 1) + 4 from by omega]
        exact pos_up _ _ _ _ (by omega) (by omega) (by rw [Nat.pow_succ']; omega)
      | succ b =>
        have s1 := shape_high n b 0 (by omega) (two_pos _) (by omega) (by omega)
        have e5 : 2 ^ n - 2 ^ (b + 1 + 1) + r + 1 = 2 ^ n - 2 ^ (b + 1) + 0 := by omega
        rw [e5, pval_shape s1, show 4 * (((n - (b + 1) : Nat) : Int) - 1) = 4 * (((n - (b + 1 + 1) : Nat) : Int) - 1) + 4 from by omega]
        exact pos_up _ _ _ _ (by omega) (by omega) (by rw [Nat.pow_succ']; omega)
  · omega

/-- Nought, and what is next to it. -/
theorem pval_first (n : Nat) (hn0 : 2 ≤ n) (hn : n ≤ 63) : aboveV (pval n 1).1 (pval n 1).2 (pval (n + 1) 1).1 (pval (n + 1) 1).2 = true ∧ 0 < (pval (n + 1) 1).1 := by
  have s1 := shape_low n 0 0 (by omega) (by decide) (by omega) (by omega)
  have s2 := shape_low (n + 1) 0 0 (by omega) (by decide) (by omega) (by omega)
  rw [show 2 ^ 0 + 0 = 1 from rfl] at s1 s2
  rw [pval_shape s1, pval_shape s2]
  refine ⟨?_, odd_pos _ _ (by decide) (by decide)⟩
  rw [show 4 * -((n - (0 + 1) : Nat) : Int) = 4 * -((n + 1 - (0 + 1) : Nat) : Int) + 4 from by omega]
  exact pos_up 0 0 0 _ (by omega) (by omega) (by decide)
end Go.Proofs.YtogdiobbjlpmoaaDoor.Cal
