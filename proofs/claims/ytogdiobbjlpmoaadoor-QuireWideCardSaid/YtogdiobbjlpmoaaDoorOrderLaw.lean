/- Each boundary stands between its neighbours, of every form, in plain Lean. No condition but those written. -/
import Derived.Test.YtogdiobbjlpmoaaDoorOrder
import Derived.Test.YtogdiobbjlpmoaaDoorAt
namespace Go.Proofs.YtogdiobbjlpmoaaDoor
open Go Cal

theorem frm_cases (n : Nat) (h1 : 1 ≤ n) (h2 : n ≤ 14) :
    ((frm n).kind = 1 ∧ 3 ≤ (frm n).width ∧ (frm n).width ≤ 64 ∧ lastKey (frm n) + 1 = 2 ^ ((frm n).width - 1)) ∨ ((frm n).kind = 2 ∧ (frm n).man ≤ 59) ∨
    ((frm n).kind = 3 ∧ lastKey (frm n) < 2 ^ 62 ∧ (frm n).man ≤ 60) ∨ ((frm n).kind = 4 ∧ lastKey (frm n) ≤ 1000 ∧ (frm n).bias ≤ 1000) := by
  have : n = 1 ∨ n = 2 ∨ n = 3 ∨ n = 4 ∨ n = 5 ∨ n = 6 ∨ n = 7 ∨ n = 8 ∨ n = 9 ∨ n = 10 ∨ n = 11 ∨ n = 12 ∨ n = 13 ∨ n = 14 := by omega
  rcases this with rfl | rfl | rfl | rfl | rfl | rfl | rfl | rfl | rfl | rfl | rfl | rfl | rfl | rfl <;> decide

theorem number_1 (f : Frm) (more key : Nat) (k : f.kind = 1) : number f more key = pval (f.width + more - 1) key := by unfold number; rw [if_pos k]
theorem number_2 (f : Frm) (more key : Nat) (k : f.kind = 2) : number f more key = mval (f.man + more) f.bias key := by unfold number; rw [if_neg (by omega), if_pos k]
theorem number_3 (f : Frm) (more key : Nat) (k : f.kind = 3) : number f more key = odd key (-(f.man : Int) - more) := by unfold number; rw [if_neg (by omega), if_neg (by omega), if_pos k]
theorem number_4 (f : Frm) (more key : Nat) (k : f.kind = 4) : number f more key = (1 + 2 * more, ((key / 2 ^ more : Nat) : Int) - f.bias - more) := by
  unfold number; rw [if_neg (by omega), if_neg (by omega), if_neg (by omega)]

theorem atV_num {n key : Nat} (h1 : 1 ≤ n) (h2 : n ≤ 14) (hk : key ≤ lastKey (frm n)) (h0 : key ≠ 0 ∨ (frm n).kind = 4) :
    atV n key = ((number (frm n) 0 key).1, (number (frm n) 0 key).2, 0) := by
  have hE := keyE_ok h1 h2 hk
  unfold atV
  rw [if_neg (fun h => h.elim (fun h => h hE) (fun h => h0.elim (fun h' => h' h.1) (fun h' => h.2 (by simpa using h'))))]
  simp
theorem atV_zero {n : Nat} (h1 : 1 ≤ n) (h2 : n ≤ 14) (h0 : (frm n).kind ≠ 4) : atV n 0 = (0, 0, 0) := by
  have hE := keyE_ok (key := 0) h1 h2 (Nat.zero_le _)
  unfold atV
  rw [if_pos (.inr ⟨rfl, by simpa using h0⟩)]
  rw [hE]
theorem betV_num {n key : Nat} (h1 : 1 ≤ n) (h2 : n ≤ 14) (hk : key ≤ lastKey (frm n)) :
    betV n key = ((number (frm n) 1 (2 * key + 1)).1, (number (frm n) 1 (2 * key + 1)).2, 0) := by
  have hE := keyE_ok h1 h2 hk
  unfold betV
  rw [if_neg (by simpa using hE)]
  simp

theorem order_between (n key : Nat) (h1 : 1 ≤ n) (h2 : n ≤ 14) (hk : key ≤ lastKey (frm n)) : aboveV (betV n key).1 (betV n key).2.1 (atV n key).1 (atV n key).2.1 = true := by
  rw [betV_num h1 h2 hk]
  have hc := frm_cases n h1 h2
  by_cases h0 : key ≠ 0 ∨ (frm n).kind = 4
  · rw [atV_num h1 h2 hk h0]
    generalize frm n = f at *
    rcases hc with ⟨k, w3, w64, ht⟩ | ⟨k, hm⟩ | ⟨k, hl, hm⟩ | ⟨k, hl, hb⟩
    · rw [number_1 f _ _ k, number_1 f _ _ k]
      have := pval_between (f.width - 1) key (by omega) (by omega) (by omega) (by omega)
      rw [show f.width + 1 - 1 = f.width - 1 + 1 from by omega, show f.width + 0 - 1 = f.width - 1 from by omega]
      exact this
    · rw [number_2 f _ _ k, number_2 f _ _ k]
      exact mval_between f.man f.bias key (by omega)
    · rw [number_3 f _ _ k, number_3 f _ _ k]
      have := odd_between key (-(f.man : Int) - (0 : Nat)) (by omega)
      rw [show -(f.man : Int) - (0 : Nat) - 1 = -(f.man : Int) - (1 : Nat) from by omega] at this
      exact this
    · rw [number_4 f _ _ k, number_4 f _ _ k]
      have := scale_between (((key / 2 ^ 0 : Nat) : Int) - f.bias - (0 : Nat))
      show aboveV 3 _ 1 _ = true
      rw [show (((2 * key + 1) / 2 ^ 1 : Nat) : Int) - f.bias - (1 : Nat) = ((key / 2 ^ 0 : Nat) : Int) - f.bias - (0 : Nat) - 1 from by omega]
      exact this
  · obtain rfl : key = 0 := by omega
    have k4 : (frm n).kind ≠ 4 := fun h => h0 (.inr h)
    rw [atV_zero h1 h2 k4]
    refine above_zero _ _ _ ?_
    generalize frm n = f at *
    rcases hc with ⟨k, w3, w64, ht⟩ | ⟨k, hm⟩ | ⟨k, hl, hm⟩ | ⟨k, hl, hb⟩
    · rw [number_1 f _ _ k, show f.width + 1 - 1 = f.width - 1 + 1 from by omega]
      exact (pval_first (f.width - 1) (by omega) (by omega)).2
    · rw [number_2 f _ _ k, mval_eq _ _ _ (by omega)]
      exact odd_pos _ _ (mnum_pos _ _ (by omega)) (mnum_lt _ _ (by omega))
    · rw [number_3 f _ _ k]
      exact odd_pos _ _ (by omega) (by omega)
    · exact absurd k k4

theorem order_next (n key : Nat) (h1 : 1 ≤ n) (h2 : n ≤ 14) (hk : key + 1 ≤ lastKey (frm n)) : aboveV (atV n (key + 1)).1 (atV n (key + 1)).2.1 (betV n key).1 (betV n key).2.1 = true := by
  rw [betV_num h1 h2 (by omega)]
  have hc := frm_cases n h1 h2
  have ha := atV_num (n := n) (key := key + 1) h1 h2 hk (.inl (by omega))
  rw [ha]
  generalize frm n = f at *
  rcases hc with ⟨k, w3, w64, ht⟩ | ⟨k, hm⟩ | ⟨k, hl, hm⟩ | ⟨k, hl, hb⟩
  · rw [number_1 f _ _ k, number_1 f _ _ k]
    rw [show f.width + 1 - 1 = f.width - 1 + 1 from by omega, show f.width + 0 - 1 = f.width - 1 from by omega]
    by_cases h0 : key = 0
    · subst h0
      exact (pval_first (f.width - 1) (by omega) (by omega)).1
    · exact pval_next (f.width - 1) key (by omega) (by omega) (by omega) (by omega)
  · rw [number_2 f _ _ k, number_2 f _ _ k]
    exact mval_next f.man f.bias key (by omega)
  · rw [number_3 f _ _ k, number_3 f _ _ k]
    have := odd_next key (-(f.man : Int) - (0 : Nat)) (by omega)
    rw [show -(f.man : Int) - (0 : Nat) - 1 = -(f.man : Int) - (1 : Nat) from by omega] at this
    exact this
  · rw [number_4 f _ _ k, number_4 f _ _ k]
    have := scale_next (((key / 2 ^ 0 : Nat) : Int) - f.bias - (0 : Nat))
    show aboveV 1 _ 3 _ = true
    rw [show (((2 * key + 1) / 2 ^ 1 : Nat) : Int) - f.bias - (1 : Nat) = ((key / 2 ^ 0 : Nat) : Int) - f.bias - (0 : Nat) - 1 from by omega,
      show (((key + 1) / 2 ^ 0 : Nat) : Int) - f.bias - (0 : Nat) = ((key / 2 ^ 0 : Nat) : Int) - f.bias - (0 : Nat) + 1 from by omega]
    exact this

/-! ### bounds -/
theorem odd_bounds (m : Nat) (e : Int) (h : m < 2 ^ 64) : (odd m e).1 < 2 ^ 64 ∧ min 0 e ≤ (odd m e).2 ∧ (odd m e).2 ≤ max 0 e + 64 := by
  rcases Nat.eq_zero_or_pos m with h0 | h0
  · subst h0
    refine ⟨by show 0 < 2 ^ 64; decide, ?_, ?_⟩
    · show min 0 e ≤ 0; omega
    · show (0 : Int) ≤ max 0 e + 64; omega
  · obtain ⟨o, k, rfl, ho, hk, _⟩ := odd_parts m h0 h
    rw [odd_mul o k e ho h]
    refine ⟨Nat.lt_of_le_of_lt (Nat.le_mul_of_pos_right _ (two_pos k)) h, ?_, ?_⟩
    · show min 0 e ≤ e + k; omega
    · show e + k ≤ max 0 e + 64; omega

theorem num_bounds (f : Frm) (more key : Nat) (h : NumOk f more key) (hk : key < 2 ^ 64) : (number f more key).1 < 2 ^ 64 ∧ -20000 ≤ (number f more key).2 ∧ (number f more key).2 ≤ 20000 := by
  have hkd := h.kind
  have : f.kind = 1 ∨ f.kind = 2 ∨ f.kind = 3 ∨ f.kind = 4 := by omega
  rcases this with k | k | k | k
  · obtain ⟨a, b, c, d⟩ := h.one k
    rw [number_1 f _ _ k, pval_eq]
    have hr1 := prun_le (f.width + more - 1) key
    have hL : pleft (f.width + more - 1) key ≤ 64 := by unfold pleft; omega
    have hp : prest (f.width + more - 1) key < 2 ^ pleft (f.width + more - 1) key := Nat.mod_lt _ (two_pos _)
    have hx := pscale_le _ _ hp
    have hg : -64 ≤ preg (f.width + more - 1) key ∧ preg (f.width + more - 1) key ≤ 64 := by unfold preg; split <;> omega
    have hb := odd_bounds (pmant (pleft (f.width + more - 1) key) (prest (f.width + more - 1) key)) (4 * preg (f.width + more - 1) key + pscale (pleft (f.width + more - 1) key) (prest (f.width + more - 1) key) - ((pleft (f.width + more - 1) key - 2 : Nat) : Int)) (pmant_lt _ _ hL)
    omega
  · obtain ⟨a, b, c⟩ := h.two k
    rw [number_2 f _ _ k]
    by_cases h0 : key = 0
    · subst h0
      have : mval (f.man + more) f.bias 0 = (0, 0) := rfl
      rw [this]
      decide
    · rw [mval_eq _ _ _ h0]
      have hb := odd_bounds (mnum (f.man + more) key) ((max (key / 2 ^ (f.man + more)) 1 : Nat) - (f.bias : Int) - (f.man + more : Nat)) (mnum_lt _ _ (by omega))
      generalize key / 2 ^ (f.man + more) = q at *
      omega
  · have a := h.three k
    rw [number_3 f _ _ k]
    have hb := odd_bounds key (-(f.man : Int) - more) hk
    omega
  · obtain ⟨a, b, c⟩ := h.four k
    rw [number_4 f _ _ k]
    have h3 : key / 2 ^ more ≤ key := Nat.div_le_self _ _
    generalize key / 2 ^ more = q at *
    show 1 + 2 * more < 2 ^ 64 ∧ -20000 ≤ (q : Int) - f.bias - more ∧ (q : Int) - f.bias - more ≤ 20000
    omega

theorem at_bounds (n key : Nat) (h1 : 1 ≤ n) (h2 : n ≤ 14) (hk : key ≤ lastKey (frm n)) : (atV n key).1 < 2 ^ 64 ∧ -20000 ≤ (atV n key).2.1 ∧ (atV n key).2.1 ≤ 20000 ∧ (atV n key).2.2 = 0 := by
  have hl := (lastKey_lt n h1 h2).1
  by_cases h0 : key ≠ 0 ∨ (frm n).kind = 4
  · rw [atV_num h1 h2 hk h0]
    obtain ⟨a, b, c⟩ := num_bounds (frm n) 0 key (numOk_0 n key h1 h2 hk (fun h => by omega)) (by omega)
    exact ⟨a, b, c, rfl⟩
  · obtain rfl : key = 0 := by omega
    rw [atV_zero h1 h2 (fun h => h0 (.inr h))]
    decide
theorem bet_bounds (n key : Nat) (h1 : 1 ≤ n) (h2 : n ≤ 14) (hk : key ≤ lastKey (frm n)) : (betV n key).1 < 2 ^ 64 ∧ -20000 ≤ (betV n key).2.1 ∧ (betV n key).2.1 ≤ 20000 ∧ (betV n key).2.2 = 0 := by
  have hl := (lastKey_lt n h1 h2).1
  rw [betV_num h1 h2 hk]
  obtain ⟨a, b, c⟩ := num_bounds (frm n) 1 (2 * key + 1) (numOk_1 n key h1 h2 hk) (by omega)
  exact ⟨a, b, c, rfl⟩
end Go.Proofs.YtogdiobbjlpmoaaDoor

