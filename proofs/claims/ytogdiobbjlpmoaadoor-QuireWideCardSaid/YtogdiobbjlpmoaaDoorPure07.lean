/- Plain laws of chapter 7: what a pattern's sign and magnitude are good for. No condition but those written. -/
import Derived.Test.YtogdiobbjlpmoaaDoorKey
import Derived.Test.YtogdiobbjlpmoaaDoorMost
namespace Go.Proofs.YtogdiobbjlpmoaaDoor
open Go Go.RowKit Cal

theorem odd_ne (m : Nat) (e : Int) (h0 : 0 < m) (h : m < 2 ^ 64) : (odd m e).1 % 2 = 1 := by
  obtain ⟨o, k, rfl, ho, _, _⟩ := odd_parts m h0 h
  rw [odd_mul o k e ho h]
  exact ho

theorem pfrac_lt (n key : Nat) : pfrac n key < 2 ^ pbits n key := Nat.mod_lt _ (two_pos _)

theorem number_odd (f : Frm) (more key : Nat) (h : NumOk f more key) (hk : key < 2 ^ 64) (h0 : key ≠ 0 ∨ f.kind = 4) (_hm : more ≤ 1) : (number f more key).1 % 2 = 1 := by
  have hkd := h.kind
  have : f.kind = 1 ∨ f.kind = 2 ∨ f.kind = 3 ∨ f.kind = 4 := by omega
  unfold number
  rcases this with k | k | k | k
  · obtain ⟨a, b, c, d⟩ := h.one k
    rw [if_pos k]
    have hr1 := prun_pos (f.width + more - 1) key (by omega) (by omega) d
    have hB : pbits (f.width + more - 1) key ≤ 62 := by unfold pbits pleft; omega
    have hp := two_pos (pbits (f.width + more - 1) key)
    have hlt : 2 ^ pbits (f.width + more - 1) key ≤ 2 ^ 62 := Nat.pow_le_pow_right (by decide) hB
    have hf := pfrac_lt (f.width + more - 1) key
    exact odd_ne _ _ (by omega) (by omega)
  · obtain ⟨a, b, c⟩ := h.two k
    rw [if_neg (by omega), if_pos k]
    have h0' : key ≠ 0 := by omega
    have hp := two_pos (f.man + more)
    have hlt := Nat.mod_lt key hp
    have hpm : 2 ^ (f.man + more) ≤ 2 ^ 60 := Nat.pow_le_pow_right (by decide) a
    have hdm := Nat.div_add_mod key (2 ^ (f.man + more))
    unfold mval
    rw [if_neg h0']
    refine odd_ne _ _ ?_ ?_
    · split
      · rename_i hz
        rw [hz, Nat.mul_zero] at hdm
        omega
      · omega
    · split <;> omega
  · rw [if_neg (by omega), if_neg (by omega), if_pos k]
    exact odd_ne _ _ (by omega) hk
  · rw [if_neg (by omega), if_neg (by omega), if_neg (by omega)]
    simp only
    omega

theorem key_most (i p : Nat) (h1 : 1 ≤ i) (h2 : i ≤ 14) (hp : p < 2 ^ (frm i).width) (hc : cls (frm i) p = 2 ∨ cls (frm i) p = 1) :
    keyP (frm i) p ≤ (mostV i (negP (frm i) p)).1 ∧ (mostV i (negP (frm i) p)).2 = 0 := by
  have : i = 1 ∨ i = 2 ∨ i = 3 ∨ i = 4 ∨ i = 5 ∨ i = 6 ∨ i = 7 ∨ i = 8 ∨ i = 9 ∨ i = 10 ∨ i = 11 ∨ i = 12 ∨ i = 13 ∨ i = 14 := by omega
  rcases this with rfl | rfl | rfl | rfl | rfl | rfl | rfl | rfl | rfl | rfl | rfl | rfl | rfl | rfl
  all_goals
    simp [frm] at hp
    simp only [cls, keyP, negP, frm, mostV, isForm, decide_eq_true_eq] at hc ⊢
    simp at hc ⊢
    repeat' split at hc
    all_goals (repeat' split)
    all_goals omega

theorem patF_key (f : Frm) (p : Nat) (hp : p < 2 ^ f.width) (hw : 1 ≤ f.width) : patF f (negP f p) (keyP f p) = p := by
  have hpw := pow_width f.width hw
  have hp0 := two_pos (f.width - 1)
  unfold patF keyP
  cases hn : negP f p with
  | false => simp
  | true =>
    unfold negP at hn
    have := (of_decide_eq_true hn).2
    rw [if_neg (by decide), if_pos rfl]
    split
    · omega
    · rw [if_neg (by omega)]
      omega

theorem keyV_ok {i : Int} {p : Nat} (h : (keyV i p).2.2 = 0) : ∃ n : Nat, i = n ∧ 1 ≤ n ∧ n ≤ 14 ∧ p < 2 ^ (frm n).width ∧ fitsE i p = 0 ∧ (cls (frm n) p = 2 ∨ cls (frm n) p = 1) ∧ keyV i p = (negP (frm n) p, keyP (frm n) p, 0) := by
  by_cases hf : fitsE i p = 0
  · obtain ⟨n, rfl, h1, h2, hpn⟩ := fits_zero i p hf
    by_cases hc : cls (frm n) p = 3 ∨ cls (frm n) p = 4
    · unfold keyV at h
      rw [if_neg (by omega), if_pos (by simpa using hc)] at h
      simp at h
    · refine ⟨n, rfl, h1, h2, hpn, hf, ?_, ?_⟩
      · have := cls_range (frm n) p
        omega
      · unfold keyV
        rw [if_neg (by omega), if_neg (by simpa using hc)]
        simp
  · unfold keyV at h
    rw [if_pos hf] at h
    exact absurd h hf

theorem keyV_err {i : Int} {p : Nat} (h : (keyV i p).2.2 ≠ 0) : (keyV i p).1 = false ∧ (keyV i p).2.1 = 0 := by
  unfold keyV at h ⊢
  split
  · exact ⟨rfl, rfl⟩
  · rename_i hf
    rw [if_neg hf] at h
    split
    · exact ⟨rfl, rfl⟩
    · rename_i hc
      rw [if_neg hc] at h
      exact absurd rfl h

theorem keyE_ok {n key : Nat} (h1 : 1 ≤ n) (h2 : n ≤ 14) (h : key ≤ lastKey (frm n)) : keyE n key = 0 := by
  unfold keyE
  rw [if_neg (by simpa using isForm_of h1 h2), if_neg (by simp; omega)]

/-- A number's sign and magnitude are those of its pattern. -/
theorem back_law {i : Int} {p : Nat} (h : (keyV i p).2.2 = 0) : patV i (keyV i p).1 (keyV i p).2.1 = (p, 0) ∧ fitsE i p = 0 ∧ atV i (keyV i p).2.1 = ((means i p).m, (means i p).e, 0) ∧
    (means i p).neg = (keyV i p).1 ∧ (((means i p).cls = 2 ∧ (means i p).m ≠ 0) ∨ ((means i p).cls = 1 ∧ (means i p).m = 0 ∧ (means i p).e = 0)) := by
  obtain ⟨n, rfl, h1, h2, hpn, hf, hc, hk⟩ := keyV_ok h
  obtain ⟨w4, w64⟩ := frm_width n h1 h2
  obtain ⟨m1, m2⟩ := key_most n p h1 h2 hpn hc
  have hlast := key_last n p h1 h2 hpn hc
  have hke := keyE_ok h1 h2 hlast
  have hklt := key_lt (frm n) p w64 hpn
  rw [hk]
  simp only
  have hm : means n p = decodeF (frm n) p := by unfold means; rw [if_pos hf]; simp
  rw [hm]
  refine ⟨?_, hf, ?_⟩
  · unfold patV
    rw [if_neg (by omega), if_neg (by omega)]
    simp only [Int.toNat_natCast]
    rw [patF_key (frm n) p hpn (by omega)]
  · unfold atV decodeF
    simp only [Int.toNat_natCast]
    rcases hc with hc | hc
    · have hkp := key_pos (frm n) p hc
      rw [if_neg (by
        intro h
        rcases h with h | h
        · exact h hke
        · exact absurd h.1 (Nat.ne_of_gt (hkp h.2))), if_pos hc]
      refine ⟨rfl, rfl, .inl ⟨rfl, ?_⟩⟩
      have hok := numOk_0 n (keyP (frm n) p) h1 h2 hlast (fun hk => hkp (by omega))
      have := number_odd (frm n) 0 (keyP (frm n) p) hok hklt (by
        by_cases h4 : (frm n).kind = 4
        · exact .inr h4
        · exact .inl (Nat.ne_of_gt (hkp h4))) (by omega)
      intro h
      simp only at h
      omega
    · have hz : keyP (frm n) p = 0 ∧ (frm n).kind ≠ 4 := by
        unfold cls at hc
        split at hc
        · omega
        · split at hc
          · omega
          · split at hc
            · assumption
            · omega
      rw [if_pos (.inr hz), if_neg (by omega), if_neg (by omega), hke]
      exact ⟨rfl, rfl, .inr ⟨hc, rfl, rfl⟩⟩
end Go.Proofs.YtogdiobbjlpmoaaDoor

