/- Plain laws of chapter 7: a pattern of the other sign means the same size. No condition but those written. -/
import Derived.Test.YtogdiobbjlpmoaaDoorPure07
namespace Go.Proofs.YtogdiobbjlpmoaaDoor
open Go Go.RowKit Cal

theorem keyP_patF (f : Frm) (neg : Bool) (key : Nat) (hw : 1 ≤ f.width) (h4 : neg = true → f.kind ≠ 4) (h2 : f.kind = 2 → key < 2 ^ (f.width - 1)) (hn : neg = true → key ≤ 2 ^ (f.width - 1))
    (hp : neg = false → f.kind ≠ 4 → key < 2 ^ (f.width - 1)) (hk : key < 2 ^ f.width) :
    keyP f (patF f neg key) = key ∧ negP f (patF f neg key) = (neg && (decide (f.kind = 2) || decide (key ≠ 0))) ∧ patF f neg key < 2 ^ f.width := by
  have hpw := pow_width f.width hw
  have hp0 := two_pos (f.width - 1)
  cases neg with
  | false =>
    have e : patF f false key = key := by unfold patF; rw [if_pos rfl]
    have e2 : negP f key = false := by
      unfold negP
      refine decide_eq_false fun h => ?_
      have := hp rfl h.1
      omega
    rw [e, e2]
    refine ⟨?_, by simp, hk⟩
    unfold keyP
    rw [e2, if_neg (by decide)]
  | true =>
    have h4' := h4 rfl
    have hn' := hn rfl
    by_cases k2 : f.kind = 2
    · have h2' := h2 k2
      have e : patF f true key = key + 2 ^ (f.width - 1) := by unfold patF; rw [if_neg (by decide), if_pos k2]
      have e2 : negP f (key + 2 ^ (f.width - 1)) = true := by unfold negP; exact decide_eq_true ⟨h4', by omega⟩
      rw [e, e2]
      refine ⟨?_, by simp [k2], by omega⟩
      unfold keyP
      rw [e2, if_pos rfl, if_pos k2]
      omega
    · by_cases hz : key = 0
      · subst hz
        have e : patF f true 0 = 0 := by unfold patF; rw [if_neg (by decide), if_neg k2, if_pos rfl]
        have e2 : negP f 0 = false := by
          unfold negP
          refine decide_eq_false fun h => ?_
          omega
        rw [e, e2]
        refine ⟨?_, by simp [k2], hk⟩
        unfold keyP
        rw [e2, if_neg (by decide)]
      · have e : patF f true key = 2 ^ f.width - key := by unfold patF; rw [if_neg (by decide), if_neg k2, if_neg hz]
        have e2 : negP f (2 ^ f.width - key) = true := by unfold negP; exact decide_eq_true ⟨h4', by omega⟩
        rw [e, e2]
        refine ⟨?_, by simp [hz], by omega⟩
        unfold keyP
        rw [e2, if_pos rfl, if_neg k2]
        omega

theorem form_facts (i : Nat) (h1 : 1 ≤ i) (h2 : i ≤ 14) : ((frm i).kind = 1 → (frm i).nan = 2 ^ ((frm i).width - 1) ∧ (frm i).top + 1 = 2 ^ ((frm i).width - 1)) ∧
    ((frm i).kind = 3 → (frm i).nan = 0 ∧ (frm i).top + 1 = 2 ^ ((frm i).width - 1)) ∧ ((frm i).kind = 2 → (frm i).top < 2 ^ ((frm i).width - 1)) ∧ ((frm i).kind = 4 → (frm i).top < 2 ^ (frm i).width) := by
  have : i = 1 ∨ i = 2 ∨ i = 3 ∨ i = 4 ∨ i = 5 ∨ i = 6 ∨ i = 7 ∨ i = 8 ∨ i = 9 ∨ i = 10 ∨ i = 11 ∨ i = 12 ∨ i = 13 ∨ i = 14 := by omega
  rcases this with rfl | rfl | rfl | rfl | rfl | rfl | rfl | rfl | rfl | rfl | rfl | rfl | rfl | rfl <;> decide

theorem turn_law (n p : Nat) (h1 : 1 ≤ n) (h2 : n ≤ 14) (hp : p < 2 ^ (frm n).width) (hc : cls (frm n) p = 2 ∨ cls (frm n) p = 1) :
    (((frm n).kind = 4 ∨ ((frm n).kind = 3 ∧ negP (frm n) p = true ∧ (frm n).top < keyP (frm n) p)) → (patV n (!negP (frm n) p) (keyP (frm n) p)).1 = 0 ∧ (patV n (!negP (frm n) p) (keyP (frm n) p)).2 ≠ 0) ∧
    (¬ ((frm n).kind = 4 ∨ ((frm n).kind = 3 ∧ negP (frm n) p = true ∧ (frm n).top < keyP (frm n) p)) →
      ∃ q, patV n (!negP (frm n) p) (keyP (frm n) p) = (q, 0) ∧ q < 2 ^ (frm n).width ∧ (means n q).m = (means n p).m ∧ (means n q).e = (means n p).e ∧ (means n q).cls = (means n p).cls ∧
        ((means n q).neg ≠ (means n p).neg ∨ ((means n p).cls = 1 ∧ (frm n).kind ≠ 2))) := by
  obtain ⟨w4, w64⟩ := frm_width n h1 h2
  obtain ⟨k1, k4⟩ := frm_kind n h1 h2
  obtain ⟨f1, f3, f2, f4⟩ := form_facts n h1 h2
  have hlast := key_last n p h1 h2 hp hc
  have hpw := pow_width (frm n).width (by omega)
  have hi := isForm_of h1 h2
  have hbk := patF_key (frm n) p hp (by omega)
  have hmm : ∀ q, q < 2 ^ (frm n).width → means n q = decodeF (frm n) q := by
    intro q hq
    unfold means
    rw [if_pos (by unfold fitsE; rw [if_pos hi, if_pos (by simpa using hq)])]
    simp
  constructor
  · intro h
    rcases h with h | ⟨h3, hn, ht⟩
    · have hng : negP (frm n) p = false := by unfold negP; exact decide_eq_false fun hh => hh.1 h
      have hm : mostV n true = (0, 5) := by unfold mostV; simp [hi, h]
      rw [hng]
      have hpv : patV n (!false) (keyP (frm n) p) = (0, 5) := by unfold patV; rw [show (!false) = true from rfl, hm]; rfl
      rw [hpv]
      exact ⟨rfl, by decide⟩
    · have hm : mostV n false = ((frm n).top, 0) := by unfold mostV; simp [hi]
      rw [hn]
      have hpv : patV n (!true) (keyP (frm n) p) = (0, 4) := by unfold patV; rw [show (!true) = false from rfl, hm]; simp [ht]
      rw [hpv]
      exact ⟨rfl, by decide⟩
  · intro hno
    have hk4 : (frm n).kind ≠ 4 := fun h => hno (.inl h)
    have hkey : keyP (frm n) p ≤ (frm n).top ∨ ((frm n).kind = 3 ∧ keyP (frm n) p = (frm n).top + 1 ∧ negP (frm n) p = false) := by
      unfold lastKey at hlast
      split at hlast
      · rename_i h3
        rcases Nat.lt_or_ge (frm n).top (keyP (frm n) p) with h | h
        · right
          refine ⟨h3, by omega, ?_⟩
          cases hn : negP (frm n) p with
          | false => rfl
          | true => exact absurd (.inr ⟨h3, hn, h⟩) hno
        · exact .inl h
      · exact .inl hlast
    have hkey' : keyP (frm n) p ≤ (frm n).top := by
      rcases hkey with h | ⟨h3, h, hn⟩
      · exact h
      · exfalso
        have hkp : keyP (frm n) p = p := by unfold keyP; rw [hn, if_neg (by decide)]
        have : ¬ ((frm n).kind ≠ 4 ∧ 2 ^ ((frm n).width - 1) ≤ p) := of_decide_eq_false hn
        have h32 := (f3 h3).2
        exact this ⟨hk4, by omega⟩
    have hkw : keyP (frm n) p < 2 ^ ((frm n).width - 1) := by
      have : (frm n).kind = 1 ∨ (frm n).kind = 2 ∨ (frm n).kind = 3 := by omega
      rcases this with h | h | h
      · have := (f1 h).2; omega
      · have := f2 h; omega
      · have := (f3 h).2; omega
    have hmost : (mostV n (!negP (frm n) p)).2 = 0 ∧ keyP (frm n) p ≤ (mostV n (!negP (frm n) p)).1 := by
      unfold mostV
      rw [if_neg (by simpa using hi), if_neg (by simp [hk4])]
      split
      · exact ⟨rfl, by simp; omega⟩
      · exact ⟨rfl, by simp; omega⟩
    obtain ⟨q1, q2, q3⟩ := keyP_patF (frm n) (!negP (frm n) p) (keyP (frm n) p) (by omega) (fun _ => hk4) (fun _ => hkw) (fun _ => by omega) (fun _ _ => hkw) (by omega)
    refine ⟨patF (frm n) (!negP (frm n) p) (keyP (frm n) p), ?_, q3, ?_⟩
    · unfold patV
      rw [if_neg (by omega), if_neg (by omega)]
      simp
    · generalize hq : patF (frm n) (!negP (frm n) p) (keyP (frm n) p) = q at *
      have hcq : cls (frm n) q = cls (frm n) p := by
        rw [cls_eq, cls_eq, q1]
        unfold clsK
        by_cases h2' : (frm n).kind = 2
        · simp [h2']
        · have hp1 : ¬ ((frm n).nan ≠ 0 ∧ p = (frm n).nan) := by
            intro h
            have : cls (frm n) p = 4 := by unfold cls; rw [if_neg (fun hh => h2' hh.1), if_pos (.inr ⟨h2', h⟩)]
            omega
          have hq1 : ¬ ((frm n).nan ≠ 0 ∧ q = (frm n).nan) := by
            intro h
            have hk : (frm n).kind = 1 ∨ (frm n).kind = 3 := by omega
            rcases hk with hk | hk
            · have hnan := (f1 hk).1
              rw [hnan] at h
              have : patF (frm n) (!negP (frm n) p) (keyP (frm n) p) ≠ 2 ^ ((frm n).width - 1) := by
                unfold patF
                split
                · omega
                · first | (rw [if_neg h2']) | skip
                  split
                  · have := two_pos ((frm n).width - 1); omega
                  · omega
              exact this (hq.trans h.2)
            · exact h.1 (f3 hk).1
          have a1 : ¬ (((frm n).kind = 2 ∧ (frm n).top < keyP (frm n) p) ∨ ((frm n).kind ≠ 2 ∧ (frm n).nan ≠ 0 ∧ q = (frm n).nan)) := fun h => by
            rcases h with h | h
            · exact h2' h.1
            · exact hq1 h.2
          have a2 : ¬ (((frm n).kind = 2 ∧ (frm n).top < keyP (frm n) p) ∨ ((frm n).kind ≠ 2 ∧ (frm n).nan ≠ 0 ∧ p = (frm n).nan)) := fun h => by
            rcases h with h | h
            · exact h2' h.1
            · exact hp1 h.2
          rw [if_neg a1, if_neg a2]
      rw [hmm q q3, hmm p hp]
      unfold decodeF
      rw [hcq, q1]
      rcases hc with hc | hc
      · rw [if_pos hc, if_pos hc]
        refine ⟨rfl, rfl, rfl, .inl ?_⟩
        simp only
        rw [q2]
        have hkz : keyP (frm n) p ≠ 0 := Nat.ne_of_gt (key_pos (frm n) p hc hk4)
        cases negP (frm n) p <;> simp [hkz]
      · rw [if_neg (by omega), if_neg (by omega), if_neg (by omega), if_neg (by omega)]
        refine ⟨rfl, rfl, rfl, ?_⟩
        simp only
        by_cases h2' : (frm n).kind = 2
        · left
          rw [q2]
          cases negP (frm n) p <;> simp [h2']
        · exact .inr ⟨hc, h2'⟩
end Go.Proofs.YtogdiobbjlpmoaaDoor

