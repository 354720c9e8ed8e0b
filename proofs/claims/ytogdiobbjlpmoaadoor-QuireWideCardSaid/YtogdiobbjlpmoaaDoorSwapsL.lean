/- The plain laws of QuireSwaps: a product is the same whichever comes first, and of both signs turned. No condition but those written. -/
import Derived.Test.YtogdiobbjlpmoaaDoorQuireB
import Derived.Test.YtogdiobbjlpmoaaDoorTurn
namespace Go.Proofs.YtogdiobbjlpmoaaDoor
open Go Go.RowKit Cal

theorem qprod_swap (f : Frm) (v u : Val) (less : Bool) : qprod f v u less = qprod f u v less := by
  have e : qshift f.width v.e u.e = qshift f.width u.e v.e := by unfold qshift; rw [Int.add_comm]
  unfold qprod
  rw [e, Nat.mul_comm v.m u.m, show (v.neg != u.neg) = (u.neg != v.neg) from by cases v.neg <;> cases u.neg <;> rfl]
theorem qerr_swap (n p q : Nat) : qerr n p q = qerr n q p := by
  unfold qerr
  by_cases h1 : fitsE n p = 0 <;> by_cases h2 : fitsE n q = 0 <;> simp [h1, h2]
theorem qdoes_swap (f : Frm) (n p q B : Nat) (less : Bool) : qdoes f n B p q less = qdoes f n B q p less := by
  unfold qdoes
  rw [qprod_swap f (means n p) (means n q) less]
  by_cases h1 : fitsE n p = 0 <;> by_cases h2 : fitsE n q = 0 <;> by_cases h3 : (means n p).cls = 4 <;> by_cases h4 : (means n q).cls = 4 <;> by_cases h5 : (means n p).cls = 2 <;> by_cases h6 : (means n q).cls = 2 <;> simp [h1, h2, h3, h4, h5, h6]
theorem turned_law (n p q B : Nat) (h1 : 1 ≤ n) (h2 : n ≤ 4) (hk : (keyV n p).2.2 = 0) (_ht : (patV n (!(keyV n p).1) (keyV n p).2.1).2 = 0) :
    qdoes (frm n) n B (patV n (!(keyV n p).1) (keyV n p).2.1).1 q true = qdoes (frm n) n B p q false ∧ qerr n (patV n (!(keyV n p).1) (keyV n p).2.1).1 q = qerr n p q ∧ (patV n (!(keyV n p).1) (keyV n p).2.1).1 < 18446744073709551616 := by
  obtain ⟨n', hn, a1, a2, hp, hf, hc, hkv⟩ := keyV_ok hk
  obtain rfl : n = n' := by omega
  obtain ⟨hkd, hw8, hw64, _⟩ := posit_frm n h1 h2
  rw [hkv]
  simp only
  obtain ⟨t, e, htw, m1, m2, m3, m4⟩ := (turn_law n p h1 (by omega) hp hc).2 (by rw [hkd]; omega)
  rw [e]
  have hpw := pow_le64 hw64
  have hw := pow_width (frm n).width (by omega)
  have hft : fitsE n t = 0 := by
    unfold fitsE
    rw [if_pos (isForm_of h1 (by omega)), if_pos (by simpa using htw)]
  have hcls := means_cls hf
  rw [Int.toNat_natCast] at hcls
  refine ⟨?_, ?_, by show t < _; omega⟩
  · unfold qdoes
    rw [hft, hf, m3]
    by_cases hc2 : (means n p).cls = 2
    · have hq : qprod (frm n) (means n t) (means n q) true = qprod (frm n) (means n p) (means n q) false := by
        have hneg : (means n t).neg = !(means n p).neg := by
          rcases m4 with m4 | m4
          · cases h : (means n t).neg <;> cases h' : (means n p).neg <;> simp_all
          · omega
        unfold qprod
        rw [m1, m2, hneg]
        cases (means n p).neg <;> cases (means n q).neg <;> simp
      rw [hq]
    · rw [hcls] at hc2
      have h1' : (means n p).cls = 1 := by omega
      simp [h1']
  · unfold qerr
    rw [hft, hf]
end Go.Proofs.YtogdiobbjlpmoaaDoor

