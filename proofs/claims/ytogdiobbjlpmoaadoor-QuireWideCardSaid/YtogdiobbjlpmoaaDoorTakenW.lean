/- QuireTaken answers true: what is added, and taken away again, is as it was. No condition but those written, and that the package variables hold what they are laid with. QuireTaken answers true, whatever the form, the bits and the patterns: the walk. No condition but those written, and that the package variables hold what they are laid with. QuireTaken answers true, for every argument. No condition but that the package variables hold what they are laid with. -/
import Derived.Test.YtogdiobbjlpmoaaDoorQuireC
import Derived.Test.YtogdiobbjlpmoaaDoorArgNat
import Derived.Deep.QuietTactic
import Derived.BigQuiet
namespace Go.Proofs.YtogdiobbjlpmoaaDoor
open Go Go.RowKit Cal

set_option linter.unusedVariables false
set_option maxRecDepth 100000 in
set_option maxHeartbeats 1600000 in
/-- bits: the same number. -/
theorem bits_same (va vb : Value) (A : Nat) (w : World) (ha : NatV w va (wlen A) A) (hb : NatV w vb (wlen A) A) :
    Calls Tryd.prog 56 #[va, vb] w fun e w' => e = .returned (.bool true) ∧ Ext w w' := by
  have hlen := ha.len
  unfold maxLen at hlen
  generalize wlen A = k at *
  obtain ⟨_, P1, c1, rfl, hk1, hm1, h14⟩ := ha
  obtain ⟨_, P2, c2, rfl, hk2, hm2, h24⟩ := hb
  rcases Nat.eq_zero_or_pos k with hk0 | hk0
  · subst hk0
    clear h14 h24
    go_enter Tryd.func56, Tryd.ntmps56
    go_wp2_with fail
    go_loopg [5] 0 (fun g s5 wr => s5 = .int .i64 0 ∧ w = wr)
    case atStart => exact ⟨rfl, rfl⟩
    case round =>
      obtain ⟨rfl, rfl⟩ := hrel
      go_wp2_with fail
      go_ret
      exact ⟨rfl, Ext.refl _⟩
  · obtain ⟨b1, off1, rfl, hb1, hc1⟩ := h14 hk0
    obtain ⟨b2, off2, rfl, hb2, hc2⟩ := h24 hk0
    have HC1 := Lib.hid hc1
    have HC2 := Lib.hid hc2
    clear hc1 hc2 h14 h24
    unfold maxLen at hm1 hm2
    go_enter Tryd.func56, Tryd.ntmps56
    go_wp2_with fail
    go_loopg [5] k (fun g s5 wr => ∃ i : Nat, i + g = k ∧ s5 = .int .i64 (i : Int) ∧ Ext w wr)
    case atStart => exact ⟨0, by omega, rfl, Ext.refl _⟩
    case round =>
      obtain ⟨i, hi, rfl, hbr⟩ := hrel
      cases gk with
      | zero =>
        have hz : ¬ ((i : Int) < (k : Int)) := by omega
        obtain rfl : i = k := by omega
        go_wp2_with fail
        go_ret
        exact ⟨rfl, hbr⟩
      | succ g =>
        have hlt : (i : Int) < (k : Int) := by omega
        have hi0 : (0 : Int) ≤ (i : Int) := by omega
        have e1 := (hbr.cell (p := ⟨b1, off1 + i, none⟩) hb1).trans (HC1.out i (by omega))
        have e2 := (hbr.cell (p := ⟨b2, off2 + i, none⟩) hb2).trans (HC2.out i (by omega))
        generalize word A i = x at *
        go_wp2_with fail
        go_quiet (fail)
        go_wp2_with fail
        go_roundg g
        case measure => omega
        case rel => exact ⟨i + 1, by omega, by first | rfl | simp, by (repeat (first | (with_reducible exact Ext.refl _) | (with_reducible assumption) | (with_reducible refine Ext.drew ?_) | (with_reducible refine Ext.drewN ?_ _) | (with_reducible refine Ext.alloc ?_ _) | (with_reducible refine Ext.setCell ?_ (Nat.le_refl _) _) | (with_reducible refine Ext.setCell ?_ (by simp; try omega) _) | (with_reducible refine Ext.trans ?_ (by with_reducible assumption))))⟩

/-- What Neg makes of the bits. -/
def qneg (f : Frm) (B : Nat) : Nat := if B = narB f then B else qturn (topB f) B
theorem qneg_lt (f : Frm) {B : Nat} (h : B < topB f) : qneg f B < topB f := by
  unfold qneg
  split
  · exact h
  · exact qturn_lt h
theorem qprod_turn (f : Frm) (v u : Val) (h : v.m * u.m * 2 ^ qshift f.width v.e u.e < topB f) : qprod f v u true = qturn (topB f) (qprod f v u false) := by
  unfold qprod
  generalize v.m * u.m * 2 ^ qshift f.width v.e u.e = N at *
  cases h1 : (v.neg != u.neg)
  · simp
  · simp [qturn_turn h]
/-- The plain law of QuireTaken. -/
theorem taken_law (n p q B : Nat) (h1 : 1 ≤ n) (h2 : n ≤ 4) (hB : B < topB (frm n)) (hx : qdoes (frm n) n B p q false ≠ narB (frm n)) (hy : qneg (frm n) (qdoes (frm n) n (qneg (frm n) B) p q true) ≠ narB (frm n)) :
    qdoes (frm n) n B p q false = qneg (frm n) (qdoes (frm n) n (qneg (frm n) B) p q true) ∧ qdoes (frm n) n (qdoes (frm n) n B p q false) p q true = B := by
  obtain ⟨hk, hw8, hw64, _⟩ := posit_frm n h1 h2
  have ht := topB_half (frm n) (by omega)
  have hn := narB_pos (frm n)
  have hBn : B ≠ narB (frm n) := by
    intro e
    apply hx
    unfold qdoes
    split
    · exact e
    · first | exact e | (rw [if_pos e]; exact e)
  have hT : qneg (frm n) B = qturn (topB (frm n)) B := by unfold qneg; rw [if_neg hBn]
  have hTn : qturn (topB (frm n)) B ≠ narB (frm n) := fun e => hBn ((qturn_half ht hn hB).1 e)
  have hTl := qturn_lt hB
  have hTT : qneg (frm n) (qturn (topB (frm n)) B) = B := by unfold qneg; rw [if_neg hTn, qturn_turn hB]
  rw [hT] at hy ⊢
  by_cases he : fitsE n p ≠ 0 ∨ fitsE n q ≠ 0
  · have e1 : ∀ C l, qdoes (frm n) n C p q l = C := fun C l => by unfold qdoes; rw [if_pos he]
    rw [e1, e1, e1, hTT]
    exact ⟨rfl, rfl⟩
  · have hgo : ∀ C l, C ≠ narB (frm n) → qdoes (frm n) n C p q l = if (means n p).cls = 4 ∨ (means n q).cls = 4 then narB (frm n) else if (means n p).cls = 2 ∧ (means n q).cls = 2 then qsum (topB (frm n)) C (qprod (frm n) (means n p) (means n q) l) else C := fun C l hC => by
      unfold qdoes
      rw [if_neg he, if_neg hC]
    by_cases h4 : (means n p).cls = 4 ∨ (means n q).cls = 4
    · rw [hgo B false hBn, if_pos h4] at hx
      exact absurd rfl hx
    · by_cases h22 : (means n p).cls = 2 ∧ (means n q).cls = 2
      · have f1 : fitsE n p = 0 := by
          by_cases h : fitsE n p = 0
          · exact h
          · exact absurd (.inl h) he
        have f2 : fitsE n q = 0 := by
          by_cases h : fitsE n q = 0
          · exact h
          · exact absurd (.inr h) he
        have P1 := pos_means n p h1 h2 f1 h22.1
        have P2 := pos_means n q h1 h2 f2 h22.2
        have hP := pos_prod (frm n) hw8 hw64 _ _ P1 P2
        have hPl := qprod_lt (frm n) hw8 hw64 _ _ false P1 P2
        have hPt := qprod_turn (frm n) _ _ hP
        have x1 : qdoes (frm n) n B p q false = qsum (topB (frm n)) B (qprod (frm n) (means n p) (means n q) false) := by rw [hgo B false hBn, if_neg h4, if_pos h22]
        have y1 : qdoes (frm n) n (qturn (topB (frm n)) B) p q true = qsum (topB (frm n)) (qturn (topB (frm n)) B) (qturn (topB (frm n)) (qprod (frm n) (means n p) (means n q) false)) := by rw [hgo _ true hTn, if_neg h4, if_pos h22, hPt]
        have z1 : ∀ C, C ≠ narB (frm n) → qdoes (frm n) n C p q true = qsum (topB (frm n)) C (qturn (topB (frm n)) (qprod (frm n) (means n p) (means n q) false)) := fun C hC => by rw [hgo _ true hC, if_neg h4, if_pos h22, hPt]
        rw [z1 _ hx, x1]
        rw [y1] at hy ⊢
        generalize qprod (frm n) (means n p) (means n q) false = Q at *
        have hyn : qsum (topB (frm n)) (qturn (topB (frm n)) B) (qturn (topB (frm n)) Q) ≠ narB (frm n) := by
          intro e
          apply hy
          unfold qneg
          rw [if_pos e]
          exact e
        refine ⟨?_, qsum_back hB hPl⟩
        unfold qneg
        rw [if_neg hyn, qsum_turned hB hPl]
      · have x1 : ∀ C l, C ≠ narB (frm n) → qdoes (frm n) n C p q l = C := fun C l hC => by rw [hgo C l hC, if_neg h4, if_neg h22]
        rw [x1 B false hBn, x1 _ true hTn, x1 B true hBn, hTT]
        exact ⟨rfl, rfl⟩
end Go.Proofs.YtogdiobbjlpmoaaDoor

namespace Go.Proofs.YtogdiobbjlpmoaaDoor
open Go Go.RowKit Cal

set_option linter.unusedVariables false
theorem NatV.cut {w : World} {A : Option Addr} {len cap m k : Nat} (h : NatV w (.slice A len cap) len m) (hk : k ≤ len) : NatV w (.slice A k cap) k (m % 2 ^ (64 * k)) := by
  obtain ⟨h0, P, c, h1, h2, h3, h4⟩ := h
  injection h1 with e1 e2 e3
  subst e1 e3
  refine ⟨Nat.mod_lt _ (two_pos _), A, cap, rfl, by omega, h3, fun hk0 => ?_⟩
  obtain ⟨b, off, e, hb, hc⟩ := h4 (by omega)
  exact ⟨b, off, e, hb, fun i hi => by rw [word_mod hi]; exact hc i (by omega)⟩

/-- What Set makes of the bits, and its error. -/
def qsetB (f : Frm) (m : Nat) : Nat := if m < topB f then m else 0
def qsetE (f : Frm) (m : Nat) : Int := if m < topB f then 0 else 4
theorem qsetB_lt (f : Frm) (m : Nat) : qsetB f m < topB f := by
  unfold qsetB
  split
  · assumption
  · exact topB_pos f
theorem q_set_any (g : Nat) (f : Frm) (i : Int) (v : Value) (k m : Nat) (hk : k ≤ 100000) (hf : f.width ≤ 64) (w : World) (h : QAt w g f i 0) (hv : NatV w v k m) :
    Calls Tryd.prog 62 #[.pointer (some ⟨g, 0, none⟩), v] w fun e w' => e = .returned (.int .i64 (qsetE f m)) ∧ QAt w' g f i (qsetB f m) ∧ w.grownBy w' (some g) := by
  unfold qsetE qsetB
  by_cases hm : m < topB f
  · rw [if_pos hm, if_pos hm]
    exact q_set g f i 0 v k m hk hf w h hv hm
  · rw [if_neg hm, if_neg hm]
    exact (q_set_no g f i 0 v k m hk hf w h hv (Nat.le_of_not_lt hm)).mono fun e w' ⟨a, b⟩ => ⟨a, h.keep b, b.grown _⟩

set_option maxRecDepth 100000 in
set_option maxHeartbeats 6400000 in
theorem taken_posit (n : Nat) (h1 : 1 ≤ n) (h2 : n ≤ 4) (A : Option Addr) (len cap m p q : Nat) (hp : p < 18446744073709551616) (hq : q < 18446744073709551616) (hA : A = none → cap = 0) (w : World) (hE : Env w) (h : NatV w (.slice A len cap) len m) :
    Calls Tryd.prog 17 #[.int .i64 n, .slice A len cap, .int .u64 p, .int .u64 q] w fun e w' => e = .returned (.bool true) ∧ Ext w w' := by
  obtain ⟨hkd, hw8, hw64, _⟩ := posit_frm n h1 h2
  have c52 := Lib.hid (fun W h => shown15_any W h)
  have c53 := Lib.hid (fun W h => q_new n h1 h2 W h)
  obtain ⟨k, hk⟩ : ∃ k, k = min len 20 := ⟨_, rfl⟩
  have hkl : k ≤ len := by omega
  have hkI : min (len : Int) 20 = (k : Int) := by omega
  have hcut := Lib.hid (h.cut hkl)
  have hlc : len ≤ cap ∧ cap ≤ maxLen := by
    obtain ⟨_, P, c, e, h2, h3, _⟩ := h
    injection e with e1 e2 e3
    subst e3
    exact ⟨h2, h3⟩
  have hkb : k ≤ 20 := by omega
  generalize m % 2 ^ (64 * k) = m' at *
  obtain ⟨hlc1, hlc2⟩ := hlc
  unfold maxLen at hlc2
  have c62 := Lib.hid (fun g W h v hv => q_set_any g (frm n) n v k m' (by omega) hw64 W h hv)
  have hB0 := qsetB_lt (frm n) m'
  have hX1 := qdoes_lt n p q false (qsetB (frm n) m') h1 h2 hB0
  have hY1 := qneg_lt (frm n) hB0
  have hY2 := qdoes_lt n p q true _ h1 h2 hY1
  have law := Lib.hid (taken_law n p q (qsetB (frm n) m') h1 h2 hB0)
  have w0 := wlen_top (frm n) hw64 (Nat.le_of_lt hB0)
  have wX := wlen_top (frm n) hw64 (Nat.le_of_lt hX1)
  have wY := wlen_top (frm n) hw64 (Nat.le_of_lt (qneg_lt (frm n) hY2))
  have c57a := Lib.hid (fun g W h => q_bits g (frm n) n (qsetB (frm n) m') (by omega) W h)
  have c57x := Lib.hid (fun g W h => q_bits g (frm n) n _ (by omega : wlen (qdoes (frm n) n (qsetB (frm n) m') p q false) ≤ 100000) W h)
  have c57y := Lib.hid (fun g W h => q_bits g (frm n) n _ (by omega : wlen (qneg (frm n) (qdoes (frm n) n (qneg (frm n) (qsetB (frm n) m')) p q true)) ≤ 100000) W h)
  have c54 := Lib.hid (fun g W hE h => q_add g n p q (qsetB (frm n) m') h1 h2 hp hq hB0 W hE h)
  have c60a : Hid (∀ g W, QAt W g (frm n) n (qsetB (frm n) m') → Calls Tryd.prog 60 #[.pointer (some ⟨g, 0, none⟩)] W fun e w' => e = .returned (.tuple #[]) ∧ QAt w' g (frm n) n (qneg (frm n) (qsetB (frm n) m')) ∧ W.grownBy w' (some g)) := fun g W h => q_neg g (frm n) n _ hw64 (by omega) W h hB0
  have c59y := Lib.hid (fun g W hE h => q_sub g n p q (qneg (frm n) (qsetB (frm n) m')) h1 h2 hp hq hY1 W hE h)
  have c60b : Hid (∀ g W, QAt W g (frm n) n (qdoes (frm n) n (qneg (frm n) (qsetB (frm n) m')) p q true) → Calls Tryd.prog 60 #[.pointer (some ⟨g, 0, none⟩)] W fun e w' => e = .returned (.tuple #[]) ∧ QAt w' g (frm n) n (qneg (frm n) (qdoes (frm n) n (qneg (frm n) (qsetB (frm n) m')) p q true)) ∧ W.grownBy w' (some g)) := fun g W h => q_neg g (frm n) n _ hw64 (by omega) W h hY2
  have c59x := Lib.hid (fun g W hE h => q_sub g n p q (qdoes (frm n) n (qsetB (frm n) m') p q false) h1 h2 hp hq hX1 W hE h)
  have c55x := Lib.hid (fun g W h => q_isnar g (frm n) n (qdoes (frm n) n (qsetB (frm n) m') p q false) hw64 (by omega) W h)
  have c55y := Lib.hid (fun g W h => q_isnar g (frm n) n (qneg (frm n) (qdoes (frm n) n (qneg (frm n) (qsetB (frm n) m')) p q true)) hw64 (by omega) W h)
  generalize qdoes (frm n) n (qdoes (frm n) n (qsetB (frm n) m') p q false) p q true = Z at *
  generalize qneg (frm n) (qdoes (frm n) n (qneg (frm n) (qsetB (frm n) m')) p q true) = Y3 at *
  generalize qdoes (frm n) n (qneg (frm n) (qsetB (frm n) m')) p q true = Y2 at *
  generalize qdoes (frm n) n (qsetB (frm n) m') p q false = X1 at *
  generalize qneg (frm n) (qsetB (frm n) m') = Y1 at *
  generalize qsetB (frm n) m' = B0 at *
  generalize qsetE (frm n) m' = SE at *
  generalize qerr n p q = QE at *
  have hnr : (2 : Nat) ^ (16 * (frm n).width - 1) = narB (frm n) := rfl
  rw [hnr] at c55x c55y
  generalize hNB : narB (frm n) = NB at *
  generalize frm n = f at *
  have hs3 := hE.size
  clear hnr hNB hB0 hX1 hY1 hY2 hkd hw8 hw64 h wX wY w0 hk
  go_enter Tryd.func17, Tryd.ntmps17
  go_wp2_with fail
  refine (c52.out _ hE).mono ?_
  rintro e w1 ⟨rfl, x1⟩
  go_wp2_with fail
  refine (c53.out _ (hE.ext x1)).mono ?_
  rintro e w2 ⟨g1, rfl, X2, hb2, hg1⟩
  have x2 := x1.trans hb2
  go_wp2_with fail
  refine (c53.out _ (hE.ext x2)).mono ?_
  rintro e w3 ⟨g2, rfl, Yv3, hb3, hg2⟩
  have x3 := x2.trans hb3
  have X3 := X2.keep hb3
  have hne : g1 ≠ g2 := by have := X2.lt; omega
  have hw1 := x1.size
  have hw2 := x2.size
  have hG1 : w.heap.size ≤ g1 := by omega
  have hG2 : w.heap.size ≤ g2 := by omega
  have h31 : 3 < g1 := by omega
  have h32 : 3 < g2 := by omega
  have v3 := hcut.out.ext x3
  have E3 := hE.ext x3
  clear hw1 hw2 hg1 hg2
  go_wp2_with fail
  refine (c62.out g1 _ X3 _ v3).mono ?_
  rintro e w4 ⟨rfl, X4, k4⟩
  have Y4 := Yv3.past X3 X4 k4 (Ne.symm hne)
  have v4 := v3.past X3 X4 k4
  have x4 := x3.past k4 hG1
  have E4 := E3.past k4 h31
  go_wp2_with fail
  refine (c62.out g2 _ Y4 _ v4).mono ?_
  rintro e w5 ⟨rfl, Y5, k5⟩
  have X5 := X4.past Y4 Y5 k5 hne
  have x5 := x4.past k5 hG2
  have E5 := E4.past k5 h32
  clear X2 Yv3 X3 Y4 X4 v3 v4 E3 E4 k4 k5 x3 x4
  go_wp2_with fail
  refine (c57a.out g1 _ X5).mono ?_
  rintro e w6 ⟨was, rfl, s6, hb6⟩
  have X6 := X5.keep hb6
  have Y6 := Y5.keep hb6
  have x6 := x5.trans hb6
  have E6 := E5.ext hb6
  go_wp2_with fail
  refine (c54.out g1 _ E6 X6).mono ?_
  rintro e w7 ⟨rfl, X7, k7⟩
  have Y7 := Y6.past X6 X7 k7 (Ne.symm hne)
  have s7 := s6.past X6 X7 k7
  have x7 := x6.past k7 hG1
  have E7 := E6.past k7 h31
  clear X5 Y5 X6 Y6 s6 x5 x6 E5 E6 k7 hb6
  go_wp2_with fail
  refine (c60a.out g2 _ Y7).mono ?_
  rintro e w8 ⟨rfl, Y8, k8⟩
  have X8 := X7.past Y7 Y8 k8 hne
  have s8 := s7.past Y7 Y8 k8
  have x8 := x7.past k8 hG2
  have E8 := E7.past k8 h32
  go_wp2_with fail
  refine (c59y.out g2 _ E8 Y8).mono ?_
  rintro e w9 ⟨rfl, Y9, k9⟩
  have X9 := X8.past Y8 Y9 k9 hne
  have s9 := s8.past Y8 Y9 k9
  have x9 := x8.past k9 hG2
  have E9 := E8.past k9 h32
  clear X7 Y7 X8 Y8 s7 s8 x7 x8 E7 E8 k8 k9
  go_wp2_with fail
  refine (c60b.out g2 _ Y9).mono ?_
  rintro e w10 ⟨rfl, Y10, k10⟩
  have X10 := X9.past Y9 Y10 k10 hne
  have s10 := s9.past Y9 Y10 k10
  have x10 := x9.past k10 hG2
  have E10 := E9.past k10 h32
  clear X9 Y9 s9 x9 E9 k10
  go_wp2_with fail
  refine (c55x.out g1 _ X10).mono ?_
  rintro e w11 ⟨rfl, hb11⟩
  have X11 := X10.keep hb11
  have Y11 := Y10.keep hb11
  have s11 := s10.ext hb11
  have x11 := x10.trans hb11
  have E11 := E10.ext hb11
  clear X10 Y10 s10 x10 E10 hb11
  by_cases hx : X1 = NB
  · rw [decide_eq_true hx]
    clear hx
    go_wp2_with fail
    go_ret
    exact ⟨rfl, x11⟩
  · rw [decide_eq_false hx]
    go_wp2_with fail
    refine (c55y.out g2 _ Y11).mono ?_
    rintro e w12 ⟨rfl, hb12⟩
    have X12 := X11.keep hb12
    have Y12 := Y11.keep hb12
    have s12 := s11.ext hb12
    have x12 := x11.trans hb12
    have E12 := E11.ext hb12
    clear X11 Y11 s11 x11 E11 hb12
    by_cases hy : Y3 = NB
    · rw [decide_eq_true hy]
      clear hy hx
      go_wp2_with fail
      go_ret
      exact ⟨rfl, x12⟩
    · rw [decide_eq_false hy]
      obtain ⟨l1, l2⟩ := law.out hx hy
      subst l1 l2
      clear hx hy
      go_wp2_with fail
      refine (c57x.out g1 _ X12).mono ?_
      rintro e w13 ⟨va, rfl, na, hb13⟩
      go_wp2_with fail
      refine (c57y.out g2 _ (Y12.keep hb13)).mono ?_
      rintro e w14 ⟨vb, rfl, nb, hb14⟩
      have X14 := (X12.keep hb13).keep hb14
      have s14 := (s12.ext hb13).ext hb14
      have x14 := (x12.trans hb13).trans hb14
      have E14 := (E12.ext hb13).ext hb14
      go_wp2_with fail
      refine (bits_same va vb _ _ (na.ext hb14) nb).mono ?_
      rintro e w15 ⟨rfl, hb15⟩
      have X15 := X14.keep hb15
      have s15 := s14.ext hb15
      have x15 := x14.trans hb15
      have E15 := E14.ext hb15
      clear X12 Y12 s12 x12 E12 X14 s14 x14 E14 na nb
      go_wp2_with fail
      refine (c59x.out g1 _ E15 X15).mono ?_
      rintro e w16 ⟨rfl, X16, k16⟩
      have s16 := s15.past X15 X16 k16
      have x16 := x15.past k16 hG1
      go_wp2_with fail
      refine (c57a.out g1 _ X16).mono ?_
      rintro e w17 ⟨vc, rfl, nc, hb17⟩
      have s17 := s16.ext hb17
      have x17 := x16.trans hb17
      go_wp2_with fail
      refine (bits_same vc was _ _ nc s17).mono ?_
      rintro e w18 ⟨rfl, hb18⟩
      go_wp2_with fail
      go_ret
      exact ⟨rfl, x17.trans hb18⟩
end Go.Proofs.YtogdiobbjlpmoaaDoor

namespace Go.Proofs.YtogdiobbjlpmoaaDoor
open Go Go.RowKit Cal

set_option linter.unusedVariables false
set_option maxRecDepth 100000 in
set_option maxHeartbeats 800000 in
theorem taken_none (i : Int) (hn : Hid (∀ W, Env W → Calls Tryd.prog 53 #[.int .i64 i] W fun e w' => e = .returned (.tuple #[.pointer none, .int .i64 3]) ∧ Ext W w')) (A : Option Addr) (len cap p q : Nat) (w : World) (hE : Env w) :
    Calls Tryd.prog 17 #[.int .i64 i, .slice A len cap, .int .u64 p, .int .u64 q] w fun e w' => e = .returned (.bool true) ∧ Ext w w' := by
  have c52 := Lib.hid (fun W h => shown15_any W h)
  go_enter Tryd.func17, Tryd.ntmps17
  go_wp2_with fail
  refine (c52.out _ hE).mono ?_
  rintro e w1 ⟨rfl, x1⟩
  go_wp2_with fail
  refine (hn.out _ (hE.ext x1)).mono ?_
  rintro e w2 ⟨rfl, hb2⟩
  have x2 := x1.trans hb2
  go_wp2_with fail
  refine (hn.out _ (hE.ext x2)).mono ?_
  rintro e w3 ⟨rfl, hb3⟩
  have x3 := x2.trans hb3
  go_wp2_with fail
  go_ret
  exact ⟨rfl, x3⟩

theorem kind_posit (n : Nat) (h : (frm n).kind = 1) : 1 ≤ n ∧ n ≤ 4 ∨ 14 < n ∨ n = 0 := by
  by_cases hn : n ≤ 14
  · have : n = 0 ∨ n = 1 ∨ n = 2 ∨ n = 3 ∨ n = 4 ∨ n = 5 ∨ n = 6 ∨ n = 7 ∨ n = 8 ∨ n = 9 ∨ n = 10 ∨ n = 11 ∨ n = 12 ∨ n = 13 ∨ n = 14 := by omega
    rcases this with rfl | rfl | rfl | rfl | rfl | rfl | rfl | rfl | rfl | rfl | rfl | rfl | rfl | rfl | rfl
    all_goals first
      | omega
      | exact absurd h (by decide)
  · omega
theorem new_not (i : Int) (h : ¬ (1 ≤ i ∧ i ≤ 4)) (W : World) (hE : Env W) :
    Calls Tryd.prog 53 #[.int .i64 i] W fun e w' => e = .returned (.tuple #[.pointer none, .int .i64 3]) ∧ Ext W w' := by
  by_cases hf : isForm i
  · obtain ⟨h1, h2⟩ := hf
    obtain ⟨n, rfl⟩ : ∃ n : Nat, i = n := ⟨i.toNat, by omega⟩
    exact q_new_no n (by omega) (by omega) (fun hk => by have := kind_posit n hk; omega) W hE
  · exact q_new_none i hf W
theorem taken_any (i : Int) (A : Option Addr) (len cap m p q : Nat) (hp : p < 18446744073709551616) (hq : q < 18446744073709551616) (hA : A = none → cap = 0) (w : World) (hE : Env w) (h : NatV w (.slice A len cap) len m) :
    Calls Tryd.prog 17 #[.int .i64 i, .slice A len cap, .int .u64 p, .int .u64 q] w fun e w' => e = .returned (.bool true) ∧ Ext w w' := by
  by_cases hi : 1 ≤ i ∧ i ≤ 4
  · obtain ⟨n, rfl⟩ : ∃ n : Nat, i = n := ⟨i.toNat, by omega⟩
    exact taken_posit n (by omega) (by omega) A len cap m p q hp hq hA w hE h
  · exact taken_none i (Lib.hid (new_not i hi)) A len cap p q w hE
theorem taken_args (a0 : Int) (_w0 : (Lit.int .i64 a0).wf = true) {W0 : World} (A : Option Addr) (len cap m : Nat) (h : NatV W0 (.slice A len cap) len m) (hA : A = none → cap = 0) (a2 : Int) (w2 : (Lit.int .u64 a2).wf = true) (a3 : Int) (w3 : (Lit.int .u64 a3).wf = true) (hE : Env W0) :
    Calls Tryd.prog 17 #[.int .i64 a0, .slice A len cap, .int .u64 a2, .int .u64 a3] W0 fun e w' => e = .returned (.bool true) ∧ Ext W0 w' := by
  obtain ⟨n, rfl, hn⟩ := u64_word w2
  obtain ⟨k, rfl, hk⟩ := u64_word w3
  exact taken_any a0 A len cap m n k hn hk hA W0 hE h
end Go.Proofs.YtogdiobbjlpmoaaDoor

