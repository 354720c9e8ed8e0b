/- QuireSwaps answers true: the walk. No condition but those written, and that the package variables hold what they are laid with. -/
import Derived.Test.YtogdiobbjlpmoaaDoorTakenW
import Derived.Test.YtogdiobbjlpmoaaDoorSwapsL
namespace Go.Proofs.YtogdiobbjlpmoaaDoor
open Go Go.RowKit Cal

set_option linter.unusedVariables false
theorem i64_mask (n : Int) (k : Nat) (hk : k ≤ 62) : bits .and .i64 n ((2 ^ k - 1 : Nat) : Int) = n % ((2 ^ k : Nat) : Int) := by
  have hp := two_pos k
  have hle : 2 ^ k ≤ 2 ^ 62 := Nat.pow_le_pow_right (by decide) hk
  have h3 : (BitVec.ofInt 64 ((2 ^ k - 1 : Nat) : Int)).toNat = 2 ^ k - 1 := by
    rw [BitVec.toNat_ofInt]
    omega
  have key : (BitVec.ofInt 64 n &&& BitVec.ofInt 64 ((2 ^ k - 1 : Nat) : Int)).toNat = (n % ((2 ^ 64 : Nat) : Int)).toNat % 2 ^ k := by
    rw [BitVec.toNat_and, BitVec.toNat_ofInt, h3, Nat.and_two_pow_sub_one_eq_mod]
  show IntKind.i64.wrap ((BitVec.ofInt 64 n &&& BitVec.ofInt 64 ((2 ^ k - 1 : Nat) : Int)).toNat : Nat) = _
  rw [key, IntKind.wrap_i64]
  have e : (((n % ((2 ^ 64 : Nat) : Int)).toNat % 2 ^ k : Nat) : Int) = n % ((2 ^ k : Nat) : Int) := by
    rw [Int.natCast_emod, Int.toNat_of_nonneg (Int.emod_nonneg _ (by decide))]
    exact Int.emod_emod_of_dvd _ (Int.natCast_dvd_natCast.2 (Nat.pow_dvd_pow 2 (by omega)))
  have hlt : (n % ((2 ^ 64 : Nat) : Int)).toNat % 2 ^ k < 2 ^ k := Nat.mod_lt _ hp
  rw [e]
  rw [e.symm] 
  omega
theorem i64_mask2 (n : Int) : bits .and .i64 n 3 = n % 4 := i64_mask n 2 (by decide)
theorem i64_mask16 (n : Int) : bits .and .i64 n 65535 = n % 65536 := i64_mask n 16 (by decide)

theorem keyV_lt (n p : Nat) (hp : p < 18446744073709551616) : (keyV n p).2.1 < 18446744073709551616 := by
  by_cases h : (keyV n p).2.2 = 0
  · obtain ⟨n', hn, h1, h2, hpn, _, _, hkv⟩ := keyV_ok h
    obtain rfl : n = n' := by omega
    rw [hkv]
    exact key_lt (frm n) p (frm_width n h1 h2).2 hpn
  · unfold keyV at h ⊢
    split
    · show 0 < _; omega
    · split
      · show 0 < _; omega
      · rename_i h1 h2
        rw [if_neg h1, if_neg h2] at h
        exact absurd rfl h
set_option maxRecDepth 100000 in
set_option maxHeartbeats 6400000 in
theorem swaps_any (i : Int) (A : Option Addr) (len cap m p q : Nat) (hp : p < 18446744073709551616) (hq : q < 18446744073709551616) (hA : A = none → cap = 0) (w : World) (hE : Env w) (h : NatV w (.slice A len cap) len m) :
    Calls Tryd.prog 18 #[.int .i64 i, .slice A len cap, .int .u64 p, .int .u64 q] w fun e w' => e = .returned (.bool true) ∧ Ext w w' := by
  obtain ⟨i', hi'⟩ : ∃ m : Nat, i % 4 = m := ⟨(i % 4).toNat, by omega⟩
  have hi : bits BinOp.and IntKind.i64 i 3 = (i' : Int) := by rw [i64_mask2, hi']
  obtain ⟨n, hn⟩ : ∃ n : Nat, n = 1 + i' := ⟨_, rfl⟩
  have hi1 : (1 : Int) + (i' : Int) = (n : Int) := by omega
  have h1 : 1 ≤ n := by omega
  have h2 : n ≤ 4 := by omega
  clear hn hi'
  obtain ⟨hkd, hw8, hw64, _⟩ := posit_frm n h1 h2
  have c52 := Lib.hid (fun W h => shown15_any W h)
  have c53 := Lib.hid (fun W h => q_new n h1 h2 W h)
  obtain ⟨k, hk⟩ : ∃ k, k = min len 20 := ⟨_, rfl⟩
  have hkl : k ≤ len := by omega
  have hkI : min (len : Int) 20 = (k : Int) := by omega
  have hcut := Lib.hid (h.cut hkl)
  have hlc : len ≤ cap ∧ cap ≤ maxLen := by
    obtain ⟨_, P, c, e, h2, h3, _⟩ := h
    injection e with e1 e2 e3
    subst e3
    exact ⟨h2, h3⟩
  have hkb : k ≤ 20 := by omega
  generalize m % 2 ^ (64 * k) = m' at *
  obtain ⟨hlc1, hlc2⟩ := hlc
  unfold maxLen at hlc2
  have c62 := Lib.hid (fun g W h v hv => q_set_any g (frm n) n v k m' (by omega) hw64 W h hv)
  have hB0 := qsetB_lt (frm n) m'
  have hX1 := qdoes_lt n p q false (qsetB (frm n) m') h1 h2 hB0
  have wX := wlen_top (frm n) hw64 (Nat.le_of_lt hX1)
  have c33 := Lib.hid (fun W h => key_any n p hp W h)
  have c37 := Lib.hid (fun W h => pattern_any n (!(keyV n p).1) (keyV n p).2.1 (keyV_lt n p hp) W h)
  have c54 := Lib.hid (fun g W hE h => q_add g n p q (qsetB (frm n) m') h1 h2 hp hq hB0 W hE h)
  have d54 : Hid (∀ g W, Env W → QAt W g (frm n) n (qsetB (frm n) m') → Calls Tryd.prog 54 #[.pointer (some ⟨g, 0, none⟩), .int .u64 q, .int .u64 p] W fun e w' => e = .returned (.int .i64 (qerr n p q)) ∧ QAt w' g (frm n) n (qdoes (frm n) n (qsetB (frm n) m') p q false) ∧ W.grownBy w' (some g)) := by
    intro g W hE h
    have := q_add g n q p (qsetB (frm n) m') h1 h2 hq hp hB0 W hE h
    rwa [qerr_swap n q p, qdoes_swap (frm n) n q p] at this
  have c59 : Hid ((keyV n p).2.2 = 0 → (patV n (!(keyV n p).1) (keyV n p).2.1).2 = 0 → ∀ g W, Env W → QAt W g (frm n) n (qsetB (frm n) m') → Calls Tryd.prog 59 #[.pointer (some ⟨g, 0, none⟩), .int .u64 ((patV n (!(keyV n p).1) (keyV n p).2.1).1 : Nat), .int .u64 q] W fun e w' => e = .returned (.int .i64 (qerr n p q)) ∧ QAt w' g (frm n) n (qdoes (frm n) n (qsetB (frm n) m') p q false) ∧ W.grownBy w' (some g)) := by
    intro k1 k2 g W hE h
    obtain ⟨l1, l2, l3⟩ := turned_law n p q (qsetB (frm n) m') h1 h2 k1 k2
    have := q_sub g n (patV n (!(keyV n p).1) (keyV n p).2.1).1 q (qsetB (frm n) m') h1 h2 l3 hq hB0 W hE h
    rwa [l1, l2] at this
  have c57 := Lib.hid (fun g W h => q_bits g (frm n) n _ (by omega : wlen (qdoes (frm n) n (qsetB (frm n) m') p q false) ≤ 100000) W h)
  have c56 := Lib.hid (fun va vb W h1 h2 => bits_same va vb (qdoes (frm n) n (qsetB (frm n) m') p q false) W h1 h2)
  generalize qdoes (frm n) n (qsetB (frm n) m') p q false = X1 at *
  generalize qsetB (frm n) m' = B0 at *
  generalize qsetE (frm n) m' = SE at *
  generalize qerr n p q = QE at *
  generalize patV n (!(keyV n p).1) (keyV n p).2.1 = t at *
  generalize keyV n p = kv at *
  obtain ⟨tp, te⟩ := t
  obtain ⟨kn, kk, ke⟩ := kv
  simp only at c33 c37 c59
  generalize frm n = f at *
  have hs3 := hE.size
  clear hB0 hX1 hkd hw8 hw64 h wX hk
  go_enter Tryd.func18, Tryd.ntmps18
  go_wp2_with fail
  refine (c52.out _ hE).mono ?_
  rintro e w1 ⟨rfl, x1⟩
  go_wp2_with fail
  refine (c53.out _ (hE.ext x1)).mono ?_
  rintro e w2 ⟨g1, rfl, X2, hb2, hg1⟩
  have x2 := x1.trans hb2
  go_wp2_with fail
  refine (c53.out _ (hE.ext x2)).mono ?_
  rintro e w3 ⟨g2, rfl, Yv3, hb3, hg2⟩
  have x3 := x2.trans hb3
  go_wp2_with fail
  refine (c53.out _ (hE.ext x3)).mono ?_
  rintro e w4 ⟨g3, rfl, Z4, hb4, hg3⟩
  have x4 := x3.trans hb4
  have Y4 := Yv3.keep hb4
  have X4 := (X2.keep hb3).keep hb4
  have l2 := X2.lt
  have l3 := Yv3.lt
  have hw1 := x1.size
  have hw2 := x2.size
  have hw3 := x3.size
  have ne12 : g1 ≠ g2 := by omega
  have ne13 : g1 ≠ g3 := by have := hb3.size; omega
  have ne23 : g2 ≠ g3 := by omega
  have hG1 : w.heap.size ≤ g1 := by omega
  have hG2 : w.heap.size ≤ g2 := by omega
  have hG3 : w.heap.size ≤ g3 := by omega
  have h31 : 3 < g1 := by omega
  have h32 : 3 < g2 := by omega
  have h33 : 3 < g3 := by omega
  have v4 := hcut.out.ext x4
  have E4 := hE.ext x4
  clear hw1 hw2 hw3 hg1 hg2 hg3 X2 Yv3 l2 l3
  go_wp2_with fail
  refine (c62.out g1 _ X4 _ v4).mono ?_
  rintro e w5 ⟨rfl, X5, k5⟩
  have Y5 := Y4.past X4 X5 k5 ne12.symm
  have Z5 := Z4.past X4 X5 k5 ne13.symm
  have v5 := v4.past X4 X5 k5
  have x5 := x4.past k5 hG1
  have E5 := E4.past k5 h31
  clear X4 Y4 Z4 v4 x4 E4 k5
  go_wp2_with fail
  refine (c62.out g2 _ Y5 _ v5).mono ?_
  rintro e w6 ⟨rfl, Y6, k6⟩
  have X6 := X5.past Y5 Y6 k6 ne12
  have Z6 := Z5.past Y5 Y6 k6 ne23.symm
  have v6 := v5.past Y5 Y6 k6
  have x6 := x5.past k6 hG2
  have E6 := E5.past k6 h32
  clear X5 Y5 Z5 v5 x5 E5 k6
  go_wp2_with fail
  refine (c62.out g3 _ Z6 _ v6).mono ?_
  rintro e w7 ⟨rfl, Z7, k7⟩
  have X7 := X6.past Z6 Z7 k7 ne13
  have Y7 := Y6.past Z6 Z7 k7 ne23
  have x7 := x6.past k7 hG3
  have E7 := E6.past k7 h33
  clear X6 Y6 Z6 v6 x6 E6 k7
  go_wp2_with fail
  refine (c33.out _ E7).mono ?_
  rintro e w8 ⟨rfl, hb8⟩
  have X8 := X7.keep hb8
  have Y8 := Y7.keep hb8
  have Z8 := Z7.keep hb8
  have x8 := x7.trans hb8
  have E8 := E7.ext hb8
  clear X7 Y7 Z7 x7 E7 hb8
  go_wp2_with fail
  refine (c37.out _ E8).mono ?_
  rintro e w9 ⟨rfl, hb9⟩
  have X9 := X8.keep hb9
  have Y9 := Y8.keep hb9
  have Z9 := Z8.keep hb9
  have x9 := x8.trans hb9
  have E9 := E8.ext hb9
  clear X8 Y8 Z8 x8 E8 hb9
  go_wp2_with fail
  refine (c54.out g1 _ E9 X9).mono ?_
  rintro e w10 ⟨rfl, X10, k10⟩
  have Y10 := Y9.past X9 X10 k10 ne12.symm
  have Z10 := Z9.past X9 X10 k10 ne13.symm
  have x10 := x9.past k10 hG1
  have E10 := E9.past k10 h31
  clear X9 Y9 Z9 x9 E9 k10
  go_wp2_with fail
  refine (d54.out g2 _ E10 Y10).mono ?_
  rintro e w11 ⟨rfl, Y11, k11⟩
  have X11 := X10.past Y10 Y11 k11 ne12
  have Z11 := Z10.past Y10 Y11 k11 ne23.symm
  have x11 := x10.past k11 hG2
  have E11 := E10.past k11 h32
  clear X10 Y10 Z10 x10 E10 k11
  go_wp2_with fail
  refine (c57.out g1 _ X11).mono ?_
  rintro e w12 ⟨va, rfl, na, hb12⟩
  go_wp2_with fail
  refine (c57.out g2 _ (Y11.keep hb12)).mono ?_
  rintro e w13 ⟨vb, rfl, nb, hb13⟩
  go_wp2_with fail
  refine (c56.out va vb _ (na.ext hb13) nb).mono ?_
  rintro e w14 ⟨rfl, hb14⟩
  have X14 := ((X11.keep hb12).keep hb13).keep hb14
  have Z14 := ((Z11.keep hb12).keep hb13).keep hb14
  have x14 := ((x11.trans hb12).trans hb13).trans hb14
  have E14 := ((E11.ext hb12).ext hb13).ext hb14
  clear X11 Y11 Z11 x11 E11 na nb hb12 hb13 hb14
  by_cases hke : ke = 0
  · by_cases hte : te = 0
    · subst hke hte
      have d59 := Lib.hid (c59.out rfl rfl)
      clear c59
      go_wp2_with fail
      refine (d59.out g3 _ E14 Z14).mono ?_
      rintro e w15 ⟨rfl, Z15, k15⟩
      have X15 := X14.past Z14 Z15 k15 ne13
      have x15 := x14.past k15 hG3
      clear X14 Z14 x14 E14 k15
      go_wp2_with fail
      refine (c57.out g1 _ X15).mono ?_
      rintro e w16 ⟨vc, rfl, nc, hb16⟩
      go_wp2_with fail
      refine (c57.out g3 _ (Z15.keep hb16)).mono ?_
      rintro e w17 ⟨vd, rfl, nd, hb17⟩
      go_wp2_with fail
      refine (c56.out vc vd _ (nc.ext hb17) nd).mono ?_
      rintro e w18 ⟨rfl, hb18⟩
      go_wp2_with fail
      go_ret
      exact ⟨rfl, ((x15.trans hb16).trans hb17).trans hb18⟩
    · have hte' : (te != 0) = true := by rw [bne_iff_ne]; exact hte
      subst hke
      clear c59 hte
      go_wp2_with fail
      go_ret
      exact ⟨rfl, x14⟩
  · have hke' : (ke != 0) = true := by rw [bne_iff_ne]; exact hke
    clear c59 hke
    go_wp2_with fail
    go_ret
    exact ⟨rfl, x14⟩
theorem swaps_args (a0 : Int) (_w0 : (Lit.int .i64 a0).wf = true) {W0 : World} (A : Option Addr) (len cap m : Nat) (h : NatV W0 (.slice A len cap) len m) (hA : A = none → cap = 0) (a2 : Int) (w2 : (Lit.int .u64 a2).wf = true) (a3 : Int) (w3 : (Lit.int .u64 a3).wf = true) (hE : Env W0) :
    Calls Tryd.prog 18 #[.int .i64 a0, .slice A len cap, .int .u64 a2, .int .u64 a3] W0 fun e w' => e = .returned (.bool true) ∧ Ext W0 w' := by
  obtain ⟨n, rfl, hn⟩ := u64_word w2
  obtain ⟨k, rfl, hk⟩ := u64_word w3
  exact swaps_any a0 A len cap m n k hn hk hA W0 hE h
end Go.Proofs.YtogdiobbjlpmoaaDoor

