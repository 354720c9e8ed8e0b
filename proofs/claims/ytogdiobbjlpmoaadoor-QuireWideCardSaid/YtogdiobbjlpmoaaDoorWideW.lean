/- QuireWide answers true: the walk. No condition but those written, and that the package variables hold what they are laid with. -/
import Derived.Test.YtogdiobbjlpmoaaDoorSwapsW
namespace Go.Proofs.YtogdiobbjlpmoaaDoor
open Go Go.RowKit Cal

set_option linter.unusedVariables false
theorem ones_prod (n : Nat) (h1 : 1 ≤ n) (h2 : n ≤ 4) : fitsE n 1 = 0 ∧ (means n 1).cls = 2 ∧ qprod (frm n) (means n 1) (means n 1) false = 1 := by
  have : n = 1 ∨ n = 2 ∨ n = 3 ∨ n = 4 := by omega
  rcases this with rfl | rfl | rfl | rfl <;> decide +kernel
theorem ones_does (n B : Nat) (h1 : 1 ≤ n) (h2 : n ≤ 4) (hB : B ≠ narB (frm n)) : qdoes (frm n) n B 1 1 false = qsum (topB (frm n)) B 1 := by
  obtain ⟨a, b, c⟩ := ones_prod n h1 h2
  unfold qdoes
  rw [a, b, c, if_neg (by simp), if_neg hB, if_neg (by simp), if_pos ⟨rfl, rfl⟩]
theorem ones_err (n : Nat) (h1 : 1 ≤ n) (h2 : n ≤ 4) : qerr n 1 1 = 0 := by
  unfold qerr
  rw [(ones_prod n h1 h2).1, if_neg (by simp)]
theorem q_size_at (g : Nat) (f : Frm) (i : Int) (B : Nat) (hf : f.width ≤ 64) (w : World) (h : QAt w g f i B) :
    Calls Tryd.prog 65 #[.pointer (some ⟨g, 0, none⟩)] w fun e w' => e = .returned (.int .i64 ((16 * f.width : Nat) : Int)) ∧ w = w' := by
  obtain ⟨v, h1, _⟩ := h
  exact q_size g f i v hf w h1

set_option maxRecDepth 100000 in
set_option maxHeartbeats 6400000 in
theorem wide_any (i : Int) (A : Option Addr) (len cap m : Nat) (z : Int) (hA : A = none → cap = 0) (w : World) (hE : Env w) (h : NatV w (.slice A len cap) len m) :
    Calls Tryd.prog 16 #[.int .i64 i, .slice A len cap, .int .i64 z] w fun e w' => e = .returned (.bool true) ∧ Ext w w' := by
  obtain ⟨i', hi'⟩ : ∃ m : Nat, i % 4 = m := ⟨(i % 4).toNat, by omega⟩
  have hi : bits BinOp.and IntKind.i64 i 3 = (i' : Int) := by rw [i64_mask2, hi']
  obtain ⟨n, hn⟩ : ∃ n : Nat, n = 1 + i' := ⟨_, rfl⟩
  have hi1 : (1 : Int) + (i' : Int) = (n : Int) := by omega
  have h1 : 1 ≤ n := by omega
  have h2 : n ≤ 4 := by omega
  clear hn hi'
  obtain ⟨z', hz'⟩ : ∃ m : Nat, z % 65536 = m := ⟨(z % 65536).toNat, by omega⟩
  have hz : bits BinOp.and IntKind.i64 z 65535 = (z' : Int) := by rw [i64_mask16, hz']
  obtain ⟨N, hN⟩ : ∃ N : Nat, N = z' % 51 := ⟨_, rfl⟩
  have hz51 : Int.tmod (z' : Int) 51 = (N : Int) := by rw [hN]; exact (Int.ofNat_tmod z' 51).symm
  have hN50 : N ≤ 50 := by omega
  clear hz' hN
  obtain ⟨hkd, hw8, hw64, _⟩ := posit_frm n h1 h2
  have c52 := Lib.hid (fun W h => shown15_any W h)
  have c53 := Lib.hid (fun W h => q_new n h1 h2 W h)
  obtain ⟨k, hk⟩ : ∃ k, k = min len 20 := ⟨_, rfl⟩
  have hkl : k ≤ len := by omega
  have hkI : min (len : Int) 20 = (k : Int) := by omega
  have hcut := Lib.hid (h.cut hkl)
  have hlc : len ≤ cap ∧ cap ≤ maxLen := by
    obtain ⟨_, P, c, e, h2, h3, _⟩ := h
    injection e with e1 e2 e3
    subst e3
    exact ⟨h2, h3⟩
  have hkb : k ≤ 20 := by omega
  generalize m % 2 ^ (64 * k) = m' at *
  obtain ⟨hlc1, hlc2⟩ := hlc
  unfold maxLen at hlc2
  have c62 := Lib.hid (fun g W h v hv => q_set_any g (frm n) n v k m' (by omega) hw64 W h hv)
  have hB0 := qsetB_lt (frm n) m'
  have hT := topB_pos (frm n)
  have c54 : Hid (∀ g B W, B < topB (frm n) → B ≠ narB (frm n) → Env W → QAt W g (frm n) n B → Calls Tryd.prog 54 #[.pointer (some ⟨g, 0, none⟩), .int .u64 1, .int .u64 1] W fun e w' => e = .returned (.int .i64 0) ∧ QAt w' g (frm n) n (qsum (topB (frm n)) B 1) ∧ W.grownBy w' (some g)) := by
    intro g B W hB hn hE h
    have := q_add g n 1 1 B h1 h2 (by decide) (by decide) hB W hE h
    rwa [ones_does n B h1 h2 hn, ones_err n h1 h2] at this
  have hwB : ∀ B, B < topB (frm n) → wlen B ≤ 17 := fun B hB => wlen_top (frm n) hw64 (Nat.le_of_lt hB)
  have hwB1 : ∀ B, B < topB (frm n) → wlen (B + 1) ≤ 17 := fun B hB => wlen_top (frm n) hw64 hB
  have c57 : Hid (∀ g B W, B < topB (frm n) → QAt W g (frm n) n B → Calls Tryd.prog 57 #[.pointer (some ⟨g, 0, none⟩)] W (RetNat W B)) := fun g B W hB h => q_bits g (frm n) n B (by have := hwB B hB; omega) W h
  have c55 : Hid (∀ g B W, QAt W g (frm n) n B → Calls Tryd.prog 55 #[.pointer (some ⟨g, 0, none⟩)] W fun e w' => e = .returned (.bool (decide (B = narB (frm n)))) ∧ Ext W w') := fun g B W h => q_isnar g (frm n) n B hw64 (by omega) W h
  have c65 := Lib.hid (fun g B W h => q_size_at g (frm n) n B hw64 W h)
  have c48 : Hid (∀ W, Calls Tryd.prog 48 #[.int .u64 1] W (RetNat W 1)) := fun W => nat_of 1 (by decide) W
  have d48 : Hid (∀ W, Calls Tryd.prog 48 #[.int .u64 0] W (RetNat W 0)) := fun W => nat_of 0 (by decide) W
  have c63 : Hid (∀ v u B W, B < topB (frm n) → NatV W v (wlen B) B → NatV W u (wlen 1) 1 → Calls Tryd.prog 63 #[v, u] W (RetNat W (B + 1))) := fun v u B W hB h h' => nat_add v u _ _ B 1 W h h' (by have := hwB B hB; omega) (by decide)
  have c64 : Hid (∀ v B W, B < topB (frm n) → NatV W v (wlen (B + 1)) (B + 1) → Calls Tryd.prog 64 #[v] W fun e w' => e = .returned (.int .i64 ((nbits (B + 1) : Nat) : Int)) ∧ W = w') := fun v B W hB h => nat_bits v _ (B + 1) W h (by have := hwB1 B hB; omega)
  have c56 : Hid (∀ va vb B W, NatV W va (wlen B) B → NatV W vb (wlen B) B → Calls Tryd.prog 56 #[va, vb] W fun e w' => e = .returned (.bool true) ∧ Ext W w') := fun va vb B W h1 h2 => bits_same va vb B W h1 h2
  have hbit : Hid (∀ B, nbits (B + 1) ≤ 16 * (frm n).width ↔ B + 1 < topB (frm n)) := fun B => nbits_le (B + 1) _
  have hE0 : qsetE (frm n) m' = 0 ∨ (qsetE (frm n) m' = 4 ∧ qsetB (frm n) m' = 0) := by
    unfold qsetE qsetB
    split
    · exact .inl rfl
    · exact .inr ⟨rfl, rfl⟩
  have hS : 16 * (frm n).width ≤ 1024 := by omega
  generalize 16 * (frm n).width = S at *
  generalize qsetB (frm n) m' = B0 at *
  generalize qsetE (frm n) m' = SE at *
  generalize topB (frm n) = T at *
  generalize narB (frm n) = NB at *
  generalize frm n = f at *
  have hs3 := hE.size
  clear hkd hw8 hw64 h hk hwB hwB1
  go_enter Tryd.func16, Tryd.ntmps16
  go_wp2_with fail
  refine (c52.out _ hE).mono ?_
  rintro e w1 ⟨rfl, x1⟩
  go_wp2_with fail
  refine (c53.out _ (hE.ext x1)).mono ?_
  rintro e w2 ⟨g1, rfl, X2, hb2, hg1⟩
  have x2 := x1.trans hb2
  have hw1 := x1.size
  have hG1 : w.heap.size ≤ g1 := by omega
  have h31 : 3 < g1 := by omega
  have v2 := hcut.out.ext x2
  have E2 := hE.ext x2
  clear hw1 hg1 hcut
  go_wp2_with fail
  refine (c62.out g1 _ X2 _ v2).mono ?_
  rintro e w3 ⟨rfl, X3, k3⟩
  have x3 := x2.past k3 hG1
  have E3 := E2.past k3 h31
  clear X2 v2 x2 E2 k3
  go_wp2_with fail
  refine (c57.out g1 B0 _ hB0 X3).mono ?_
  rintro e w4 ⟨vw, rfl, nw, hb4⟩
  have X4 := X3.keep hb4
  have x4 := x3.trans hb4
  have E4 := E3.ext hb4
  obtain ⟨lw, Aw, cw, rfl, lw2, lw3, lw4⟩ := nw
  have nw : NatV w4 (.slice Aw (wlen B0) cw) (wlen B0) B0 := ⟨lw, Aw, cw, rfl, lw2, lw3, lw4⟩
  clear lw lw2 lw3 lw4 X3 x3 E3 hb4
  have hnoW : Hid (SE = 0 ∨ (SE = 4 ∧ ((wlen B0 : Int) != 0) = false)) := by
    rcases hE0 with h | ⟨h, h0⟩
    · exact .inl h
    · exact .inr ⟨h, by rw [h0, wlen_zero]; rfl⟩
  clear hE0
  have hn0 : 0 ≤ (N : Int) := by omega
  rcases hnoW.out with rfl | ⟨rfl, hl0⟩
  all_goals (
    go_wp2_with fail
    go_loopg [11, 12] N (fun gk s11 s12 wr => ∃ (i B : Nat), i + gk = N ∧ s12 = .int .i64 (i : Int) ∧ B < T ∧ QAt wr g1 f n B ∧ NatV wr s11 (wlen B) B ∧ Ext w wr ∧ Env wr)
    case atStart => exact ⟨0, B0, by omega, rfl, hB0, X4, nw, x4, E4⟩
    case round =>
      obtain ⟨i, B, hiN, rfl, hB, X, nv, x, E⟩ := hrel
      clear X4 nw x4 E4 hB0
      cases gk with
      | zero =>
        have hz : ¬ ((i : Int) < (N : Int)) := by omega
        obtain rfl : i = N := by omega
        go_wp2_with fail
        refine (c55.out g1 B _ X).mono ?_
        rintro e w5 ⟨rfl, hb5⟩
        have X5 := X.keep hb5
        have x5 := x.trans hb5
        have nv5 := nv.ext hb5
        clear X x nv hb5
        by_cases hBN : B = NB
        · rw [decide_eq_true hBN]
          go_wp2_with fail
          go_ret
          exact ⟨rfl, x5⟩
        · rw [decide_eq_false hBN]
          go_wp2_with fail
          refine (c57.out g1 B _ hB X5).mono ?_
          rintro e w6 ⟨vb, rfl, nb, hb6⟩
          go_wp2_with fail
          refine (c56.out vb _ B _ nb (nv5.ext hb6)).mono ?_
          rintro e w7 ⟨rfl, hb7⟩
          go_wp2_with fail
          go_ret
          exact ⟨rfl, (x5.trans hb6).trans hb7⟩
      | succ gk =>
        have hlt : (i : Int) < (N : Int) := by omega
        go_wp2_with fail
        refine (c55.out g1 B _ X).mono ?_
        rintro e w5 ⟨rfl, hb5⟩
        have X5 := X.keep hb5
        have x5 := x.trans hb5
        have nv5 := nv.ext hb5
        have E5 := E.ext hb5
        clear X x nv E hb5
        by_cases hBN : B = NB
        · rw [decide_eq_true hBN]
          go_wp2_with fail
          go_ret
          exact ⟨rfl, x5⟩
        · rw [decide_eq_false hBN]
          go_wp2_with fail
          refine (c54.out g1 B _ hB hBN E5 X5).mono ?_
          rintro e w6 ⟨rfl, X6, k6⟩
          have nv6 := nv5.past X5 X6 k6
          have x6 := x5.past k6 hG1
          have E6 := E5.past k6 h31
          clear X5 x5 nv5 E5 k6
          go_wp2_with fail
          refine (c48.out _).mono ?_
          rintro e w7 ⟨v1, rfl, n1, hb7⟩
          go_wp2_with fail
          refine (c63.out _ v1 B _ hB (nv6.ext hb7) n1).mono ?_
          rintro e w8 ⟨vs, rfl, ns, hb8⟩
          have X8 := (X6.keep hb7).keep hb8
          have x8 := (x6.trans hb7).trans hb8
          have E8 := (E6.ext hb7).ext hb8
          clear X6 x6 nv6 E6 hb7 hb8 n1
          go_wp2_with fail
          refine (c64.out vs B _ hB ns).mono ?_
          rintro e w9 ⟨rfl, rfl⟩
          go_wp2_with fail
          refine (c65.out g1 _ _ X8).mono ?_
          rintro e w10 ⟨rfl, rfl⟩
          have hbB := hbit.out B
          by_cases hov : B + 1 < T
          · have hng : ¬ ((S : Int) < ((nbits (B + 1) : Nat) : Int)) := by have := hbB.2 hov; omega
            have hq : qsum T B 1 = B + 1 := by unfold qsum; rw [if_neg (by omega)]
            rw [hq] at X8
            go_wp2_with fail
            refine (c57.out g1 _ _ hov X8).mono ?_
            rintro e w11 ⟨vb, rfl, nb, hb11⟩
            go_wp2_with fail
            refine (c56.out vb vs _ _ nb (ns.ext hb11)).mono ?_
            rintro e w12 ⟨rfl, hb12⟩
            go_wp2_with fail
            go_roundg gk
            case measure => omega
            case rel => exact ⟨i + 1, B + 1, by omega, by first | rfl | simp, hov, (X8.keep hb11).keep hb12, (ns.ext hb11).ext hb12, (x8.trans hb11).trans hb12, (E8.ext hb11).ext hb12⟩
          · have hgt : (S : Int) < ((nbits (B + 1) : Nat) : Int) := by
              rcases Nat.lt_or_ge S (nbits (B + 1)) with h | h
              · omega
              · exact absurd (hbB.1 h) hov
            have hq : qsum T B 1 = 0 := by unfold qsum; rw [if_pos (by omega)]; omega
            rw [hq] at X8
            go_wp2_with fail
            refine (d48.out _).mono ?_
            rintro e w10 ⟨v0, rfl, n0, hb10⟩
            go_wp2_with fail
            refine (c57.out g1 _ _ hT (X8.keep hb10)).mono ?_
            rintro e w11 ⟨vb, rfl, nb, hb11⟩
            go_wp2_with fail
            refine (c56.out vb v0 _ _ nb (n0.ext hb11)).mono ?_
            rintro e w12 ⟨rfl, hb12⟩
            go_wp2_with fail
            go_roundg gk
            case measure => omega
            case rel => exact ⟨i + 1, 0, by omega, by first | rfl | simp, hT, ((X8.keep hb10).keep hb11).keep hb12, (n0.ext hb11).ext hb12, ((x8.trans hb10).trans hb11).trans hb12, ((E8.ext hb10).ext hb11).ext hb12⟩)
theorem wide_args (a0 : Int) (_w0 : (Lit.int .i64 a0).wf = true) {W0 : World} (A : Option Addr) (len cap m : Nat) (h : NatV W0 (.slice A len cap) len m) (hA : A = none → cap = 0) (a2 : Int) (w2 : (Lit.int .i64 a2).wf = true) (hE : Env W0) :
    Calls Tryd.prog 16 #[.int .i64 a0, .slice A len cap, .int .i64 a2] W0 fun e w' => e = .returned (.bool true) ∧ Ext W0 w' :=
  wide_any a0 A len cap m a2 hA W0 hE h
end Go.Proofs.YtogdiobbjlpmoaaDoor

