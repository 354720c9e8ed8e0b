/- exact.Reduced of a power of two. No condition but those written. round.Nearest: of numbers without fives. No condition but those written, and that the package variables hold what they are laid with. round.Round of a number without fives that is not too large. No condition but those written, and that the package variables hold what they are laid with. -/
import Derived.Test.YtogdiobbjlpmoaaDoorRoundA
import Derived.Test.YtogdiobbjlpmoaaDoorMost
namespace Go.Proofs.YtogdiobbjlpmoaaDoor
open Go Go.RowKit Cal

theorem NatV.set_other {w : World} {v : Value} {k n g o : Nat} {c : Value} (h : NatV w v k n) (hc : w.cell? ⟨g, o, none⟩ = some c) (hne : ∀ x : Int, c ≠ .int .u64 x) (u : Value) : NatV (w.setCell ⟨g, o, none⟩ u) v k n := by
  obtain ⟨h0, P, cap, h1, h2, h3, h4⟩ := h
  refine ⟨h0, P, cap, h1, h2, h3, fun hl => ?_⟩
  obtain ⟨b, off, e, hb, hcc⟩ := h4 hl
  refine ⟨b, off, e, by simpa [World.setCell] using hb, fun j hj => ?_⟩
  rw [World.cell?_setCell_other _ _ _ _ ?_]
  · exact hcc j hj
  · intro e2
    have h5 := hcc j hj
    rw [← e2, hc] at h5
    exact hne _ (Option.some.inj h5)
theorem two_bits (j low : Nat) (h : low ≤ j) : decide (2 ^ j / 2 ^ low % 2 = 1) = decide (low = j) := by
  have e : 2 ^ j / 2 ^ low = 2 ^ (j - low) := by
    rw [Nat.pow_div h (by decide)]
  rw [e]
  by_cases hl : low = j
  · subst hl
    simp
  · rw [decide_eq_false hl]
    apply decide_eq_false
    rw [show j - low = j - low - 1 + 1 from by omega, Nat.pow_succ]
    omega
theorem nbits_two (j : Nat) : nbits (2 ^ j) = j + 1 := nbits_eq (Nat.le_refl _) (Nat.pow_lt_pow_right (by decide) (Nat.lt_succ_self j))

set_option maxRecDepth 100000 in
set_option maxHeartbeats 6400000 in
theorem ex_reduced (neg : Bool) (v : Value) (j : Nat) (two : Int) (hj : j ≤ 5000) (ht : -20000 ≤ two ∧ two ≤ 20000) (w : World) (h : NatV w v (wlen (2 ^ j)) (2 ^ j)) :
    Calls Tryd.prog 121 #[.agg #[.bool neg, v, .int .i64 two, .int .i64 0]] w (RetEx w neg 1 (two + j) 0) := by
  have hwl0 : wlen (2 ^ j) ≤ j / 64 + 1 := (wlen_le _ _).2 (Nat.pow_lt_pow_right (by decide) (by omega))
  have hwl : wlen (2 ^ j) ≤ 100 := by omega
  clear hwl0
  have hwj : j / 64 < wlen (2 ^ j) := by
    rcases Nat.lt_or_ge (j / 64) (wlen (2 ^ j)) with h | h
    · exact h
    · have := (wlen_le (2 ^ j) _).1 h
      have := (Nat.pow_lt_pow_iff_right (by decide : 1 < 2)).1 this
      omega
  have h' := h
  obtain ⟨_, A, cap, rfl, _⟩ := h'
  have c64 := Lib.hid (fun W h => nat_bits (.slice A (wlen (2 ^ j)) cap) (wlen (2 ^ j)) (2 ^ j) W h (by omega))
  rw [nbits_two] at c64
  have c94 := Lib.hid (fun W h => nat_norm (.slice A (wlen (2 ^ j)) cap) (wlen (2 ^ j)) (2 ^ j) W h (by omega))
  have c142 := Lib.hid (fun W u h low (hl : low ≤ 10000000) => nat_bit u (wlen (2 ^ j)) (2 ^ j) W h low hl)
  have tb := Lib.hid (two_bits j)
  have c102 := Lib.hid (fun W u h => nat_shr u (wlen (2 ^ j)) (2 ^ j) W h (by omega) j (by omega) hwj)
  rw [Nat.div_self (two_pos j)] at c102
  have HX := Lib.hid h
  generalize hKK : wlen (2 ^ j) = L at *
  have HL := Lib.hid hKK
  generalize 2 ^ j = X at *
  have zj : ((j : Int) + 1 == 0) = false := by rw [beq_eq_false_iff_ne]; omega
  have s1 : IntKind.i64.wrap (two + (j : Int)) = two + j := by rw [IntKind.wrap_i64]; omega
  clear h hwj hKK
  obtain ⟨W0, hW0⟩ : ∃ W0, W0 = (w.alloc (.cells #[.bool neg, .slice A L cap, .int .i64 two, .int .i64 0] 53)).alloc (.cells #[.bool false, .slice none 0 0, .int .i64 0, .int .i64 0] 53) := ⟨_, rfl⟩
  have hb0 : Ext w W0 := by rw [hW0]; exact ((Ext.refl w).alloc _).alloc _
  have x0 : Blk W0 w.heap.size 53 #[.bool neg, .slice A L cap, .int .i64 two, .int .i64 0] := by rw [hW0]; exact (Blk.new w 53 _).alloc _
  have r0 : Blk W0 (w.heap.size + 1) 53 #[.bool false, .slice none 0 0, .int .i64 0, .int .i64 0] := by
    rw [hW0]
    have := Blk.new (w.alloc (.cells #[.bool neg, .slice A L cap, .int .i64 two, .int .i64 0] 53)) 53 #[.bool false, .slice none 0 0, .int .i64 0, .int .i64 0]
    rwa [show (w.alloc (.cells #[.bool neg, .slice A L cap, .int .i64 two, .int .i64 0] 53)).heap.size = w.heap.size + 1 from by simp] at this
  have hW0' := Lib.hid hW0
  go_enter Tryd.func121, Tryd.ntmps121
  clear hW0
  go_wp2_with fail
  rw [← hW0'.out]
  refine (c64.out _ (HX.out.ext hb0)).mono ?_
  rintro e w1 ⟨rfl, rfl⟩
  obtain ⟨t0, t1, t2, t3⟩ := Bx53.of x0
  go_wp2_with fail
  refine (c94.out _ (HX.out.ext hb0)).mono ?_
  rintro e w1 ⟨v1, rfl, n1, hb1⟩
  clear t0 t1 t2 t3
  rw [HL.out] at n1
  have n1' := n1
  obtain ⟨_, A1, cap1, rfl, _⟩ := n1'
  go_wp2_with fail
  obtain ⟨W1, hW1⟩ : ∃ W1, W1 = w1.alloc (.cells #[.slice A1 L cap1] 47) := ⟨_, rfl⟩
  have p1 : Blk W1 w1.heap.size 47 #[.slice A1 L cap1] := by rw [hW1]; exact Blk.new w1 47 _
  have x1 : Blk W1 w.heap.size 53 #[.bool neg, .slice A L cap, .int .i64 two, .int .i64 0] := by rw [hW1]; exact (x0.ext hb1).alloc _
  have r1 : Blk W1 (w.heap.size + 1) 53 #[.bool false, .slice none 0 0, .int .i64 0, .int .i64 0] := by rw [hW1]; exact (r0.ext hb1).alloc _
  have m1 : NatV W1 (.slice A1 L cap1) L X := by rw [hW1]; exact n1.alloc _
  have hx1 : Ext w W1 := by rw [hW1]; exact (hb0.trans hb1).alloc _
  have hne : w1.heap.size ≠ w.heap.size := by have := (x0.ext hb1).lt; omega
  have hne2 : w1.heap.size ≠ w.heap.size + 1 := by have := (r0.ext hb1).lt; omega
  have hge : w.heap.size ≤ w1.heap.size := (hb0.trans hb1).size
  rw [← hW1]
  clear hW1 n1 x0 r0 c64 c94
  generalize hp : w1.heap.size = p at *
  clear hp
  go_loopg [4] j (fun g s4 wr => ∃ low : Nat, low + g = j ∧ s4 = .int .i64 (low : Int) ∧ Ext W1 wr)
  case atStart => exact ⟨0, by omega, rfl, Ext.refl _⟩
  case round =>
    obtain ⟨low, hlow, rfl, hbr⟩ := hrel
    have pr := p1.ext hbr
    have cp : wr.cell? ⟨p, 0, none⟩ = some (.slice A1 L cap1) := pr.cell 0
    have e142 := c142.out wr (.slice A1 L cap1) (m1.ext hbr) low (by omega)
    rw [tb.out low (by omega)] at e142
    cases gk with
    | succ g =>
      rw [decide_eq_false (show ¬ low = j by omega)] at e142
      have E142 := Lib.hid e142
      have hlb : low ≤ 5000 := by omega
      clear e142
      go_wp2_with fail
      refine E142.out.mono ?_
      rintro e w2 ⟨rfl, rfl⟩
      go_wp2_with fail
      go_roundg g
      case measure => omega
      case rel => exact ⟨low + 1, by omega, by first | rfl | simp, hbr⟩
    | zero =>
      obtain rfl : low = j := by omega
      rw [decide_eq_true rfl] at e142
      have E142 := Lib.hid e142
      clear e142
      have xr := x1.ext hbr
      have rr := r1.ext hbr
      have mr := m1.ext hbr
      have hxr := hx1.trans hbr
      go_wp2_with fail
      refine E142.out.mono ?_
      rintro e w2 ⟨rfl, rfl⟩
      have c102' := Lib.hid (c102.out wr.drew _ mr.drew)
      have cx : wr.cell? ⟨w.heap.size, 2, none⟩ = some (.int .i64 two) := xr.cell 2
      go_wp2_with fail
      go_region_with ((go_at_call 102; (with_reducible refine c102'.out.mono ?_); rintro e w3 ⟨v3, rfl, n3, hb3⟩; have n3' := n3; obtain ⟨_, A3, cap3, rfl, _⟩ := n3'; have cp3 : w3.cell? ⟨p, 0, none⟩ = some (.slice A1 L cap1) := (pr.drew.ext hb3).cell 0; have cx3 : w3.cell? ⟨w.heap.size, 2, none⟩ = some (.int .i64 two) := (xr.drew.ext hb3).cell 2; have fp3 := (pr.drew.ext hb3).frozen 0; have fx3 := (xr.drew.ext hb3).frozen 2))
      all_goals
        have hb3' : Ext wr w3 := (Ext.refl wr).drew.trans hb3
        have p3 := pr.ext hb3'
        have y3 := xr.ext hb3'
        have q3 := rr.ext hb3'
        have p6 := (p3.set_ 0 (.slice A3 (wlen 1) cap3)).far (p := ⟨w.heap.size, 2, none⟩) hne (.int .i64 (two + (low : Int)))
        have y6 := (y3.far (p := ⟨p, 0, none⟩) (Ne.symm hne) (.slice A3 (wlen 1) cap3)).set_ 2 (.int .i64 (two + (low : Int)))
        have q6 := (q3.far (p := ⟨p, 0, none⟩) (Ne.symm hne2) (.slice A3 (wlen 1) cap3)).far (p := ⟨w.heap.size, 2, none⟩) (by simp) (.int .i64 (two + (low : Int)))
        have n6a := n3.set_other (p3.cell 0) (fun x e => by cases e) (.slice A3 (wlen 1) cap3)
        have n6 := n6a.set_other ((y3.far (p := ⟨p, 0, none⟩) (Ne.symm hne) (.slice A3 (wlen 1) cap3)).cell 2) (fun x e => by cases e) (.int .i64 (two + (low : Int)))
        have h6 := ((hxr.trans hb3').setCell (p := ⟨p, 0, none⟩) hge (.slice A3 (wlen 1) cap3)).setCell (p := ⟨w.heap.size, 2, none⟩) (Nat.le_refl _) (.int .i64 (two + (low : Int)))
        generalize (w3.setCell ⟨p, 0, none⟩ (.slice A3 (wlen 1) cap3)).setCell ⟨w.heap.size, 2, none⟩ (.int .i64 (two + (low : Int))) = W6 at *
        simp at p6 y6
        clear cp3 cx3 fp3 fx3 cx cp n6a p3 y3 q3 hb3' hb3 n3 pr xr rr mr hxr E142 c102' hbr
        go_wp2_with fail
      all_goals
        obtain ⟨W7, hW7⟩ : ∃ W7, W7 = W6.alloc (.cells #[.int .i64 27, .int .i64 1] 3) := ⟨_, rfl⟩
        have b7 : Blk W7 W6.heap.size 3 #[.int .i64 27, .int .i64 1] := by rw [hW7]; exact Blk.new W6 3 _
        have h67 : Ext W6 W7 := by rw [hW7]; exact (Ext.refl W6).alloc _
        rw [← hW7]
        clear hW7
        generalize W6.heap.size = l7 at *
        go_loopg [34] 2 (fun g s34 wq => ∃ i : Nat, i + g = 2 ∧ s34 = .int .i64 (i : Int) ∧ Ext W7 wq)
        case atStart => exact ⟨0, by omega, rfl, Ext.refl _⟩
        case round =>
          obtain ⟨i, hi, rfl, hbq⟩ := hrel
          have hq6 : Ext W6 wr := h67.trans hbq
          cases gk with
          | zero =>
            obtain rfl : i = 2 := by omega
            have pq := p6.ext hq6
            have yq := y6.ext hq6
            have qq := q6.ext hq6
            have nq := n6.ext hq6
            have hxq := h6.trans hq6
            have cp : wr.cell? ⟨p, 0, none⟩ = some (.slice A3 (wlen 1) cap3) := pq.cell 0
            obtain ⟨t0, t1, t2, t3⟩ := Bx53.of yq
            obtain ⟨u0, u1, u2, u3⟩ := Bx53.of qq
            have fy := yq.frozen 1
            have fq := qq.frozen
            have hxr1 : w.heap.size ≠ w.heap.size + 1 := by omega
            have q8 := qq.far (p := ⟨w.heap.size, 1, none⟩) (Ne.symm hxr1) (.slice A3 (wlen 1) cap3)
            have n8 := nq.set_other (yq.cell 1) (fun x e => by cases e) (.slice A3 (wlen 1) cap3)
            have n9 := Lib.hid (NatV.store53 (b0 := neg) (B := A3) (k' := wlen 1) (c' := cap3) (x' := two + (low : Int)) (y' := 0) q8 n8)
            have B9 := Lib.hid (Blk.put4 (a0 := .bool neg) (a1 := .slice A3 (wlen 1) cap3) (a2 := .int .i64 (two + (low : Int))) (a3 := .int .i64 0) q8)
            clear q8 n8 pq yq qq nq p6 y6 q6 n6
            go_wp2_with fail
            exact bodyPost_ret (v := .agg #[.bool neg, .slice A3 (wlen 1) cap3, .int .i64 (two + (low : Int)), .int .i64 0]) (ret_cell Tryd.results121 rfl (load53 ⟨_, rfl⟩ ⟨_, rfl⟩ B9.out)) rfl
              ⟨_, rfl, n9.out, ((((hxq.setCell (Nat.le_refl _) _).setCell (Nat.le_succ _) _).setCell (Nat.le_succ _) _).setCell (Nat.le_succ _) _).setCell (Nat.le_succ _) _⟩
          | succ g =>
            have hi2 : i = 0 ∨ i = 1 := by omega
            have b8 := b7.ext hbq
            have P6 := Lib.hid p6
            have N6 := Lib.hid n6
            rcases hi2 with hi0 | hi0
            · have ci : wr.cell? ⟨l7, i, none⟩ = some (.int .i64 27) := by rw [hi0]; exact b8.cell 0
              have cl : Hid (∀ W : World, Blk W p 47 #[.slice A3 (wlen 1) cap3] → NatV W (.slice A3 (wlen 1) cap3) (wlen 1) 1 → Calls Tryd.prog 143 #[.int .i64 27, .pointer (some ⟨p, 0, none⟩), .pointer (some ⟨w.heap.size, 0, none⟩)] W fun e w' => e = .returned (.bool false) ∧ Ext W w') :=
                fun W hp h => red_out p w.heap.size 27 (by decide) (by decide) A3 cap3 W hp h
              have hilt : (i : Int) < 2 := by omega
              clear hi0 b8 p6 n6 y6 q6
              go_wp2_with fail
              obtain ⟨wo, rfl⟩ : ∃ wo : World, wo = wr := ⟨_, rfl⟩
              go_loopg [40] 0 (fun g' s40 wi => Ext W7 wi)
              case atStart => exact hbq
              case round =>
                have hin := hrel
                go_wp2_with fail
                refine (cl.out _ (P6.out.ext (h67.trans hin)) (N6.out.ext (h67.trans hin))).mono ?_
                rintro e w9 ⟨rfl, hb9⟩
                go_wp2_with fail
                go_roundg g
                case measure => omega
                case rel => exact ⟨i + 1, by omega, by first | rfl | simp, hin.trans hb9⟩
            · have ci : wr.cell? ⟨l7, i, none⟩ = some (.int .i64 1) := by rw [hi0]; exact b8.cell 1
              have cl : Hid (∀ W : World, Blk W p 47 #[.slice A3 (wlen 1) cap3] → NatV W (.slice A3 (wlen 1) cap3) (wlen 1) 1 → Calls Tryd.prog 143 #[.int .i64 1, .pointer (some ⟨p, 0, none⟩), .pointer (some ⟨w.heap.size, 0, none⟩)] W fun e w' => e = .returned (.bool false) ∧ Ext W w') :=
                fun W hp h => red_out p w.heap.size 1 (by decide) (by decide) A3 cap3 W hp h
              have hilt : (i : Int) < 2 := by omega
              clear hi0 b8 p6 n6 y6 q6
              go_wp2_with fail
              obtain ⟨wo, rfl⟩ : ∃ wo : World, wo = wr := ⟨_, rfl⟩
              go_loopg [40] 0 (fun g' s40 wi => Ext W7 wi)
              case atStart => exact hbq
              case round =>
                have hin := hrel
                go_wp2_with fail
                refine (cl.out _ (P6.out.ext (h67.trans hin)) (N6.out.ext (h67.trans hin))).mono ?_
                rintro e w9 ⟨rfl, hb9⟩
                go_wp2_with fail
                go_roundg g
                case measure => omega
                case rel => exact ⟨i + 1, by omega, by first | rfl | simp, hin.trans hb9⟩
end Go.Proofs.YtogdiobbjlpmoaaDoor

namespace Go.Proofs.YtogdiobbjlpmoaaDoor
open Go Go.RowKit Cal

/-- Bit by bit: the greatest of those that are too small, and one more. -/
def nearL (n N : Nat) (t : Int) (most : Nat) : Nat → Nat → Nat
  | 0, key => key
  | b + 1, key => nearL n N t most b (if key + 2 ^ b ≤ most ∧ wthn n N t (key + 2 ^ b - 1) = false then key + 2 ^ b else key)
/-- The magnitude nearest to a size. -/
def nearK (n N : Nat) (t : Int) (most : Nat) : Nat :=
  if (frm n).kind = 1 ∧ nearL n N t most (frm n).width 0 = 0 ∧ N ≠ 0 then 1 else nearL n N t most (frm n).width 0
theorem near_most (n : Nat) (neg : Bool) (h1 : 1 ≤ n) (h2 : n ≤ 14) (h : (mostV n neg).2 = 0) : (mostV n neg).1 ≤ lastKey (frm n) ∧ lastKey (frm n) < 9223372036854775808 := by
  have hl := lastKey_lt n h1 h2
  refine ⟨?_, hl.1⟩
  unfold mostV at h ⊢
  rw [if_neg (by simpa using isForm_of h1 h2)] at h ⊢
  simp only [Int.toNat_natCast] at h ⊢
  split
  · rename_i h4
    rw [if_pos h4] at h
    simp at h
  · split
    · rename_i h3
      unfold lastKey
      rw [if_pos h3.2]
      exact Nat.le_refl _
    · exact hl.2.1
def bitOf (g : Nat) : Nat := if g = 0 then 0 else 2 ^ (g - 1)

set_option maxRecDepth 100000 in
set_option maxHeartbeats 3200000 in
theorem r_nearest_over (n : Nat) (neg xn : Bool) (h1 : 1 ≤ n) (h2 : n ≤ 14) (hm : (mostV n neg).2 = 0) (v : Value) (N : Nat) (t : Int) (ht : -5000 ≤ t ∧ t ≤ 5000) (hN : wlen N ≤ 128) (ho : wthn n N t (mostV n neg).1 = false) (w : World) (hE : Env w) (h : NatV w v (wlen N) N) :
    Calls Tryd.prog 115 #[.int .i64 n, .bool neg, .agg #[.bool xn, v, .int .i64 t, .int .i64 0]] w fun e w' => e = .returned (.tuple #[.int .u64 ((mostV n neg).1 : Nat), .bool true, .int .i64 0]) ∧ Ext w w' := by
  obtain ⟨hml, hl63⟩ := near_most n neg h1 h2 hm
  have c35 := Lib.hid (fun W h => most_any n neg W h)
  rw [hm] at c35
  have h' := h
  obtain ⟨_, A, cap, rfl, _⟩ := h'
  have c95 := Lib.hid (fun W h => ex_right xn (.slice A (wlen N) cap) N t hN ht.1 ht.2 W h)
  have c141 := Lib.hid (fun W hE h => r_within n (mostV n neg).1 h1 h2 hml xn (.slice A (wlen N) cap) N t ht hN W hE h)
  rw [ho] at c141
  have hm63 : (mostV n neg).1 < 9223372036854775808 := by omega
  generalize (mostV n neg).1 = M at *
  have HX := Lib.hid h
  clear h hm ho hml
  generalize wlen N = L at *
  go_enter Tryd.func115, Tryd.ntmps115
  go_wp2_with fail
  refine (c35.out _ (hE.alloc _)).mono ?_
  rintro e w1 ⟨rfl, hb1⟩
  have q1 := (Blk.new w 53 #[.bool xn, .slice A L cap, .int .i64 t, .int .i64 0]).ext hb1
  obtain ⟨t0, t1, t2, t3⟩ := Bx53.of q1
  have x1 : Ext w w1 := ((Ext.refl w).alloc _).trans hb1
  go_wp2_with fail
  refine (c95.out _ (HX.out.ext x1)).mono ?_
  rintro e w2 ⟨rfl, hb2⟩
  clear t0 t1 t2 t3
  obtain ⟨t0, t1, t2, t3⟩ := Bx53.of (q1.ext hb2)
  go_wp2_with fail
  refine (c141.out _ (hE.ext (x1.trans hb2)) (HX.out.ext (x1.trans hb2))).mono ?_
  rintro e w3 ⟨rfl, hb3⟩
  go_wp2_with fail
  go_ret3
  exact ⟨rfl, (x1.trans hb2).trans hb3⟩

set_option maxRecDepth 100000 in
set_option maxHeartbeats 6400000 in
theorem r_nearest (n : Nat) (neg xn : Bool) (h1 : 1 ≤ n) (h2 : n ≤ 14) (hm : (mostV n neg).2 = 0) (v : Value) (N : Nat) (t : Int) (ht : -5000 ≤ t ∧ t ≤ 5000) (hN : wlen N ≤ 128) (ho : wthn n N t (mostV n neg).1 = true) (w : World) (hE : Env w) (h : NatV w v (wlen N) N) :
    Calls Tryd.prog 115 #[.int .i64 n, .bool neg, .agg #[.bool xn, v, .int .i64 t, .int .i64 0]] w fun e w' => e = .returned (.tuple #[.int .u64 (nearK n N t (mostV n neg).1 : Nat), .bool false, .int .i64 0]) ∧ Ext w w' := by
  obtain ⟨hml, hl63⟩ := near_most n neg h1 h2 hm
  obtain ⟨w4, w64⟩ := frm_width n h1 h2
  have c35 := Lib.hid (fun W h => most_any n neg W h)
  rw [hm] at c35
  have h' := h
  obtain ⟨_, A, cap, rfl, _⟩ := h'
  have c95 := Lib.hid (fun W h => ex_right xn (.slice A (wlen N) cap) N t hN ht.1 ht.2 W h)
  have c141 := Lib.hid (fun W hE h => r_within n (mostV n neg).1 h1 h2 hml xn (.slice A (wlen N) cap) N t ht hN W hE h)
  rw [ho] at c141
  have d141 := Lib.hid (fun key (hk : key ≤ (mostV n neg).1) W hE h => r_within n key h1 h2 (Nat.le_trans hk hml) xn (.slice A (wlen N) cap) N t ht hN W hE h)
  have c114 := Lib.hid (fun W h => r_zero xn (.slice A (wlen N) cap) N t W h)
  have c39 := Lib.hid (fun W (h' : Env W) => formsOf_yes n W h' h1 h2)
  have hm63 : (mostV n neg).1 < 9223372036854775808 := by omega
  generalize (mostV n neg).1 = M at *
  have hK : Hid (nearK n N t M = if (frm n).kind = 1 ∧ nearL n N t M (frm n).width 0 = 0 ∧ N ≠ 0 then 1 else nearL n N t M (frm n).width 0) := rfl
  generalize nearK n N t M = K at *
  generalize hR : nearL n N t M (frm n).width 0 = R at *
  have HR := Lib.hid hR
  generalize frm n = f at *
  have HX := Lib.hid h
  clear h hm ho hml hR hl63
  generalize wlen N = L at *
  obtain ⟨P, hP⟩ : ∃ P, P = f.width - 1 := ⟨_, rfl⟩
  have hPI : (f.width : Int) - 1 = (P : Int) := by omega
  have hP64 : P < 64 := by omega
  have HP := Lib.hid hP
  have hshl : IntKind.u64.wrap (1 * 2 ^ P) = ((2 ^ P : Nat) : Int) := by
    rw [Int.one_mul, zpow, u_id _ (pow_lt64 hP64)]
  obtain ⟨b0, hb0⟩ : ∃ b0, b0 = 2 ^ P := ⟨_, rfl⟩
  rw [← hb0] at hshl
  have HB0 := Lib.hid hb0
  have hshl' : IntKind.u64.wrap (2 ^ P) = (b0 : Int) := by rw [← hshl, Int.one_mul]
  have hpw : ((2 : Int) ^ P) = (b0 : Int) := by rw [zpow, hb0]
  have hb0l : b0 < 18446744073709551616 := by rw [hb0]; exact pow_lt64 hP64
  have hwb0 : IntKind.u64.wrap (b0 : Int) = (b0 : Int) := u_id b0 hb0l
  clear hP hb0
  go_enter Tryd.func115, Tryd.ntmps115
  go_wp2_with fail
  refine (c35.out _ (hE.alloc _)).mono ?_
  rintro e w1 ⟨rfl, hb1⟩
  have q1 := (Blk.new w 53 #[.bool xn, .slice A L cap, .int .i64 t, .int .i64 0]).ext hb1
  obtain ⟨t0, t1, t2, t3⟩ := Bx53.of q1
  have x1 : Ext w w1 := ((Ext.refl w).alloc _).trans hb1
  go_wp2_with fail
  refine (c95.out _ (HX.out.ext x1)).mono ?_
  rintro e w2 ⟨rfl, hb2⟩
  clear t0 t1 t2 t3
  obtain ⟨t0, t1, t2, t3⟩ := Bx53.of (q1.ext hb2)
  go_wp2_with fail
  refine (c141.out _ (hE.ext (x1.trans hb2)) (HX.out.ext (x1.trans hb2))).mono ?_
  rintro e w3 ⟨rfl, hb3⟩
  have x3 := (x1.trans hb2).trans hb3
  go_wp2_with fail
  refine (c39.out _ (hE.ext x3)).mono ?_
  rintro e w4' ⟨rfl, hb4⟩
  have x4 := (x3.trans hb4).alloc (.cells #[.int .i64 (f).kind, .int .i64 (f).width, .int .i64 (f).man, .int .i64 (f).bias, .int .u64 (f).top, .int .u64 (f).inf, .int .u64 (f).nan] 40)
  have q4 := (((q1.ext hb2).ext hb3).ext hb4).alloc (.cells #[.int .i64 (f).kind, .int .i64 (f).width, .int .i64 (f).man, .int .i64 (f).bias, .int .u64 (f).top, .int .u64 (f).inf, .int .u64 (f).nan] 40)
  have F4 := Blk.new w4' 40 #[.int .i64 (f).kind, .int .i64 (f).width, .int .i64 (f).man, .int .i64 (f).bias, .int .u64 (f).top, .int .u64 (f).inf, .int .u64 (f).nan]
  clear t0 t1 t2 t3
  go_wp2_with fail
  have hx4 : Ext w (w4'.alloc (.cells #[.int .i64 (f).kind, .int .i64 (f).width, .int .i64 (f).man, .int .i64 (f).bias, .int .u64 (f).top, .int .u64 (f).inf, .int .u64 (f).nan] 40)) := x4
  generalize hlb : w4'.heap.size = lb at *
  generalize hW4 : w4'.alloc (.cells #[.int .i64 (f).kind, .int .i64 (f).width, .int .i64 (f).man, .int .i64 (f).bias, .int .u64 (f).top, .int .u64 (f).inf, .int .u64 (f).nan] 40) = W4 at *
  have hbit : Hid (b0 = bitOf f.width) := by
    show b0 = bitOf f.width
    unfold bitOf
    rw [if_neg (by omega), HB0.out, HP.out]
  clear hW4 hlb x4 hshl hshl' hpw hwb0
  go_loopg [13, 14] f.width (fun g s13 s14 wr => ∃ key bit : Nat, s13 = .int .u64 (key : Int) ∧ s14 = .int .u64 (bit : Int) ∧ Hid (bit = bitOf g) ∧ Hid (nearL n N t M g key = R) ∧ key ≤ M ∧ g ≤ 64 ∧ Ext W4 wr)
  case atStart => exact ⟨0, b0, rfl, rfl, hbit, HR.out, Nat.zero_le _, w64, Ext.refl _⟩
  case round =>
    obtain ⟨key, bit, rfl, rfl, hbt, hnr, hkM, hg64, hbr⟩ := hrel
    have hxr : Ext w wr := hx4.trans hbr
    have qr := q4.ext hbr
    have Fr := F4.ext hbr
    obtain ⟨t0, t1, t2, t3⟩ := Bx53.of qr
    cases gk with
    | zero =>
      have hb0 : bit = 0 := hbt.out
      subst hb0
      have hkR : key = R := hnr.out
      subst hkR
      have cF0 : wr.cell? ⟨lb, 0, none⟩ = some (.int .i64 f.kind) := Fr.cell 0
      clear hnr hbt
      by_cases k1 : f.kind = 1
      · have d1 : ((f.kind : Int) == 1) = true := btrue (b := 1) k1
        by_cases k2 : key = 0
        · subst k2
          have e114 := Lib.hid (c114.out wr (HX.out.ext hxr))
          by_cases k3 : N = 0
          · have hKe : K = 0 := by rw [hK.out, if_neg (fun h => h.2.2 k3)]
            rw [decide_eq_true k3] at e114
            subst hKe
            clear hK k3 k1
            go_wp2_with fail
            refine e114.out.mono ?_
            rintro e w5 ⟨rfl, hb5⟩
            go_wp2_with fail
            go_ret3
            exact ⟨rfl, hxr.trans hb5⟩
          · have hKe : K = 1 := by rw [hK.out, if_pos ⟨k1, rfl, k3⟩]
            rw [decide_eq_false k3] at e114
            subst hKe
            clear hK k3 k1
            go_wp2_with fail
            refine e114.out.mono ?_
            rintro e w5 ⟨rfl, hb5⟩
            go_wp2_with fail
            go_ret3
            exact ⟨rfl, hxr.trans hb5⟩
        · have d2 : ((key : Int) == 0) = false := bfalse (b := 0) k2
          have hKe : K = key := by rw [hK.out, if_neg (fun h => k2 h.2.1)]
          subst hKe
          clear hK k1 k2
          go_wp2_with fail
          go_ret3
          exact ⟨rfl, hxr⟩
      · have d1 : ((f.kind : Int) == 1) = false := bfalse (b := 1) k1
        have hKe : K = key := by rw [hK.out, if_neg (fun h => k1 h.1)]
        subst hKe
        clear hK k1
        go_wp2_with fail
        go_ret3
        exact ⟨rfl, hxr⟩
    | succ g =>
      obtain ⟨nx, hnx⟩ : ∃ nx, nx = key + bit := ⟨_, rfl⟩
      have hbe : bit = 2 ^ g := by have := hbt.out; unfold bitOf at this; rw [if_neg (by omega)] at this; simpa using this
      have hb1 : 0 < bit := by rw [hbe]; exact two_pos g
      have hbl : bit ≤ 9223372036854775808 := by rw [hbe]; exact (Nat.pow_le_pow_right (by decide) (by omega) : 2 ^ g ≤ 2 ^ 63)
      have hnI : (key : Int) + (bit : Int) = (nx : Int) := by omega
      have hpos : decide ((0 : Int) < (bit : Int)) = true := decide_eq_true (by omega)
      have hpos' : decide (0 < bit) = true := decide_eq_true hb1
      obtain ⟨hf, hhf⟩ : ∃ hf, hf = bitOf g := ⟨_, rfl⟩
      have hhalf : bit / 2 = hf := by
        rw [hbe, hhf]
        unfold bitOf
        split
        · rename_i h0; subst h0; rfl
        · rename_i h0; rw [show g = g - 1 + 1 from by omega, Nat.pow_succ]; simp
      have hhI : (bit : Int) / 2 = (hf : Int) := by omega
      have hstep : nearL n N t M (g + 1) key = nearL n N t M g (if key + 2 ^ g ≤ M ∧ wthn n N t (key + 2 ^ g - 1) = false then key + 2 ^ g else key) := rfl
      rw [← hbe, ← hnx] at hstep
      have hnr2 := hnr.out
      rw [hstep] at hnr2
      have HNR := Lib.hid hnr2
      have HHF := Lib.hid hhf
      have hnl : nx < 18446744073709551616 := by omega
      have hnx1 : (nx : Int) - 1 = ((nx - 1 : Nat) : Int) := by omega
      clear hnr hbt hbe hstep hnr2 hnx hhalf hhf
      by_cases hle : nx ≤ M
      · have d1 : decide ((nx : Int) ≤ (M : Int)) = true := decide_eq_true (by omega)
        have d1' : decide (nx ≤ M) = true := decide_eq_true hle
        have e141 := Lib.hid (d141.out (nx - 1) (by omega) wr (hE.ext hxr) (HX.out.ext hxr))
        obtain ⟨nm, hnm⟩ : ∃ nm, nm = nx - 1 := ⟨_, rfl⟩
        rw [← hnm] at e141 hnx1 HNR
        clear hnm
        cases hB : wthn n N t nm with
        | true =>
          rw [hB] at e141
          have H2 : Hid (nearL n N t M g key = R) := by
            have := HNR.out
            rw [if_neg (fun h => by rw [hB] at h; exact absurd h.2 (by decide))] at this
            exact this
          clear HNR
          go_wp2_with fail
          refine e141.out.mono ?_
          rintro e w5 ⟨rfl, hb5⟩
          go_wp2_with fail
          go_roundg g
          case measure => omega
          case rel => exact ⟨key, hf, rfl, by first | rfl | simp, HHF.out, H2, hkM, by omega, hbr.trans hb5⟩
        | false =>
          rw [hB] at e141
          have H2 : Hid (nearL n N t M g nx = R) := by
            have := HNR.out
            rw [if_pos ⟨hle, hB⟩] at this
            exact this
          clear HNR
          go_wp2_with fail
          refine e141.out.mono ?_
          rintro e w5 ⟨rfl, hb5⟩
          go_wp2_with fail
          go_roundg g
          case measure => omega
          case rel => exact ⟨nx, hf, rfl, by first | rfl | simp, HHF.out, H2, hle, by omega, hbr.trans hb5⟩
      · have d1 : decide ((nx : Int) ≤ (M : Int)) = false := decide_eq_false (by omega)
        have d1' : decide (nx ≤ M) = false := decide_eq_false hle
        have H2 : Hid (nearL n N t M g key = R) := by
          have := HNR.out
          rw [if_neg (fun h => hle h.1)] at this
          exact this
        clear HNR
        go_wp2_with fail
        go_roundg g
        case measure => omega
        case rel => exact ⟨key, hf, rfl, by first | rfl | simp, HHF.out, H2, hkM, by omega, hbr⟩
end Go.Proofs.YtogdiobbjlpmoaaDoor

namespace Go.Proofs.YtogdiobbjlpmoaaDoor
open Go Go.RowKit Cal

theorem nearL_le (n N : Nat) (t : Int) (most : Nat) : ∀ b key, key ≤ most → nearL n N t most b key ≤ most
  | 0, key, h => h
  | b + 1, key, h => by
    unfold nearL
    refine nearL_le n N t most b _ ?_
    split
    · rename_i hh; exact hh.1
    · exact h
theorem nearK_le (n N : Nat) (t : Int) (most : Nat) : nearK n N t most ≤ max most 1 := by
  have h := nearL_le n N t most (frm n).width 0 (Nat.zero_le _)
  unfold nearK
  split <;> omega

set_option maxRecDepth 100000 in
set_option maxHeartbeats 3200000 in
theorem r_round (n : Nat) (xn : Bool) (h1 : 1 ≤ n) (h2 : n ≤ 14) (hk4 : (frm n).kind ≠ 4) (hm : (mostV n xn).2 = 0) (v : Value) (N : Nat) (t : Int) (ht : -5000 ≤ t ∧ t ≤ 5000) (hN : wlen N ≤ 128) (ho : wthn n N t (mostV n xn).1 = true) (w : World) (hE : Env w) (h : NatV w v (wlen N) N) :
    Calls Tryd.prog 66 #[.int .i64 n, .int .i64 1, .agg #[.bool xn, v, .int .i64 t, .int .i64 0]] w fun e w' =>
      e = .returned (.tuple #[.int .u64 ((patV n xn (nearK n N t (mostV n xn).1)).1 : Nat), .int .i64 (patV n xn (nearK n N t (mostV n xn).1)).2]) ∧ Ext w w' := by
  have hml := (near_most n xn h1 h2 hm)
  have hnk := nearK_le n N t (mostV n xn).1
  have c39 := Lib.hid (fun W (h' : Env W) => formsOf_yes n W h' h1 h2)
  have h' := h
  obtain ⟨_, A, cap, rfl, _⟩ := h'
  have c95 := Lib.hid (fun W h => ex_right xn (.slice A (wlen N) cap) N t hN ht.1 ht.2 W h)
  have c115 := Lib.hid (fun W hE h => r_nearest n xn xn h1 h2 hm (.slice A (wlen N) cap) N t ht hN ho W hE h)
  have c37 := Lib.hid (fun W h => pattern_any n xn (nearK n N t (mostV n xn).1) (by omega) W h)
  generalize patV n xn (nearK n N t (mostV n xn).1) = P at *
  obtain ⟨p, er⟩ := P
  simp only at c37 ⊢
  generalize nearK n N t (mostV n xn).1 = K at *
  generalize frm n = f at *
  have k4 : ((f.kind : Int) == 4) = false := bfalse (b := 4) hk4
  have HX := Lib.hid h
  clear h hm ho hml hnk hk4
  generalize wlen N = L at *
  go_enter Tryd.func66, Tryd.ntmps66
  go_wp2_with fail
  refine (c39.out _ (hE.alloc _)).mono ?_
  rintro e w1 ⟨rfl, hb1⟩
  have x1 := (((Ext.refl w).alloc (.cells #[.bool xn, .slice A L cap, .int .i64 t, .int .i64 0] 53)).trans hb1).alloc (.cells #[.int .i64 (f).kind, .int .i64 (f).width, .int .i64 (f).man, .int .i64 (f).bias, .int .u64 (f).top, .int .u64 (f).inf, .int .u64 (f).nan] 40)
  have q1 := ((Blk.new w 53 #[.bool xn, .slice A L cap, .int .i64 t, .int .i64 0]).ext hb1).alloc (.cells #[.int .i64 (f).kind, .int .i64 (f).width, .int .i64 (f).man, .int .i64 (f).bias, .int .u64 (f).top, .int .u64 (f).inf, .int .u64 (f).nan] 40)
  have F1 := Blk.new w1 40 #[.int .i64 (f).kind, .int .i64 (f).width, .int .i64 (f).man, .int .i64 (f).bias, .int .u64 (f).top, .int .u64 (f).inf, .int .u64 (f).nan]
  have l1 := ((Blk.new w 53 #[.bool xn, .slice A L cap, .int .i64 t, .int .i64 0]).ext hb1).lt
  obtain ⟨t0, t1, t2, t3⟩ := Bx53.of ((Blk.new w 53 #[.bool xn, .slice A L cap, .int .i64 t, .int .i64 0]).ext hb1)
  go_wp2_with fail
  refine (c95.out _ (HX.out.ext x1)).mono ?_
  rintro e w2 ⟨rfl, hb2⟩
  clear t0 t1 t2 t3
  obtain ⟨t0, t1, t2, t3⟩ := Bx53.of (q1.ext hb2)
  have F2 := F1.ext hb2
  have cf : w2.cell? ⟨w1.heap.size, 0, none⟩ = some (.int .i64 f.kind) := F2.cell 0
  go_wp2_with fail
  refine (c115.out _ (hE.ext (x1.trans hb2)) (HX.out.ext (x1.trans hb2))).mono ?_
  rintro e w3 ⟨rfl, hb3⟩
  clear t0 t1 t2 t3
  obtain ⟨t0, t1, t2, t3⟩ := Bx53.of ((q1.ext hb2).ext hb3)
  go_wp2_with fail
  refine (c37.out _ (hE.ext ((x1.trans hb2).trans hb3))).mono ?_
  rintro e w4 ⟨rfl, hb4⟩
  go_wp2_with fail
  go_ret2
  exact ⟨rfl, ((x1.trans hb2).trans hb3).trans hb4⟩
end Go.Proofs.YtogdiobbjlpmoaaDoor

