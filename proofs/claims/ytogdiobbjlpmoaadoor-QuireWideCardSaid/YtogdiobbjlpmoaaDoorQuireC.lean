/- Quire.size, Value, Posit, where what is held is NaR, nought, or a power of two. No condition but those written, and that the package variables hold what they are laid with. Quire.Value, Posit, where what is held is NaR, nought, or a power of two. No condition but those written, and that the package variables hold what they are laid with. What becomes of other things while a quire is at work; New of what is no form of posits. No condition but those written. What the statements on quires show in any case. No condition but that the package variables hold what they are laid with. -/
import Derived.Test.YtogdiobbjlpmoaaDoorQuireB
import Derived.Test.YtogdiobbjlpmoaaDoorRoundB
namespace Go.Proofs.YtogdiobbjlpmoaaDoor
open Go Go.RowKit Cal

theorem top_bit (f : Frm) (hf1 : 1 ≤ f.width) {B : Nat} (hB : B < topB f) : decide (B / 2 ^ (16 * f.width - 1) % 2 = 1) = decide (narB f ≤ B) := by
  have ht := topB_half f hf1
  have hn := narB_pos f
  have e : 2 ^ (16 * f.width - 1) = narB f := rfl
  rw [e]
  by_cases h : narB f ≤ B
  · rw [decide_eq_true h]
    apply decide_eq_true
    have : B / narB f = 1 := by
      apply Nat.div_eq_of_lt_le
      · omega
      · omega
    rw [this]
  · rw [decide_eq_false h]
    apply decide_eq_false
    rw [Nat.div_eq_of_lt (by omega)]
    decide
/-- How large what is held is. -/
def qmag (f : Frm) (B : Nat) : Nat := if narB f ≤ B then qturn (topB f) B else B

set_option maxRecDepth 100000 in
set_option maxHeartbeats 1600000 in
theorem q_vsize (g : Nat) (f : Frm) (i : Int) (B : Nat) (hf : f.width ≤ 64) (hf1 : 1 ≤ f.width) (hB : B < topB f) (w : World) (h : QAt w g f i B) :
    Calls Tryd.prog 120 #[.pointer (some ⟨g, 0, none⟩)] w fun e w' => ∃ v, e = .returned (.tuple #[v, .bool (decide (narB f ≤ B))]) ∧ NatV w' v (wlen (qmag f B)) (qmag f B) ∧ Ext w w' := by
  obtain ⟨v0, q0, n0⟩ := h
  have n0' := n0
  obtain ⟨_, A, cap, rfl, _⟩ := n0'
  have hS : (((16 * f.width : Nat) : Int) - 1) = ((16 * f.width - 1 : Nat) : Int) := by omega
  have c65 := Lib.hid (fun n => q_size g f i _ hf (w.drewN n) (q0.drewN n))
  have c142 := Lib.hid (fun n => nat_bit (.slice A (wlen B) cap) (wlen B) B (w.drewN n) (n0.drewN n) (16 * f.width - 1) (by omega))
  have htb := top_bit f hf1 hB
  rw [htb] at c142
  have c110 := Lib.hid (fun W h hv => q_turned g f i (.slice A (wlen B) cap) (.slice A (wlen B) cap) B hf W h hv (Nat.le_of_lt hB))
  rw [show 2 ^ (16 * f.width) = topB f from rfl] at c110
  have hm : Hid (qmag f B = if narB f ≤ B then qturn (topB f) B else B) := rfl
  generalize qmag f B = M at *
  generalize 16 * f.width - 1 = P at *
  have hPI : (16 * f.width : Nat) = ((16 * f.width : Nat)) := rfl
  obtain ⟨S, hSS⟩ : ∃ S : Int, S = ((16 * f.width : Nat) : Int) := ⟨_, rfl⟩
  rw [← hSS] at c65 hS
  have s1 : IntKind.i64.wrap (S - 1) = (P : Int) := by rw [hS, IntKind.wrap_i64]; omega
  have hQ := Lib.hid q0
  have hN := Lib.hid n0
  have hc8 : w.cell? ⟨g, 8, none⟩ = some (.slice A (wlen B) cap) := q0.cell 8
  have hc0 : w.cell? ⟨g, 0, none⟩ = some (.int .i64 f.kind) := q0.cell 0
  have hgl := q0.lt
  clear htb q0 n0 hSS hPI hS
  by_cases hge : narB f ≤ B
  · have hM : M = qturn (topB f) B := by rw [hm.out, if_pos hge]
    rw [decide_eq_true hge] at c142 ⊢
    subst hM
    clear hm hge hB
    generalize wlen B = L at *
    go_enter Tryd.func120, Tryd.ntmps120
    go_wp2_with fail
    go_quiet ((first | (go_at_call 65; (with_reducible exact quiet_left (c65.out _))) | (go_at_call 142; (with_reducible exact quiet_left (c142.out _)))))
    generalize hwq : w.drewN _ = wq
    have hxq : Ext w wq := by rw [← hwq]; exact (Ext.refl w).drewN _
    have qq := hQ.out.ext hxq
    have nq := hN.out.ext hxq
    clear hwq hc8 hc0
    have hc8 : wq.cell? ⟨g, 8, none⟩ = some (.slice A L cap) := qq.cell 8
    have hc0 : wq.cell? ⟨g, 0, none⟩ = some (.int .i64 f.kind) := qq.cell 0
    go_wp2_with fail
    refine (c110.out _ qq nq).mono ?_
    rintro e w2 ⟨v2, rfl, n2, hb2⟩
    go_wp2_with fail
    go_ret2
    exact ⟨_, rfl, n2, hxq.trans hb2⟩
  · have hM : M = B := by rw [hm.out, if_neg hge]
    rw [decide_eq_false hge] at c142 ⊢
    subst hM
    clear hm hge hB c110
    generalize wlen M = L at *
    go_enter Tryd.func120, Tryd.ntmps120
    go_wp2_with fail
    go_quiet ((first | (go_at_call 65; (with_reducible exact quiet_left (c65.out _))) | (go_at_call 142; (with_reducible exact quiet_left (c142.out _)))))
    generalize hwq : w.drewN _ = wq
    have hxq : Ext w wq := by rw [← hwq]; exact (Ext.refl w).drewN _
    have qq := hQ.out.ext hxq
    have nq := hN.out.ext hxq
    clear hwq hc8 hc0
    have hc8 : wq.cell? ⟨g, 8, none⟩ = some (.slice A L cap) := qq.cell 8
    have hc0 : wq.cell? ⟨g, 0, none⟩ = some (.int .i64 f.kind) := qq.cell 0
    go_wp2_with fail
    go_ret2
    exact ⟨_, rfl, nq, hxq⟩
end Go.Proofs.YtogdiobbjlpmoaaDoor

namespace Go.Proofs.YtogdiobbjlpmoaaDoor
open Go Go.RowKit Cal

set_option maxRecDepth 100000 in
set_option maxHeartbeats 1600000 in
theorem q_value_nar (g : Nat) (f : Frm) (i : Int) (hf : f.width ≤ 64) (hf1 : 1 ≤ f.width) (w : World) (h : QAt w g f i (narB f)) :
    Calls Tryd.prog 71 #[.pointer (some ⟨g, 0, none⟩)] w fun e w' => e = .returned (.tuple #[.agg #[.bool false, .slice none 0 0, .int .i64 0, .int .i64 0], .bool false]) ∧ Ext w w' := by
  have c55 := Lib.hid (fun W h => q_isnar g f i (narB f) hf hf1 W h)
  rw [decide_eq_true (show narB f = 2 ^ (16 * f.width - 1) from rfl)] at c55
  have HQ := Lib.hid h
  clear h
  go_enter Tryd.func71, Tryd.ntmps71
  go_wp2_with fail
  refine (c55.out _ (HQ.out.keep ((Ext.refl w).alloc _))).mono ?_
  rintro e w1 ⟨rfl, hb1⟩
  have r1 := (Blk.new w 53 #[.bool false, .slice none 0 0, .int .i64 0, .int .i64 0]).ext hb1
  obtain ⟨u0, u1, u2, u3⟩ := Bx53.of r1
  have fq := r1.frozen
  have x1 : Ext w w1 := ((Ext.refl w).alloc _).trans hb1
  have B9 := Lib.hid (Blk.put4 (a0 := .bool false) (a1 := .slice none 0 0) (a2 := .int .i64 0) (a3 := .int .i64 0) r1)
  clear r1
  go_wp2_with fail
  exact bodyPost_ret (v := .tuple #[.agg #[.bool false, .slice none 0 0, .int .i64 0, .int .i64 0], .bool false]) (ret_blk Tryd.results71 rfl (load53 ⟨_, rfl⟩ ⟨_, rfl⟩ B9.out) rfl) rfl ⟨rfl, by (repeat (first | (with_reducible exact Ext.refl _) | (with_reducible assumption) | (with_reducible refine Ext.drew ?_) | (with_reducible refine Ext.drewN ?_ _) | (with_reducible refine Ext.alloc ?_ _) | (with_reducible refine Ext.setCell ?_ (Nat.le_refl _) _) | (with_reducible refine Ext.setCell ?_ (by simp; try omega) _) | (with_reducible refine Ext.trans ?_ (by with_reducible assumption))))⟩

set_option maxRecDepth 100000 in
set_option maxHeartbeats 1600000 in
theorem q_value_zero (g : Nat) (f : Frm) (i : Int) (hf : f.width ≤ 64) (hf1 : 1 ≤ f.width) (w : World) (h : QAt w g f i 0) :
    Calls Tryd.prog 71 #[.pointer (some ⟨g, 0, none⟩)] w (RetEx1 w false 0 0 0) := by
  have hn := narB_pos f
  have ht := topB_pos f
  have c55 := Lib.hid (fun W h => q_isnar g f i 0 hf hf1 W h)
  rw [decide_eq_false (show ¬ 0 = 2 ^ (16 * f.width - 1) by show ¬ 0 = narB f; omega)] at c55
  have c120 := Lib.hid (fun W h => q_vsize g f i 0 hf hf1 ht W h)
  rw [decide_eq_false (show ¬ narB f ≤ 0 by omega), show qmag f 0 = 0 from by unfold qmag; rw [if_neg (by omega)]] at c120
  rw [wlen_zero] at c120
  have HQ := Lib.hid h
  clear h hn ht
  go_enter Tryd.func71, Tryd.ntmps71
  go_wp2_with fail
  refine (c55.out _ (HQ.out.keep ((Ext.refl w).alloc _))).mono ?_
  rintro e w1 ⟨rfl, hb1⟩
  have x1 : Ext w w1 := ((Ext.refl w).alloc _).trans hb1
  go_wp2_with fail
  refine (c120.out _ (HQ.out.keep x1)).mono ?_
  rintro e w2 ⟨v2, rfl, n2, hb2⟩
  obtain ⟨_, A2, cap2, rfl, _⟩ := n2
  have r1 := ((Blk.new w 53 #[.bool false, .slice none 0 0, .int .i64 0, .int .i64 0]).ext hb1).ext hb2
  obtain ⟨u0, u1, u2, u3⟩ := Bx53.of r1
  have fq := r1.frozen
  have x2 := x1.trans hb2
  have B9 := Lib.hid (Blk.put4 (a0 := .bool false) (a1 := .slice none 0 0) (a2 := .int .i64 0) (a3 := .int .i64 0) r1)
  clear r1
  go_wp2_with fail
  exact bodyPost_ret (v := .tuple #[.agg #[.bool false, .slice none 0 0, .int .i64 0, .int .i64 0], .bool true]) (ret_blk Tryd.results71 rfl (load53 ⟨_, rfl⟩ ⟨_, rfl⟩ B9.out) rfl) rfl ⟨_, rfl, by rw [wlen_zero]; exact NatV.none_ _ _ _ (by decide), by (repeat (first | (with_reducible exact Ext.refl _) | (with_reducible assumption) | (with_reducible refine Ext.drew ?_) | (with_reducible refine Ext.drewN ?_ _) | (with_reducible refine Ext.alloc ?_ _) | (with_reducible refine Ext.setCell ?_ (Nat.le_refl _) _) | (with_reducible refine Ext.setCell ?_ (by simp; try omega) _) | (with_reducible refine Ext.trans ?_ (by with_reducible assumption))))⟩

set_option maxRecDepth 100000 in
set_option maxHeartbeats 1600000 in
theorem q_value_two (g : Nat) (f : Frm) (i : Int) (B j : Nat) (hf : f.width ≤ 64) (hf1 : 1 ≤ f.width) (hB : B < topB f) (hn : B ≠ narB f) (hm : qmag f B = 2 ^ j) (hj : j ≤ 5000) (w : World) (h : QAt w g f i B) :
    Calls Tryd.prog 71 #[.pointer (some ⟨g, 0, none⟩)] w (RetEx1 w (decide (narB f ≤ B)) 1 (16 - 8 * (f.width : Int) + j) 0) := by
  have c55 := Lib.hid (fun W h => q_isnar g f i B hf hf1 W h)
  rw [decide_eq_false (show ¬ B = 2 ^ (16 * f.width - 1) from hn)] at c55
  have c120 := Lib.hid (fun W h => q_vsize g f i B hf hf1 hB W h)
  rw [hm] at c120
  generalize decide (narB f ≤ B) = ng at *
  have c122 := Lib.hid (fun W v h => q_low g f i v hf W h)
  have c121 := Lib.hid (fun W v h => ex_reduced ng v j (16 - 8 * (f.width : Int)) hj (by omega) W h)
  have hw0 := wlen_pos.2 (two_pos j)
  have hz : ((wlen (2 ^ j) : Int) == 0) = false := bfalse (b := 0) (by omega)
  generalize hL : wlen (2 ^ j) = L at *
  generalize 2 ^ j = X at *
  generalize hT : 16 - 8 * (f.width : Int) = T at *
  have HQ := Lib.hid h
  clear h hn hB hm hL hT
  go_enter Tryd.func71, Tryd.ntmps71
  go_wp2_with fail
  refine (c55.out _ (HQ.out.keep ((Ext.refl w).alloc _))).mono ?_
  rintro e w1 ⟨rfl, hb1⟩
  have x1 : Ext w w1 := ((Ext.refl w).alloc _).trans hb1
  go_wp2_with fail
  refine (c120.out _ (HQ.out.keep x1)).mono ?_
  rintro e w2 ⟨v2, rfl, n2, hb2⟩
  have n2' := n2
  obtain ⟨_, A2, cap2, rfl, _⟩ := n2'
  have x2 := x1.trans hb2
  obtain ⟨v0, q2, _⟩ := HQ.out.keep x2
  go_wp2_with fail
  refine (c122.out _ _ q2).mono ?_
  rintro e w3 ⟨rfl, rfl⟩
  go_wp2_with fail
  refine (c121.out _ _ n2).mono ?_
  rintro e w3 ⟨v3, rfl, n3, hb3⟩
  have n3' := n3
  obtain ⟨_, A3, cap3, rfl, _⟩ := n3'
  have r1 := (((Blk.new w 53 #[.bool false, .slice none 0 0, .int .i64 0, .int .i64 0]).ext hb1).ext hb2).ext hb3
  obtain ⟨u0, u1, u2, u3⟩ := Bx53.of r1
  have fq := r1.frozen
  have x3 := x2.trans hb3
  have n9 := Lib.hid (NatV.store53 (b0 := ng) (B := A3) (k' := wlen 1) (c' := cap3) (x' := T + (j : Int)) (y' := 0) r1 n3)
  have B9 := Lib.hid (Blk.put4 (a0 := .bool ng) (a1 := .slice A3 (wlen 1) cap3) (a2 := .int .i64 (T + (j : Int))) (a3 := .int .i64 0) r1)
  clear r1
  go_wp2_with fail
  exact bodyPost_ret (v := .tuple #[.agg #[.bool ng, .slice A3 (wlen 1) cap3, .int .i64 (T + (j : Int)), .int .i64 0], .bool true]) (ret_blk Tryd.results71 rfl (load53 ⟨_, rfl⟩ ⟨_, rfl⟩ B9.out) rfl) rfl ⟨_, rfl, n9.out, by (repeat (first | (with_reducible exact Ext.refl _) | (with_reducible assumption) | (with_reducible refine Ext.drew ?_) | (with_reducible refine Ext.drewN ?_ _) | (with_reducible refine Ext.alloc ?_ _) | (with_reducible refine Ext.setCell ?_ (Nat.le_refl _) _) | (with_reducible refine Ext.setCell ?_ (by simp; try omega) _) | (with_reducible refine Ext.trans ?_ (by with_reducible assumption))))⟩

set_option maxRecDepth 100000 in
set_option maxHeartbeats 1600000 in
/-- Quire.Posit of NaR. -/
theorem q_posit_nar (g : Nat) (f : Frm) (i : Int) (hf : f.width ≤ 64) (hf1 : 1 ≤ f.width) (w : World) (h : QAt w g f i (narB f)) :
    Calls Tryd.prog 58 #[.pointer (some ⟨g, 0, none⟩)] w fun e w' => e = .returned (.int .u64 (f.nan : Int)) ∧ Ext w w' := by
  have c71 := Lib.hid (q_value_nar g f i hf hf1 w h)
  have HQ := Lib.hid h
  clear h
  go_enter Tryd.func58, Tryd.ntmps58
  go_wp2_with fail
  refine c71.out.mono ?_
  rintro e w1 ⟨rfl, hb1⟩
  obtain ⟨v0, q1, _⟩ := HQ.out.keep hb1
  have q2 := q1.alloc (.cells #[.bool false, .slice none 0 0, .int .i64 0, .int .i64 0] 53)
  have c6 : w1.cell? ⟨g, 6, none⟩ = some (.int .u64 f.nan) := q1.cell 6
  have c0 : w1.cell? ⟨g, 0, none⟩ = some (.int .i64 f.kind) := q1.cell 0
  have hl := q1.lt
  go_wp2_with fail
  go_ret
  exact ⟨rfl, by (repeat (first | (with_reducible exact Ext.refl _) | (with_reducible assumption) | (with_reducible refine Ext.drew ?_) | (with_reducible refine Ext.drewN ?_ _) | (with_reducible refine Ext.alloc ?_ _) | (with_reducible refine Ext.setCell ?_ (Nat.le_refl _) _) | (with_reducible refine Ext.setCell ?_ (by simp; try omega) _) | (with_reducible refine Ext.trans ?_ (by with_reducible assumption))))⟩

set_option maxRecDepth 100000 in
set_option maxHeartbeats 3200000 in
/-- Quire.Posit of what Value tells. -/
theorem q_posit_of (g n B : Nat) (xn : Bool) (N : Nat) (t : Int) (h1 : 1 ≤ n) (h2 : n ≤ 4) (ht : -5000 ≤ t ∧ t ≤ 5000) (hN : wlen N ≤ 128) (hm : (mostV n xn).2 = 0) (ho : wthn n N t (mostV n xn).1 = true) (w : World) (hE : Env w) (h : QAt w g (frm n) n B)
    (hv : Calls Tryd.prog 71 #[.pointer (some ⟨g, 0, none⟩)] w (RetEx1 w xn N t 0)) :
    Calls Tryd.prog 58 #[.pointer (some ⟨g, 0, none⟩)] w fun e w' => e = .returned (.int .u64 ((patV n xn (nearK n N t (mostV n xn).1)).1 : Nat)) ∧ Ext w w' := by
  have hk := (posit_frm n h1 h2).1
  have c66 := Lib.hid (fun W v hE h => r_round n xn h1 (by omega) (by omega) hm v N t ht hN ho W hE h)
  have c71 := Lib.hid hv
  have HQ := Lib.hid h
  generalize patV n xn (nearK n N t (mostV n xn).1) = P at *
  obtain ⟨p, er⟩ := P
  simp only at c66 ⊢
  generalize frm n = f at *
  clear h hv hm ho hk
  go_enter Tryd.func58, Tryd.ntmps58
  go_wp2_with fail
  refine c71.out.mono ?_
  rintro e w1 ⟨v1, rfl, n1, hb1⟩
  have n1' := n1
  obtain ⟨_, A1, cap1, rfl, _⟩ := n1'
  obtain ⟨v0, q1, _⟩ := HQ.out.keep hb1
  have x1 := hb1.alloc (.cells #[.bool xn, .slice A1 (wlen N) cap1, .int .i64 t, .int .i64 0] 53)
  have n2 := n1.alloc (.cells #[.bool xn, .slice A1 (wlen N) cap1, .int .i64 t, .int .i64 0] 53)
  have c7 : w1.cell? ⟨g, 7, none⟩ = some (.int .i64 n) := q1.cell 7
  have c0 : w1.cell? ⟨g, 0, none⟩ = some (.int .i64 f.kind) := q1.cell 0
  have hl := q1.lt
  generalize wlen N = L at *
  have e66 := Lib.hid (c66.out _ _ ((hE.ext x1).drew) n2.drew)
  go_wp2_with fail
  go_region_with ((go_at_call 66; (with_reducible refine e66.out.mono ?_); rintro e w2 ⟨rfl, hb2⟩))
  all_goals go_wp2_with fail
  all_goals go_ret
  all_goals exact ⟨rfl, x1.trans ((Ext.refl _).drew.trans hb2)⟩
end Go.Proofs.YtogdiobbjlpmoaaDoor

namespace Go.Proofs.YtogdiobbjlpmoaaDoor
open Go Go.RowKit Cal

/-- Only the bits of the quire in block g change: a number in memory stays. -/
theorem NatV.past {w w' : World} {g : Nat} {f : Frm} {i : Int} {B B' : Nat} {v : Value} {k n : Nat} (h : NatV w v k n) (q : QAt w g f i B) (q' : QAt w' g f i B') (hg : w.grownBy w' (some g)) : NatV w' v k n := by
  obtain ⟨h0, P, cap, h1, h2, h3, h4⟩ := h
  refine ⟨h0, P, cap, h1, h2, h3, fun hl => ?_⟩
  obtain ⟨b, off, e, hb, hc⟩ := h4 hl
  refine ⟨b, off, e, Nat.lt_of_lt_of_le hb hg.size, fun j hj => ?_⟩
  have hcj := hc j hj
  by_cases hbg : b = g
  · subst hbg
    obtain ⟨v0, b0, m0⟩ := q
    obtain ⟨v1, b1, _⟩ := q'
    rw [b0.cell (off + j)] at hcj
    rw [b1.cell (off + j)]
    have : off + j = 0 ∨ off + j = 1 ∨ off + j = 2 ∨ off + j = 3 ∨ off + j = 4 ∨ off + j = 5 ∨ off + j = 6 ∨ off + j = 7 ∨ off + j = 8 ∨ 9 ≤ off + j := by omega
    obtain ⟨A, k', c', rfl⟩ := m0.slice
    rcases this with h | h | h | h | h | h | h | h | h | h
    all_goals first
      | (rw [h] at hcj ⊢; simp at hcj; done)
      | (rw [h] at hcj ⊢; simpa using hcj)
      | (rw [Array.getElem?_eq_none (by simpa using h)] at hcj; cases hcj)
  · rw [World.cell?_of_block (a := ⟨b, off + j, none⟩) (hg.block b hb (fun e => hbg (Option.some.inj e)))]
    exact hcj
theorem QAt.past {w w' : World} {g h : Nat} {f f' : Frm} {i i' : Int} {B B' C : Nat} (q2 : QAt w h f' i' C) (q : QAt w g f i B) (q' : QAt w' g f i B') (hg : w.grownBy w' (some g)) (hne : h ≠ g) : QAt w' h f' i' C := by
  obtain ⟨v, b, m⟩ := q2
  exact ⟨v, (hg.block h b.lt (fun e => hne (Option.some.inj e))).trans b, m.past q q' hg⟩
theorem Env.past {w w' : World} {g : Nat} (h : Env w) (hg : w.grownBy w' (some g)) (h3 : 3 < g) : Env w' := by
  have hs := h.size
  refine ⟨Nat.lt_of_lt_of_le hs hg.size, fun i hi => ?_, fun j hj => ?_⟩
  · obtain ⟨a, b, c, d, e, f, k⟩ := h.forms i hi
    have key : ∀ o, w'.cell? ⟨0, o, none⟩ = w.cell? ⟨0, o, none⟩ := fun o => World.cell?_of_block (a := ⟨0, o, none⟩) (hg.block 0 (by omega) (fun e => by have := Option.some.inj e; omega))
    simp only [key]
    exact ⟨a, b, c, d, e, f, k⟩
  · rw [World.cell?_of_block (a := ⟨3, j, none⟩) (hg.block 3 (by omega) (fun e => by have := Option.some.inj e; omega))]
    exact h.tz j hj
theorem Ext.past {w w1 w2 : World} {g : Nat} (h : Ext w w1) (hg : w1.grownBy w2 (some g)) (hge : w.heap.size ≤ g) : Ext w w2 :=
  Below.grown h hg (Ext.size h) (fun k e => by have := Option.some.inj e; omega)

set_option maxRecDepth 100000 in
set_option maxHeartbeats 800000 in
/-- quire.New of another form. -/
theorem q_new_no (n : Nat) (h1 : 1 ≤ n) (h2 : n ≤ 14) (hk : (frm n).kind ≠ 1) (w : World) (hE : Env w) :
    Calls Tryd.prog 53 #[.int .i64 n] w fun e w' => e = .returned (.tuple #[.pointer none, .int .i64 3]) ∧ Ext w w' := by
  have c39 := Lib.hid (fun W h => formsOf_yes n W h h1 h2)
  generalize frm n = f at *
  have k1 : ((f.kind : Int) != 1) = true := ntrue (b := 1) hk
  clear hk
  go_enter Tryd.func53, Tryd.ntmps53
  go_wp2_with fail
  refine (c39.out _ hE).mono ?_
  rintro e w1 ⟨rfl, hb1⟩
  go_wp2_with fail
  go_ret2
  exact ⟨rfl, by (repeat (first | (with_reducible exact Ext.refl _) | (with_reducible assumption) | (with_reducible refine Ext.drew ?_) | (with_reducible refine Ext.drewN ?_ _) | (with_reducible refine Ext.alloc ?_ _) | (with_reducible refine Ext.setCell ?_ (Nat.le_refl _) _) | (with_reducible refine Ext.setCell ?_ (by simp; try omega) _) | (with_reducible refine Ext.trans ?_ (by with_reducible assumption))))⟩
set_option maxRecDepth 100000 in
set_option maxHeartbeats 800000 in
/-- quire.New of what is no form. -/
theorem q_new_none (i : Int) (hi : ¬ isForm i) (w : World) :
    Calls Tryd.prog 53 #[.int .i64 i] w fun e w' => e = .returned (.tuple #[.pointer none, .int .i64 3]) ∧ Ext w w' := by
  have c39 := Lib.hid (fun W => formsOf_no i W hi)
  clear hi
  go_enter Tryd.func53, Tryd.ntmps53
  go_wp2_with fail
  refine (c39.out _).mono ?_
  rintro e w1 ⟨rfl, hb1⟩
  go_wp2_with fail
  go_ret2
  exact ⟨rfl, by (repeat (first | (with_reducible exact Ext.refl _) | (with_reducible assumption) | (with_reducible refine Ext.drew ?_) | (with_reducible refine Ext.drewN ?_ _) | (with_reducible refine Ext.alloc ?_ _) | (with_reducible refine Ext.setCell ?_ (Nat.le_refl _) _) | (with_reducible refine Ext.setCell ?_ (by simp; try omega) _) | (with_reducible refine Ext.trans ?_ (by with_reducible assumption))))⟩

theorem sh_add : qdoes (frm 1) 1 0 64 64 false = 281474976710656 := by decide +kernel
theorem sh_sub : qdoes (frm 1) 1 281474976710656 64 72 true = 340282366920938463463374325956791500800 := by decide +kernel
end Go.Proofs.YtogdiobbjlpmoaaDoor

namespace Go.Proofs.YtogdiobbjlpmoaaDoor
open Go Go.RowKit Cal

/-- Quire g of Posit8 holds B. -/
def Q8 (w : World) (g B : Nat) : Prop := QAt w g (frm 1) 1 B ∧ B < topB (frm 1)
def P8 (fn : FuncId) (args : Array Value) (g B C : Nat) (E : Int) : Prop := ∀ w, Env w → Q8 w g B → Calls Tryd.prog fn args w fun e w' => e = .returned (.int .i64 E) ∧ Q8 w' g C ∧ w.grownBy w' (some g)
theorem p8_add (g p q B C : Nat) (E : Int) (hp : p < 18446744073709551616) (hq : q < 18446744073709551616) (hC : qdoes (frm 1) 1 B p q false = C) (hE : qerr 1 p q = E) : P8 54 #[.pointer (some ⟨g, 0, none⟩), .int .u64 p, .int .u64 q] g B C E := by
  intro w hEn ⟨h, hB⟩
  subst hC hE
  exact (q_add g 1 p q B (by decide) (by decide) hp hq hB w hEn h).mono fun e w' ⟨a, b, c⟩ => ⟨a, ⟨b, qdoes_lt 1 p q false B (by decide) (by decide) hB⟩, c⟩
theorem p8_sub (g p q B C : Nat) (E : Int) (hp : p < 18446744073709551616) (hq : q < 18446744073709551616) (hC : qdoes (frm 1) 1 B p q true = C) (hE : qerr 1 p q = E) : P8 59 #[.pointer (some ⟨g, 0, none⟩), .int .u64 p, .int .u64 q] g B C E := by
  intro w hEn ⟨h, hB⟩
  subst hC hE
  exact (q_sub g 1 p q B (by decide) (by decide) hp hq hB w hEn h).mono fun e w' ⟨a, b, c⟩ => ⟨a, ⟨b, qdoes_lt 1 p q true B (by decide) (by decide) hB⟩, c⟩
theorem sh_posit (g : Nat) (w : World) (hE : Env w) (h : QAt w g (frm 1) 1 340282366920938463463374325956791500800) : Calls Tryd.prog 58 #[.pointer (some ⟨g, 0, none⟩)] w fun e w' => e = .returned (.int .u64 192) ∧ Ext w w' := by
  have hv := q_value_two g (frm 1) 1 340282366920938463463374325956791500800 48 (by decide) (by decide) (by decide +kernel) (by decide +kernel) (by decide +kernel) (by decide) w h
  rw [show decide (narB (frm 1) ≤ 340282366920938463463374325956791500800) = true from by decide +kernel, show (16 - 8 * ((frm 1).width : Int) + (48 : Nat)) = 0 from by decide] at hv
  have hp := q_posit_of g 1 340282366920938463463374325956791500800 true 1 0 (by decide) (by decide) (by decide) (by decide) (by decide) (by decide +kernel) w hE h hv
  rw [show (patV ((1 : Nat) : Int) true (nearK 1 1 0 (mostV ((1 : Nat) : Int) true).1)).1 = 192 from by decide +kernel] at hp
  exact hp
theorem sh_add3 : qdoes (frm 1) 1 340282366920938463463374325956791500800 256 0 false = 340282366920938463463374325956791500800 := by decide +kernel
theorem sh_add4 : qdoes (frm 1) 1 340282366920938463463374325956791500800 128 0 false = narB (frm 1) := by decide +kernel

set_option maxRecDepth 100000 in
set_option maxHeartbeats 6400000 in
theorem shown15_any (w : World) (hE : Env w) : Calls Tryd.prog 52 #[] w fun e w' => e = .returned (.bool true) ∧ Ext w w' := by
  have c53 : Hid (∀ W, Env W → Calls Tryd.prog 53 #[.int .i64 1] W fun e w' => ∃ g, e = .returned (.tuple #[.pointer (some ⟨g, 0, none⟩), .int .i64 0]) ∧ QAt w' g (frm 1) 1 0 ∧ Ext W w' ∧ W.heap.size ≤ g) := fun W h => q_new 1 (by decide) (by decide) W h
  have d53 : Hid (∀ W, Env W → Calls Tryd.prog 53 #[.int .i64 5] W fun e w' => e = .returned (.tuple #[.pointer none, .int .i64 3]) ∧ Ext W w') := fun W h => q_new_no 5 (by decide) (by decide) (by decide) W h
  have a1 := Lib.hid (fun g => p8_add g 64 64 0 281474976710656 0 (by decide) (by decide) sh_add (by decide))
  have a2 := Lib.hid (fun g => p8_sub g 64 72 281474976710656 340282366920938463463374325956791500800 0 (by decide) (by decide) sh_sub (by decide))
  have a3 := Lib.hid (fun g => p8_add g 256 0 340282366920938463463374325956791500800 340282366920938463463374325956791500800 1 (by decide) (by decide) sh_add3 (by decide))
  have a4 := Lib.hid (fun g => p8_add g 128 0 340282366920938463463374325956791500800 (narB (frm 1)) 0 (by decide) (by decide) sh_add4 (by decide))
  have cP := Lib.hid (fun g W hE h => sh_posit g W hE h)
  have b1 : Hid (∀ g W, QAt W g (frm 1) 1 281474976710656 → Calls Tryd.prog 57 #[.pointer (some ⟨g, 0, none⟩)] W (RetNat W 281474976710656)) := fun g W h => q_bits g (frm 1) 1 281474976710656 (by decide) W h
  have b2 : Hid (∀ g W, QAt W g (frm 1) 1 0 → Calls Tryd.prog 57 #[.pointer (some ⟨g, 0, none⟩)] W (RetNat W 0)) := fun g W h => q_bits g (frm 1) 1 0 (by decide) W h
  have cN : Hid (∀ g W, QAt W g (frm 1) 1 (narB (frm 1)) → Calls Tryd.prog 55 #[.pointer (some ⟨g, 0, none⟩)] W fun e w' => e = .returned (.bool true) ∧ Ext W w') := fun g W h => by
    have := q_isnar g (frm 1) 1 (narB (frm 1)) (by decide) (by decide) W h
    rwa [decide_eq_true (show narB (frm 1) = 2 ^ (16 * (frm 1).width - 1) from rfl)] at this
  have cC := Lib.hid (fun g W h => q_clear g (frm 1) 1 (narB (frm 1)) W h)
  have cS : Hid (∀ g W, QAt W g (frm 1) 1 0 → Calls Tryd.prog 65 #[.pointer (some ⟨g, 0, none⟩)] W fun e w' => e = .returned (.int .i64 128) ∧ W = w') := fun g W ⟨v, b, _⟩ => q_size g (frm 1) 1 v (by decide) W b
  have h3 := hE.size
  go_enter Tryd.func52, Tryd.ntmps52
  go_wp2_with fail
  refine (c53.out _ hE).mono ?_
  rintro e w1 ⟨g, rfl, q1, x1, hg⟩
  go_wp2_with fail
  refine (d53.out _ (hE.ext x1)).mono ?_
  rintro e w2 ⟨rfl, hb2⟩
  have q2 : Q8 w2 g 0 := ⟨q1.keep hb2, topB_pos _⟩
  have x2 := x1.trans hb2
  have E2 := hE.ext x2
  have hg3 : 3 < g := by omega
  clear q1
  go_wp2_with fail
  refine ((a1.out g) _ E2 q2).mono ?_
  rintro e w3 ⟨rfl, q3, hg3'⟩
  have x3 := x2.past hg3' hg
  have E3 := E2.past hg3' hg3
  go_wp2_with fail
  refine (b1.out g _ q3.1).mono ?_
  rintro e w4 ⟨vb, rfl, nb, hb4⟩
  have q4 : Q8 w4 g 281474976710656 := ⟨q3.1.keep hb4, q3.2⟩
  have x4 := x3.trans hb4
  have E4 := E3.ext hb4
  go_wp2_with fail
  refine ((a2.out g) _ E4 q4).mono ?_
  rintro e w5 ⟨rfl, q5, hg5⟩
  have nb5 := nb.past q4.1 q5.1 hg5
  have x5 := x4.past hg5 hg
  have E5 := E4.past hg5 hg3
  go_wp2_with fail
  refine (cP.out g _ E5 q5.1).mono ?_
  rintro e w6 ⟨rfl, hb6⟩
  have q6 : Q8 w6 g 340282366920938463463374325956791500800 := ⟨q5.1.keep hb6, q5.2⟩
  have nb6 := nb5.ext hb6
  have x6 := x5.trans hb6
  have E6 := E5.ext hb6
  go_wp2_with fail
  refine ((a3.out g) _ E6 q6).mono ?_
  rintro e w7 ⟨rfl, q7, hg7⟩
  have nb7 := nb6.past q6.1 q7.1 hg7
  have x7 := x6.past hg7 hg
  have E7 := E6.past hg7 hg3
  go_wp2_with fail
  refine ((a4.out g) _ E7 q7).mono ?_
  rintro e w8 ⟨rfl, q8, hg8⟩
  have nb8 := nb7.past q7.1 q8.1 hg8
  have x8 := x7.past hg8 hg
  go_wp2_with fail
  refine (cN.out g _ q8.1).mono ?_
  rintro e w9 ⟨rfl, hb9⟩
  have q9 := q8.1.keep hb9
  have nb9 := nb8.ext hb9
  have x9 := x8.trans hb9
  go_wp2_with fail
  refine (cC.out g _ q9).mono ?_
  rintro e w10 ⟨rfl, q10, hg10⟩
  have nb10 := nb9.past q9 q10 hg10
  have x10 := x9.past hg10 hg
  clear nb nb5 nb6 nb7 nb8 nb9 q2 q3 q4 q5 q6 q7 q8 q9
  have hw1 : wlen 281474976710656 = 1 := by decide
  rw [hw1] at nb10
  obtain ⟨_, Ab, capb, rfl, _, _, hcb⟩ := nb10
  obtain ⟨bb, ob, rfl, hbb, hcc⟩ := hcb (by decide)
  have hc0 := hcc 0 (by decide)
  rw [word_small (by decide), Nat.add_zero] at hc0
  have hc0' : w10.cell? ⟨bb, ob, none⟩ = some (.int .u64 281474976710656) := hc0
  clear hcc hcb hc0 hw1
  go_wp2_with fail
  refine (b2.out g _ q10).mono ?_
  rintro e w11 ⟨v11, rfl, n11, hb11⟩
  rw [wlen_zero] at n11
  obtain ⟨_, A11, c11, rfl, _⟩ := n11
  have q11 := q10.keep hb11
  clear hc0'
  go_wp2_with fail
  refine (cS.out g _ q11).mono ?_
  rintro e w12 ⟨rfl, rfl⟩
  go_wp2_with fail
  go_ret
  exact ⟨rfl, x10.trans hb11⟩
end Go.Proofs.YtogdiobbjlpmoaaDoor

