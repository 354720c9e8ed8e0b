/- Exact numbers without fives: exact.in, Right, Of, size, scaled, Cmp. No condition but those written. exact.Reduced of a power of two; nat.Div of a lesser number. No condition but those written. exact.Cmp, of numbers without fives. No condition but those written. round.size, behind, zero, within; exact.Of, Right: of numbers without fives. No condition but those written, and that the package variables hold what they are laid with. round.size, behind, zero, exact.Right, round.within: of numbers without fives. No condition but those written, and that the package variables hold what they are laid with. round.within, round.Nearest: of numbers without fives. No condition but those written, and that the package variables hold what they are laid with. -/
import Derived.Test.YtogdiobbjlpmoaaDoorNatsA
import Derived.Test.YtogdiobbjlpmoaaDoorNatsB
import Derived.Test.YtogdiobbjlpmoaaDoorAt
import Derived.Test.YtogdiobbjlpmoaaDoorOrderLaw
import Derived.Test.YtogdiobbjlpmoaaDoorPure07
import Derived.Deep.RegionHeld3
import Derived.Deep.RegionWith
import Derived.IntWalk
import Derived.RegionTactic
import Derived.ChangeAlike
import Derived.Deep.QuietTactic
import Derived.BigQuiet
namespace Go.Proofs.YtogdiobbjlpmoaaDoor
open Go Go.RowKit Cal

/-- An exact number is answered. -/
def RetEx (w : World) (neg : Bool) (n : Nat) (two five : Int) (e : Ending) (w' : World) : Prop := ∃ v, e = .returned (.agg #[.bool neg, v, .int .i64 two, .int .i64 five]) ∧ NatV w' v (wlen n) n ∧ Ext w w'

set_option maxHeartbeats 800000 in
theorem in_any (n : Int) (w : World) : Calls Tryd.prog 93 #[.int .i64 n] w fun e w' => e = .returned (.bool (decide (-5000 ≤ n ∧ n ≤ 5000))) ∧ w = w' := by
  by_cases h1 : -5000 ≤ n
  · have d1 : decide (-5000 ≤ n) = true := decide_eq_true h1
    by_cases h2 : n ≤ 5000
    · have d2 : decide (n ≤ 5000) = true := decide_eq_true h2
      rw [decide_eq_true (show -5000 ≤ n ∧ n ≤ 5000 from ⟨h1, h2⟩)]
      go_enter Tryd.func93, Tryd.ntmps93
      go_wp2
      go_ret
      exact ⟨rfl, rfl⟩
    · have d2 : decide (n ≤ 5000) = false := decide_eq_false h2
      rw [decide_eq_false (show ¬ (-5000 ≤ n ∧ n ≤ 5000) from fun h => h2 h.2)]
      go_enter Tryd.func93, Tryd.ntmps93
      go_wp2
      go_ret
      exact ⟨rfl, rfl⟩
  · have d1 : decide (-5000 ≤ n) = false := decide_eq_false h1
    rw [decide_eq_false (show ¬ (-5000 ≤ n ∧ n ≤ 5000) from fun h => h1 h.1)]
    go_enter Tryd.func93, Tryd.ntmps93
    go_wp2
    go_ret
    exact ⟨rfl, rfl⟩

set_option maxRecDepth 100000 in
set_option maxHeartbeats 1600000 in
/-- exact.scaled, without fives. -/
theorem ex_scaled (v : Value) (k a : Nat) (two : Int) (ht : two ≤ 100000) (w : World) (h : NatV w v k a) (hk : k ≤ 100000) (ha0 : 0 < a) :
    Calls Tryd.prog 104 #[v, .int .i64 two, .int .i64 0] w (RetNat w (a * 2 ^ two.toNat)) := by
  have hm : max two 0 = (two.toNat : Int) := by omega
  have c91 := Lib.hid (nat_shl v k a w h hk (max two 0) two.toNat (by omega) ha0)
  have hmn : min (0 : Int) 20000 = 0 := by decide
  generalize two.toNat = N at *
  rw [hm] at c91
  have HH := Lib.hid h
  clear h
  go_enter Tryd.func104, Tryd.ntmps104
  go_wp2_with fail
  go_loopg [0, 2] 0 (fun g s0 s2 wr => s0 = v ∧ s2 = .int .i64 0 ∧ w = wr)
  case atStart => exact ⟨rfl, rfl, rfl⟩
  case round =>
    obtain ⟨rfl, rfl, rfl⟩ := hrel
    go_wp2_with fail
    refine c91.out.mono ?_
    rintro e w1 ⟨v1, rfl, n1, hb1⟩
    go_wp2_with fail
    go_ret
    exact ⟨_, rfl, n1, hb1⟩

set_option maxRecDepth 100000 in
set_option maxHeartbeats 1600000 in
/-- exact.size, without fives. -/
theorem ex_size (neg : Bool) (v : Value) (k a : Nat) (two : Int) (h1 : -100000 ≤ two) (h2 : two ≤ 100000) (w : World) (h : NatV w v k a) (hk : k ≤ 100000) :
    Calls Tryd.prog 103 #[.agg #[.bool neg, v, .int .i64 two, .int .i64 0]] w fun e w' => e = .returned (.int .i64 ((nbits a : Int) + two)) ∧ Ext w w' := by
  have hnb : nbits a ≤ 64 * k := (nbits_le a _).2 h.lt
  have h' := h
  obtain ⟨_, A, cap, rfl, _⟩ := h'
  have c64 := Lib.hid (fun n => nat_bits _ k a _ ((h.alloc (.cells #[.bool neg, .slice A k cap, .int .i64 two, .int .i64 0] 53)).drewN n) hk)
  generalize nbits a = N at *
  have s1 : IntKind.i64.wrap ((N : Int) + two) = (N : Int) + two := by rw [IntKind.wrap_i64]; omega
  clear h
  go_enter Tryd.func103, Tryd.ntmps103
  go_wp2_with fail
  go_quiet ((go_at_call 64; (with_reducible exact quiet_left (c64.out _))))
  go_wp2_with fail
  go_ret
  exact ⟨rfl, by (repeat (first | (with_reducible exact Ext.refl _) | (with_reducible assumption) | (with_reducible refine Ext.drew ?_) | (with_reducible refine Ext.drewN ?_ _) | (with_reducible refine Ext.alloc ?_ _) | (with_reducible refine Ext.setCell ?_ (Nat.le_refl _) _) | (with_reducible refine Ext.setCell ?_ (by simp; try omega) _) | (with_reducible refine Ext.trans ?_ (by with_reducible assumption))))⟩
end Go.Proofs.YtogdiobbjlpmoaaDoor

namespace Go.Proofs.YtogdiobbjlpmoaaDoor
open Go Go.RowKit Cal

/-- Nought times, and what is left. -/
def RetDiv0 (w : World) (n : Nat) (e : Ending) (w' : World) : Prop := ∃ v, e = .returned (.tuple #[.slice none 0 0, v, .bool true]) ∧ NatV w' v (wlen n) n ∧ Ext w w'
set_option maxRecDepth 100000 in
set_option maxHeartbeats 1600000 in
theorem nat_div_small (v u : Value) (k l n m : Nat) (w : World) (h : NatV w v k n) (h' : NatV w u l m) (hk : k ≤ 100000) (hlt : n < m) : Calls Tryd.prog 47 #[v, u] w (RetDiv0 w n) := by
  have c96 := Lib.hid (trim_any v k n w h)
  have d96 := Lib.hid (trim_any u l m w h')
  have c97 := Lib.hid (fun W a b h h' => nat_cmp a b (wlen n) (wlen m) n m W h h')
  rw [ncmp_lt hlt] at c97
  have hwk : wlen n ≤ k := (wlen_le n k).2 h.lt
  have c98 := Lib.hid (fun W a h => nat_clone a (wlen n) n W h (by omega))
  have hm0 := wlen_pos.2 (show 0 < m by omega)
  have z : ((wlen m : Int) == 0) = false := bfalse (b := 0) (by omega)
  clear h h' hlt
  go_enter Tryd.func47, Tryd.ntmps47
  go_wp2_with fail
  refine c96.out.mono ?_
  rintro e w1 ⟨v1, rfl, n1, rfl⟩
  go_wp2_with fail
  refine d96.out.mono ?_
  rintro e w1 ⟨u1, rfl, n2, rfl⟩
  have n2' := n2
  obtain ⟨_, A2, cap2, rfl, _⟩ := n2'
  generalize wlen m = M at *
  go_wp2_with fail
  refine (c97.out _ _ _ n1 n2).mono ?_
  rintro e w1 ⟨rfl, hb1⟩
  go_wp2_with fail
  refine (c98.out _ _ (n1.ext hb1)).mono ?_
  rintro e w2 ⟨v2, rfl, n3, hb2⟩
  go_wp2_with fail
  go_ret3
  exact ⟨_, rfl, n3, hb1.trans hb2⟩

set_option maxRecDepth 100000 in
set_option maxHeartbeats 3200000 in
/-- The closure of Reduced, where 1 is left: no fives go into it. -/
theorem red_out (p x times : Nat) (ht : 1 ≤ times) (ht2 : times ≤ 27) (A : Option Addr) (cap : Nat) (w : World) (hp : Blk w p 47 #[.slice A (wlen 1) cap]) (h : NatV w (.slice A (wlen 1) cap) (wlen 1) 1) :
    Calls Tryd.prog 143 #[.int .i64 times, .pointer (some ⟨p, 0, none⟩), .pointer (some ⟨x, 0, none⟩)] w fun e w' => e = .returned (.bool false) ∧ Ext w w' := by
  have hw1 : wlen 1 = 1 := by decide
  have h5 : 5 ^ times ≤ 5 ^ 27 := Nat.pow_le_pow_right (by decide) ht2
  have hwl : wlen (5 ^ times) ≤ 1 := (wlen_le _ _).2 (Nat.lt_of_le_of_lt h5 (by decide))
  have h51 : 1 < 5 ^ times := Nat.one_lt_pow (by omega) (by decide)
  have c92 : Hid (∀ W : World, Calls Tryd.prog 92 #[.int .u64 5, .int .i64 times] W (RetNat W (5 ^ times))) := fun W => nat_pow 5 times (by decide) (by decide) (by omega) (by omega) W
  have c47 := Lib.hid (fun W u h h' => nat_div_small (.slice A (wlen 1) cap) u (wlen 1) (wlen (5 ^ times)) 1 (5 ^ times) W h h' (by omega) h51)
  have c64 := Lib.hid (fun W u h => nat_bits u (wlen 1) 1 W h (by omega))
  rw [show nbits 1 = 1 from by decide] at c64
  generalize 5 ^ times = F at *
  generalize hK : wlen 1 = K at *
  have HK := Lib.hid hK
  clear hK
  have hc0 : w.cell? ⟨p, 0, none⟩ = some (.slice A K cap) := hp.cell 0
  have hpl := hp.lt
  have HH := Lib.hid h
  clear h hp hwl h51 h5 hw1
  go_enter Tryd.func143, Tryd.ntmps143
  go_wp2_with fail
  obtain ⟨W, hW⟩ : ∃ W, W = w := ⟨_, rfl⟩
  rw [← hW]
  have hc0' : W.cell? ⟨p, 0, none⟩ = some (.slice A K cap) := by rw [hW]; exact hc0
  have hpl' : p < W.heap.size := by rw [hW]; exact hpl
  have HH' : Hid (NatV W (.slice A K cap) K 1) := by show NatV W (.slice A K cap) K 1; rw [hW]; exact HH.out
  have hwW : Ext w W := by rw [hW]; exact Ext.refl _
  clear hW hc0 HH
  go_region_held3 (fun w' => Ext W w' ∧ w'.cell? ⟨p, 0, none⟩ = some (.slice A K cap))
    (first | exact ⟨(Ext.refl W).drew, hc0'⟩ | (have hH : Ext W _ ∧ _ := (by assumption); exact ⟨hH.1.trans hb, (hb.cell (p := ⟨p, 0, none⟩) (Nat.lt_of_lt_of_le hpl' hH.1.size)).trans hH.2⟩) | (assumption))
    (first
      | (go_at_call 92; (with_reducible refine (c92.out _).mono ?_); rintro e w1 ⟨v1, rfl, n1, hb⟩)
      | (go_at_call 47; (with_reducible refine (c47.out _ v1 (HH'.out.ext (by assumption : Ext W _ ∧ _ = some (Value.slice A K cap)).1) (by (repeat (first | (with_reducible assumption) | (with_reducible refine NatV.drew ?_) | (with_reducible refine NatV.alloc ?_ _) | (with_reducible refine NatV.ext ?_ (by with_reducible assumption)))))).mono ?_); rintro e w1 ⟨v2, rfl, n2, hb⟩))
  all_goals have hS : Ext W w1 ∧ w1.cell? ⟨p, 0, none⟩ = some (.slice A K cap) := by assumption
  all_goals go_wp2_with fail
  all_goals rw [HK.out] at n2
  all_goals refine (c64.out _ _ n2).mono ?_
  all_goals rintro e w2 ⟨rfl, rfl⟩
  all_goals go_wp2_with fail
  all_goals go_ret
  all_goals exact ⟨rfl, hwW.trans hS.1⟩
end Go.Proofs.YtogdiobbjlpmoaaDoor

namespace Go.Proofs.YtogdiobbjlpmoaaDoor
open Go Go.RowKit Cal

theorem cmp_far {A B : Nat} {ta tb : Int} (hA : 0 < A) (h : (nbits B : Int) + tb + 6 < (nbits A : Int) + ta) : B * 2 ^ (tb - ta).toNat < A * 2 ^ (ta - tb).toNat := by
  have h1 : nbits B + (tb - ta).toNat + 6 < nbits A + (ta - tb).toNat := by omega
  have h2 := nbits_top hA
  have h3 := (nbits_le B _).1 (Nat.le_refl _)
  generalize (tb - ta).toNat = y at *
  generalize (ta - tb).toNat = x at *
  have h4 : B * 2 ^ y < 2 ^ (nbits B + y) := by rw [Nat.pow_add]; exact Nat.mul_lt_mul_of_pos_right h3 (two_pos y)
  have h5 : 2 ^ (nbits A - 1 + x) ≤ A * 2 ^ x := by rw [Nat.pow_add]; exact Nat.mul_le_mul_right _ h2
  have h6 : 2 ^ (nbits B + y) ≤ 2 ^ (nbits A - 1 + x) := Nat.pow_le_pow_right (by decide) (by omega)
  omega
/-- What Cmp answers. -/
def excmp (A : Nat) (ta : Int) (B : Nat) (tb : Int) : Int := ncmp (A * 2 ^ (ta - tb).toNat) (B * 2 ^ (tb - ta).toNat)

abbrev Two53 (w : World) (b c : Nat) (na : Bool) (va : Value) (ta : Int) (nb : Bool) (vb : Value) (tb : Int) : Prop :=
  w.cell? ⟨b, 0, none⟩ = some (.bool na) ∧ w.cell? ⟨b, 1, none⟩ = some va ∧ w.cell? ⟨b, 2, none⟩ = some (.int .i64 ta) ∧ w.cell? ⟨b, 3, none⟩ = some (.int .i64 0) ∧
  w.cell? ⟨c, 0, none⟩ = some (.bool nb) ∧ w.cell? ⟨c, 1, none⟩ = some vb ∧ w.cell? ⟨c, 2, none⟩ = some (.int .i64 tb) ∧ w.cell? ⟨c, 3, none⟩ = some (.int .i64 0)
theorem Two53.keep {w w1 : World} {b c : Nat} {na : Bool} {va : Value} {ta : Int} {nb : Bool} {vb : Value} {tb : Int} (h : Two53 w b c na va ta nb vb tb) (hb : b < w.heap.size) (hc : c < w.heap.size) (he : Ext w w1) : Two53 w1 b c na va ta nb vb tb := by
  obtain ⟨a0, a1, a2, a3, a4, a5, a6, a7⟩ := h
  refine ⟨?_, ?_, ?_, ?_, ?_, ?_, ?_, ?_⟩
  all_goals first | (rw [he.cell (show b < w.heap.size from hb)]; assumption) | (rw [he.cell (show c < w.heap.size from hc)]; assumption)
theorem box_53 (w : World) (na : Bool) (va : Value) (ta : Int) (nb : Bool) (vb : Value) (tb : Int) : ∃ W, W = (w.alloc (.cells #[.bool na, va, .int .i64 ta, .int .i64 0] 53)).alloc (.cells #[.bool nb, vb, .int .i64 tb, .int .i64 0] 53) ∧
    w.heap.size + 1 < W.heap.size ∧ Ext w W ∧ Two53 W w.heap.size (w.heap.size + 1) na va ta nb vb tb := by
  refine ⟨_, rfl, by simp, ((Ext.refl _).alloc _).alloc _, ?_⟩
  have h1 := (Blk.new w 53 #[.bool na, va, .int .i64 ta, .int .i64 0]).alloc (.cells #[.bool nb, vb, .int .i64 tb, .int .i64 0] 53)
  have h2 := Blk.new (w.alloc (.cells #[.bool na, va, .int .i64 ta, .int .i64 0] 53)) 53 #[.bool nb, vb, .int .i64 tb, .int .i64 0]
  rw [show (w.alloc (.cells #[.bool na, va, .int .i64 ta, .int .i64 0] 53)).heap.size = w.heap.size + 1 from by simp] at h2
  exact ⟨h1.cell 0, h1.cell 1, h1.cell 2, h1.cell 3, h2.cell 0, h2.cell 1, h2.cell 2, h2.cell 3⟩

set_option maxRecDepth 100000 in
set_option maxHeartbeats 3200000 in
theorem ex_cmp (na nb : Bool) (va vb : Value) (k l A B : Nat) (ta tb : Int) (ha : -20000 ≤ ta ∧ ta ≤ 20000) (hb' : -20000 ≤ tb ∧ tb ≤ 20000) (w : World) (hA : NatV w va k A) (hB : NatV w vb l B) (hk : k ≤ 10000) (hl : l ≤ 10000) (hA0 : 0 < A) (hB0 : 0 < B) :
    Calls Tryd.prog 49 #[.agg #[.bool na, va, .int .i64 ta, .int .i64 0], .agg #[.bool nb, vb, .int .i64 tb, .int .i64 0]] w fun e w' => e = .returned (.int .i64 (excmp A ta B tb)) ∧ Ext w w' := by
  have hA' := hA
  have hB' := hB
  obtain ⟨hAl, PA, ca, rfl, _⟩ := hA'
  obtain ⟨hBl, PB, cb, rfl, _⟩ := hB'
  have hk0 : 0 < k := by
    rcases Nat.eq_zero_or_pos k with h | h
    · subst h
      simp at hAl
      omega
    · exact h
  have hl0 : 0 < l := by
    rcases Nat.eq_zero_or_pos l with h | h
    · subst h
      simp at hBl
      omega
    · exact h
  have zk : ((k : Int) == 0) = false := bfalse (b := 0) (by omega)
  have zl : ((l : Int) == 0) = false := bfalse (b := 0) (by omega)
  have c103a := Lib.hid (fun W h => ex_size na (.slice PA k ca) k A ta (by omega) (by omega) W h (by omega))
  have c103b := Lib.hid (fun W h => ex_size nb (.slice PB l cb) l B tb (by omega) (by omega) W h (by omega))
  have hna : nbits A ≤ 64 * k := (nbits_le A _).2 hAl
  have hnb : nbits B ≤ 64 * l := (nbits_le B _).2 hBl
  have far1 := Lib.hid (fun h => cmp_far (A := A) (B := B) (ta := ta) (tb := tb) hA0 h)
  have far2 := Lib.hid (fun h => cmp_far (A := B) (B := A) (ta := tb) (tb := ta) hB0 h)
  have c104a := Lib.hid (fun W h => ex_scaled (.slice PA k ca) k A (ta - tb) (by omega) W h (by omega) hA0)
  have c104b := Lib.hid (fun W h => ex_scaled (.slice PB l cb) l B (tb - ta) (by omega) W h (by omega) hB0)
  have c97 := Lib.hid (fun W x y h h' => nat_cmp x y (wlen (A * 2 ^ (ta - tb).toNat)) (wlen (B * 2 ^ (tb - ta).toNat)) (A * 2 ^ (ta - tb).toNat) (B * 2 ^ (tb - ta).toNat) W h h')
  have hC : Hid (excmp A ta B tb = ncmp (A * 2 ^ (ta - tb).toNat) (B * 2 ^ (tb - ta).toNat)) := rfl
  generalize excmp A ta B tb = C at *
  generalize B * 2 ^ (tb - ta).toNat = y at *
  generalize A * 2 ^ (ta - tb).toNat = x at *
  generalize nbits A = NA at *
  generalize nbits B = NB at *
  have s1 : IntKind.i64.wrap ((NA : Int) + ta - ((NB : Int) + tb)) = (NA : Int) + ta - ((NB : Int) + tb) := by rw [IntKind.wrap_i64]; omega
  have s2 : IntKind.i64.wrap (ta - tb) = ta - tb := by rw [IntKind.wrap_i64]; omega
  have s3 : IntKind.i64.wrap (-(ta - tb)) = tb - ta := by rw [IntKind.wrap_i64]; omega
  have s4 : IntKind.i64.wrap (tb - ta) = tb - ta := by rw [IntKind.wrap_i64]; omega
  have s5 : IntKind.i64.wrap 0 = 0 := rfl
  have HA := Lib.hid hA
  have HB := Lib.hid hB
  clear hAl hBl hA hB
  go_enter Tryd.func49, Tryd.ntmps49
  go_wp2_with fail
  obtain ⟨W, hW, hlt, hbW, h2⟩ := box_53 w na (.slice PA k ca) ta nb (.slice PB l cb) tb
  rw [← hW]
  clear hW
  have hlt' : w.heap.size < W.heap.size := by omega
  go_region_held3 (fun w' => Ext W w' ∧ Two53 w' w.heap.size (w.heap.size + 1) na (.slice PA k ca) ta nb (.slice PB l cb) tb)
    (first | exact ⟨(Ext.refl W).drew, h2⟩ | (have hH : Ext W _ ∧ _ := (by assumption); exact ⟨hH.1.trans hb, Two53.keep hH.2 (Nat.lt_of_lt_of_le hlt' hH.1.size) (Nat.lt_of_lt_of_le hlt hH.1.size) hb⟩) | (assumption))
    (first
      | (go_at_call 103; (with_reducible refine (c103a.out _ (HA.out.ext (hbW.trans (by assumption : Ext W _ ∧ _).1))).mono ?_); rintro e w1 ⟨rfl, hb⟩)
      | (go_at_call 103; (with_reducible refine (c103b.out _ (HB.out.ext (hbW.trans (by assumption : Ext W _ ∧ _).1))).mono ?_); rintro e w1 ⟨rfl, hb⟩))
  have hS : Ext W w1 ∧ Two53 w1 w.heap.size (w.heap.size + 1) na (.slice PA k ca) ta nb (.slice PB l cb) tb := by assumption
  have hxw : Ext w w1 := hbW.trans hS.1
  by_cases f1 : (NB : Int) + tb + 6 < (NA : Int) + ta
  · have d1 : decide (6 < (NA : Int) + ta - ((NB : Int) + tb)) = true := decide_eq_true (by omega)
    have hC1 : C = 1 := by rw [hC.out]; exact ncmp_gt (far1.out f1)
    subst hC1
    clear hS s1 s2 s3
    go_wp2_with fail
    go_ret
    exact ⟨rfl, hxw⟩
  · have d1 : decide (6 < (NA : Int) + ta - ((NB : Int) + tb)) = false := decide_eq_false (by omega)
    by_cases f2 : (NA : Int) + ta + 6 < (NB : Int) + tb
    · have d2 : decide ((NA : Int) + ta - ((NB : Int) + tb) < -6) = true := decide_eq_true (by omega)
      have hC1 : C = -1 := by rw [hC.out]; exact ncmp_lt (far2.out f2)
      subst hC1
      clear hS s1 s2 s3
      go_wp2_with fail
      go_ret
      exact ⟨rfl, hxw⟩
    · have d2 : decide ((NA : Int) + ta - ((NB : Int) + tb) < -6) = false := decide_eq_false (by omega)
      have HS := Lib.hid hS
      obtain ⟨_, t0, t1, t2, t3, t4, t5, t6, t7⟩ := hS
      go_wp2_with fail
      go_quiet (fail)
      clear t0 t1 t2 t3 t4 t5 t6 t7
      generalize hwq : w1.drewN _ = wq
      have hSq : Ext W wq ∧ Two53 wq w.heap.size (w.heap.size + 1) na (.slice PA k ca) ta nb (.slice PB l cb) tb := by
        rw [← hwq]
        exact ⟨HS.out.1.drewN _, HS.out.2⟩
      have hxq : Ext w wq := hbW.trans hSq.1
      clear hwq
      go_wp2_with fail
      go_region_held3 (fun w' => Ext W w' ∧ Two53 w' w.heap.size (w.heap.size + 1) na (.slice PA k ca) ta nb (.slice PB l cb) tb)
        (first | exact ⟨hSq.1.drew, hSq.2⟩ | (have hH : Ext W _ ∧ _ := (by assumption); exact ⟨hH.1.trans hb, Two53.keep hH.2 (Nat.lt_of_lt_of_le hlt' hH.1.size) (Nat.lt_of_lt_of_le hlt hH.1.size) hb⟩) | (assumption))
        (first
          | (go_at_call 97; (with_reducible refine (c97.out _ v1 v2 (by (repeat (first | (with_reducible assumption) | (with_reducible refine NatV.drew ?_) | (with_reducible refine NatV.alloc ?_ _) | (with_reducible refine NatV.ext ?_ (by with_reducible assumption))))) (by (repeat (first | (with_reducible assumption) | (with_reducible refine NatV.drew ?_) | (with_reducible refine NatV.alloc ?_ _) | (with_reducible refine NatV.ext ?_ (by with_reducible assumption)))))).mono ?_); rintro e w2 ⟨rfl, hb⟩)
          | (go_at_call 104; (with_reducible refine (c104a.out _ (HA.out.ext (hbW.trans (by assumption : Ext W _ ∧ _).1))).mono ?_); rintro e w2 ⟨v1, rfl, n1, hb⟩)
          | (go_at_call 104; (with_reducible refine (c104b.out _ (HB.out.ext (hbW.trans (by assumption : Ext W _ ∧ _).1))).mono ?_); rintro e w2 ⟨v2, rfl, n2, hb⟩))
      all_goals have hS3 : Ext W w2 ∧ Two53 w2 w.heap.size (w.heap.size + 1) na (.slice PA k ca) ta nb (.slice PB l cb) tb := by assumption
      all_goals rw [← hC.out]
      all_goals go_wp2_with fail
      all_goals go_ret
      all_goals exact ⟨rfl, hbW.trans hS3.1⟩
end Go.Proofs.YtogdiobbjlpmoaaDoor

namespace Go.Proofs.YtogdiobbjlpmoaaDoor
open Go Go.RowKit Cal

set_option maxRecDepth 100000 in
set_option maxHeartbeats 1600000 in
/-- exact.Cmp with nought. -/
theorem ex_cmp0 (na nb : Bool) (va vb : Value) (B : Nat) (ta tb : Int) (w : World) (hA : NatV w va (wlen 0) 0) (hB : NatV w vb (wlen B) B) :
    Calls Tryd.prog 49 #[.agg #[.bool na, va, .int .i64 ta, .int .i64 0], .agg #[.bool nb, vb, .int .i64 tb, .int .i64 0]] w fun e w' => e = .returned (.int .i64 (ncmp 0 B)) ∧ Ext w w' := by
  have hA' := hA
  have hB' := hB
  obtain ⟨_, PA, ca, rfl, _⟩ := hA'
  obtain ⟨_, PB, cb, rfl, _⟩ := hB'
  rw [wlen_zero] at hA ⊢
  have c97 := Lib.hid (fun W h h' => nat_cmp (.slice PA 0 ca) (.slice PB (wlen B) cb) 0 (wlen B) 0 B W h h')
  generalize ncmp 0 B = C at *
  generalize wlen B = L at *
  have HA := Lib.hid ((hA.alloc (.cells #[.bool na, .slice PA 0 ca, .int .i64 ta, .int .i64 0] 53)).alloc (.cells #[.bool nb, .slice PB L cb, .int .i64 tb, .int .i64 0] 53))
  have HB := Lib.hid ((hB.alloc (.cells #[.bool na, .slice PA 0 ca, .int .i64 ta, .int .i64 0] 53)).alloc (.cells #[.bool nb, .slice PB L cb, .int .i64 tb, .int .i64 0] 53))
  clear hA hB
  go_enter Tryd.func49, Tryd.ntmps49
  go_wp2_with fail
  refine (c97.out _ HA.out HB.out).mono ?_
  rintro e w1 ⟨rfl, hb1⟩
  go_wp2_with fail
  go_ret
  exact ⟨rfl, by (repeat (first | (with_reducible exact Ext.refl _) | (with_reducible assumption) | (with_reducible refine Ext.drew ?_) | (with_reducible refine Ext.drewN ?_ _) | (with_reducible refine Ext.alloc ?_ _) | (with_reducible refine Ext.setCell ?_ (Nat.le_refl _) _) | (with_reducible refine Ext.setCell ?_ (by simp; try omega) _) | (with_reducible refine Ext.trans ?_ (by with_reducible assumption))))⟩

theorem Blk.put4 {w : World} {b : Nat} {t : TypeId} {o0 o1 o2 o3 a0 a1 a2 a3 : Value} (h : Blk w b t #[o0, o1, o2, o3]) :
    Blk ((((w.setCell ⟨b, 0, none⟩ a0).setCell ⟨b, 1, none⟩ a1).setCell ⟨b, 2, none⟩ a2).setCell ⟨b, 3, none⟩ a3) b t #[a0, a1, a2, a3] := by
  have h4 := (((h.set_ 0 a0).set_ 1 a1).set_ 2 a2).set_ 3 a3
  simpa using h4
theorem load53 {w : World} {b : Nat} {a0 : Bool} {A : Option Addr} {k c : Nat} {a2 a3 : Value} (h2 : ∃ z, a2 = .int .i64 z) (h3 : ∃ z, a3 = .int .i64 z) (h : Blk w b 53 #[.bool a0, .slice A k c, a2, a3]) : (loadVar 53 ⟨b, 0, none⟩).run Tryd.prog w = .ok (.agg #[.bool a0, .slice A k c, a2, a3]) w := by
  have hc := h.cell
  obtain ⟨_, rfl⟩ := h2
  obtain ⟨_, rfl⟩ := h3
  simp [go_sem, hc]
theorem ret_cell {P : Program} {fn : Func} {p : Tmp} {ty : TypeId} (h : fn.results = #[.cell p ty]) {tmps : Array Value} {w : World} {b : Nat} {v : Value}
    (hp : tmps.getD p undef = .pointer (some ⟨b, 0, none⟩)) (hl : (loadVar ty ⟨b, 0, none⟩).run P w = .ok v w) : (results fn tmps).run P w = .ok v w := by
  have ha : (asAddr (.pointer (some ⟨b, 0, none⟩))).run P w = .ok ⟨b, 0, none⟩ w := rfl
  have hp' : tmps[p]?.getD undef = .pointer (some ⟨b, 0, none⟩) := by simpa using hp
  simp [results, h]
  rw [hp', ha]
  exact hl

theorem NatV.store53 {w : World} {g : Nat} {a0 b0 : Bool} {A B : Option Addr} {k c k' c' : Nat} {x y x' y' : Int} {v : Value} {l n : Nat} (hB : Blk w g 53 #[.bool a0, .slice A k c, .int .i64 x, .int .i64 y]) (h : NatV w v l n) :
    NatV ((((w.setCell ⟨g, 0, none⟩ (.bool b0)).setCell ⟨g, 1, none⟩ (.slice B k' c')).setCell ⟨g, 2, none⟩ (.int .i64 x')).setCell ⟨g, 3, none⟩ (.int .i64 y')) v l n := by
  obtain ⟨h0, P, cap, h1, h2, h3, h4⟩ := h
  refine ⟨h0, P, cap, h1, h2, h3, fun hl => ?_⟩
  obtain ⟨b, off, e, hb, hc⟩ := h4 hl
  have hne : b ≠ g := by
    rintro rfl
    have e1 := hc 0 hl
    rw [Nat.add_zero, hB.cell off] at e1
    have : off = 0 ∨ off = 1 ∨ off = 2 ∨ off = 3 ∨ 4 ≤ off := by omega
    rcases this with rfl | rfl | rfl | rfl | h5
    · simp at e1
    · simp at e1
    · simp at e1
    · simp at e1
    · rw [Array.getElem?_eq_none (by simpa using h5)] at e1
      cases e1
  have hne2 : ∀ j i, (⟨g, j, none⟩ : Addr) ≠ ⟨b, i, none⟩ := by
    intro j i e2
    injection e2 with e2
    exact hne e2.symm
  refine ⟨b, off, e, by simpa [World.setCell] using hb, fun j hj => ?_⟩
  rw [World.cell?_setCell_other _ _ _ _ (hne2 _ _), World.cell?_setCell_other _ _ _ _ (hne2 _ _), World.cell?_setCell_other _ _ _ _ (hne2 _ _), World.cell?_setCell_other _ _ _ _ (hne2 _ _)]
  exact hc j hj

/-- A value's cells in a box. -/
abbrev Bx25 (w : World) (b : Nat) (neg : Bool) (m : Nat) (t : Int) : Prop := w.cell? ⟨b, 1, none⟩ = some (.bool neg) ∧ w.cell? ⟨b, 2, none⟩ = some (.int .u64 m) ∧ w.cell? ⟨b, 3, none⟩ = some (.int .i64 t)
theorem Bx25.keep {w w1 : World} {b : Nat} {neg : Bool} {m : Nat} {t : Int} (h : Bx25 w b neg m t) (hb : b < w.heap.size) (he : Ext w w1) : Bx25 w1 b neg m t := by
  obtain ⟨a0, a1, a2⟩ := h
  refine ⟨?_, ?_, ?_⟩
  all_goals (rw [he.cell (show b < w.heap.size from hb)]; assumption)
theorem Bx25.far {w : World} {b c j : Nat} {neg : Bool} {m : Nat} {t : Int} (h : Bx25 w b neg m t) (hne : b ≠ c) (u : Value) : Bx25 (w.setCell ⟨c, j, none⟩ u) b neg m t := by
  obtain ⟨a0, a1, a2⟩ := h
  refine ⟨?_, ?_, ?_⟩
  all_goals (rw [World.cell?_setCell_other _ _ _ _ (by intro e; injection e with e; exact hne e.symm)]; assumption)

/-- An exact number and true are answered. -/
def RetEx1 (w : World) (neg : Bool) (n : Nat) (two five : Int) (e : Ending) (w' : World) : Prop := ∃ v, e = .returned (.tuple #[.agg #[.bool neg, v, .int .i64 two, .int .i64 five], .bool true]) ∧ NatV w' v (wlen n) n ∧ Ext w w'

set_option maxRecDepth 100000 in
set_option maxHeartbeats 3200000 in
/-- exact.Of of a value that is Finite. -/
theorem ex_of (neg : Bool) (m : Nat) (t : Int) (hm : m < 18446744073709551616) (h1 : -5000 ≤ t) (h2 : t ≤ 5000) (w : World) :
    Calls Tryd.prog 45 #[.agg #[.int .i64 2, .bool neg, .int .u64 m, .int .i64 t]] w (RetEx1 w neg m t 0) := by
  have c93 := Lib.hid (fun W => in_any t W)
  rw [decide_eq_true (show -5000 ≤ t ∧ t ≤ 5000 from ⟨h1, h2⟩)] at c93
  have c48 := Lib.hid (fun W => nat_of m hm W)
  go_enter Tryd.func45, Tryd.ntmps45
  go_wp2_with (go_at_call 93; (with_reducible refine (c93.out _).mono ?_); rintro e w1 ⟨rfl, rfl⟩)
  obtain ⟨W, hW⟩ : ∃ W, W = (w.alloc (.cells #[.int .i64 2, .bool neg, .int .u64 m, .int .i64 t] 25)).alloc (.cells #[.bool false, .slice none 0 0, .int .i64 0, .int .i64 0] 53) := ⟨_, rfl⟩
  have hbW : Ext w W := by rw [hW]; exact ((Ext.refl w).alloc _).alloc _
  have B1 : Blk W w.heap.size 25 #[.int .i64 2, .bool neg, .int .u64 m, .int .i64 t] := by rw [hW]; exact (Blk.new w 25 _).alloc _
  have B2 : Blk W (w.heap.size + 1) 53 #[.bool false, .slice none 0 0, .int .i64 0, .int .i64 0] := by
    rw [hW]
    have := Blk.new (w.alloc (.cells #[.int .i64 2, .bool neg, .int .u64 m, .int .i64 t] 25)) 53 #[.bool false, .slice none 0 0, .int .i64 0, .int .i64 0]
    rwa [show (w.alloc (.cells #[.int .i64 2, .bool neg, .int .u64 m, .int .i64 t] 25)).heap.size = w.heap.size + 1 from by simp] at this
  rw [← hW]
  clear hW
  have HB2 := Lib.hid B2
  have HB1 := Lib.hid B1
  have h0 : Bx25 W w.heap.size neg m t := ⟨HB1.out.cell 1, HB1.out.cell 2, HB1.out.cell 3⟩
  have hlW : w.heap.size < W.heap.size := HB1.out.lt
  clear B1 B2
  go_region_held3 (fun w' => Ext w w' ∧ w.heap.size < w'.heap.size ∧ Bx25 w' w.heap.size neg m t)
    (first
      | exact ⟨hbW.drew, hlW, h0⟩
      | (have hH : Ext w _ ∧ _ ∧ Bx25 _ w.heap.size neg m t := (by assumption); exact ⟨hH.1.trans hb, Nat.lt_of_lt_of_le hH.2.1 hb.size, Bx25.keep hH.2.2 hH.2.1 hb⟩)
      | (have hH : Ext w w1 ∧ _ ∧ Bx25 w1 w.heap.size neg m t := (by assumption); exact ⟨(((hH.1.setCell (Nat.le_succ _) _).setCell (Nat.le_succ _) _).setCell (Nat.le_succ _) _).setCell (Nat.le_succ _) _, by simpa [World.setCell] using hH.2.1, (((hH.2.2.far (Nat.ne_of_lt (Nat.lt_succ_self _)) _).far (Nat.ne_of_lt (Nat.lt_succ_self _)) _).far (Nat.ne_of_lt (Nat.lt_succ_self _)) _).far (Nat.ne_of_lt (Nat.lt_succ_self _)) _⟩)
      | (assumption))
    (first
      | (go_at_call 48; (with_reducible refine (c48.out _).mono ?_); rintro e w1 ⟨v1, rfl, n1, hb⟩; have n1' := n1; obtain ⟨_, A1, cap1, rfl, _⟩ := n1'; have r1 := HB2.out.ext ((Ext.refl W).drew.trans hb); have rc0 : w1.cell? ⟨w.heap.size + 1, 0, none⟩ = some (.bool false) := r1.cell 0; have rc1 : w1.cell? ⟨w.heap.size + 1, 1, none⟩ = some (.slice none 0 0) := r1.cell 1; have rc2 : w1.cell? ⟨w.heap.size + 1, 2, none⟩ = some (.int .i64 0) := r1.cell 2; have rc3 : w1.cell? ⟨w.heap.size + 1, 3, none⟩ = some (.int .i64 0) := r1.cell 3; have rf := r1.frozen))
  have hS : Ext w w1 := hbW.trans ((Ext.refl W).drew.trans hb)
  have r1 := HB2.out.ext ((Ext.refl W).drew.trans hb)
  have n2 := NatV.store53 (b0 := neg) (B := A1) (k' := wlen m) (c' := cap1) (x' := t) (y' := 0) r1 n1
  have B7 := Blk.put4 (a0 := .bool neg) (a1 := .slice A1 (wlen m) cap1) (a2 := .int .i64 t) (a3 := .int .i64 0) r1
  clear r1
  go_wp2_with fail
  exact bodyPost_ret (v := .tuple #[.agg #[.bool neg, .slice A1 (wlen m) cap1, .int .i64 t, .int .i64 0], .bool true]) (ret_blk Tryd.results45 rfl (load53 ⟨_, rfl⟩ ⟨_, rfl⟩ B7) rfl) rfl
    ⟨_, rfl, n2, (((hS.setCell (Nat.le_succ _) _).setCell (Nat.le_succ _) _).setCell (Nat.le_succ _) _).setCell (Nat.le_succ _) _⟩
end Go.Proofs.YtogdiobbjlpmoaaDoor

namespace Go.Proofs.YtogdiobbjlpmoaaDoor
open Go Go.RowKit Cal

theorem num_small (f : Frm) (more key : Nat) (h : NumOk f more key) (hk : key < 2 ^ 64) : -5000 ≤ (number f more key).2 ∧ (number f more key).2 ≤ 5000 := by
  have hkd := h.kind
  have : f.kind = 1 ∨ f.kind = 2 ∨ f.kind = 3 ∨ f.kind = 4 := by omega
  rcases this with k | k | k | k
  · obtain ⟨a, b, c, d⟩ := h.one k
    rw [number_1 f _ _ k, pval_eq]
    have hr1 := prun_le (f.width + more - 1) key
    have hL : pleft (f.width + more - 1) key ≤ 64 := by unfold pleft; omega
    have hp : prest (f.width + more - 1) key < 2 ^ pleft (f.width + more - 1) key := Nat.mod_lt _ (two_pos _)
    have hx := pscale_le _ _ hp
    have hg : -64 ≤ preg (f.width + more - 1) key ∧ preg (f.width + more - 1) key ≤ 64 := by unfold preg; split <;> omega
    have hb := odd_bounds (pmant (pleft (f.width + more - 1) key) (prest (f.width + more - 1) key)) (4 * preg (f.width + more - 1) key + pscale (pleft (f.width + more - 1) key) (prest (f.width + more - 1) key) - ((pleft (f.width + more - 1) key - 2 : Nat) : Int)) (pmant_lt _ _ hL)
    omega
  · obtain ⟨a, b, c⟩ := h.two k
    rw [number_2 f _ _ k]
    by_cases h0 : key = 0
    · subst h0
      have : mval (f.man + more) f.bias 0 = (0, 0) := rfl
      rw [this]
      decide
    · rw [mval_eq _ _ _ h0]
      have hb := odd_bounds (mnum (f.man + more) key) ((max (key / 2 ^ (f.man + more)) 1 : Nat) - (f.bias : Int) - (f.man + more : Nat)) (mnum_lt _ _ (by omega))
      generalize key / 2 ^ (f.man + more) = q at *
      omega
  · have a := h.three k
    rw [number_3 f _ _ k]
    have hb := odd_bounds key (-(f.man : Int) - more) hk
    omega
  · obtain ⟨a, b, c⟩ := h.four k
    rw [number_4 f _ _ k]
    have h3 : key / 2 ^ more ≤ key := Nat.div_le_self _ _
    generalize key / 2 ^ more = q at *
    show -5000 ≤ (q : Int) - f.bias - more ∧ (q : Int) - f.bias - more ≤ 5000
    omega
/-- What a boundary is: odd, and its power small. -/
theorem bet_small (n key : Nat) (h1 : 1 ≤ n) (h2 : n ≤ 14) (hk : key ≤ lastKey (frm n)) : 0 < (betV n key).1 ∧ (betV n key).1 < 18446744073709551616 ∧ -5000 ≤ (betV n key).2.1 ∧ (betV n key).2.1 ≤ 5000 := by
  have hl := (lastKey_lt n h1 h2).1
  rw [betV_num h1 h2 hk]
  have hok := numOk_1 n key h1 h2 hk
  have ho := number_odd (frm n) 1 (2 * key + 1) hok (by omega) (.inl (by omega)) (Nat.le_refl _)
  obtain ⟨a, _, _⟩ := num_bounds (frm n) 1 (2 * key + 1) hok (by omega)
  obtain ⟨b, c⟩ := num_small (frm n) 1 (2 * key + 1) hok (by omega)
  exact ⟨by show 0 < (number (frm n) 1 (2 * key + 1)).1; omega, a, b, c⟩

set_option maxRecDepth 100000 in
set_option maxHeartbeats 1600000 in
/-- round.size of what is not nought. -/
theorem r_size (m : Nat) (t : Int) (hm0 : 0 < m) (hm : m < 18446744073709551616) (h1 : -5000 ≤ t) (h2 : t ≤ 5000) (w : World) :
    Calls Tryd.prog 155 #[.int .u64 m, .int .i64 t] w (RetEx w false m t 0) := by
  have c45 := Lib.hid (fun W => ex_of false m t hm h1 h2 W)
  have z : ((m : Int) == 0) = false := bfalse (b := 0) (by omega)
  go_enter Tryd.func155, Tryd.ntmps155
  go_wp2_with fail
  refine (c45.out _).mono ?_
  rintro e w1 ⟨v1, rfl, n1, hb1⟩
  have n1' := n1
  obtain ⟨_, A1, cap1, rfl, _⟩ := n1'
  have r1 := (Blk.new w 53 #[.bool false, .slice none 0 0, .int .i64 0, .int .i64 0]).ext hb1
  have l1 := r1.lt
  have c0 : w1.cell? ⟨w.heap.size, 0, none⟩ = some (.bool false) := r1.cell 0
  have c1 : w1.cell? ⟨w.heap.size, 1, none⟩ = some (.slice none 0 0) := r1.cell 1
  have c2 : w1.cell? ⟨w.heap.size, 2, none⟩ = some (.int .i64 0) := r1.cell 2
  have c3 : w1.cell? ⟨w.heap.size, 3, none⟩ = some (.int .i64 0) := r1.cell 3
  have f1 := r1.frozen
  have hx1 : Ext w w1 := ((Ext.refl w).alloc _).trans hb1
  have n2 := Lib.hid ((NatV.store53 (b0 := false) (B := A1) (k' := wlen m) (c' := cap1) (x' := t) (y' := 0) r1 n1).alloc (.cells #[.bool false, .slice A1 (wlen m) cap1, .int .i64 t, .int .i64 0] 53))
  have B7 := Lib.hid ((Blk.put4 (a0 := .bool false) (a1 := .slice A1 (wlen m) cap1) (a2 := .int .i64 t) (a3 := .int .i64 0) r1).alloc (.cells #[.bool false, .slice A1 (wlen m) cap1, .int .i64 t, .int .i64 0] 53))
  clear r1
  go_wp2_with fail
  exact bodyPost_ret (v := .agg #[.bool false, .slice A1 (wlen m) cap1, .int .i64 t, .int .i64 0]) (ret_cell Tryd.results155 rfl (load53 ⟨_, rfl⟩ ⟨_, rfl⟩ B7.out)) rfl ⟨_, rfl, n2.out, by (repeat (first | (with_reducible exact Ext.refl _) | (with_reducible assumption) | (with_reducible refine Ext.drew ?_) | (with_reducible refine Ext.drewN ?_ _) | (with_reducible refine Ext.alloc ?_ _) | (with_reducible refine Ext.setCell ?_ (Nat.le_refl _) _) | (with_reducible refine Ext.setCell ?_ (by simp; try omega) _) | (with_reducible refine Ext.trans ?_ (by with_reducible assumption))))⟩

set_option maxRecDepth 100000 in
set_option maxHeartbeats 1600000 in
/-- round.behind. -/
theorem r_behind (n key : Nat) (h1 : 1 ≤ n) (h2 : n ≤ 14) (hk : key ≤ lastKey (frm n)) (w : World) (hE : Env w) :
    Calls Tryd.prog 133 #[.int .i64 n, .int .u64 key] w (RetEx w false (betV n key).1 (betV n key).2.1 0) := by
  obtain ⟨p1, p2, p3, p4⟩ := bet_small n key h1 h2 hk
  have c30 := Lib.hid (fun W h => between_any n key W h)
  have c155 := Lib.hid (fun W => r_size (betV n key).1 (betV n key).2.1 p1 p2 p3 p4 W)
  generalize betV n key = b at *
  obtain ⟨m, t, er⟩ := b
  simp only at c30 c155 ⊢
  clear p1 p2 p3 p4
  go_enter Tryd.func133, Tryd.ntmps133
  go_wp2_with fail
  refine (c30.out _ (hE.alloc _)).mono ?_
  rintro e w1 ⟨rfl, hb1⟩
  go_wp2_with fail
  refine (c155.out _).mono ?_
  rintro e w2 ⟨v1, rfl, n1, hb2⟩
  have n1' := n1
  obtain ⟨_, A1, cap1, rfl, _⟩ := n1'
  have r1 := (Blk.new w 53 #[.bool false, .slice none 0 0, .int .i64 0, .int .i64 0]).ext (hb1.trans hb2)
  have c0 : w2.cell? ⟨w.heap.size, 0, none⟩ = some (.bool false) := r1.cell 0
  have c1 : w2.cell? ⟨w.heap.size, 1, none⟩ = some (.slice none 0 0) := r1.cell 1
  have c2 : w2.cell? ⟨w.heap.size, 2, none⟩ = some (.int .i64 0) := r1.cell 2
  have c3 : w2.cell? ⟨w.heap.size, 3, none⟩ = some (.int .i64 0) := r1.cell 3
  have f1 := r1.frozen
  have hx1 : Ext w w2 := ((Ext.refl w).alloc _).trans (hb1.trans hb2)
  have n2 := Lib.hid (NatV.store53 (b0 := false) (B := A1) (k' := wlen m) (c' := cap1) (x' := t) (y' := 0) r1 n1)
  have B7 := Lib.hid (Blk.put4 (a0 := .bool false) (a1 := .slice A1 (wlen m) cap1) (a2 := .int .i64 t) (a3 := .int .i64 0) r1)
  clear r1
  go_wp2_with fail
  exact bodyPost_ret (v := .agg #[.bool false, .slice A1 (wlen m) cap1, .int .i64 t, .int .i64 0]) (ret_cell Tryd.results133 rfl (load53 ⟨_, rfl⟩ ⟨_, rfl⟩ B7.out)) rfl ⟨_, rfl, n2.out, by (repeat (first | (with_reducible exact Ext.refl _) | (with_reducible assumption) | (with_reducible refine Ext.drew ?_) | (with_reducible refine Ext.drewN ?_ _) | (with_reducible refine Ext.alloc ?_ _) | (with_reducible refine Ext.setCell ?_ (Nat.le_refl _) _) | (with_reducible refine Ext.setCell ?_ (by simp; try omega) _) | (with_reducible refine Ext.trans ?_ (by with_reducible assumption))))⟩

set_option maxRecDepth 100000 in
set_option maxHeartbeats 1600000 in
/-- round.zero. -/
theorem r_zero (neg : Bool) (v : Value) (n : Nat) (t : Int) (w : World) (h : NatV w v (wlen n) n) :
    Calls Tryd.prog 114 #[.agg #[.bool neg, v, .int .i64 t, .int .i64 0]] w fun e w' => e = .returned (.bool (decide (n = 0))) ∧ Ext w w' := by
  obtain ⟨_, A, cap, rfl, _⟩ := h
  rcases Nat.eq_zero_or_pos n with h0 | h0
  · rw [decide_eq_true h0]
    have : wlen n = 0 := by rw [h0]; exact wlen_zero
    rw [this]
    clear h0 this
    go_enter Tryd.func114, Tryd.ntmps114
    go_wp2_with fail
    go_ret
    exact ⟨rfl, by (repeat (first | (with_reducible exact Ext.refl _) | (with_reducible assumption) | (with_reducible refine Ext.drew ?_) | (with_reducible refine Ext.drewN ?_ _) | (with_reducible refine Ext.alloc ?_ _) | (with_reducible refine Ext.setCell ?_ (Nat.le_refl _) _) | (with_reducible refine Ext.setCell ?_ (by simp; try omega) _) | (with_reducible refine Ext.trans ?_ (by with_reducible assumption))))⟩
  · rw [decide_eq_false (show ¬ n = 0 by omega)]
    have hl := wlen_pos.2 h0
    generalize wlen n = L at *
    have z : ((L : Int) == 0) = false := bfalse (b := 0) (by omega)
    clear h0
    go_enter Tryd.func114, Tryd.ntmps114
    go_wp2_with fail
    go_ret
    exact ⟨rfl, by (repeat (first | (with_reducible exact Ext.refl _) | (with_reducible assumption) | (with_reducible refine Ext.drew ?_) | (with_reducible refine Ext.drewN ?_ _) | (with_reducible refine Ext.alloc ?_ _) | (with_reducible refine Ext.setCell ?_ (Nat.le_refl _) _) | (with_reducible refine Ext.setCell ?_ (by simp; try omega) _) | (with_reducible refine Ext.trans ?_ (by with_reducible assumption))))⟩

set_option maxRecDepth 100000 in
set_option maxHeartbeats 1600000 in
/-- exact.Right of what is right. -/
theorem ex_right (neg : Bool) (v : Value) (n : Nat) (t : Int) (hn : wlen n ≤ 128) (h1 : -5000 ≤ t) (h2 : t ≤ 5000) (w : World) (h : NatV w v (wlen n) n) :
    Calls Tryd.prog 95 #[.agg #[.bool neg, v, .int .i64 t, .int .i64 0]] w fun e w' => e = .returned (.bool true) ∧ Ext w w' := by
  have c93 := Lib.hid (fun W => in_any t W)
  rw [decide_eq_true (show -5000 ≤ t ∧ t ≤ 5000 from ⟨h1, h2⟩)] at c93
  have d93 := Lib.hid (fun W => in_any 0 W)
  rw [decide_eq_true (show -5000 ≤ (0 : Int) ∧ (0 : Int) ≤ 5000 by decide)] at d93
  obtain ⟨_, A, cap, rfl, hk1, hk2, h4⟩ := h
  rcases Nat.eq_zero_or_pos n with h0 | h0
  · subst h0
    rw [wlen_zero]
    clear h4 hn
    go_enter Tryd.func95, Tryd.ntmps95
    go_wp2_with (first | (go_at_call 93; (with_reducible refine (c93.out _).mono ?_); rintro e w1 ⟨rfl, rfl⟩) | (go_at_call 93; (with_reducible refine (d93.out _).mono ?_); rintro e w1 ⟨rfl, rfl⟩))
    go_ret
    exact ⟨rfl, by (repeat (first | (with_reducible exact Ext.refl _) | (with_reducible assumption) | (with_reducible refine Ext.drew ?_) | (with_reducible refine Ext.drewN ?_ _) | (with_reducible refine Ext.alloc ?_ _) | (with_reducible refine Ext.setCell ?_ (Nat.le_refl _) _) | (with_reducible refine Ext.setCell ?_ (by simp; try omega) _) | (with_reducible refine Ext.trans ?_ (by with_reducible assumption))))⟩
  · have hl := wlen_pos.2 h0
    obtain ⟨b, off, rfl, hb, hc⟩ := h4 hl
    have ht := word_top h0
    have hc1 := hc (wlen n - 1) (by omega)
    generalize word n (wlen n - 1) = x at *
    obtain ⟨L, hL⟩ : ∃ L, L = wlen n - 1 := ⟨_, rfl⟩
    rw [← hL] at hc1
    have hlL : (wlen n : Int) - 1 = (L : Int) := by omega
    have z : ((wlen n : Int) == 0) = false := bfalse (b := 0) (by omega)
    have hx : ((x : Int) != 0) = true := ntrue (b := 0) ht
    have hd : decide ((wlen n : Int) ≤ 128) = true := decide_eq_true (by omega)
    have hd' : decide (wlen n ≤ 128) = true := decide_eq_true hn
    have hLlt : (L : Int) < (wlen n : Int) := by omega
    generalize wlen n = K at *
    have HC := Lib.hid hc1
    have hc2 : (w.alloc (.cells #[.bool neg, .slice (some ⟨b, off, none⟩) K cap, .int .i64 t, .int .i64 0] 53)).cell? ⟨b, off + L, none⟩ = some (.int .u64 (x : Int)) := by rw [World.cell?_alloc_lt w _ _ hb]; exact hc1
    clear hc ht hL h0 h4
    unfold maxLen at hk2
    go_enter Tryd.func95, Tryd.ntmps95
    go_wp2_with (first | (go_at_call 93; (with_reducible refine (c93.out _).mono ?_); rintro e w1 ⟨rfl, rfl⟩) | (go_at_call 93; (with_reducible refine (d93.out _).mono ?_); rintro e w1 ⟨rfl, rfl⟩))
    go_ret
    exact ⟨rfl, by (repeat (first | (with_reducible exact Ext.refl _) | (with_reducible assumption) | (with_reducible refine Ext.drew ?_) | (with_reducible refine Ext.drewN ?_ _) | (with_reducible refine Ext.alloc ?_ _) | (with_reducible refine Ext.setCell ?_ (Nat.le_refl _) _) | (with_reducible refine Ext.setCell ?_ (by simp; try omega) _) | (with_reducible refine Ext.trans ?_ (by with_reducible assumption))))⟩
end Go.Proofs.YtogdiobbjlpmoaaDoor

namespace Go.Proofs.YtogdiobbjlpmoaaDoor
open Go Go.RowKit Cal

/-- A number, of no sign, against another one. -/
def cmpx (N : Nat) (t : Int) (B : Nat) (tb : Int) : Int := if N = 0 then ncmp 0 B else excmp N t B tb
/-- Is a size to be rounded to this magnitude, or a lesser one? -/
def wthn (n N : Nat) (t : Int) (key : Nat) : Bool :=
  decide (cmpx N t (betV n key).1 (betV n key).2.1 < 0) || (decide (cmpx N t (betV n key).1 (betV n key).2.1 = 0) && decide (key % 2 = 0))

theorem ex_cmpx (na nb : Bool) (va vb : Value) (A B : Nat) (ta tb : Int) (ha : -20000 ≤ ta ∧ ta ≤ 20000) (hb' : -20000 ≤ tb ∧ tb ≤ 20000) (w : World) (hA : NatV w va (wlen A) A) (hB : NatV w vb (wlen B) B) (hk : wlen A ≤ 10000) (hl : wlen B ≤ 10000) (hB0 : 0 < B) :
    Calls Tryd.prog 49 #[.agg #[.bool na, va, .int .i64 ta, .int .i64 0], .agg #[.bool nb, vb, .int .i64 tb, .int .i64 0]] w fun e w' => e = .returned (.int .i64 (cmpx A ta B tb)) ∧ Ext w w' := by
  unfold cmpx
  by_cases h : A = 0
  · subst h
    rw [if_pos rfl]
    exact ex_cmp0 na nb va vb B ta tb w hA hB
  · rw [if_neg h]
    exact ex_cmp na nb va vb (wlen A) (wlen B) A B ta tb ha hb' w hA hB hk hl (by omega) hB0

abbrev Bx53 (w : World) (b : Nat) (neg : Bool) (v : Value) (t : Int) : Prop :=
  w.cell? ⟨b, 0, none⟩ = some (.bool neg) ∧ w.cell? ⟨b, 1, none⟩ = some v ∧ w.cell? ⟨b, 2, none⟩ = some (.int .i64 t) ∧ w.cell? ⟨b, 3, none⟩ = some (.int .i64 0)
theorem Bx53.keep {w w1 : World} {b : Nat} {neg : Bool} {v : Value} {t : Int} (h : Bx53 w b neg v t) (hb : b < w.heap.size) (he : Ext w w1) : Bx53 w1 b neg v t := by
  obtain ⟨a0, a1, a2, a3⟩ := h
  refine ⟨?_, ?_, ?_, ?_⟩
  all_goals (rw [he.cell (show b < w.heap.size from hb)]; assumption)
theorem Bx53.of {w : World} {b : Nat} {neg : Bool} {v : Value} {t : Int} (h : Blk w b 53 #[.bool neg, v, .int .i64 t, .int .i64 0]) : Bx53 w b neg v t := ⟨h.cell 0, h.cell 1, h.cell 2, h.cell 3⟩

set_option maxRecDepth 100000 in
set_option maxHeartbeats 3200000 in
theorem r_within (n key : Nat) (h1 : 1 ≤ n) (h2 : n ≤ 14) (hk : key ≤ lastKey (frm n)) (neg : Bool) (v : Value) (N : Nat) (t : Int) (ht : -5000 ≤ t ∧ t ≤ 5000) (hN : wlen N ≤ 128) (w : World) (hE : Env w) (h : NatV w v (wlen N) N) :
    Calls Tryd.prog 141 #[.int .i64 n, .agg #[.bool neg, v, .int .i64 t, .int .i64 0], .int .u64 key] w fun e w' => e = .returned (.bool (wthn n N t key)) ∧ Ext w w' := by
  obtain ⟨p1, p2, p3, p4⟩ := bet_small n key h1 h2 hk
  have hlk := (lastKey_lt n h1 h2).1
  have c133 := Lib.hid (fun W h => r_behind n key h1 h2 hk W h)
  have hwb : wlen (betV n key).1 ≤ 1 := (wlen_le _ _).2 (by simpa using p2)
  have hres : Hid (wthn n N t key = (decide (cmpx N t (betV n key).1 (betV n key).2.1 < 0) || (decide (cmpx N t (betV n key).1 (betV n key).2.1 = 0) && decide (key % 2 = 0)))) := rfl
  have h' := h
  obtain ⟨_, A, cap, rfl, _⟩ := h'
  have c49 := Lib.hid (fun W u hA hB => ex_cmpx neg false (.slice A (wlen N) cap) u N (betV n key).1 t (betV n key).2.1 (by omega) (by omega) W hA hB (by omega) (by omega) p1)
  generalize wthn n N t key = R at *
  generalize betV n key = b at *
  obtain ⟨m, tb, er⟩ := b
  simp only at c133 c49 hres
  generalize cmpx N t m tb = C at *
  have HX := Lib.hid h
  have hand : bits .and .u64 (key : Int) 1 = ((key % 2 : Nat) : Int) := by
    have := u_and_mask key 1 (by omega) (by decide)
    simpa using this
  clear p1 p2 p3 p4 h
  generalize wlen N = L at *
  go_enter Tryd.func141, Tryd.ntmps141
  go_wp2_with fail
  obtain ⟨W, hW⟩ : ∃ W, W = w.alloc (.cells #[.bool neg, .slice A L cap, .int .i64 t, .int .i64 0] 53) := ⟨_, rfl⟩
  have hbW : Ext w W := by rw [hW]; exact (Ext.refl w).alloc _
  have B0 : Bx53 W w.heap.size neg (.slice A L cap) t := by rw [hW]; exact Bx53.of (Blk.new w 53 _)
  have hlt : w.heap.size < W.heap.size := by rw [hW]; simp
  rw [← hW]
  clear hW
  go_region_held3 (fun w' => Ext W w' ∧ Bx53 w' w.heap.size neg (.slice A L cap) t)
    (first | exact ⟨(Ext.refl W).drew, B0⟩ | (have hH : Ext W _ ∧ Bx53 _ w.heap.size neg (.slice A L cap) t := (by assumption); exact ⟨hH.1.trans hb, Bx53.keep hH.2 (Nat.lt_of_lt_of_le hlt hH.1.size) hb⟩) | (assumption))
    (first
      | (go_at_call 133; (with_reducible refine (c133.out _ (hE.ext (hbW.trans (by assumption : Ext W _ ∧ Bx53 _ w.heap.size neg (.slice A L cap) t).1))).mono ?_); rintro e w1 ⟨v1, rfl, n1, hb⟩; have n1' := n1; obtain ⟨_, A1, cap1, rfl, _⟩ := n1')
      | (go_at_call 49; (with_reducible refine (c49.out _ (.slice A1 (wlen m) cap1) (HX.out.ext (hbW.trans (by assumption : Ext W _ ∧ Bx53 _ w.heap.size neg (.slice A L cap) t).1)) (by (repeat (first | (with_reducible assumption) | (with_reducible refine NatV.drew ?_) | (with_reducible refine NatV.alloc ?_ _) | (with_reducible refine NatV.ext ?_ (by with_reducible assumption)))))).mono ?_); rintro e w1 ⟨rfl, hb⟩))
  all_goals have hS : Ext W w1 ∧ Bx53 w1 w.heap.size neg (.slice A L cap) t := by assumption
  all_goals have hxw : Ext w w1 := hbW.trans hS.1
  all_goals clear hS
  all_goals
    rcases Int.lt_trichotomy C 0 with hc | hc | hc
    · have d1 : decide (C < 0) = true := decide_eq_true hc
      have hR : R = true := by rw [hres.out, d1]; rfl
      subst hR
      clear hres
      go_wp2_with fail
      go_ret
      exact ⟨rfl, hxw⟩
    · subst hc
      by_cases hk2 : key % 2 = 0
      · have d3 : (((key % 2 : Nat) : Int) == 0) = true := btrue (b := 0) hk2
        have d4 : ((key : Int) % 2 == 0) = true := by rw [beq_iff_eq]; omega
        have hR : R = true := by rw [hres.out, decide_eq_true hk2]; rfl
        subst hR
        clear hres
        go_wp2_with fail
        go_ret
        exact ⟨rfl, hxw⟩
      · have d3 : (((key % 2 : Nat) : Int) == 0) = false := bfalse (b := 0) hk2
        have d4 : ((key : Int) % 2 == 0) = false := by rw [beq_eq_false_iff_ne]; omega
        have hR : R = false := by rw [hres.out, decide_eq_false hk2]; rfl
        subst hR
        clear hres
        go_wp2_with fail
        go_ret
        exact ⟨rfl, hxw⟩
    · have d1 : decide (C < 0) = false := decide_eq_false (by omega)
      have d2 : (C == 0) = false := by rw [beq_eq_false_iff_ne]; omega
      have hR : R = false := by rw [hres.out, d1, decide_eq_false (show ¬ C = 0 by omega)]; rfl
      subst hR
      clear hres
      go_wp2_with fail
      go_ret
      exact ⟨rfl, hxw⟩
end Go.Proofs.YtogdiobbjlpmoaaDoor

