/- What a quire holds, as a number below a power of two: sums go round, and what is turned is what is missing. Plain Lean; no condition but those written. A quire in memory, and what its small methods answer. No condition but those written. Quire.Neg, Quire.sum. No condition but those written. Quire.product: the bits of a product of what is meant. No condition but those written. -/
import Derived.Test.YtogdiobbjlpmoaaDoorNatsA
import Derived.Test.YtogdiobbjlpmoaaDoorNatsB
import Derived.Test.YtogdiobbjlpmoaaDoorBits
import Derived.Deep.RegionWith
import Derived.Deep.RegionHeld3
import Derived.IntWalk
namespace Go.Proofs.YtogdiobbjlpmoaaDoor
open Go Go.RowKit Cal

theorem wlen_pow_le {S k : Nat} (h : S < 64 * k) : wlen (2 ^ S) ≤ k := (wlen_le _ _).2 (Nat.pow_lt_pow_right (by decide) h)
theorem wlen_le_pow {B T k : Nat} (hB : B ≤ 2 ^ T) (h : T < 64 * k) : wlen B ≤ k := (wlen_le B k).2 (Nat.lt_of_le_of_lt hB (Nat.pow_lt_pow_right (by decide) h))
theorem pow_two_le {T k : Nat} (h : T + 1 ≤ 64 * k) : 2 ^ T * 2 ≤ 2 ^ (64 * k) := by rw [← Nat.pow_succ]; exact Nat.pow_le_pow_right (by decide) h
def qturn (M b : Nat) : Nat := if b = 0 then 0 else M - b
def qsum (M x b : Nat) : Nat := if M ≤ x + b then x + b - M else x + b
theorem qturn_lt {M b : Nat} (h : b < M) : qturn M b < M := by unfold qturn; split <;> omega
theorem qsum_lt {M x b : Nat} (hx : x < M) (hb : b < M) : qsum M x b < M := by unfold qsum; split <;> omega
theorem qturn_turn {M b : Nat} (h : b < M) : qturn M (qturn M b) = b := by unfold qturn; split <;> (try split) <;> omega
theorem qsum_swap {M x a b : Nat} (hx : x < M) (ha : a < M) (hb : b < M) : qsum M (qsum M x a) b = qsum M (qsum M x b) a := by
  unfold qsum; repeat (first | split | omega)
theorem qsum_back {M x a : Nat} (hx : x < M) (ha : a < M) : qsum M (qsum M x a) (qturn M a) = x := by
  unfold qsum qturn; repeat (first | split | omega)
theorem qsum_turned {M x a : Nat} (hx : x < M) (ha : a < M) : qturn M (qsum M (qturn M x) (qturn M a)) = qsum M x a := by
  unfold qsum qturn; repeat (first | split | omega)
theorem qsum_mod {M x b : Nat} (hx : x < M) (hb : b < M) : qsum M x b = (x + b) % M := by
  unfold qsum
  split
  · rw [Nat.mod_eq_sub_mod (by omega), Nat.mod_eq_of_lt (by omega)]
  · rw [Nat.mod_eq_of_lt (by omega)]
theorem qturn_half {M b h : Nat} (hM : M = 2 * h) (hh : 0 < h) (hb : b < M) : qturn M b = h ↔ b = h := by unfold qturn; split <;> omega
/-- The sum of the first ones. -/
def sumTo (f : Nat → Nat) : Nat → Nat
  | 0 => 0
  | k + 1 => sumTo f k + f k
theorem sumTo_shift (f : Nat → Nat) (n : Nat) : sumTo f (n + 1) = f 0 + sumTo (fun i => f (i + 1)) n := by
  induction n with
  | zero => simp [sumTo]
  | succ n ih =>
    rw [sumTo, ih, sumTo]
    omega
theorem sumTo_congr {f g : Nat → Nat} {n : Nat} (h : ∀ i, i < n → f i = g i) : sumTo f n = sumTo g n := by
  induction n with
  | zero => rfl
  | succ n ih => rw [sumTo, sumTo, ih (fun i hi => h i (by omega)), h n (by omega)]
theorem sumTo_back (f : Nat → Nat) (n : Nat) : sumTo (fun i => f (n - 1 - i)) n = sumTo f n := by
  induction n with
  | zero => rfl
  | succ n ih =>
    rw [sumTo_shift]
    have e : sumTo (fun i => f (n + 1 - 1 - (i + 1))) n = sumTo (fun i => f (n - 1 - i)) n := sumTo_congr (fun i hi => by rw [show n + 1 - 1 - (i + 1) = n - 1 - i from by omega])
    rw [e, ih, sumTo]
    simp
    omega
theorem qsum_to {M : Nat} {f : Nat → Nat} {k x : Nat} (hM : 0 < M) (hx : x = sumTo f k % M) (hf : f k < M) : qsum M x (f k) = sumTo f (k + 1) % M := by
  have hl : x < M := by rw [hx]; exact Nat.mod_lt _ hM
  rw [qsum_mod hl hf, hx, sumTo, Nat.mod_add_mod]
end Go.Proofs.YtogdiobbjlpmoaaDoor

namespace Go.Proofs.YtogdiobbjlpmoaaDoor
open Go Go.RowKit Cal

/-- A quire of form f (its number i), whose bits are B, lies in block g. -/
def QAt (w : World) (g : Nat) (f : Frm) (i : Int) (B : Nat) : Prop := ∃ v, Blk w g 137 #[.int .i64 (f).kind, .int .i64 (f).width, .int .i64 (f).man, .int .i64 (f).bias, .int .u64 (f).top, .int .u64 (f).inf, .int .u64 (f).nan, .int .i64 i, v] ∧ NatV w v (wlen B) B
theorem QAt.keep {w w' : World} {g : Nat} {f : Frm} {i : Int} {B : Nat} (h : QAt w g f i B) (hb : Ext w w') : QAt w' g f i B := by
  obtain ⟨v, h1, h2⟩ := h
  exact ⟨v, h1.ext hb, h2.ext hb⟩
theorem QAt.lt {w : World} {g : Nat} {f : Frm} {i : Int} {B : Nat} (h : QAt w g f i B) : g < w.heap.size := by
  obtain ⟨v, h1, _⟩ := h
  exact h1.lt
theorem Ext.grown {w w' : World} (h : Ext w w') (g : Option Nat) : w.grownBy w' g := by
  have h' : Below w.heap.size w w' := h
  exact ⟨h'.os, h'.tape, h'.output, h'.size, fun k hk _ => h'.block k hk⟩
theorem grown_trans {a b c : World} {g : Nat} (h : a.grownBy b (some g)) (k : b.grownBy c (some g)) : a.grownBy c (some g) :=
  ⟨k.os.trans h.os, k.tape.trans h.tape, k.output.trans h.output, Nat.le_trans h.size k.size, fun i hi hne => (k.block i (Nat.lt_of_lt_of_le hi h.size) hne).trans (h.block i hi hne)⟩
theorem grown_set (w : World) (g j : Nat) (u : Value) : w.grownBy (w.setCell ⟨g, j, none⟩ u) (some g) := by
  refine ⟨rfl, rfl, rfl, by simp [World.setCell], fun k hk hne => ?_⟩
  exact Below.heap_setCell w ⟨g, j, none⟩ u k (fun e => hne (by rw [e]))

set_option maxRecDepth 100000 in
set_option maxHeartbeats 800000 in
theorem q_size (g : Nat) (f : Frm) (i : Int) (v : Value) (hf : f.width ≤ 64) (w : World) (h : Blk w g 137 #[.int .i64 (f).kind, .int .i64 (f).width, .int .i64 (f).man, .int .i64 (f).bias, .int .u64 (f).top, .int .u64 (f).inf, .int .u64 (f).nan, .int .i64 i, v]) :
    Calls Tryd.prog 65 #[.pointer (some ⟨g, 0, none⟩)] w fun e w' => e = .returned (.int .i64 ((16 * f.width : Nat) : Int)) ∧ w = w' := by
  have hc := h.cell
  have hl := h.lt
  go_enter Tryd.func65, Tryd.ntmps65
  go_wp2
  go_ret
  exact ⟨ret1 (by omega), rfl⟩
set_option maxRecDepth 100000 in
set_option maxHeartbeats 800000 in
theorem q_low (g : Nat) (f : Frm) (i : Int) (v : Value) (hf : f.width ≤ 64) (w : World) (h : Blk w g 137 #[.int .i64 (f).kind, .int .i64 (f).width, .int .i64 (f).man, .int .i64 (f).bias, .int .u64 (f).top, .int .u64 (f).inf, .int .u64 (f).nan, .int .i64 i, v]) :
    Calls Tryd.prog 122 #[.pointer (some ⟨g, 0, none⟩)] w fun e w' => e = .returned (.int .i64 (16 - 8 * (f.width : Int))) ∧ w = w' := by
  have hc := h.cell
  have hl := h.lt
  go_enter Tryd.func122, Tryd.ntmps122
  go_wp2
  go_ret
  exact ⟨rfl, rfl⟩
set_option maxRecDepth 100000 in
set_option maxHeartbeats 800000 in
theorem q_power (N : Nat) (hN : N ≤ 131072) (w : World) : Calls Tryd.prog 140 #[.int .i64 N] w (RetNat w (2 ^ N)) := by
  have c48 := Lib.hid (fun W => nat_of 1 (by decide) W)
  have c91 := Lib.hid (fun W v h => nat_shl v (wlen 1) 1 W h (by decide) N N (by omega) (by decide))
  rw [Nat.one_mul] at c91
  go_enter Tryd.func140, Tryd.ntmps140
  go_wp2_with fail
  refine (c48.out _).mono ?_
  rintro e w1 ⟨v1, rfl, h1, hb1⟩
  go_wp2_with fail
  refine (c91.out _ _ h1).mono ?_
  rintro e w2 ⟨v2, rfl, h2, hb2⟩
  go_wp2_with fail
  go_ret
  exact ⟨_, rfl, h2, hb1.trans hb2⟩
set_option maxRecDepth 100000 in
set_option maxHeartbeats 800000 in
theorem q_nar (g : Nat) (f : Frm) (i : Int) (v : Value) (hf : f.width ≤ 64) (hf1 : 1 ≤ f.width) (w : World) (h : Blk w g 137 #[.int .i64 (f).kind, .int .i64 (f).width, .int .i64 (f).man, .int .i64 (f).bias, .int .u64 (f).top, .int .u64 (f).inf, .int .u64 (f).nan, .int .i64 i, v]) :
    Calls Tryd.prog 109 #[.pointer (some ⟨g, 0, none⟩)] w (RetNat w (2 ^ (16 * f.width - 1))) := by
  have c65 := Lib.hid (q_size g f i v hf w h)
  obtain ⟨N, hN⟩ : ∃ N, N = 16 * f.width - 1 := ⟨_, rfl⟩
  have hNI : ((16 * f.width : Nat) : Int) = (N : Int) + 1 := by omega
  have c140 := Lib.hid (fun W => q_power N (by omega) W)
  rw [hNI] at c65
  rw [← hN]
  have hNb : N ≤ 2000 := by omega
  clear hNI hN h
  go_enter Tryd.func109, Tryd.ntmps109
  go_wp2_with fail
  refine c65.out.mono ?_
  rintro e w1 ⟨rfl, rfl⟩
  go_wp2_with fail
  refine (c140.out _).mono ?_
  rintro e w2 ⟨v2, rfl, h2, hb2⟩
  go_wp2_with fail
  go_ret
  exact ⟨_, rfl, h2, hb2⟩
set_option maxRecDepth 100000 in
set_option maxHeartbeats 800000 in
/-- Quire.Bits. -/
theorem q_bits (g : Nat) (f : Frm) (i : Int) (B : Nat) (hB : wlen B ≤ 100000) (w : World) (h : QAt w g f i B) :
    Calls Tryd.prog 57 #[.pointer (some ⟨g, 0, none⟩)] w (RetNat w B) := by
  obtain ⟨v, h1, h2⟩ := h
  have c98 := Lib.hid (nat_clone v (wlen B) B w h2 hB)
  have hc := h1.cell
  go_enter Tryd.func57, Tryd.ntmps57
  go_wp2_with fail
  refine c98.out.mono ?_
  rintro e w1 ⟨v2, rfl, h2, hb2⟩
  go_wp2_with fail
  go_ret
  exact ⟨_, rfl, h2, hb2⟩
set_option maxRecDepth 100000 in
set_option maxHeartbeats 1600000 in
/-- Quire.NaR. -/
theorem q_isnar (g : Nat) (f : Frm) (i : Int) (B : Nat) (hf : f.width ≤ 64) (hf1 : 1 ≤ f.width) (w : World) (h : QAt w g f i B) :
    Calls Tryd.prog 55 #[.pointer (some ⟨g, 0, none⟩)] w fun e w' => e = .returned (.bool (decide (B = 2 ^ (16 * f.width - 1)))) ∧ Ext w w' := by
  obtain ⟨v, h1, h2⟩ := h
  have h2' := h2
  obtain ⟨_, A, cap, rfl, _⟩ := h2'
  generalize hb : decide (B = 2 ^ (16 * f.width - 1)) = b
  have c109 := Lib.hid (q_nar g f i _ hf hf1 _ h1.drew)
  generalize 2 ^ (16 * f.width - 1) = M at *
  have c97 := Lib.hid (fun W u h h' => nat_cmp (.slice A (wlen B) cap) u (wlen B) (wlen M) B M W h h')
  have hcm : ((ncmp B M) == 0) = b := by
    rw [← hb]
    by_cases e : B = M
    · rw [decide_eq_true e, ncmp_eq.2 e]
      rfl
    · rw [decide_eq_false e, beq_eq_false_iff_ne]
      exact fun h => e (ncmp_eq.1 h)
  generalize ncmp B M = C at *
  have hc8 : w.cell? ⟨g, 8, none⟩ = some (.slice A (wlen B) cap) := h1.cell 8
  have h2d := Lib.hid h2
  have hl : g < w.heap.size := h1.lt
  clear hb h1 h2
  go_enter Tryd.func55, Tryd.ntmps55
  go_wp2_with fail
  go_region_with (first
    | (go_at_call 109; (with_reducible refine c109.out.mono ?_); rintro e w1 ⟨u1, rfl, hu, hb1⟩; have hc9 := (hb1.cell (p := ⟨g, 8, none⟩) hl).trans hc8)
    | (go_at_call 97; (with_reducible refine (c97.out _ _ (h2d.out.drew.ext hb1) hu).mono ?_); rintro e w2 ⟨rfl, hb2⟩))
  all_goals go_wp2_with fail
  all_goals go_ret
  all_goals exact ⟨rfl, (Ext.refl w).drew.trans (hb1.trans hb2)⟩

theorem store_bits {w : World} {g : Nat} {f : Frm} {i : Int} {v0 v : Value} {B : Nat} (h : Blk w g 137 #[.int .i64 (f).kind, .int .i64 (f).width, .int .i64 (f).man, .int .i64 (f).bias, .int .u64 (f).top, .int .u64 (f).inf, .int .u64 (f).nan, .int .i64 i, v0]) (hs : ∃ A k c, v0 = .slice A k c) (hv : NatV w v (wlen B) B) : QAt (w.setCell ⟨g, 8, none⟩ v) g f i B := by
  refine ⟨v, by simpa using h.set_ 8 v, ?_⟩
  obtain ⟨h0, A, cap, h1, h2, h3, h4⟩ := hv
  refine ⟨h0, A, cap, h1, h2, h3, fun hk0 => ?_⟩
  obtain ⟨b, off, e, hb, hc⟩ := h4 hk0
  refine ⟨b, off, e, by simpa [World.setCell] using hb, fun j hj => ?_⟩
  rw [World.cell?_setCell_other _ _ _ _ ?_]
  · exact hc j hj
  · intro e2
    have h8 := h.cell 8
    obtain ⟨A', k', c', rfl⟩ := hs
    have hj' := hc j hj
    rw [← e2] at hj'
    rw [hj'] at h8
    simp at h8
theorem NatV.slice {w : World} {v : Value} {k n : Nat} (h : NatV w v k n) : ∃ A k c, v = .slice A k c := by
  obtain ⟨_, A, cap, h1, _⟩ := h
  exact ⟨A, k, cap, h1⟩

set_option maxRecDepth 100000 in
set_option maxHeartbeats 1600000 in
/-- Quire.turned. -/
theorem q_turned (g : Nat) (f : Frm) (i : Int) (v0 v : Value) (n : Nat) (hf : f.width ≤ 64) (w : World) (h : Blk w g 137 #[.int .i64 (f).kind, .int .i64 (f).width, .int .i64 (f).man, .int .i64 (f).bias, .int .u64 (f).top, .int .u64 (f).inf, .int .u64 (f).nan, .int .i64 i, v0]) (hv : NatV w v (wlen n) n) (hn : n ≤ 2 ^ (16 * f.width)) :
    Calls Tryd.prog 110 #[.pointer (some ⟨g, 0, none⟩), v] w (RetNat w (qturn (2 ^ (16 * f.width)) n)) := by
  rcases Nat.eq_zero_or_pos n with h0 | h0
  · subst h0
    rw [show qturn (2 ^ (16 * f.width)) 0 = 0 from rfl]
    have hv' := hv
    obtain ⟨_, A, cap, rfl, _⟩ := hv'
    rw [wlen_zero] at hv ⊢
    go_enter Tryd.func110, Tryd.ntmps110
    go_wp2_with fail
    go_ret
    exact ⟨_, rfl, hv, Ext.refl _⟩
  · have c65 := Lib.hid (q_size g f i v0 hf w h)
    obtain ⟨S, hS⟩ : ∃ S, S = 16 * f.width := ⟨_, rfl⟩
    rw [← hS] at c65 hn ⊢
    have hSb : S ≤ 1024 := by omega
    have c140 := Lib.hid (fun W => q_power S (by omega) W)
    have hq : qturn (2 ^ S) n = 2 ^ S - n := by unfold qturn; rw [if_neg (by omega)]
    rw [hq]
    have hwl : wlen (2 ^ S) ≤ 100 := wlen_pow_le (k := 100) (by omega)
    have c69 := Lib.hid (fun W a u h h' => nat_sub a u (wlen (2 ^ S)) (wlen n) (2 ^ S) n W h h' (by omega) hn)
    have hw0 := wlen_pos.2 h0
    have hv' := hv
    obtain ⟨_, A, cap, rfl, _⟩ := hv'
    have hz : ((wlen n : Int) == 0) = false := bfalse (b := 0) (by omega)
    have hzd : ¬ (wlen n = 0) := by omega
    have hvh := Lib.hid hv
    generalize wlen n = L at *
    clear hq hS h hv h0 hn hwl
    go_enter Tryd.func110, Tryd.ntmps110
    go_wp2_with fail
    refine c65.out.mono ?_
    rintro e w1 ⟨rfl, rfl⟩
    go_wp2_with fail
    refine (c140.out _).mono ?_
    rintro e w2 ⟨v2, rfl, h2, hb2⟩
    go_wp2_with fail
    refine (c69.out _ _ _ h2 (hvh.out.ext hb2)).mono ?_
    rintro e w3 ⟨v3, rfl, h3, hb3⟩
    go_wp2_with fail
    go_ret
    exact ⟨_, rfl, h3, hb2.trans hb3⟩

set_option maxRecDepth 100000 in
set_option maxHeartbeats 1600000 in
/-- Quire.Clear. -/
theorem q_clear (g : Nat) (f : Frm) (i : Int) (B : Nat) (w : World) (h : QAt w g f i B) :
    Calls Tryd.prog 61 #[.pointer (some ⟨g, 0, none⟩)] w fun e w' => e = .returned (.tuple #[]) ∧ QAt w' g f i 0 ∧ w.grownBy w' (some g) := by
  obtain ⟨v, h1, h2⟩ := h
  have hc8 : w.cell? ⟨g, 8, none⟩ = some v := h1.cell 8
  have hc0 : w.cell? ⟨g, 0, none⟩ = some (.int .i64 f.kind) := h1.cell 0
  have f8 := h1.frozen 8
  have hst := Lib.hid (store_bits (v := .slice none 0 0) (B := 0) h1 h2.slice (NatV.none_ w none 0 (by decide)))
  clear h1 h2
  go_enter Tryd.func61, Tryd.ntmps61
  go_wp2_with fail
  go_end0
  exact ⟨rfl, hst.out, grown_set _ _ _ _⟩

set_option maxRecDepth 100000 in
set_option maxHeartbeats 1600000 in
/-- Quire.Set. -/
theorem q_set (g : Nat) (f : Frm) (i : Int) (B : Nat) (v : Value) (k n : Nat) (hk : k ≤ 100000) (hf : f.width ≤ 64) (w : World) (h : QAt w g f i B) (hv : NatV w v k n) (hn : n < 2 ^ (16 * f.width)) :
    Calls Tryd.prog 62 #[.pointer (some ⟨g, 0, none⟩), v] w fun e w' => e = .returned (.int .i64 0) ∧ QAt w' g f i n ∧ w.grownBy w' (some g) := by
  obtain ⟨v0, h1, h2⟩ := h
  have c94 := Lib.hid (nat_norm v k n w hv hk)
  have hwk : wlen n ≤ k := (wlen_le n k).2 hv.lt
  have c64 := Lib.hid (fun W u h => nat_bits u (wlen n) n W h (by omega))
  have c65 := Lib.hid (fun W h => q_size g f i v0 hf W h)
  have hd : decide (16 * f.width < nbits n) = false := decide_eq_false (by have := (nbits_le n _).2 hn; omega)
  have hd' : decide (((16 * f.width : Nat) : Int) < (nbits n : Int)) = false := decide_eq_false (by have := (nbits_le n _).2 hn; omega)
  generalize 16 * f.width = S at *
  generalize nbits n = N at *
  have HQ := Lib.hid h1
  have HS := Lib.hid h2.slice
  clear h1 h2 hv hn
  go_enter Tryd.func62, Tryd.ntmps62
  go_wp2_with fail
  refine c94.out.mono ?_
  rintro e w1 ⟨v1, rfl, h1, hb1⟩
  have q1 := HQ.out.ext hb1
  have h1' := h1
  obtain ⟨_, A1, cap1, rfl, _⟩ := h1'
  have hc8 : w1.cell? ⟨g, 8, none⟩ = some v0 := q1.cell 8
  have hc0 : w1.cell? ⟨g, 0, none⟩ = some (.int .i64 f.kind) := q1.cell 0
  have f8 := q1.frozen 8
  have hst := Lib.hid (store_bits (B := n) q1 HS.out h1)
  go_wp2_with fail
  refine (c64.out _ _ h1).mono ?_
  rintro e w2 ⟨rfl, rfl⟩
  go_wp2_with fail
  refine (c65.out _ q1).mono ?_
  rintro e w2 ⟨rfl, rfl⟩
  go_wp2_with fail
  go_ret
  exact ⟨rfl, hst.out, grown_trans (hb1.grown _) (grown_set _ _ _ _)⟩
set_option maxRecDepth 100000 in
set_option maxHeartbeats 1600000 in
/-- Quire.Set of too much. -/
theorem q_set_no (g : Nat) (f : Frm) (i : Int) (B : Nat) (v : Value) (k n : Nat) (hk : k ≤ 100000) (hf : f.width ≤ 64) (w : World) (h : QAt w g f i B) (hv : NatV w v k n) (hn : 2 ^ (16 * f.width) ≤ n) :
    Calls Tryd.prog 62 #[.pointer (some ⟨g, 0, none⟩), v] w fun e w' => e = .returned (.int .i64 4) ∧ Ext w w' := by
  obtain ⟨v0, h1, h2⟩ := h
  have c94 := Lib.hid (nat_norm v k n w hv hk)
  have hwk : wlen n ≤ k := (wlen_le n k).2 hv.lt
  have c64 := Lib.hid (fun W u h => nat_bits u (wlen n) n W h (by omega))
  have c65 := Lib.hid (fun W h => q_size g f i v0 hf W h)
  have hnb : 16 * f.width < nbits n := by
    rcases Nat.lt_or_ge (16 * f.width) (nbits n) with h | h
    · exact h
    · have := (nbits_le n _).1 h
      omega
  have hd : decide (16 * f.width < nbits n) = true := decide_eq_true hnb
  have hd' : decide (((16 * f.width : Nat) : Int) < (nbits n : Int)) = true := decide_eq_true (by omega)
  generalize 16 * f.width = S at *
  generalize nbits n = N at *
  have HQ := Lib.hid h1
  clear h1 h2 hv hn hnb
  go_enter Tryd.func62, Tryd.ntmps62
  go_wp2_with fail
  refine c94.out.mono ?_
  rintro e w1 ⟨v1, rfl, h1, hb1⟩
  have q1 := HQ.out.ext hb1
  go_wp2_with fail
  refine (c64.out _ _ h1).mono ?_
  rintro e w2 ⟨rfl, rfl⟩
  go_wp2_with fail
  refine (c65.out _ q1).mono ?_
  rintro e w2 ⟨rfl, rfl⟩
  go_wp2_with fail
  go_ret
  exact ⟨rfl, hb1⟩
end Go.Proofs.YtogdiobbjlpmoaaDoor

namespace Go.Proofs.YtogdiobbjlpmoaaDoor
open Go Go.RowKit Cal

def narB (f : Frm) : Nat := 2 ^ (16 * f.width - 1)
def topB (f : Frm) : Nat := 2 ^ (16 * f.width)
theorem topB_half (f : Frm) (h : 1 ≤ f.width) : topB f = 2 * narB f := by
  unfold topB narB
  rw [← Nat.pow_succ']
  congr 1
  omega
theorem narB_pos (f : Frm) : 0 < narB f := two_pos _
theorem topB_pos (f : Frm) : 0 < topB f := two_pos _
theorem wlen_top (f : Frm) (h : f.width ≤ 64) {B : Nat} (hB : B ≤ topB f) : wlen B ≤ 17 :=
  wlen_le_pow (k := 17) hB (by omega)

set_option maxRecDepth 100000 in
set_option maxHeartbeats 1600000 in
/-- Quire.Neg. -/
theorem q_neg (g : Nat) (f : Frm) (i : Int) (B : Nat) (hf : f.width ≤ 64) (hf1 : 1 ≤ f.width) (w : World) (h : QAt w g f i B) (hB : B < topB f) :
    Calls Tryd.prog 60 #[.pointer (some ⟨g, 0, none⟩)] w fun e w' => e = .returned (.tuple #[]) ∧ QAt w' g f i (if B = narB f then B else qturn (topB f) B) ∧ w.grownBy w' (some g) := by
  have c55 := Lib.hid (fun W h => q_isnar g f i B hf hf1 W h)
  by_cases hn : B = narB f
  · rw [if_pos hn]
    rw [decide_eq_true (show B = 2 ^ (16 * f.width - 1) from hn)] at c55
    have HQ := Lib.hid h
    clear hn h hB
    go_enter Tryd.func60, Tryd.ntmps60
    go_wp2_with fail
    refine (c55.out _ HQ.out).mono ?_
    rintro e w1 ⟨rfl, hb1⟩
    go_wp2_with fail
    go_end0
    exact ⟨rfl, HQ.out.keep hb1, hb1.grown _⟩
  · rw [if_neg hn]
    rw [decide_eq_false (show ¬ B = 2 ^ (16 * f.width - 1) from hn)] at c55
    have HQ := Lib.hid h
    have c110 := Lib.hid (fun W v0 h1 hv => q_turned g f i v0 v0 B hf W h1 hv (Nat.le_of_lt hB))
    rw [show 2 ^ (16 * f.width) = topB f from rfl] at c110
    generalize qturn (topB f) B = R at *
    clear hn h hB
    go_enter Tryd.func60, Tryd.ntmps60
    go_wp2_with fail
    refine (c55.out _ HQ.out).mono ?_
    rintro e w1 ⟨rfl, hb1⟩
    obtain ⟨v0, q1, n1⟩ := HQ.out.keep hb1
    have hc8 : w1.cell? ⟨g, 8, none⟩ = some v0 := q1.cell 8
    have hc0 : w1.cell? ⟨g, 0, none⟩ = some (.int .i64 f.kind) := q1.cell 0
    go_wp2_with fail
    refine (c110.out _ _ q1 n1).mono ?_
    clear hc8 hc0
    rintro e w2 ⟨v2, rfl, n2, hb2⟩
    have q2 := q1.ext hb2
    have n2' := n2
    obtain ⟨_, A1, cap1, rfl, _⟩ := n2'
    have hc8 : w2.cell? ⟨g, 8, none⟩ = some v0 := q2.cell 8
    have hc0 : w2.cell? ⟨g, 0, none⟩ = some (.int .i64 f.kind) := q2.cell 0
    have f8 := q2.frozen 8
    have hst := Lib.hid (store_bits q2 n1.slice n2)
    go_wp2_with fail
    go_end0
    exact ⟨rfl, hst.out, grown_trans ((hb1.trans hb2).grown _) (grown_set _ _ _ _)⟩

set_option maxRecDepth 100000 in
set_option maxHeartbeats 1600000 in
/-- Quire.sum. -/
theorem q_sum (g : Nat) (f : Frm) (i : Int) (B n : Nat) (v : Value) (hf : f.width ≤ 64) (hf1 : 1 ≤ f.width) (w : World) (h : QAt w g f i B) (hB : B < topB f) (hv : NatV w v (wlen n) n) (hn : n < topB f) :
    Calls Tryd.prog 138 #[.pointer (some ⟨g, 0, none⟩), v] w fun e w' => e = .returned (.tuple #[]) ∧ QAt w' g f i (qsum (topB f) B n) ∧ w.grownBy w' (some g) := by
  obtain ⟨v0, q0, n0⟩ := h
  have hwB := wlen_top f hf (Nat.le_of_lt hB)
  have hwn := wlen_top f hf (Nat.le_of_lt hn)
  have c63 := Lib.hid (nat_add v0 v (wlen B) (wlen n) B n w n0 hv (by omega) (by omega))
  have c65 := Lib.hid (fun W h => q_size g f i v0 hf W h)
  have c140 := Lib.hid (fun W => q_power (16 * f.width) (by omega) W)
  rw [show 2 ^ (16 * f.width) = topB f from rfl] at c140
  have hws : wlen (B + n) ≤ 100 := by
    refine (wlen_le _ _).2 ?_
    have h1 := topB_pos f
    have h2 : topB f * 2 ≤ 2 ^ (64 * 100) := pow_two_le (T := 16 * f.width) (k := 100) (by omega)
    omega
  have HQ := Lib.hid q0
  have HS := Lib.hid n0.slice
  have hc8 : w.cell? ⟨g, 8, none⟩ = some v0 := q0.cell 8
  have hc0 : w.cell? ⟨g, 0, none⟩ = some (.int .i64 f.kind) := q0.cell 0
  by_cases hle : topB f ≤ B + n
  · have hq : qsum (topB f) B n = B + n - topB f := by unfold qsum; rw [if_pos hle]
    rw [hq]
    have c69 := Lib.hid (fun W a u h h' => nat_sub a u (wlen (B + n)) (wlen (topB f)) (B + n) (topB f) W h h' (by omega) hle)
    generalize B + n - topB f = R at *
    generalize topB f = T at *
    generalize 16 * f.width = S at *
    clear q0 n0 hv hn hB hq hle
    go_enter Tryd.func138, Tryd.ntmps138
    go_wp2_with fail
    refine c63.out.mono ?_
    clear hc8 hc0
    rintro e w1 ⟨v1, rfl, n1, hb1⟩
    have q1 := HQ.out.ext hb1
    go_wp2_with fail
    refine (c65.out _ q1).mono ?_
    rintro e w2 ⟨rfl, rfl⟩
    go_wp2_with fail
    refine (c140.out _).mono ?_
    rintro e w2 ⟨v2, rfl, n2, hb2⟩
    go_wp2_with fail
    refine (c69.out _ _ _ (n1.ext hb2) n2).mono ?_
    rintro e w3 ⟨v3, rfl, n3, hb3⟩
    have q3 := (q1.ext hb2).ext hb3
    have n3' := n3
    obtain ⟨_, A1, cap1, rfl, _⟩ := n3'
    have hc8 : w3.cell? ⟨g, 8, none⟩ = some v0 := q3.cell 8
    have hc0 : w3.cell? ⟨g, 0, none⟩ = some (.int .i64 f.kind) := q3.cell 0
    have f8 := q3.frozen 8
    have hst := Lib.hid (store_bits q3 HS.out n3)
    go_wp2_with fail
    go_end0
    exact ⟨rfl, hst.out, grown_trans (((hb1.trans hb2).trans hb3).grown _) (grown_set _ _ _ _)⟩
  · have hq : qsum (topB f) B n = B + n := by unfold qsum; rw [if_neg hle]
    rw [hq]
    have c69 := Lib.hid (fun W a u h h' => nat_sub_no a u (wlen (B + n)) (wlen (topB f)) (B + n) (topB f) W h h' (by omega))
    generalize B + n = R at *
    generalize topB f = T at *
    generalize 16 * f.width = S at *
    clear q0 n0 hv hn hB hq hle
    go_enter Tryd.func138, Tryd.ntmps138
    go_wp2_with fail
    refine c63.out.mono ?_
    clear hc8 hc0
    rintro e w1 ⟨v1, rfl, n1, hb1⟩
    have q1 := HQ.out.ext hb1
    go_wp2_with fail
    refine (c65.out _ q1).mono ?_
    rintro e w2 ⟨rfl, rfl⟩
    go_wp2_with fail
    refine (c140.out _).mono ?_
    rintro e w2 ⟨v2, rfl, n2, hb2⟩
    go_wp2_with fail
    refine (c69.out _ _ _ (n1.ext hb2) n2).mono ?_
    rintro e w3 ⟨rfl, hb3⟩
    have q3 := (q1.ext hb2).ext hb3
    have n3 := (n1.ext hb2).ext hb3
    have n3' := n3
    obtain ⟨_, A1, cap1, rfl, _⟩ := n3'
    have hc8 : w3.cell? ⟨g, 8, none⟩ = some v0 := q3.cell 8
    have hc0 : w3.cell? ⟨g, 0, none⟩ = some (.int .i64 f.kind) := q3.cell 0
    have f8 := q3.frozen 8
    have hst := Lib.hid (store_bits q3 HS.out n3)
    go_wp2_with fail
    go_end0
    exact ⟨rfl, hst.out, grown_trans (((hb1.trans hb2).trans hb3).grown _) (grown_set _ _ _ _)⟩
end Go.Proofs.YtogdiobbjlpmoaaDoor

namespace Go.Proofs.YtogdiobbjlpmoaaDoor
open Go Go.RowKit Cal

/-- How far a product is shifted. -/
def qshift (W : Nat) (d e : Int) : Nat := (min (max (d + e - (16 - 8 * (W : Int))) 0) 131072).toNat
/-- A product's bits. -/
def qprod (f : Frm) (a b : Val) (less : Bool) : Nat :=
  if ((a.neg != b.neg) != less) = true then qturn (topB f) (a.m * b.m * 2 ^ qshift f.width a.e b.e) else a.m * b.m * 2 ^ qshift f.width a.e b.e
theorem qshift_eq (W : Nat) (d e : Int) : min (max (d + e - (16 - 8 * (W : Int))) 0) 131072 = (qshift W d e : Int) := by
  unfold qshift
  omega

/-- Two values in boxes. -/
abbrev Two25 (w : World) (b c : Nat) (nx ny : Bool) (mx my : Nat) (ex ey : Int) : Prop :=
  w.cell? ⟨b, 1, none⟩ = some (.bool nx) ∧ w.cell? ⟨b, 2, none⟩ = some (.int .u64 mx) ∧ w.cell? ⟨b, 3, none⟩ = some (.int .i64 ex) ∧
  w.cell? ⟨c, 1, none⟩ = some (.bool ny) ∧ w.cell? ⟨c, 2, none⟩ = some (.int .u64 my) ∧ w.cell? ⟨c, 3, none⟩ = some (.int .i64 ey)
theorem Two25.keep {w w1 : World} {b c : Nat} {nx ny : Bool} {mx my : Nat} {ex ey : Int} (h : Two25 w b c nx ny mx my ex ey) (hb : b < w.heap.size) (hc : c < w.heap.size) (he : Ext w w1) : Two25 w1 b c nx ny mx my ex ey := by
  obtain ⟨a0, a1, a2, a3, a4, a5⟩ := h
  refine ⟨?_, ?_, ?_, ?_, ?_, ?_⟩
  · rw [he.cell (show b < w.heap.size from hb)]; assumption
  · rw [he.cell (show b < w.heap.size from hb)]; assumption
  · rw [he.cell (show b < w.heap.size from hb)]; assumption
  · rw [he.cell (show c < w.heap.size from hc)]; assumption
  · rw [he.cell (show c < w.heap.size from hc)]; assumption
  · rw [he.cell (show c < w.heap.size from hc)]; assumption
theorem box_two (w : World) (cx cy : Nat) (nx ny : Bool) (mx my : Nat) (ex ey : Int) : ∃ W, W = (w.alloc (.cells #[.int .i64 cx, .bool nx, .int .u64 mx, .int .i64 ex] 25)).alloc (.cells #[.int .i64 cy, .bool ny, .int .u64 my, .int .i64 ey] 25) ∧
    w.heap.size + 1 < W.heap.size ∧ Ext w W ∧ Two25 W w.heap.size (w.heap.size + 1) nx ny mx my ex ey := by
  refine ⟨_, rfl, by simp, ((Ext.refl _).alloc _).alloc _, ?_⟩
  have h1 := (Blk.new w 25 #[.int .i64 cx, .bool nx, .int .u64 mx, .int .i64 ex]).alloc (.cells #[.int .i64 cy, .bool ny, .int .u64 my, .int .i64 ey] 25)
  have h2 := Blk.new (w.alloc (.cells #[.int .i64 cx, .bool nx, .int .u64 mx, .int .i64 ex] 25)) 25 #[.int .i64 cy, .bool ny, .int .u64 my, .int .i64 ey]
  rw [show (w.alloc (.cells #[.int .i64 cx, .bool nx, .int .u64 mx, .int .i64 ex] 25)).heap.size = w.heap.size + 1 from by simp] at h2
  exact ⟨h1.cell 1, h1.cell 2, h1.cell 3, h2.cell 1, h2.cell 2, h2.cell 3⟩

set_option maxRecDepth 100000 in
set_option maxHeartbeats 3200000 in
theorem q_product' (g : Nat) (f : Frm) (i : Int) (v0 : Value) (ca cb : Nat) (na nb : Bool) (ma mb : Nat) (xa xb : Int) (less : Bool) (hf : f.width ≤ 64) (hf1 : 1 ≤ f.width) (w : World) (h : Blk w g 137 #[.int .i64 (f).kind, .int .i64 (f).width, .int .i64 (f).man, .int .i64 (f).bias, .int .u64 (f).top, .int .u64 (f).inf, .int .u64 (f).nan, .int .i64 i, v0])
    (ha0 : 0 < ma) (hb0 : 0 < mb) (ha : ma < 18446744073709551616) (hb : mb < 18446744073709551616) (ea : -20000 ≤ xa ∧ xa ≤ 20000) (eb : -20000 ≤ xb ∧ xb ≤ 20000)
    (hP : ma * mb * 2 ^ qshift f.width xa xb < topB f) :
    Calls Tryd.prog 139 #[.pointer (some ⟨g, 0, none⟩), .agg #[.int .i64 ca, .bool na, .int .u64 ma, .int .i64 xa], .agg #[.int .i64 cb, .bool nb, .int .u64 mb, .int .i64 xb], .bool less] w (RetNat w (qprod f ⟨ca, na, ma, xa⟩ ⟨cb, nb, mb, xb⟩ less)) := by
  have c48a := Lib.hid (fun W => nat_of ma ha W)
  have c48b := Lib.hid (fun W => nat_of mb hb W)
  have hwa : wlen ma ≤ 1 := (wlen_le _ _).2 (by simpa using ha)
  have hwb : wlen mb ≤ 1 := (wlen_le _ _).2 (by simpa using hb)
  have c70 := Lib.hid (fun W x y h h' => nat_mul x y (wlen ma) (wlen mb) ma mb W h h' (by omega) (by omega) (wlen_pos.2 ha0) (wlen_pos.2 hb0))
  have hab0 : 0 < ma * mb := Nat.mul_pos ha0 hb0
  have hwab : wlen (ma * mb) ≤ 2 := (wlen_le _ _).2 (Nat.lt_of_lt_of_le (Nat.mul_lt_mul'' ha hb) (by decide))
  have hq := qshift_eq f.width xa xb
  have c91 := Lib.hid (fun W x h => nat_shl x (wlen (ma * mb)) (ma * mb) W h (by omega) (xa + xb - (16 - 8 * (f.width : Int))) (qshift f.width xa xb) hq hab0)
  have c122 := Lib.hid (fun W h => q_low g f i v0 hf W h)
  have c110 := Lib.hid (fun W v h hv => q_turned g f i v0 v (ma * mb * 2 ^ qshift f.width xa xb) hf W h hv (Nat.le_of_lt hP))
  rw [show 2 ^ (16 * f.width) = topB f from rfl] at c110
  have hres : Hid (qprod f ⟨ca, na, ma, xa⟩ ⟨cb, nb, mb, xb⟩ less = if ((na != nb) != less) = true then qturn (topB f) (ma * mb * 2 ^ qshift f.width xa xb) else ma * mb * 2 ^ qshift f.width xa xb) := rfl
  generalize qprod f ⟨ca, na, ma, xa⟩ ⟨cb, nb, mb, xb⟩ less = R at *
  generalize hN : ma * mb * 2 ^ qshift f.width xa xb = N at *
  have HN := Lib.hid hN
  have HQ := Lib.hid h
  have s1 : IntKind.i64.wrap (xa + xb) = xa + xb := by rw [IntKind.wrap_i64]; omega
  have s2 : IntKind.i64.wrap (xa + xb - (16 - 8 * (f.width : Int))) = xa + xb - (16 - 8 * (f.width : Int)) := by rw [IntKind.wrap_i64]; omega
  clear hq hN hP h
  go_enter Tryd.func139, Tryd.ntmps139
  go_wp2_with fail
  obtain ⟨W, hW, hlt, hbW, h2⟩ := box_two w ca cb na nb ma mb xa xb
  rw [← hW]
  clear hW
  have hlt' : w.heap.size < W.heap.size := by omega
  go_region_held3 (fun w' => Ext W w' ∧ Two25 w' w.heap.size (w.heap.size + 1) na nb ma mb xa xb)
    (first | exact ⟨(Ext.refl W).drew, h2⟩ | (have hH : Ext W _ ∧ _ := (by assumption); exact ⟨hH.1.trans hb, Two25.keep hH.2 (Nat.lt_of_lt_of_le hlt' hH.1.size) (Nat.lt_of_lt_of_le hlt hH.1.size) hb⟩) | (assumption))
    (first
      | (go_at_call 48; (with_reducible refine (c48a.out _).mono ?_); rintro e w1 ⟨v1, rfl, n1, hb⟩)
      | (go_at_call 48; (with_reducible refine (c48b.out _).mono ?_); rintro e w1 ⟨v2, rfl, n2, hb⟩)
      | (go_at_call 70; (with_reducible refine (c70.out _ v1 v2 (by (repeat (first | (with_reducible assumption) | (with_reducible refine NatV.drew ?_) | (with_reducible refine NatV.alloc ?_ _) | (with_reducible refine NatV.ext ?_ (by with_reducible assumption))))) (by (repeat (first | (with_reducible assumption) | (with_reducible refine NatV.drew ?_) | (with_reducible refine NatV.alloc ?_ _) | (with_reducible refine NatV.ext ?_ (by with_reducible assumption)))))).mono ?_); rintro e w1 ⟨v3, rfl, n3, hb⟩)
      | (go_at_call 122; (with_reducible refine (c122.out _ (HQ.out.ext (hbW.trans (by assumption : Ext W _ ∧ _).1))).mono ?_); rintro e w1 ⟨rfl, rfl⟩)
      | (go_at_call 91; (with_reducible refine (c91.out _ v3 (by (repeat (first | (with_reducible assumption) | (with_reducible refine NatV.drew ?_) | (with_reducible refine NatV.alloc ?_ _) | (with_reducible refine NatV.ext ?_ (by with_reducible assumption)))))).mono ?_); rintro e w1 ⟨v4, rfl, n4, hb⟩))
  have hS : Ext W w1 ∧ Two25 w1 w.heap.size (w.heap.size + 1) na nb ma mb xa xb := by assumption
  have q1 := HQ.out.ext (hbW.trans hS.1)
  have hxw : Ext w w1 := hbW.trans hS.1
  obtain ⟨t1, t2, t3, t4, t5, t6⟩ := hS.2
  clear t2 t3 t5 t6 s1 s2
  have ta : w1.cell? ⟨w.heap.size, 1, none⟩ = some (.bool na) := t1
  have tb : w1.cell? ⟨w.heap.size + 1, 1, none⟩ = some (.bool nb) := t4
  clear t1 t4 hS
  cases na <;> cases nb <;> cases less
  all_goals
    have hR := hres.out
    first
      | (rw [if_pos (by decide)] at hR
         subst hR
         go_wp2_with fail
         refine (c110.out _ _ q1 n4).mono ?_
         rintro e w2 ⟨v5, rfl, n5, hb5⟩
         go_wp2_with fail
         go_ret
         exact ⟨_, rfl, n5, hxw.trans hb5⟩)
      | (rw [if_neg (by decide)] at hR
         subst hR
         go_wp2_with fail
         go_ret
         exact ⟨_, rfl, n4, hxw⟩)
theorem q_product (g : Nat) (f : Frm) (i : Int) (v0 : Value) (a b : Val) (less : Bool) (hf : f.width ≤ 64) (hf1 : 1 ≤ f.width) (w : World) (h : Blk w g 137 #[.int .i64 (f).kind, .int .i64 (f).width, .int .i64 (f).man, .int .i64 (f).bias, .int .u64 (f).top, .int .u64 (f).inf, .int .u64 (f).nan, .int .i64 i, v0])
    (ha0 : 0 < a.m) (hb0 : 0 < b.m) (ha : a.m < 18446744073709551616) (hb : b.m < 18446744073709551616) (ea : -20000 ≤ a.e ∧ a.e ≤ 20000) (eb : -20000 ≤ b.e ∧ b.e ≤ 20000)
    (hP : a.m * b.m * 2 ^ qshift f.width a.e b.e < topB f) :
    Calls Tryd.prog 139 #[.pointer (some ⟨g, 0, none⟩), .agg #[.int .i64 a.cls, .bool a.neg, .int .u64 a.m, .int .i64 a.e], .agg #[.int .i64 b.cls, .bool b.neg, .int .u64 b.m, .int .i64 b.e], .bool less] w (RetNat w (qprod f a b less)) :=
  q_product' g f i v0 a.cls b.cls a.neg b.neg a.m b.m a.e b.e less hf hf1 w h ha0 hb0 ha hb ea eb hP
end Go.Proofs.YtogdiobbjlpmoaaDoor

