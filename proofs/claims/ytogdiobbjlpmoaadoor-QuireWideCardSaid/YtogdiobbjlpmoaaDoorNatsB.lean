/- nat.Shl: a number times a power of two. No condition but those written. slices.Clone of a number, nat.Norm, nat.Of. No condition but those written. nat.Mul: the product. No condition but those written. nat.Shr, nat.Pow. No condition but those written. -/
import Derived.Test.YtogdiobbjlpmoaaDoorNatsA
import Derived.Test.YtogdiobbjlpmoaaDoorBits
import Derived.RegionTactic
import Derived.ChangeAlike
import Derived.Maps.AppendAt
import Derived.OwnWalk
import Derived.WalkSpells
import Derived.Deep.RegionWith
namespace Go.Proofs.YtogdiobbjlpmoaaDoor
open Go Go.RowKit Cal

theorem shl_fit (x s : Nat) (hs : s ≤ 64) : x * 2 ^ s % 18446744073709551616 + 2 ^ s ≤ 18446744073709551616 := by
  have e : (18446744073709551616 : Nat) = 2 ^ (64 - s) * 2 ^ s := by rw [← Nat.pow_add, show 64 - s + s = 64 from by omega]
  have h1 : x * 2 ^ s % 18446744073709551616 = (x % 2 ^ (64 - s)) * 2 ^ s := by
    rw [e, Nat.mul_mod_mul_right]
  have h2 : x % 2 ^ (64 - s) + 1 ≤ 2 ^ (64 - s) := Nat.mod_lt _ (two_pos _)
  have h3 := Nat.mul_le_mul_right (2 ^ s) h2
  rw [Nat.add_mul, Nat.one_mul, ← e] at h3
  omega
theorem shl_total {a K N : Nat} (h : a < 2 ^ (64 * K)) : a * 2 ^ N < 2 ^ (64 * (K + N / 64 + 1)) := by
  have h1 : a * 2 ^ N < 2 ^ (64 * K) * 2 ^ N := Nat.mul_lt_mul_of_pos_right h (two_pos N)
  refine Nat.lt_of_lt_of_le h1 ?_
  rw [← Nat.pow_add]
  exact Nat.pow_le_pow_right (by decide) (by omega)

set_option maxRecDepth 100000 in
set_option maxHeartbeats 3200000 in
theorem nat_shl (v : Value) (k a : Nat) (w : World) (h : NatV w v k a) (hk : k ≤ 100000) (z : Int) (N : Nat) (hz : min (max z 0) 131072 = (N : Int)) (ha0 : 0 < a) : Calls Tryd.prog 91 #[v, .int .i64 z] w (RetNat w (a * 2 ^ N)) := by
  have c96 := Lib.hid (fun W h => trim_any v k a W h)
  have hN : N ≤ 131072 := by omega
  have hwk : wlen a ≤ k := (wlen_le a k).2 h.lt
  have hw0 := wlen_pos.2 ha0
  have hlw := lt_wlen a
  generalize hK : wlen a = K at *
  have HK := Lib.hid hK
  have hKb : K ≤ 100000 := by omega
  have hlt := Lib.hid (shl_total (N := N) hlw)
  have hal := Lib.hid hlw
  obtain ⟨q, hq⟩ : ∃ q, q = N / 64 := ⟨_, rfl⟩
  obtain ⟨s, hs⟩ : ∃ s, s = N % 64 := ⟨_, rfl⟩
  have hqI : (N : Int) / 64 = (q : Int) := by omega
  have hsI : (N : Int) % 64 = (s : Int) := by omega
  have hs64 : s < 64 := by omega
  have hqb : q ≤ 2048 := by omega
  obtain ⟨T, hT⟩ : ∃ T, T = K + q + 1 := ⟨_, rfl⟩
  have hTI : (K : Int) + (q : Int) + 1 = (T : Int) := by omega
  have hTb : T ≤ 1000000 := by omega
  rw [← hq, ← hT] at hlt
  have HT := Lib.hid hT
  have HQ := Lib.hid hq
  have HS := Lib.hid hs
  have hmk := fun W => make_run T hTb W
  clear hK hlw hwk hT hq hs ha0
  go_enter Tryd.func91, Tryd.ntmps91
  go_wp2_with fail
  refine (c96.out _ h).mono ?_
  rintro e w1 ⟨v1, rfl, h1, rfl⟩
  rw [HK.out] at h1
  obtain ⟨_, A1, c1, rfl, hk1, hk2, h14⟩ := h1
  obtain ⟨b1, off1, rfl, hb1, hcl1⟩ := h14 hw0
  have HC1 := Lib.hid hcl1
  clear hcl1 h14 h
  unfold maxLen at hk2
  go_wp2_with fail
  clear hmk
  go_loopg [23] K (fun g s23 wr => ∃ i : Nat, i + g = K ∧ s23 = .int .i64 (i : Int) ∧ Blk wr w.heap.size 22 (wcells T ((a % 2 ^ (64 * i)) * 2 ^ N)) ∧ Ext w wr)
  case atStart => exact ⟨0, by omega, rfl, by simpa [Nat.mod_one] using Blk.new w 22 (wcells T 0), (Ext.refl w).alloc _⟩
  case round =>
    obtain ⟨i, hi, rfl, hB, hbr⟩ := hrel
    cases gk with
    | zero =>
      have hz : ¬ ((i : Int) < (K : Int)) := by omega
      obtain rfl : i = K := by omega
      rw [Nat.mod_eq_of_lt hal.out] at hB
      have d96 := Lib.hid (trim_any _ _ _ wr (NatV.of_blk hlt.out (by unfold maxLen; omega) hB))
      clear hB
      go_wp2_with fail
      refine d96.out.mono ?_
      rintro e w1 ⟨v1, rfl, h1, rfl⟩
      go_wp2_with fail
      go_ret
      exact ⟨_, rfl, h1, hbr⟩
    | succ g =>
      have hik : (i : Int) < (K : Int) := by omega
      have hik' : i < K := by omega
      have e1 := (hbr.cell (p := ⟨b1, off1 + i, none⟩) hb1).trans (HC1.out i hik')
      have hstep := shl_step a i N
      have hold := shl_old a i N
      have hnew : word ((a % 2 ^ (64 * i)) * 2 ^ N) (i + N / 64 + 1) = 0 := by
        refine word_hi (Nat.lt_of_lt_of_le (shl_lt a i N) ?_)
        rw [← Nat.pow_add]
        exact Nat.pow_le_pow_right (by decide) (by omega)
      rw [← HQ.out, ← HS.out] at hstep
      rw [← HQ.out, ← HS.out] at hold
      rw [← HQ.out] at hnew
      obtain ⟨x, hx⟩ : ∃ x, x = word a i := ⟨_, rfl⟩
      have hxl : x < 18446744073709551616 := by rw [hx]; exact word_lt a i
      rw [← hx] at e1 hstep
      obtain ⟨p, hp⟩ : ∃ p, p = i + q := ⟨_, rfl⟩
      have hpI : (i : Int) + (q : Int) = (p : Int) := by omega
      rw [← hp] at hstep hold hnew
      have hpT : p < T := by have := HT.out; omega
      have hpT1 : p + 1 < T := by have := HT.out; omega
      have hpTI : (p : Int) < (T : Int) := by omega
      have hpT1I : (p : Int) + 1 < (T : Int) := by omega
      generalize hM2 : (a % 2 ^ (64 * (i + 1))) * 2 ^ N = M2 at *
      have HM2 := Lib.hid hM2
      clear hM2
      generalize hM : (a % 2 ^ (64 * i)) * 2 ^ N = M at *
      obtain ⟨o, ho⟩ : ∃ o, o = word M p := ⟨_, rfl⟩
      rw [← ho] at hold
      obtain ⟨y, hy⟩ : ∃ y, y = x * 2 ^ s % 18446744073709551616 := ⟨_, rfl⟩
      obtain ⟨u2, hu2⟩ : ∃ u2, u2 = x / 2 ^ (64 - s) := ⟨_, rfl⟩
      have hfit := shl_fit x s (by omega)
      rw [← hy] at hfit
      have hyl : y < 18446744073709551616 := by rw [hy]; omega
      have hu2l : u2 < 18446744073709551616 := by rw [hu2]; exact Nat.lt_of_le_of_lt (Nat.div_le_self _ _) hxl
      obtain ⟨z', hz'⟩ : ∃ z', z' = o + y := ⟨_, rfl⟩
      have hzl : z' < 18446744073709551616 := by omega
      have hshl : IntKind.u64.wrap ((x : Int) * 2 ^ s) = (y : Int) := by
        rw [zmul, IntKind.wrap_u64, hy]
        omega
      have hshr : (x : Int) / 2 ^ (64 - s) = (u2 : Int) := by rw [zdiv, hu2]
      have hor : bits .or .u64 (o : Int) (y : Int) = (z' : Int) := by
        have h1 := or_shift (o := o) (x := x) hold (by omega)
        rw [← hy] at h1
        have hol : o < 18446744073709551616 := by omega
        have h2 : bits .or .u64 (o : Int) (y : Int) = ((o ||| y : Nat) : Int) := bits_or_u64_nat _ _ hol hyl
        rw [h2, h1, hz']
      rw [← hy, ← hu2] at hstep
      have hs1 : (M + y * 2 ^ (64 * p)) + word M p * 2 ^ (64 * p) = M + z' * 2 ^ (64 * p) := by rw [← ho, hz', Nat.add_mul]; omega
      have hw1 : word (M + y * 2 ^ (64 * p)) (p + 1) = 0 := by
        rw [set_word hzl hs1 (p + 1), if_neg (by omega)]
        exact hnew
      have hs2 : M2 + word (M + y * 2 ^ (64 * p)) (p + 1) * 2 ^ (64 * (p + 1)) = (M + y * 2 ^ (64 * p)) + u2 * 2 ^ (64 * (p + 1)) := by rw [hw1, hstep]; omega
      have cB := hB.cell p
      rw [wcells_get hpT, ← ho] at cB
      have fB := hB.frozen p
      have cBp := hB.cell (p + 1)
      rw [wcells_get hpT1, hnew] at cBp
      have fBp := hB.frozen (p + 1)
      have set1 := wcells_set (k := T) hzl hs1
      have set2 := wcells_set (k := T) hu2l hs2
      have hB1 := hB.set_ p (.int .u64 (z' : Nat))
      rw [set1] at hB1
      have cB1 := hB1.cell (p + 1)
      rw [wcells_get hpT1, hw1] at cB1
      have fB1 := hB1.frozen (p + 1)
      have hB2 := hB1.set_ (p + 1) (.int .u64 (u2 : Nat))
      rw [set2] at hB2
      have HB2 := Lib.hid hB2
      have hbx := Lib.hid hbr
      clear hstep hold hnew hx hp hM ho hy hu2 hz' hs1 hs2 hw1 set1 set2 hB hB1 hB2
      go_wp2_with fail
      go_region
      all_goals go_wp2_with fail
      all_goals go_roundg g
      all_goals try (case measure => omega)
      all_goals
        refine ⟨i + 1, by omega, by first | rfl | simp, ?_, ?_⟩
        · rw [HM2.out]
          exact HB2.out.drew
        · exact Ext.drew (Ext.setCell (Ext.setCell hbx.out (Nat.le_refl _) _) (Nat.le_refl _) _)
end Go.Proofs.YtogdiobbjlpmoaaDoor

namespace Go.Proofs.YtogdiobbjlpmoaaDoor
open Go Go.RowKit Cal

/-- A number of so many words is answered. -/
def RetNatK (w : World) (k n : Nat) (e : Ending) (w' : World) : Prop := ∃ v, e = .returned v ∧ NatV w' v k n ∧ Ext w w'

theorem Addr.add_plain' (b off i : Nat) : (⟨b, off, none⟩ : Addr).add i = ⟨b, off + i, none⟩ := by
  unfold Addr.add
  split
  · rename_i h
    subst h
    rfl
  · rfl
theorem own_nat {w w' : World} {v : Value} {k n : Nat} (hk : 0 < k) (hn : n < 2 ^ (64 * k)) (h : w'.ownsRow w.heap.size 22 1 v k ((List.range k).map fun i => Value.int .u64 (word n i : Nat))) : NatV w' v k n := by
  have hc := fun (g : Nat) hg => h.cells (g := g) hg
  rcases h.2 with ⟨rfl, h0⟩ | ⟨g, cap, cur, rfl, hb, hh, hnc, hmx, hs, htake⟩
  · omega
  · refine NatV.some_ hn hnc hmx ?_ (fun i hi => ?_)
    · rcases Nat.lt_or_ge g w'.heap.size with hlt | hge
      · exact hlt
      · rw [Array.getElem?_eq_none hge] at hh
        cases hh
    · have := hc g rfl i (.int .u64 (word n i : Nat)) (by simp [hi])
      have e : (⟨g, 0, none⟩ : Addr).add i = ⟨g, 0 + i, none⟩ := Addr.add_plain' g 0 i
      rw [e] at this
      exact this

set_option maxRecDepth 100000 in
set_option maxHeartbeats 800000 in
theorem nat_clone (v : Value) (k n : Nat) (w : World) (h : NatV w v k n) (hk : k ≤ 100000) : Calls Tryd.prog 98 #[v] w (RetNatK w k n) := by
  have hnil := fun W A n c => Lib.run_eql_slice_nil (P := Tryd.prog) W 47 22 A n c 0 0 Tryd.underlying47
  have hlt := h.lt
  rcases h.open_ with ⟨rfl, rfl, A, cap, rfl, hm⟩ | ⟨hk0, b, off, cap, rfl, hkc, hm, hb, hc⟩
  · rcases A with _ | a
    · go_enter Tryd.func98, Tryd.ntmps98
      go_wp2_with fail
      go_ret
      exact ⟨_, rfl, NatV.none_ _ _ _ (by decide), Ext.refl _⟩
    · go_enter Tryd.func98, Tryd.ntmps98
      go_wp2_with fail
      go_ret
      exact ⟨_, rfl, NatV.none_ _ _ _ (by decide), (Ext.refl w).alloc _⟩
  · obtain ⟨i0, hi, hz0, hz1, hz2⟩ := info_parts u64_info
    have hnews : ∀ (j : Nat) (u : Value), ((List.range k).map fun i => Value.int .u64 (word n i : Nat))[j]? = some u → (w.alloc (.cells #[] 22)).cell? ((⟨b, off, none⟩ : Addr).add j) = some u := by
      intro j u hu
      have hj : j < k := by
        rcases Nat.lt_or_ge j k with hj | hj
        · exact hj
        · simp [hj] at hu
      have hu' : u = .int .u64 (word n j : Nat) := by simpa [hj] using hu.symm
      rw [hu', show ((⟨b, off, none⟩ : Addr).add j) = ⟨b, off + j, none⟩ from Addr.add_plain' b off j, World.cell?_alloc_lt w _ _ hb]
      exact hc j hj
    have hone : ∀ u ∈ ((List.range k).map fun i => Value.int .u64 (word n i : Nat)), u.oneCell' = true := by
      intro u hu
      obtain ⟨i, _, rfl⟩ := List.mem_map.1 hu
      rfl
    have hlen : ((List.range k).map fun i => Value.int .u64 (word n i : Nat)).length = k * 1 := by simp
    generalize hnw : (List.range k).map (fun i => Value.int .u64 (word n i : Nat)) = news at *
    have HN := Lib.hid hnw
    have HW := Lib.hid hnews
    have HO := Lib.hid hone
    have HL := Lib.hid hlen
    clear hc hnw hnews hone hlen
    go_enter Tryd.func98, Tryd.ntmps98
    go_wp2_with ((at_builtin; refine wpList_append_own_at _ rfl (.tmp 5) (.tmp 6) 47 rfl w.heap.size 22 i0 (.int .u64 0) 1 8 Tryd.underlying47 hi hz0 hz1 hz2 rfl (by omega) (.slice (some ⟨w.heap.size, 0, none⟩) 0 0) 0 [] rfl (World.ownsRow_made w #[] 0 (Nat.le_refl _) (by decide) rfl) ⟨b, off, none⟩ k cap news rfl HL.out HW.out HO.out (by unfold maxLen; omega) (by omega) (by simp) ?_; intro v1 w1 hown hg _ _))
    go_ret
    refine ⟨_, rfl, ?_, ?_⟩
    · refine own_nat (w := w) hk0 hlt ?_
      rw [HN.out]
      simpa using hown
    · exact Below.grown ((Ext.refl w).alloc _) hg (by simp) (fun k hk => by simp [Value.ownBlock] at hk; omega)

set_option maxRecDepth 100000 in
set_option maxHeartbeats 800000 in
/-- nat.Norm. -/
theorem nat_norm (v : Value) (k n : Nat) (w : World) (h : NatV w v k n) (hk : k ≤ 100000) : Calls Tryd.prog 94 #[v] w (RetNat w n) := by
  have c96 := Lib.hid (trim_any v k n w h)
  have hwl : wlen n ≤ k := (wlen_le n k).2 h.lt
  have c98 := Lib.hid (fun v1 (h1 : NatV w v1 (wlen n) n) => nat_clone v1 (wlen n) n w h1 (by omega))
  go_enter Tryd.func94, Tryd.ntmps94
  go_wp2_with fail
  refine c96.out.mono ?_
  rintro e w1 ⟨v1, rfl, h1, rfl⟩
  go_wp2_with fail
  refine (c98.out v1 h1).mono ?_
  rintro e w1 ⟨v2, rfl, h2, hb2⟩
  go_wp2_with fail
  go_ret
  exact ⟨_, rfl, h2, hb2⟩

set_option maxRecDepth 100000 in
set_option maxHeartbeats 800000 in
/-- nat.Of. -/
theorem nat_of (n : Nat) (hn : n < 18446744073709551616) (w : World) : Calls Tryd.prog 48 #[.int .u64 n] w (RetNat w n) := by
  have hB : NatV (w.alloc (.cells #[.int .u64 n] 22)) (.slice (some ⟨w.heap.size, 0, none⟩) 1 1) 1 n := by
    refine NatV.of_blk (by simpa using hn) (by decide) ?_
    rw [show wcells 1 n = #[Value.int .u64 (n : Int)] from by simp [wcells, word_small hn]]
    exact Blk.new w 22 #[.int .u64 n]
  have c94 := Lib.hid (nat_norm _ 1 n _ hB (by decide))
  clear hB
  go_enter Tryd.func48, Tryd.ntmps48
  go_wp2_with fail
  refine c94.out.mono ?_
  rintro e w1 ⟨v2, rfl, h2, hb2⟩
  go_wp2_with fail
  go_ret
  exact ⟨_, rfl, h2, by (repeat (first | (with_reducible exact Ext.refl _) | (with_reducible assumption) | (with_reducible refine Ext.drew ?_) | (with_reducible refine Ext.drewN ?_ _) | (with_reducible refine Ext.alloc ?_ _) | (with_reducible refine Ext.setCell ?_ (Nat.le_refl _) _) | (with_reducible refine Ext.setCell ?_ (by simp; try omega) _) | (with_reducible refine Ext.trans ?_ (by with_reducible assumption))))⟩
end Go.Proofs.YtogdiobbjlpmoaaDoor

namespace Go.Proofs.YtogdiobbjlpmoaaDoor
open Go Go.RowKit Cal

theorem mul_bound {x y o c lo hi p q r t : Nat} (hx : x < 18446744073709551616) (hy : y < 18446744073709551616) (ho : o < 18446744073709551616) (hc : c < 18446744073709551616)
    (h1 : x * y = lo + 18446744073709551616 * hi) (h2 : lo + c = p + 18446744073709551616 * q) (h3 : o + p = r + 18446744073709551616 * t) : hi + q + t < 18446744073709551616 := by
  have : x * y ≤ 18446744073709551615 * 18446744073709551615 := Nat.mul_le_mul (by omega) (by omega)
  omega
theorem split64 (z : Nat) : ∃ lo hi, z = lo + 18446744073709551616 * hi ∧ lo < 18446744073709551616 ∧ z % 18446744073709551616 = lo ∧ z / 18446744073709551616 = hi :=
  ⟨z % 18446744073709551616, z / 18446744073709551616, by omega, by omega, rfl, rfl⟩
theorem add_parts {x y p q : Nat} (h : x + y = p + 18446744073709551616 * q) (hp : p < 18446744073709551616) (w : World) : (callFunc 111 #[.int .u64 x, .int .u64 y, .int .u64 0]).run Tryd.prog w =
    .ok (.value (.tuple #[.int .u64 p, .int .u64 q])) w := by
  have := add64_run x y 0 (by decide) w
  rw [Nat.add_zero, h, show (p + 18446744073709551616 * q) % 18446744073709551616 = p from by omega, show (p + 18446744073709551616 * q) / 18446744073709551616 = q from by omega] at this
  exact this
theorem mul_parts {x y lo hi : Nat} (hx : x < 18446744073709551616) (hy : y < 18446744073709551616) (h : x * y = lo + 18446744073709551616 * hi) (hl : lo < 18446744073709551616) (w : World) :
    Calls Tryd.prog 119 #[.int .u64 x, .int .u64 y] w fun e w' => e = .returned (.tuple #[.int .u64 hi, .int .u64 lo]) ∧ w = w' := by
  refine (Tryd.bits_Mul64 x y hx hy w).mono ?_
  rintro e w1 ⟨rfl, rfl⟩
  rw [h, show (lo + 18446744073709551616 * hi) % 18446744073709551616 = lo from by omega, show (lo + 18446744073709551616 * hi) / 18446744073709551616 = hi from by omega]
  exact ⟨rfl, rfl⟩
theorem prod_words {n m k l : Nat} (hn : n < 2 ^ (64 * k)) (hm : m < 2 ^ (64 * l)) : n * m < 2 ^ (64 * (k + l)) := by
  rw [Nat.mul_add, Nat.pow_add]
  exact Nat.mul_lt_mul'' hn hm

set_option maxRecDepth 100000 in
set_option maxHeartbeats 3200000 in
theorem nat_mul (v u : Value) (k l n m : Nat) (w : World) (h : NatV w v k n) (h' : NatV w u l m) (hk : k ≤ 100000) (hl : l ≤ 100000) (hk0 : 0 < k) (hl0 : 0 < l) : Calls Tryd.prog 70 #[v, u] w (RetNat w (n * m)) := by
  have hlt := Lib.hid (prod_words h.lt h'.lt)
  have hmlt := Lib.hid h'.lt
  have hnlt := Lib.hid h.lt
  obtain ⟨_, A1, c1, rfl, hk1, hk2, h14⟩ := h
  obtain ⟨_, A2, c2, rfl, hl1, hl2, h24⟩ := h'
  obtain ⟨b1, off1, rfl, hb1, hcl1⟩ := h14 hk0
  obtain ⟨b2, off2, rfl, hb2, hcl2⟩ := h24 hl0
  have HC1 := Lib.hid hcl1
  have HC2 := Lib.hid hcl2
  clear hcl1 hcl2 h14 h24
  unfold maxLen at hk2 hl2
  obtain ⟨T, hT⟩ : ∃ T, T = k + l := ⟨_, rfl⟩
  have hTI : (k : Int) + (l : Int) = (T : Int) := by omega
  have hTb : T ≤ 1000000 := by omega
  have HT := Lib.hid hT
  rw [← hT] at hlt
  have hmk := fun W => make_run T hTb W
  clear hT
  go_enter Tryd.func70, Tryd.ntmps70
  go_wp2_with fail
  clear hmk
  go_loopg [22] k (fun g s22 wr => ∃ i : Nat, i + g = k ∧ s22 = .int .i64 (i : Int) ∧ Blk wr w.heap.size 22 (wcells T ((n % 2 ^ (64 * i)) * m)) ∧ Ext w wr)
  case atStart => exact ⟨0, by omega, rfl, by simpa [Nat.mod_one] using Blk.new w 22 (wcells T 0), (Ext.refl w).alloc _⟩
  case round =>
    obtain ⟨i, hi, rfl, hB, hbr⟩ := hrel
    cases gk with
    | zero =>
      have hz : ¬ ((i : Int) < (k : Int)) := by omega
      obtain rfl : i = k := by omega
      rw [Nat.mod_eq_of_lt hnlt.out] at hB
      have c96 := Lib.hid (trim_any _ _ _ wr (NatV.of_blk hlt.out (by unfold maxLen; omega) hB))
      clear hB
      go_wp2_with fail
      refine c96.out.mono ?_
      rintro e w1 ⟨v1, rfl, h1, rfl⟩
      go_wp2_with fail
      go_ret
      exact ⟨_, rfl, h1, hbr⟩
    | succ g =>
      have hik : (i : Int) < (k : Int) := by omega
      have hik' : i < k := by omega
      have e1 := (hbr.cell (p := ⟨b1, off1 + i, none⟩) hb1).trans (HC1.out i hik')
      obtain ⟨x, hx⟩ : ∃ x, x = word n i := ⟨_, rfl⟩
      have hxl : x < 18446744073709551616 := by rw [hx]; exact word_lt n i
      rw [← hx] at e1
      have HX := Lib.hid hx
      clear hx
      have hM0 : (n % 2 ^ (64 * i)) * m < 2 ^ (64 * (i + l)) := prod_words (Nat.mod_lt _ (two_pos _)) hmlt.out
      have HM0 := Lib.hid hM0
      clear hM0
      go_wp2_with fail
      clear e1
      obtain ⟨wo, rfl⟩ : ∃ wo : World, wo = wr := ⟨_, rfl⟩
      go_loopg [8, 29] l (fun g' s8 s29 wi => ∃ j M c : Nat, j + g' = l ∧ s8 = .int .u64 (c : Int) ∧ s29 = .int .i64 (j : Int) ∧ Hid (M + c * 2 ^ (64 * (i + j)) = (n % 2 ^ (64 * i)) * m + x * (m % 2 ^ (64 * j)) * 2 ^ (64 * i)) ∧ Hid (M < 2 ^ (64 * (i + l))) ∧ c < 18446744073709551616 ∧ Blk wi w.heap.size 22 (wcells T M) ∧ Ext w wi)
      case atStart => exact ⟨0, (n % 2 ^ (64 * i)) * m, 0, by omega, rfl, rfl, (by simp [Nat.mod_one] : (n % 2 ^ (64 * i)) * m + 0 * 2 ^ (64 * (i + 0)) = (n % 2 ^ (64 * i)) * m + x * (m % 2 ^ (64 * 0)) * 2 ^ (64 * i)), HM0, by decide, hB, hbr⟩
      case round =>
        obtain ⟨j, M, c, hj, rfl, rfl, hinv, hMl, hcl, hBi, hbi⟩ := hrel
        cases gk with
        | zero =>
          have hz : ¬ ((j : Int) < (l : Int)) := by omega
          obtain rfl : j = l := by omega
          obtain ⟨p, hp⟩ : ∃ p, p = i + j := ⟨_, rfl⟩
          have hpI : (i : Int) + (j : Int) = (p : Int) := by omega
          have hpT : p < T := by have := HT.out; omega
          have hpT' : (p : Int) < (T : Int) := by omega
          have cB := hBi.cell p
          rw [wcells_get hpT] at cB
          have hw0 : word M p = 0 := by rw [hp]; exact word_hi hMl.out
          rw [hw0] at cB
          have fB := hBi.frozen p
          have hset := Lib.hid (wcells_set (k := T) (n := M) (n' := M + c * 2 ^ (64 * p)) (j := p) (y := c) hcl (by rw [hw0, Nat.zero_mul, Nat.add_zero]))
          have hB3 := Lib.hid (hBi.set_ p (.int .u64 (c : Nat)))
          have hrow : M + c * 2 ^ (64 * p) = (n % 2 ^ (64 * (i + 1))) * m := by
            rw [hp]
            refine mul_row hmlt.out ?_
            rw [← HX.out]
            exact hinv.out
          have HR := Lib.hid hrow
          have hbx := Lib.hid hbi
          clear hw0 hrow hp hinv hB
          go_wp2_with fail
          go_roundg g
          case measure => omega
          case rel =>
            refine ⟨i + 1, by omega, by first | rfl | simp, ?_, Ext.setCell hbx.out (Nat.le_refl _) _⟩
            rw [← HR.out, ← hset.out]
            exact hB3.out
        | succ g' =>
          have hjl : (j : Int) < (l : Int) := by omega
          have hjl' : j < l := by omega
          have e2 := (hbi.cell (p := ⟨b2, off2 + j, none⟩) hb2).trans (HC2.out j hjl')
          obtain ⟨y, hy⟩ : ∃ y, y = word m j := ⟨_, rfl⟩
          have hyl : y < 18446744073709551616 := by rw [hy]; exact word_lt m j
          rw [← hy] at e2
          obtain ⟨p, hp⟩ : ∃ p, p = i + j := ⟨_, rfl⟩
          have hpI : (i : Int) + (j : Int) = (p : Int) := by omega
          have hpT : p < T := by have := HT.out; omega
          have hpT' : (p : Int) < (T : Int) := by omega
          have cB := hBi.cell p
          rw [wcells_get hpT] at cB
          have fB := hBi.frozen p
          obtain ⟨o, ho⟩ : ∃ o, o = word M p := ⟨_, rfl⟩
          have hol : o < 18446744073709551616 := by rw [ho]; exact word_lt M p
          rw [← ho] at cB
          obtain ⟨lo, hi', m1, hlo, _, _⟩ := split64 (x * y)
          obtain ⟨p1, q1, m2, hp1, _, _⟩ := split64 (lo + c)
          obtain ⟨r, t, m3, hr, _, _⟩ := split64 (o + p1)
          have hsum := mul_bound hxl hyl hol hcl m1 m2 m3
          have hsum1 : hi' + q1 < 18446744073709551616 := by omega
          have c119 := Lib.hid (fun W => mul_parts hxl hyl m1 hlo W)
          have f1 := fun W => add_parts m2 hp1 W
          have f2 := fun W => add_parts m3 hr W
          have hstep : r + 18446744073709551616 * (hi' + q1 + t) = word M (i + j) + x * word m j + c := by rw [← hp, ← ho, ← hy]; omega
          have hP : M - o * 2 ^ (64 * p) + r * 2 ^ (64 * p) + word M (i + j) * 2 ^ (64 * (i + j)) = M + r * 2 ^ (64 * (i + j)) := by
            have : o * 2 ^ (64 * p) ≤ M := by
              have := word_parts M p
              rw [← ho] at this
              omega
            rw [← hp, ← ho]
            omega
          have hinv' := Lib.hid (mul_step hinv.out hstep hP)
          have hMl' := Lib.hid (set_lt hr hP (show i + j < i + l by omega) hMl.out)
          rw [← hp] at hP
          have hset := Lib.hid (wcells_set (k := T) hr hP)
          have hB3 := Lib.hid (hBi.set_ p (.int .u64 (r : Nat)))
          have hbx := Lib.hid hbi
          generalize M - o * 2 ^ (64 * p) + r * 2 ^ (64 * p) = M' at *
          clear hP hstep ho hy hp m1 m2 m3 hinv hMl hB
          go_wp2_with (go_at_call 119; (with_reducible refine (c119.out _).mono ?_); rintro e w2 ⟨rfl, rfl⟩)
          go_roundg g'
          case measure => omega
          case rel =>
            refine ⟨j + 1, M', hi' + q1 + t, by omega, by first | rfl | simp, by first | rfl | simp, hinv'.out, hMl'.out, hsum, ?_, Ext.setCell hbx.out (Nat.le_refl _) _⟩
            rw [← hset.out]
            exact hB3.out
end Go.Proofs.YtogdiobbjlpmoaaDoor

namespace Go.Proofs.YtogdiobbjlpmoaaDoor
open Go Go.RowKit Cal

theorem shr_word (a N i : Nat) : word (a / 2 ^ N) i = word a (i + N / 64) / 2 ^ (N % 64) + word a (i + N / 64 + 1) * 2 ^ (64 - N % 64) % 18446744073709551616 := by
  have hs : N % 64 < 64 := Nat.mod_lt _ (by decide)
  have hN : 2 ^ N = 2 ^ (64 * (N / 64)) * 2 ^ (N % 64) := by rw [← Nat.pow_add, Nat.div_add_mod]
  have h1 : a / 2 ^ N / 2 ^ (64 * i) = a / 2 ^ (64 * (i + N / 64)) / 2 ^ (N % 64) := by
    rw [hN, Nat.div_div_eq_div_mul, Nat.div_div_eq_div_mul, Nat.mul_add 64, Nat.pow_add]
    congr 1
    simp only [Nat.mul_comm, Nat.mul_left_comm]
  have h2 := div_step a (i + N / 64)
  have h3 : word a (i + N / 64 + 1) = a / 2 ^ (64 * (i + N / 64 + 1)) % 18446744073709551616 := rfl
  have h4 := word_lt a (i + N / 64)
  unfold word at h1 ⊢
  rw [h1]
  rw [show a / 2 ^ (64 * (i + N / 64)) % 18446744073709551616 = word a (i + N / 64) from rfl, show a / 2 ^ (64 * (i + N / 64 + 1)) % 18446744073709551616 = word a (i + N / 64 + 1) from rfl]
  rw [h2, h3]
  generalize a / 2 ^ (64 * (i + N / 64 + 1)) = Y at *
  generalize word a (i + N / 64) = x at *
  generalize N % 64 = s at *
  have e : (18446744073709551616 : Nat) = 2 ^ s * 2 ^ (64 - s) := by rw [← Nat.pow_add, show s + (64 - s) = 64 from by omega]
  have h5 : (x + 18446744073709551616 * Y) / 2 ^ s = x / 2 ^ s + 2 ^ (64 - s) * Y := by
    rw [e, Nat.mul_assoc, Nat.add_mul_div_left _ _ (two_pos s)]
  have h6 : x / 2 ^ s < 2 ^ (64 - s) := by
    rw [Nat.div_lt_iff_lt_mul (two_pos s), Nat.mul_comm, ← e]
    exact h4
  have h7 : Y % 18446744073709551616 * 2 ^ (64 - s) % 18446744073709551616 = 2 ^ (64 - s) * (Y % 2 ^ s) := by
    rw [Nat.mul_comm, show (18446744073709551616 : Nat) = 2 ^ (64 - s) * 2 ^ s from by rw [Nat.mul_comm]; exact e, Nat.mul_mod_mul_left]
    congr 1
    rw [Nat.mul_comm (2 ^ (64 - s)), Nat.mod_mul_right_mod]
  have h8 : (x / 2 ^ s + 2 ^ (64 - s) * Y) % 18446744073709551616 = x / 2 ^ s + 2 ^ (64 - s) * (Y % 2 ^ s) := by
    rw [show (18446744073709551616 : Nat) = 2 ^ (64 - s) * 2 ^ s from by rw [Nat.mul_comm]; exact e, Nat.mod_mul, Nat.add_mul_mod_self_left, Nat.mod_eq_of_lt h6, Nat.add_mul_div_left _ _ (two_pos _), Nat.div_eq_of_lt h6, Nat.zero_add]
  rw [h5, h7, h8]

set_option maxRecDepth 100000 in
set_option maxHeartbeats 3200000 in
theorem nat_shr (v : Value) (k a : Nat) (w : World) (h : NatV w v k a) (hk : k ≤ 100000) (N : Nat) (hN : N ≤ 131072) (hqk : N / 64 < k) : Calls Tryd.prog 102 #[v, .int .i64 N] w (RetNat w (a / 2 ^ N)) := by
  have hlt0 := h.lt
  have hv := Lib.hid h
  obtain ⟨_, A1, c1, rfl, hk1, hk2, h14⟩ := h
  obtain ⟨b1, off1, rfl, hb1, hcl1⟩ := h14 (by omega)
  have HC1 := Lib.hid hcl1
  clear hcl1 h14
  unfold maxLen at hk2
  have hmx : max (N : Int) 0 = (N : Int) := by omega
  have hmn : min (N : Int) 131072 = (N : Int) := by omega
  obtain ⟨q, hq⟩ : ∃ q, q = N / 64 := ⟨_, rfl⟩
  obtain ⟨s, hs⟩ : ∃ s, s = N % 64 := ⟨_, rfl⟩
  have hqI : (N : Int) / 64 = (q : Int) := by omega
  have hsI : (N : Int) % 64 = (s : Int) := by omega
  have hs64 : s < 64 := by omega
  obtain ⟨T, hT⟩ : ∃ T, T = k - q := ⟨_, rfl⟩
  have hTI : (k : Int) - (q : Int) = (T : Int) := by omega
  have hTm : max 0 (T : Int) = (T : Int) := by omega
  have hTb : T ≤ 1000000 := by omega
  have hqb : q ≤ 2048 := by omega
  have hTk : T + q = k := by omega
  have hlt : Hid (a / 2 ^ N < 2 ^ (64 * T)) := by
    show a / 2 ^ N < 2 ^ (64 * T)
    rw [Nat.div_lt_iff_lt_mul (two_pos N), ← Nat.pow_add]
    exact Nat.lt_of_lt_of_le hlt0 (Nat.pow_le_pow_right (by decide) (by omega))
  have HQ := Lib.hid hq
  have HS := Lib.hid hs
  have hmk := fun W => make_run T hTb W
  clear hT hq hs hlt0 hqk
  go_enter Tryd.func102, Tryd.ntmps102
  go_wp2_with fail
  clear hmk
  go_loopg [20] T (fun g s20 wr => ∃ i : Nat, i + g = T ∧ s20 = .int .i64 (i : Int) ∧ Blk wr w.heap.size 22 (wcells T (a / 2 ^ N % 2 ^ (64 * i))) ∧ Ext w wr)
  case atStart => exact ⟨0, by omega, rfl, by simpa [Nat.mod_one] using Blk.new w 22 (wcells T 0), (Ext.refl w).alloc _⟩
  case round =>
    obtain ⟨i, hi, rfl, hB, hbr⟩ := hrel
    cases gk with
    | zero =>
      have hz : ¬ ((i : Int) < (T : Int)) := by omega
      obtain rfl : i = T := by omega
      rw [Nat.mod_eq_of_lt hlt.out] at hB
      have c96 := Lib.hid (trim_any _ _ _ wr (NatV.of_blk hlt.out (by unfold maxLen; omega) hB))
      clear hB
      go_wp2_with fail
      refine c96.out.mono ?_
      rintro e w1 ⟨v1, rfl, h1, rfl⟩
      go_wp2_with fail
      go_ret
      exact ⟨_, rfl, h1, hbr⟩
    | succ g =>
      have hik : (i : Int) < (T : Int) := by omega
      have hik' : i < T := by omega
      obtain ⟨p, hp⟩ : ∃ p, p = i + q := ⟨_, rfl⟩
      have hpI : (i : Int) + (q : Int) = (p : Int) := by omega
      have hpk : p < k := by omega
      have hpkI : (p : Int) < (k : Int) := by omega
      have hw := shr_word a N i
      rw [← HQ.out, ← HS.out, ← hp] at hw
      have e1 := (hbr.drew.cell (p := ⟨b1, off1 + p, none⟩) hb1).trans (HC1.out p hpk)
      have c112 := nat_at _ k a _ ((hv.out.ext hbr).drew) (p + 1)
      rw [show ((p + 1 : Nat) : Int) = (p : Int) + 1 from by omega] at c112
      have C112 := Lib.hid c112
      have hxl := word_lt a p
      have hyl := word_lt a (p + 1)
      generalize word a p = x at *
      generalize word a (p + 1) = y at *
      obtain ⟨o, ho⟩ : ∃ o, o = x / 2 ^ s := ⟨_, rfl⟩
      obtain ⟨z, hz⟩ : ∃ z, z = y * 2 ^ (64 - s) % 18446744073709551616 := ⟨_, rfl⟩
      rw [← ho, ← hz] at hw
      have hol : o < 2 ^ (64 - s) := by
        rw [ho, Nat.div_lt_iff_lt_mul (two_pos s), ← Nat.pow_add, show 64 - s + s = 64 from by omega]
        exact hxl
      have ho64 : o < 18446744073709551616 := by rw [ho]; exact Nat.lt_of_le_of_lt (Nat.div_le_self _ _) hxl
      have hz64 : z < 18446744073709551616 := by rw [hz]; omega
      have hshr : (x : Int) / 2 ^ s = (o : Int) := by rw [zdiv, ho]
      have hshl : IntKind.u64.wrap ((y : Int) * 2 ^ (64 - s)) = (z : Int) := by
        rw [zmul, IntKind.wrap_u64, hz]
        omega
      obtain ⟨u, hu⟩ : ∃ u, u = word (a / 2 ^ N) i := ⟨_, rfl⟩
      have hor : bits .or .u64 (o : Int) (z : Int) = (u : Int) := by
        have h1 := or_shift (o := o) (x := y) (s := 64 - s) hol (by omega)
        rw [← hz] at h1
        rw [bits_or_u64_nat _ _ ho64 hz64, h1, hu, hw]
      have hF := Lib.hid (wcells_fill T (a / 2 ^ N) i)
      have hB2 := Lib.hid ((hB.set_ i (.int .u64 (word (a / 2 ^ N) i : Nat))).drew)
      rw [← hu] at hF hB2
      have cB := hB.cell i
      rw [wcells_get hik'] at cB
      have fB := hB.frozen i
      generalize word (a / 2 ^ N % 2 ^ (64 * i)) i = old at *
      have cB' : wr.drew.cell? ⟨w.heap.size, i, none⟩ = some (.int .u64 (old : Int)) := cB
      have fB' : wr.drew.frozen? ⟨w.heap.size, i, none⟩ = false := fB
      have hxr := Lib.hid hbr
      have h64s : ((64 : Int) - (s : Int)).toNat = 64 - s := by omega
      have hs0 : (0 : Int) ≤ 64 - (s : Int) := by omega
      have htm : (N : Int).tmod 64 = (s : Int) := by rw [Int.tmod_eq_emod_of_nonneg (by omega)]; exact hsI
      have hw1 : IntKind.i64.wrap ((p : Int) + 1) = (p : Int) + 1 := by rw [IntKind.wrap_i64]; omega
      have hw2 : IntKind.i64.wrap (64 - (s : Int)) = 64 - (s : Int) := by rw [IntKind.wrap_i64]; omega
      clear hw ho hz hu hol hp hB c112
      go_wp2_with fail
      go_region_with ((go_at_call 112; (with_reducible refine C112.out.mono ?_); rintro e w2 ⟨rfl, rfl⟩))
      all_goals go_wp2_with fail
      all_goals go_roundg g
      all_goals try (case measure => omega)
      all_goals
        refine ⟨i + 1, by omega, by first | rfl | simp, ?_, Ext.drew (Ext.setCell hxr.out (Nat.le_refl _) _)⟩
        rw [← hF.out]
        exact hB2.out

theorem pow_half (s n : Nat) : s ^ n = (s * s) ^ (n / 2) * s ^ (n % 2) := by
  rw [← Nat.pow_two, ← Nat.pow_mul, ← Nat.pow_add, Nat.div_add_mod]

set_option maxRecDepth 100000 in
set_option maxHeartbeats 3200000 in
/-- nat.Pow. -/
theorem nat_pow (b N : Nat) (hb0 : 0 < b) (hb : b < 18446744073709551616) (hN : N ≤ 10000) (hR : wlen (b ^ N) ≤ 10000) (w : World) : Calls Tryd.prog 92 #[.int .u64 b, .int .i64 N] w (RetNat w (b ^ N)) := by
  have c1 := Lib.hid (fun W => nat_of 1 (by decide) W)
  have cb := Lib.hid (fun W => nat_of b hb W)
  have hmx : max (N : Int) 0 = (N : Int) := by omega
  have hmn : min (N : Int) 10000 = (N : Int) := by omega
  obtain ⟨R, hRe⟩ : ∃ R, R = b ^ N := ⟨_, rfl⟩
  rw [← hRe] at hR ⊢
  have HR := Lib.hid hRe
  have HL := Lib.hid hR
  clear hRe hR
  go_enter Tryd.func92, Tryd.ntmps92
  go_wp2_with fail
  refine (c1.out _).mono ?_
  rintro e w1 ⟨v1, rfl, n1, hb1⟩
  go_wp2_with fail
  refine (cb.out _).mono ?_
  rintro e w2 ⟨v2, rfl, n2, hb2⟩
  go_wp2_with fail
  have n1' := n1.ext hb2
  have hx2 : Ext w w2 := hb1.trans hb2
  clear n1 c1 cb
  go_loopg [1, 5, 6] N (fun g s1 s5 s6 wr => ∃ n o s : Nat, n ≤ g ∧ s1 = .int .i64 (n : Int) ∧ Hid (o * s ^ n = R) ∧ 0 < o ∧ 0 < s ∧ n ≤ 10000 ∧ Hid (wlen o ≤ 10000 ∧ (0 < n → wlen s ≤ 10000)) ∧ NatV wr s5 (wlen o) o ∧ (0 < n → NatV wr s6 (wlen s) s) ∧ Ext w wr)
  case atStart =>
    refine ⟨N, 1, b, Nat.le_refl _, rfl, by show 1 * b ^ N = R; rw [Nat.one_mul]; exact HR.out.symm, by decide, hb0, hN, ⟨by decide, fun _ => ?_⟩, n1', fun _ => n2, hx2⟩
    exact Nat.le_trans ((wlen_le b 1).2 (by simpa using hb)) (by decide)
  case round =>
    obtain ⟨n, o, s, hng, rfl, hos, ho0, hs0, hn, hwl, no, ns, hbr⟩ := hrel
    rcases Nat.eq_zero_or_pos n with h0 | h0
    · subst h0
      have hoR : o = R := by have := hos.out; simpa using this
      subst hoR
      clear ns hos
      go_wp2_with fail
      go_ret
      exact ⟨_, rfl, no, hbr⟩
    · have hns := ns h0
      obtain ⟨g, rfl⟩ : ∃ g, gk = g + 1 := ⟨gk - 1, by omega⟩
      have hpos : decide ((0 : Int) < (n : Int)) = true := decide_eq_true (by omega)
      have hpos' : decide (0 < n) = true := decide_eq_true h0
      have hhalf := pow_half s n
      obtain ⟨m, hm⟩ : ∃ m, m = n / 2 := ⟨_, rfl⟩
      have hdiv : (n : Int) / 2 = (m : Int) := by omega
      have hm2 : m ≤ 5000 := by omega
      have hmg : m ≤ g := by omega
      have hm1 : 1 < n → 0 < m := by omega
      rw [← hm] at hhalf
      have hle : ∀ x y z : Nat, 0 < y → x * y = z → x ≤ z := fun x y z h e => by rw [← e]; exact Nat.le_mul_of_pos_right _ h
      have hsq : 1 < n → s * s ≤ R := fun h1 => by
        have hh : (s * s) ^ (m) = s * s * (s * s) ^ (m - 1) := by have := hm1 h1; rw [← Nat.pow_succ']; congr 1; omega
        have h2 : o * ((s * s) ^ (m) * s ^ (n % 2)) = R := by rw [← hhalf]; exact hos.out
        rw [hh] at h2
        refine hle (s * s) (o * ((s * s) ^ (m - 1) * s ^ (n % 2))) R (Nat.mul_pos ho0 (Nat.mul_pos (Nat.pow_pos (Nat.mul_pos hs0 hs0)) (Nat.pow_pos hs0))) ?_
        rw [← h2]
        simp only [Nat.mul_assoc, Nat.mul_left_comm]
      have c70s := Lib.hid (fun W x h => nat_mul x x (wlen s) (wlen s) s s W h h (by have := hwl.out.2 h0; omega) (by have := hwl.out.2 h0; omega) (wlen_pos.2 hs0) (wlen_pos.2 hs0))
      have HMM := Lib.hid hm
      clear hm
      by_cases hodd : n % 2 = 1
      · have dodd : ((n : Int) % 2 == 1) = true := by rw [beq_iff_eq]; omega
        have c70o := Lib.hid (fun W x y h h' => nat_mul x y (wlen o) (wlen s) o s W h h' (by have := hwl.out.1; omega) (by have := hwl.out.2 h0; omega) (wlen_pos.2 ho0) (wlen_pos.2 hs0))
        have hnew : Hid (o * s * (s * s) ^ (m) = R) := by
          show o * s * (s * s) ^ (m) = R
          rw [← hos.out, hhalf, hodd, Nat.pow_one]
          simp only [Nat.mul_assoc, Nat.mul_comm]
        have hosl : Hid (wlen (o * s) ≤ 10000) := Nat.le_trans (wlen_mono (hle (o * s) ((s * s) ^ (m)) R (Nat.pow_pos (Nat.mul_pos hs0 hs0)) hnew.out)) HL.out
        have hos0 := Nat.mul_pos ho0 hs0
        by_cases h1 : 1 < n
        · have d1 : decide ((1 : Int) < (n : Int)) = true := decide_eq_true (by omega)
          have d1' : decide (1 < n) = true := decide_eq_true h1
          have hsl : Hid (wlen (s * s) ≤ 10000) := Nat.le_trans (wlen_mono (hsq h1)) HL.out
          clear hhalf hsq hle hodd
          go_wp2_with fail
          refine (c70o.out _ _ _ no hns).mono ?_
          rintro e w3 ⟨v3, rfl, n3, hb3⟩
          go_wp2_with fail
          refine (c70s.out _ _ (hns.ext hb3)).mono ?_
          rintro e w4 ⟨v4, rfl, n4, hb4⟩
          go_wp2_with fail
          go_roundg g
          case measure => omega
          case rel => exact ⟨m, o * s, s * s, by omega, by first | rfl | simp, hnew, hos0, Nat.mul_pos hs0 hs0, by omega, ⟨hosl.out, fun _ => hsl.out⟩, n3.ext hb4, fun _ => n4, (hbr.trans hb3).trans hb4⟩
        · obtain rfl : n = 1 := by omega
          obtain rfl : m = 0 := by have := HMM.out; omega
          have hn1 : Hid (o * s * s ^ 0 = R) := by
            have := hnew.out
            show o * s * s ^ 0 = R
            simpa using this
          clear hhalf hsq hle hodd hnew
          go_wp2_with fail
          refine (c70o.out _ _ _ no hns).mono ?_
          rintro e w3 ⟨v3, rfl, n3, hb3⟩
          go_wp2_with fail
          go_roundg g
          case measure => omega
          case rel => exact ⟨0, o * s, s, by omega, by first | rfl | simp, hn1, hos0, hs0, by omega, ⟨hosl.out, fun h => absurd h (by decide)⟩, n3, fun h => absurd h (by decide), hbr.trans hb3⟩
      · have dodd : ((n : Int) % 2 == 1) = false := by rw [beq_eq_false_iff_ne]; omega
        have h1 : 1 < n := by omega
        have d1 : decide ((1 : Int) < (n : Int)) = true := decide_eq_true (by omega)
        have d1' : decide (1 < n) = true := decide_eq_true h1
        have hsl : Hid (wlen (s * s) ≤ 10000) := Nat.le_trans (wlen_mono (hsq h1)) HL.out
        have hnew : Hid (o * (s * s) ^ (m) = R) := by
          show o * (s * s) ^ (m) = R
          rw [← hos.out, hhalf, show n % 2 = 0 from by omega, Nat.pow_zero, Nat.mul_one]
        clear hhalf hsq hle hodd
        go_wp2_with fail
        refine (c70s.out _ _ hns).mono ?_
        rintro e w4 ⟨v4, rfl, n4, hb4⟩
        go_wp2_with fail
        go_roundg g
        case measure => omega
        case rel => exact ⟨m, o, s * s, by omega, by first | rfl | simp, hnew, ho0, Nat.mul_pos hs0 hs0, by omega, ⟨hwl.out.1, fun _ => hsl.out⟩, no.ext hb4, fun _ => n4, hbr.trans hb4⟩
end Go.Proofs.YtogdiobbjlpmoaaDoor

