/- What posit.split answers of a magnitude that may be. No condition but those written. -/
import Derived.Test.YtogdiobbjlpmoaaDoorOdd
import Derived.Test.YtogdiobbjlpmoaaDoorRuns2
import Derived.Test.YtogdiobbjlpmoaaDoorShelf
import Derived.Test.YtogdiobbjlpmoaaDoorForms
import Derived.Laws.Bits64
import Derived.IntWalk
namespace Go.Proofs.YtogdiobbjlpmoaaDoor
open Go Go.RowKit Cal

theorem must_ok (b : Bool) (hb : b = true) (w : World) : Calls Tryd.prog 164 #[.bool b, .int .i64 1] w fun e w' => e = .returned (.tuple #[]) ∧ w = w' := by
  subst hb
  go_enter Tryd.func164, Tryd.ntmps164
  go_wp2
  go_end0
  exact ⟨rfl, rfl⟩

theorem wide_ok (n : Nat) (h1 : 2 ≤ n) (h2 : n ≤ 64) (w : World) : Calls Tryd.prog 163 #[.int .i64 ((n : Int) + 1)] w fun e w' => e = .returned (.tuple #[]) ∧ w = w' := by
  have d1 : decide (3 ≤ (n : Int) + 1) = true := by simp; omega
  have d2 : decide ((n : Int) + 1 ≤ 65) = true := by simp; omega
  go_enter Tryd.func163, Tryd.ntmps163
  go_wp2_with (first | (go_at_call 164; refine (must_ok _ rfl _).mono ?_; rintro e w1 ⟨rfl, rfl⟩))
  go_end0
  exact ⟨rfl, rfl⟩

theorem pexp_le (n key : Nat) : pexp n key ≤ 3 := by
  have hrest : prest n key < 2 ^ pleft n key := Nat.mod_lt _ (two_pos _)
  unfold pexp pbits
  rcases Nat.lt_or_ge (pleft n key) 2 with h | h
  · have : pleft n key = 0 ∨ pleft n key = 1 := by omega
    rcases this with e | e
    · rw [e] at hrest ⊢
      simp at hrest
      simp [hrest]
    · rw [e] at hrest ⊢
      simp
      omega
  · obtain ⟨j, hj⟩ : ∃ j, pleft n key = j + 2 := ⟨pleft n key - 2, by omega⟩
    rw [hj] at hrest ⊢
    have e : 2 - (j + 2) = 0 := by omega
    have hp := two_pos j
    have hd : prest n key / 2 ^ j < 4 := (Nat.div_lt_iff_lt_mul hp).2 (by rw [Nat.pow_add] at hrest; omega)
    rw [e, Nat.add_sub_cancel]
    omega

theorem lz_any (H r : Nat) (hH : H < 18446744073709551616) (hr : 64 - Lib.bitLen H = r) (w : World) :
    Calls Tryd.prog 100 #[.int .u64 H] w fun e w' => e = .returned (.int .i64 (r : Nat)) ∧ w = w' := by
  have hl := Lib.bitLen_le H 64 (by omega) (by omega)
  refine (Tryd.bits_LeadingZeros64 H w (by omega) (by omega)).mono ?_
  rintro e w' ⟨rfl, rfl⟩
  refine ⟨ret1 ?_, rfl⟩
  rw [Int.toNat_natCast]
  omega

theorem key_fits (n key : Nat) (h1 : 2 ≤ n) (hk : key < 2 ^ n) : ((key : Int) / 2 ^ (n - 1) / 2 == 0) = true := by
  rw [zdiv, beq_iff_eq]
  have e : 2 ^ n = 2 ^ (n - 1) * 2 := by rw [← Nat.pow_succ]; congr 1; omega
  have : key / 2 ^ (n - 1) < 2 := (Nat.div_lt_iff_lt_mul (two_pos _)).2 (by omega)
  generalize key / 2 ^ (n - 1) = q at *
  omega

set_option maxHeartbeats 800000 in
theorem split_low (n key r H L M R B D X MB F : Nat) (h1 : 2 ≤ n) (h2 : n ≤ 64) (hH : H < 18446744073709551616) (hr : 64 - Lib.bitLen H = r) (hr1 : 1 ≤ r) (hr2 : r ≤ 64)
    (k0 : ((key : Int) != 0) = true) (k1 : ((key : Int) / 2 ^ (n - 1) / 2 == 0) = true) (hw : IntKind.u64.wrap ((key : Int) * 2 ^ (64 - n)) = H)
    (hL : max ((n : Int) - r - 1) 0 = L) (hL2 : L ≤ 64) (hM : IntKind.u64.wrap (IntKind.u64.wrap (2 ^ L) - 1) = M) (hR : bits BinOp.and IntKind.u64 (key : Int) M = R)
    (hB : max ((L : Int) - 2) 0 = B) (hB2 : B ≤ 64) (hD : max (2 - (L : Int)) 0 = D) (hD2 : D ≤ 2) (hX : IntKind.u64.wrap ((R : Int) / 2 ^ B * 2 ^ D) = X) (hX2 : X ≤ 3)
    (hMB : IntKind.u64.wrap (IntKind.u64.wrap (2 ^ B) - 1) = MB) (hF : bits BinOp.and IntKind.u64 (R : Int) MB = F) (w : World) :
    Calls Tryd.prog 161 #[.int .i64 ((n : Int) + 1), .int .u64 key] w fun e w' =>
      e = .returned (.agg #[.int .i64 (-(r : Int)), .int .i64 X, .int .u64 F, .int .i64 B]) ∧ Ext w w' := by
  have r0 : ((r : Int) == 0) = false := by rw [beq_eq_false_iff_ne]; omega
  have c100 := Lib.hid (fun W => lz_any H r hH hr W)
  clear hr
  go_enter Tryd.func161, Tryd.ntmps161
  go_wp2_with (first | (go_at_call 164; refine (must_ok _ rfl _).mono ?_; rintro e w1 ⟨rfl, rfl⟩) | (go_at_call 163; refine (wide_ok n h1 h2 _).mono ?_; rintro e w1 ⟨rfl, rfl⟩) | (go_at_call 100; refine (c100.out _).mono ?_; rintro e w1 ⟨rfl, rfl⟩))
  exact bodyPost_ret (v := .agg #[.int .i64 (-(r : Int)), .int .i64 X, .int .u64 F, .int .i64 B]) (by simp [results, Tryd.results161, go_sem]) rfl ⟨rfl, by (repeat (first | (with_reducible exact Ext.refl _) | (with_reducible assumption) | (with_reducible refine Ext.drew ?_) | (with_reducible refine Ext.drewN ?_ _) | (with_reducible refine Ext.alloc ?_ _) | (with_reducible refine Ext.setCell ?_ (Nat.le_refl _) _) | (with_reducible refine Ext.setCell ?_ (by simp; try omega) _) | (with_reducible refine Ext.trans ?_ (by with_reducible assumption))))⟩

set_option maxHeartbeats 800000 in
theorem split_high (n key r q H H2 L M R B D X MB F : Nat) (h1 : 2 ≤ n) (h2 : n ≤ 64) (hH : H < 18446744073709551616) (hr : 64 - Lib.bitLen H = 0) (hr1 : 1 ≤ r) (hr2 : r ≤ 64)
    (hH2 : H2 < 18446744073709551616) (hq : 64 - Lib.bitLen H2 = q) (hr3 : min (q : Int) n = r) (hxor : bits BinOp.xor IntKind.u64 IntKind.u64.max (H : Int) = H2)
    (k0 : ((key : Int) != 0) = true) (k1 : ((key : Int) / 2 ^ (n - 1) / 2 == 0) = true) (hw : IntKind.u64.wrap ((key : Int) * 2 ^ (64 - n)) = H)
    (hL : max ((n : Int) - r - 1) 0 = L) (hL2 : L ≤ 64) (hM : IntKind.u64.wrap (IntKind.u64.wrap (2 ^ L) - 1) = M) (hR : bits BinOp.and IntKind.u64 (key : Int) M = R)
    (hB : max ((L : Int) - 2) 0 = B) (hB2 : B ≤ 64) (hD : max (2 - (L : Int)) 0 = D) (hD2 : D ≤ 2) (hX : IntKind.u64.wrap ((R : Int) / 2 ^ B * 2 ^ D) = X) (hX2 : X ≤ 3)
    (hMB : IntKind.u64.wrap (IntKind.u64.wrap (2 ^ B) - 1) = MB) (hF : bits BinOp.and IntKind.u64 (R : Int) MB = F) (w : World) :
    Calls Tryd.prog 161 #[.int .i64 ((n : Int) + 1), .int .u64 key] w fun e w' =>
      e = .returned (.agg #[.int .i64 ((r : Int) - 1), .int .i64 X, .int .u64 F, .int .i64 B]) ∧ Ext w w' := by
  have c100 := Lib.hid (fun W => lz_any H 0 hH hr W)
  have c100' := Lib.hid (fun W => lz_any H2 q hH2 hq W)
  clear hr hq
  go_enter Tryd.func161, Tryd.ntmps161
  go_wp2_with (first | (go_at_call 164; refine (must_ok _ rfl _).mono ?_; rintro e w1 ⟨rfl, rfl⟩) | (go_at_call 163; refine (wide_ok n h1 h2 _).mono ?_; rintro e w1 ⟨rfl, rfl⟩) | ((with_reducible (go_at_call 100; refine (c100.out _).mono ?_; rintro e w1 ⟨rfl, rfl⟩))) | ((with_reducible (go_at_call 100; refine (c100'.out _).mono ?_; rintro e w1 ⟨rfl, rfl⟩))))
  exact bodyPost_ret (v := .agg #[.int .i64 ((r : Int) - 1), .int .i64 X, .int .u64 F, .int .i64 B]) (by simp [results, Tryd.results161, go_sem]) rfl ⟨rfl, by (repeat (first | (with_reducible exact Ext.refl _) | (with_reducible assumption) | (with_reducible refine Ext.drew ?_) | (with_reducible refine Ext.drewN ?_ _) | (with_reducible refine Ext.alloc ?_ _) | (with_reducible refine Ext.setCell ?_ (Nat.le_refl _) _) | (with_reducible refine Ext.setCell ?_ (by simp; try omega) _) | (with_reducible refine Ext.trans ?_ (by with_reducible assumption))))⟩

theorem u_not (H : Nat) (h : H < 18446744073709551616) : bits BinOp.xor IntKind.u64 IntKind.u64.max (H : Int) = ((18446744073709551615 - H : Nat) : Int) := by
  have hm : IntKind.u64.max = ((18446744073709551615 : Nat) : Int) := by decide
  rw [hm, bits_xor_u64_nat _ _ (by decide) h]
  congr 1
  apply Nat.eq_of_testBit_eq
  intro i
  have e1 : 18446744073709551615 = 2 ^ 64 - 1 := by decide
  have e2 : 18446744073709551615 - H = 2 ^ 64 - (H + 1) := by omega
  rw [Nat.testBit_xor, e2, Nat.testBit_two_pow_sub_succ (by omega), e1, Nat.testBit_two_pow_sub_one]
  by_cases hi : i < 64
  · simp [hi]
  · have h0 : H.testBit i = false := Nat.testBit_lt_two_pow (Nat.lt_of_lt_of_le (show H < 2 ^ 64 by omega) (Nat.pow_le_pow_right (by decide) (by omega)))
    simp [hi, h0]

/-- posit.split, of a magnitude that may be. -/
theorem split_any (n key : Nat) (h1 : 2 ≤ n) (h2 : n ≤ 64) (h0 : 0 < key) (hk : key < 2 ^ n) (w : World) :
    Calls Tryd.prog 161 #[.int .i64 ((n : Int) + 1), .int .u64 key] w fun e w' =>
      e = .returned (.agg #[.int .i64 (preg n key), .int .i64 (pexp n key : Nat), .int .u64 (pfrac n key : Nat), .int .i64 (pbits n key : Nat)]) ∧ Ext w w' := by
  have hr1 := prun_pos n key (by omega) h2 hk
  have hr2 := prun_le n key
  have hkk := pow_le64 h2
  have hH := high_lt h2 hk
  have hclz := clz_high h2 h0 hk
  have hbl := bitLen_le_n h2 hk
  have k0 : ((key : Int) != 0) = true := by rw [bne_iff_ne]; omega
  have k1 := key_fits n key h1 hk
  have hw : IntKind.u64.wrap ((key : Int) * 2 ^ (64 - n)) = ((key * 2 ^ (64 - n) : Nat) : Int) := by rw [zmul, u_id _ (by omega)]
  have hL : max ((n : Int) - prun n key - 1) 0 = (pleft n key : Nat) := by unfold pleft; omega
  have hL2 : pleft n key ≤ 62 := by unfold pleft; omega
  have hM : IntKind.u64.wrap (IntKind.u64.wrap (2 ^ pleft n key) - 1) = ((2 ^ pleft n key - 1 : Nat) : Int) := by
    have := u64_mask (pleft n key) (by omega)
    rwa [Int.one_mul] at this
  have hR : bits BinOp.and IntKind.u64 (key : Int) ((2 ^ pleft n key - 1 : Nat) : Int) = (prest n key : Nat) := u_and_mask key _ (by omega) (by omega)
  have hB : max ((pleft n key : Int) - 2) 0 = (pbits n key : Nat) := by unfold pbits; omega
  have hB2 : pbits n key ≤ 64 := by unfold pbits; omega
  have hD : max (2 - (pleft n key : Int)) 0 = ((2 - pleft n key : Nat) : Int) := by omega
  have hX2 : pexp n key ≤ 3 := pexp_le n key
  have hX : IntKind.u64.wrap ((prest n key : Int) / 2 ^ pbits n key * 2 ^ (2 - pleft n key)) = (pexp n key : Nat) := by
    rw [zdiv, zmul]
    exact u_id _ (by have : pexp n key = prest n key / 2 ^ pbits n key * 2 ^ (2 - pleft n key) := rfl; omega)
  have hMB : IntKind.u64.wrap (IntKind.u64.wrap (2 ^ pbits n key) - 1) = ((2 ^ pbits n key - 1 : Nat) : Int) := by
    have := u64_mask (pbits n key) (by omega)
    rwa [Int.one_mul] at this
  have hrest : prest n key < 2 ^ pleft n key := Nat.mod_lt _ (two_pos _)
  have hlt : 2 ^ pleft n key ≤ 2 ^ 62 := Nat.pow_le_pow_right (by decide) hL2
  have hF : bits BinOp.and IntKind.u64 (prest n key : Int) ((2 ^ pbits n key - 1 : Nat) : Int) = (pfrac n key : Nat) := u_and_mask _ _ (by omega) (by omega)
  by_cases ht : 2 ^ (n - 1) ≤ key
  · have hreg : preg n key = (prun n key : Int) - 1 := by unfold preg; rw [if_pos ht]
    have hb := (bitLen_top (by omega) h2 hk).2 ht
    have hn := clz_not h2 hk
    have hpr : prun n key = n - Lib.bitLen (2 ^ n - 1 - key) := by unfold prun; rw [if_pos ht]
    rw [hreg]
    exact split_high n key (prun n key) _ _ _ (pleft n key) _ (prest n key) (pbits n key) _ (pexp n key) _ (pfrac n key) h1 h2 (by omega) (by omega) hr1 (by omega)
      (by omega) rfl (by omega) (u_not _ (by omega)) k0 k1 hw hL (by omega) hM hR hB hB2 hD (by omega) hX hX2 hMB hF w
  · have hreg : preg n key = -(prun n key : Int) := by unfold preg; rw [if_neg ht]
    have hpr : prun n key = n - Lib.bitLen key := by unfold prun; rw [if_neg ht]
    rw [hreg]
    exact split_low n key (prun n key) _ (pleft n key) _ (prest n key) (pbits n key) _ (pexp n key) _ (pfrac n key) h1 h2 (by omega) (by omega) hr1 (by omega) k0 k1 hw hL (by omega) hM hR hB hB2 hD
      (by omega) hX hX2 hMB hF w
end Go.Proofs.YtogdiobbjlpmoaaDoor

