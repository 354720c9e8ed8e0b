/- The document's Value of a posit's magnitude. No condition but those written. -/
import Derived.Test.YtogdiobbjlpmoaaDoorRefSp
namespace Go.Proofs.YtogdiobbjlpmoaaDoor
open Go Go.RowKit Cal

theorem pfrac_small (n key : Nat) : pfrac n key < 2 ^ pbits n key := Nat.mod_lt _ (two_pos _)
set_option maxRecDepth 100000 in
set_option maxHeartbeats 3200000 in
theorem rvalue5_any (n key : Nat) (h1 : 2 ≤ n) (h2 : n ≤ 64) (h0 : 0 < key) (hk : key < 2 ^ n) (w : World) :
    Calls Tryd.prog 83 #[.int .i64 ((n : Int) + 1), .int .u64 key] w fun e w' =>
      e = .returned (.tuple #[.int .u64 (((pval n key).1 : Nat) : Int), .int .i64 (pval n key).2, .bool true]) ∧ Ext w w' := by
  have c127 := Lib.hid (fun W => rsplit5_any n key h1 h2 h0 hk W)
  have hpv : pval n key = odd (2 ^ pbits n key + pfrac n key) (4 * preg n key + pexp n key - pbits n key) := rfl
  have hf := pfrac_small n key
  have hpb : pbits n key ≤ 62 := by unfold pbits pleft; omega
  have hpr := prun_le n key
  have hpe : pexp n key ≤ 3 := by
    have := rexp_eq n key _ rfl
    omega
  have hg : -64 ≤ preg n key ∧ preg n key ≤ 64 := by unfold preg; split <;> omega
  rw [hpv]
  generalize preg n key = G at *
  generalize pexp n key = X at *
  generalize pfrac n key = F at *
  generalize pbits n key = B at *
  have hp62 : 2 ^ B ≤ 2 ^ 62 := Nat.pow_le_pow_right (by decide) hpb
  obtain ⟨N, hN⟩ : ∃ N, N = 2 ^ B + F := ⟨_, rfl⟩
  obtain ⟨E, hE⟩ : ∃ E : Int, E = 4 * G + (X : Int) - B := ⟨_, rfl⟩
  rw [← hN, ← hE]
  have hN0 : 0 < N := by have := two_pos B; omega
  have hN64 : N < 9223372036854775808 := by omega
  have hE1 : -5000 ≤ E ∧ E ≤ 5000 := by omega
  generalize ho : odd N E = o
  have HO := Lib.hid ho
  have HN := Lib.hid hN
  have HE := Lib.hid hE
  clear hpv hf hpr hN hE ho hp62
  go_enter Tryd.func83, Tryd.ntmps83
  go_wp2_with (first | (go_at_call 127; refine (c127.out _).mono ?_; rintro e w1 ⟨rfl, hb1⟩; have F1 := Blk.new w1 153 #[.int .i64 G, .int .i64 (X : Int), .int .u64 (F : Int), .int .i64 (B : Int)]; have cF := F1.cell))
  go_loopg [10, 11] B (fun g s10 s11 wr => ∃ i : Nat, i + g = B ∧ Hid (∃ p : Nat, p = 2 ^ i ∧ s10 = .int .u64 (p : Int)) ∧ s11 = .int .i64 (i : Int) ∧ wr = w1.alloc (.cells #[.int .i64 G, .int .i64 (X : Int), .int .u64 (F : Int), .int .i64 (B : Int)] 153))
  case atStart => exact ⟨0, by omega, ⟨1, rfl, rfl⟩, rfl, rfl⟩
  case round =>
    obtain ⟨i, hi, hp, rfl, rfl⟩ := hrel
    obtain ⟨p, hp, rfl⟩ := hp
    have hpow : p < 9223372036854775808 := by
      have : 2 ^ i ≤ 2 ^ 62 := Nat.pow_le_pow_right (by decide) (by omega)
      omega
    have HP := Lib.hid hp
    clear hp
    cases gk with
    | succ g =>
      have hlt : (i : Int) < (B : Int) := by omega
      have H1 : Hid (∃ p' : Nat, p' = 2 ^ (i + 1) ∧ Value.int .u64 (2 * (p : Int)) = .int .u64 (p' : Int)) := ⟨2 * p, by rw [HP.out, Nat.pow_succ]; omega, by simp⟩
      go_wp2
      go_roundg g
      case measure => omega
      case rel => exact ⟨i + 1, by omega, H1, by first | rfl | simp, rfl⟩
    | zero =>
      have hz : ¬ ((i : Int) < (B : Int)) := by omega
      obtain rfl : i = B := by omega
      have hNN : (F : Int) + (p : Int) = (N : Int) := by have := HN.out; have := HP.out; omega
      have hEE : 4 * G + (X : Int) - (i : Int) = E := HE.out.symm
      go_wp2_with fail
      clear hNN hEE
      go_loopg [9, 12] N (fun g s9 s12 wr => ∃ k j : Nat, k ≤ g ∧ 0 < k ∧ Hid (k * 2 ^ j ≤ N) ∧ Hid (odd k (E + j) = o) ∧ s9 = .int .u64 (k : Int) ∧ s12 = .int .i64 (E + j) ∧ Ext w1 wr)
      case atStart => exact ⟨N, 0, Nat.le_refl _, hN0, (by simp : N * 2 ^ 0 ≤ N), (by simpa using HO.out : odd N (E + (0 : Nat)) = o), rfl, by simp, (Ext.refl w1).alloc _⟩
      case round =>
        obtain ⟨k, j, hkg, hk0, hkj, hko, rfl, rfl, hbr⟩ := hrel
        have hj : j < 64 := by
          rcases Nat.lt_or_ge j 64 with hj | hj
          · exact hj
          · have h3 : 2 ^ 64 ≤ 2 ^ j := Nat.pow_le_pow_right (by decide) hj
            have h4 := hkj.out
            have h5 : 1 * 2 ^ j ≤ k * 2 ^ j := Nat.mul_le_mul_right _ hk0
            omega
        have hk64 : k < 18446744073709551616 := by
          have h4 := hkj.out
          have h5 : k * 1 ≤ k * 2 ^ j := Nat.mul_le_mul_left _ (two_pos j)
          omega
        by_cases hp2 : k % 2 = 0
        · have d1 : ((k : Int) % 2 == 0) = true := by rw [beq_iff_eq]; omega
          have H1 : Hid (odd (k / 2) (E + ((j + 1 : Nat) : Int)) = o) := by
            have h6 := odd_half k (E + j) hk0 hk64 hp2
            show odd (k / 2) (E + ((j + 1 : Nat) : Int)) = o
            rw [show E + ((j + 1 : Nat) : Int) = E + (j : Int) + 1 from by omega, ← h6]
            exact hko.out
          have H2 : Hid (k / 2 * 2 ^ (j + 1) ≤ N) := by
            have h4 := hkj.out
            show k / 2 * 2 ^ (j + 1) ≤ N
            have h7 : k / 2 * 2 ^ (j + 1) = (k / 2 * 2) * 2 ^ j := by rw [Nat.pow_succ, Nat.mul_comm (2 ^ j) 2, Nat.mul_assoc]
            rw [h7, Nat.div_mul_cancel (Nat.dvd_of_mod_eq_zero hp2)]
            exact h4
          go_wp2
          go_roundg (k / 2)
          case measure => omega
          case rel => exact ⟨k / 2, j + 1, Nat.le_refl _, by omega, H2, H1, by first | rfl | simp, by first | rfl | (simp; omega), hbr⟩
        · have d1 : ((k : Int) % 2 == 0) = false := by rw [beq_eq_false_iff_ne]; omega
          have ho2 := odd_self k (E + j) hk64 (by omega)
          have ho3 : o = (k, E + (j : Int)) := by rw [← ho2]; exact hko.out.symm
          subst ho3
          clear ho2 hko HO
          go_wp2
          go_ret3
          exact ⟨rfl, by (repeat (first | (with_reducible exact Ext.refl _) | (with_reducible assumption) | (with_reducible refine Ext.drew ?_) | (with_reducible refine Ext.drewN ?_ _) | (with_reducible refine Ext.alloc ?_ _) | (with_reducible refine Ext.setCell ?_ (Nat.le_refl _) _) | (with_reducible refine Ext.setCell ?_ (by simp; try omega) _) | (with_reducible refine Ext.trans ?_ (by with_reducible assumption))))⟩
end Go.Proofs.YtogdiobbjlpmoaaDoor

