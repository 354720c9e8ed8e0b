/- The loops of the document's answer: so many bits, a power of two, a number made odd. No condition but those written. -/
import Derived.Test.YtogdiobbjlpmoaaDoorDecode
import Derived.Deep.LoopGhost
namespace Go.Proofs.YtogdiobbjlpmoaaDoor
open Go Go.RowKit Cal

set_option maxHeartbeats 400000 in
/-- ones: so many bits. -/
theorem ones_any (n : Nat) (h : n ≤ 64) (w : World) :
    Calls Tryd.prog 124 #[.int .i64 n] w fun e w' => e = .returned (.int .u64 ((2 ^ n - 1 : Nat) : Int)) ∧ w = w' := by
  generalize hR : 2 ^ n - 1 = R
  have HR := Lib.hid hR
  clear hR
  go_enter Tryd.func124, Tryd.ntmps124
  go_wp2
  go_loopg [3, 4] n (fun g s3 s4 wr => ∃ k x : Nat, k + g = n ∧ Hid (x + 1 = 2 ^ k) ∧ s3 = .int .u64 (x : Int) ∧ s4 = .int .i64 (k : Int) ∧ w = wr)
  case atStart => exact ⟨0, 0, by omega, rfl, rfl, rfl, rfl⟩
  case round =>
    obtain ⟨k, x, hk, hx, rfl, rfl, rfl⟩ := hrel
    cases gk with
    | zero =>
      have hz : ¬ ((k : Int) < (n : Int)) := by omega
      obtain rfl : R = x := by
        have h1 := HR.out
        have h2 := hx.out
        rw [show k = n from by omega] at h2
        omega
      clear HR hx
      go_wp2
      go_ret
      exact ⟨rfl, rfl⟩
    | succ g =>
      have hlt : (k : Int) < (n : Int) := by omega
      have e2 : 2 ^ (k + 1) ≤ 18446744073709551616 := pow_le64 (by omega)
      have e1 : 2 * x + 1 + 1 = 2 ^ (k + 1) := by have := hx.out; rw [Nat.pow_succ]; omega
      have hb : 2 * x + 1 < 18446744073709551616 := by omega
      have H := Lib.hid e1
      clear e1 e2
      go_wp2
      go_roundg g
      case measure => omega
      case rel => exact ⟨k + 1, 2 * x + 1, by omega, H, by first | rfl | simp, by first | rfl | simp, rfl⟩

set_option maxHeartbeats 400000 in
/-- power: two to the power. -/
theorem power_any (n : Nat) (h : n ≤ 63) (w : World) :
    Calls Tryd.prog 129 #[.int .i64 n] w fun e w' => e = .returned (.int .u64 ((2 ^ n : Nat) : Int)) ∧ w = w' := by
  generalize hR : 2 ^ n = R
  have HR := Lib.hid hR
  clear hR
  go_enter Tryd.func129, Tryd.ntmps129
  go_wp2
  go_loopg [3, 4] n (fun g s3 s4 wr => ∃ (k x : Nat), k + g = n ∧ Hid (x = 2 ^ k) ∧ s3 = .int .u64 (x : Int) ∧ s4 = .int .i64 (k : Int) ∧ w = wr)
  case atStart => exact ⟨0, 1, by omega, rfl, rfl, rfl, rfl⟩
  case round =>
    obtain ⟨k, x, hk, hx, rfl, rfl, rfl⟩ := hrel
    cases gk with
    | zero =>
      have hz : ¬ ((k : Int) < (n : Int)) := by omega
      obtain rfl : R = x := by
        have h1 := HR.out
        have h2 := hx.out
        rw [show k = n from by omega] at h2
        omega
      clear HR hx
      go_wp2
      go_ret
      exact ⟨rfl, rfl⟩
    | succ g =>
      have hlt : (k : Int) < (n : Int) := by omega
      have e2 : 2 ^ (k + 1) < 18446744073709551616 := pow_lt64 (by omega)
      have e3 : 2 ^ (k + 1) = x + x := by rw [hx.out, Nat.pow_succ]; omega
      have hb : x + x < 18446744073709551616 := by omega
      have H := Lib.hid e3
      clear e2 e3
      go_wp2
      go_roundg g
      case measure => omega
      case rel => exact ⟨k + 1, x + x, by omega, H.out.symm, by first | rfl | simp, by first | rfl | simp, rfl⟩

set_option maxHeartbeats 400000 in
/-- The document's odd. -/
theorem rodd_any (m : Nat) (e : Int) (h : m < 18446744073709551616) (h1 : -100000 ≤ e) (h2 : e ≤ 100000) (w : World) :
    Calls Tryd.prog 126 #[.int .u64 m, .int .i64 e] w fun r w' => r = .returned (.tuple #[.int .u64 ((odd m e).1 : Nat), .int .i64 (odd m e).2]) ∧ w = w' := by
  by_cases h0 : m = 0
  · subst h0
    have ho : odd 0 e = (0, 0) := rfl
    rw [ho]
    clear ho
    go_enter Tryd.func126, Tryd.ntmps126
    go_wp2
    go_ret2
    exact ⟨rfl, rfl⟩
  · have hz : ((m : Int) == 0) = false := bfalse (b := 0) h0
    have hz' : ¬ ((m : Int) = 0) := by omega
    generalize ho : odd m e = o
    go_enter Tryd.func126, Tryd.ntmps126
    go_wp2
    go_loopg [0, 1] m (fun g s0 s1 wr => ∃ k j : Nat, k ≤ g ∧ 0 < k ∧ Hid (k * 2 ^ j ≤ m) ∧ Hid (odd k (e + j) = o) ∧ s0 = .int .u64 (k : Int) ∧ s1 = .int .i64 (e + j) ∧ w = wr)
    case atStart => exact ⟨m, 0, Nat.le_refl _, by omega, (by simp : m * 2 ^ 0 ≤ m), (by simpa using ho : odd m (e + (0 : Nat)) = o), rfl, by simp, rfl⟩
    case round =>
      obtain ⟨k, j, hkg, hk0, hkj, hko, rfl, rfl, rfl⟩ := hrel
      have hj : j < 64 := by
        rcases Nat.lt_or_ge j 64 with hj | hj
        · exact hj
        · have h3 : 2 ^ 64 ≤ 2 ^ j := Nat.pow_le_pow_right (by decide) hj
          have h4 := hkj.out
          have h5 : 1 * 2 ^ j ≤ k * 2 ^ j := Nat.mul_le_mul_right _ hk0
          omega
      have hk64 : k < 18446744073709551616 := by
        have h4 := hkj.out
        have h5 : k * 1 ≤ k * 2 ^ j := Nat.mul_le_mul_left _ (two_pos j)
        omega
      by_cases hp : k % 2 = 0
      · have d1 : ((k : Int) % 2 == 0) = true := by rw [beq_iff_eq]; omega
        have H1 : Hid (odd (k / 2) (e + ((j + 1 : Nat) : Int)) = o) := by
          have h6 := odd_half k (e + j) hk0 hk64 hp
          show odd (k / 2) (e + ((j + 1 : Nat) : Int)) = o
          rw [show e + ((j + 1 : Nat) : Int) = e + (j : Int) + 1 from by omega, ← h6]
          exact hko.out
        have H2 : Hid (k / 2 * 2 ^ (j + 1) ≤ m) := by
          have h4 := hkj.out
          show k / 2 * 2 ^ (j + 1) ≤ m
          have h7 : k / 2 * 2 ^ (j + 1) = (k / 2 * 2) * 2 ^ j := by rw [Nat.pow_succ, Nat.mul_comm (2 ^ j) 2, Nat.mul_assoc]
          rw [h7, Nat.div_mul_cancel (Nat.dvd_of_mod_eq_zero hp)]
          exact h4
        go_wp2
        go_roundg (k / 2)
        case measure => omega
        case rel => exact ⟨k / 2, j + 1, Nat.le_refl _, by omega, H2, H1, by first | rfl | simp, by first | rfl | (simp; omega), rfl⟩
      · have d1 : ((k : Int) % 2 == 0) = false := by rw [beq_eq_false_iff_ne]; omega
        have ho2 := odd_self k (e + j) hk64 (by omega)
        have ho3 : o = (k, e + (j : Int)) := by rw [← ho2]; exact hko.out.symm
        subst ho3
        clear ho2 hko ho
        go_wp2
        go_ret2
        exact ⟨rfl, rfl⟩
end Go.Proofs.YtogdiobbjlpmoaaDoor

