/- What above answers: is one number above another one? No condition but those written. -/
import Derived.Test.YtogdiobbjlpmoaaDoorOrder
import Derived.Test.YtogdiobbjlpmoaaDoorRefLoops
import Derived.Deep.LoopGhost
namespace Go.Proofs.YtogdiobbjlpmoaaDoor
open Go Go.RowKit Cal

/-- How a number's length grows, halved. -/
theorem len_half (k : Nat) (h0 : 0 < k) (h : k < 2 ^ 64) : Lib.bitLen k = Lib.bitLen (k / 2) + 1 := by rw [Lib.bitLen_half k (by omega) h]; omega
theorem len_le (k : Nat) (h : k < 2 ^ 64) : Lib.bitLen k ≤ 64 := (bitLen_le_iff k 64 h).2 h
/-- A number turned up till its highest bit is the word's. -/
theorem up_len (k : Nat) (h0 : 0 < k) (h : k < 2 ^ 63) : Lib.bitLen (2 * k) = Lib.bitLen k + 1 := bitLen_two k h0 (by omega)
theorem up_full (k : Nat) (h63 : 2 ^ 63 ≤ k) (h : k < 2 ^ 64) : Lib.bitLen k = 64 := by
  have := bitLen_eq k 63 (by omega) h63 h
  omega

set_option maxHeartbeats 800000 in
/-- above, of a nought. -/
theorem above_none (a b : Nat) (d e : Int) (h : b = 0 ∨ a = 0) (w : World) :
    Calls Tryd.prog 32 #[.int .u64 a, .int .i64 d, .int .u64 b, .int .i64 e] w fun r w' => r = .returned (.bool (decide (a ≠ 0))) ∧ w = w' := by
  rcases h with rfl | rfl
  · by_cases ha : a = 0
    · subst ha
      go_enter Tryd.func32, Tryd.ntmps32
      go_wp2
      go_ret
      exact ⟨rfl, rfl⟩
    · have d1 : ((a : Int) != 0) = true := ntrue (b := 0) ha
      have d2 : decide (a ≠ 0) = true := decide_eq_true ha
      rw [d2]
      clear d2 ha
      go_enter Tryd.func32, Tryd.ntmps32
      go_wp2
      go_ret
      exact ⟨rfl, rfl⟩
  · by_cases hb : b = 0
    · subst hb
      go_enter Tryd.func32, Tryd.ntmps32
      go_wp2
      go_ret
      exact ⟨rfl, rfl⟩
    · have d1 : ((b : Int) == 0) = false := bfalse (b := 0) hb
      clear hb
      go_enter Tryd.func32, Tryd.ntmps32
      go_wp2
      go_ret
      exact ⟨rfl, rfl⟩

set_option maxHeartbeats 3200000 in
/-- above, of two numbers that are none. -/
theorem above_some (a b : Nat) (d e : Int) (h0 : 0 < a) (hb0 : 0 < b) (ha : a < 2 ^ 64) (hb : b < 2 ^ 64) (d1 : -100000 ≤ d) (d2 : d ≤ 100000) (e1 : -100000 ≤ e) (e2 : e ≤ 100000) (w : World) :
    Calls Tryd.prog 32 #[.int .u64 a, .int .i64 d, .int .u64 b, .int .i64 e] w fun r w' => r = .returned (.bool (aboveV a d b e)) ∧ w = w' := by
  have la := len_le a ha
  have lb := len_le b hb
  have z1 : ((b : Int) == 0) = false := bfalse (b := 0) (by omega)
  have z2 : ((a : Int) == 0) = false := bfalse (b := 0) (by omega)
  have hV : aboveV a d b e = if d + Lib.bitLen a ≠ e + Lib.bitLen b then decide (e + Lib.bitLen b < d + Lib.bitLen a) else decide (b * 2 ^ (64 - Lib.bitLen b) < a * 2 ^ (64 - Lib.bitLen a)) := by
    unfold aboveV; rw [if_neg (by omega)]
  rw [hV]
  clear hV
  generalize hR : (if d + Lib.bitLen a ≠ e + Lib.bitLen b then decide (e + Lib.bitLen b < d + Lib.bitLen a) else decide (b * 2 ^ (64 - Lib.bitLen b) < a * 2 ^ (64 - Lib.bitLen a)) : Bool) = R
  generalize hX : Lib.bitLen a = X at *
  generalize hY : Lib.bitLen b = Y at *
  have HX := Lib.hid hX
  have HY := Lib.hid hY
  have HR := Lib.hid hR
  clear hX hY hR
  go_enter Tryd.func32, Tryd.ntmps32
  go_wp2
  go_loopg [9, 10] X (fun g s9 s10 wr => ∃ k j : Nat, Hid (Lib.bitLen k = g) ∧ k < 2 ^ 64 ∧ j + g = X ∧ s9 = .int .u64 (k : Int) ∧ s10 = .int .i64 (d + j) ∧ w = wr)
  case atStart => exact ⟨a, 0, HX, ha, by omega, rfl, by simp, rfl⟩
  case round =>
    obtain ⟨k, j, hk, hk64, hj, rfl, rfl, rfl⟩ := hrel
    by_cases hk0 : k = 0
    · subst hk0
      have hg : gk = 0 := hk.out.symm
      subst hg
      obtain rfl : j = X := by omega
      clear hk
      go_wp2
      go_loopg [11, 12] Y (fun g s11 s12 wr => ∃ m i : Nat, Hid (Lib.bitLen m = g) ∧ m < 2 ^ 64 ∧ i + g = Y ∧ s11 = .int .u64 (m : Int) ∧ s12 = .int .i64 (e + i) ∧ w = wr)
      case atStart => exact ⟨b, 0, HY, hb, by omega, rfl, by simp, rfl⟩
      case round =>
        obtain ⟨m, i, hm, hm64, hi, rfl, rfl, rfl⟩ := hrel
        by_cases hm0 : m = 0
        · subst hm0
          have hg : gk = 0 := hm.out.symm
          subst hg
          obtain rfl : i = Y := by omega
          clear hm
          by_cases hne : d + (j : Int) ≠ e + (i : Int)
          · have t1 : ((d + (j : Int)) != (e + (i : Int))) = true := by rw [bne_iff_ne]; exact hne
            have hR := HR.out
            rw [if_pos hne] at hR
            subst hR
            clear hne HR
            go_wp2
            go_ret
            exact ⟨rfl, rfl⟩
          · have t1 : ((d + (j : Int)) != (e + (i : Int))) = false := by rw [bne_eq_false_iff_eq]; omega
            have hR := HR.out
            rw [if_neg hne] at hR
            generalize hP : a * 2 ^ (64 - j) = P at *
            generalize hQ : b * 2 ^ (64 - i) = Q at *
            have HP := Lib.hid hP
            have HQ := Lib.hid hQ
            have HR2 := Lib.hid hR
            have HJ := Lib.hid (show Lib.bitLen a + (64 - j) = 64 by have := HX.out; omega)
            have HI := Lib.hid (show Lib.bitLen b + (64 - i) = 64 by have := HY.out; omega)
            clear hP hQ hR HR hne HX HY
            go_wp2
            go_loopg [0] (64 - j) (fun g s0 wr => ∃ k : Nat, 0 < k ∧ k < 2 ^ 64 ∧ Hid (Lib.bitLen k + g = 64) ∧ Hid (k * 2 ^ g = P) ∧ s0 = .int .u64 (k : Int) ∧ w = wr)
            case atStart => exact ⟨a, h0, ha, HJ, HP, rfl, rfl⟩
            case round =>
              obtain ⟨k, hk0, hk64, hkl, hkp, rfl, rfl⟩ := hrel
              by_cases hk : k < 2 ^ 63
              · have c1 : ((k : Int) / 9223372036854775808 == 0) = true := by rw [beq_iff_eq]; omega
                have hu := up_len k hk0 hk
                have hko := hkl.out
                have hkp2 := hkp.out
                have hlk := (bitLen_le_iff k 63 hk64).2 hk
                obtain ⟨g, rfl⟩ : ∃ g, gk = g + 1 := ⟨gk - 1, by omega⟩
                have H := Lib.hid (show Lib.bitLen (2 * k) + g = 64 by omega)
                have H2 := Lib.hid (show 2 * k * 2 ^ g = P by rw [← hkp2, Nat.pow_succ', Nat.mul_comm 2 k, Nat.mul_assoc])
                clear hu hko hkp2 hlk hkl hkp
                go_wp2
                go_roundg g
                case measure => omega
                case rel => exact ⟨2 * k, by omega, by omega, H, H2, by first | rfl | simp, rfl⟩
              · have c1 : ((k : Int) / 9223372036854775808 == 0) = false := by rw [beq_eq_false_iff_ne]; omega
                have hu := up_full k (by omega) hk64
                obtain rfl : gk = 0 := by have := hkl.out; omega
                obtain rfl : k = P := by have := hkp.out; omega
                clear hu hkl hkp hk
                go_wp2
                go_loopg [2] (64 - i) (fun g s2 wr => ∃ m : Nat, 0 < m ∧ m < 2 ^ 64 ∧ Hid (Lib.bitLen m + g = 64) ∧ Hid (m * 2 ^ g = Q) ∧ s2 = .int .u64 (m : Int) ∧ w = wr)
                case atStart => exact ⟨b, hb0, hb, HI, HQ, rfl, rfl⟩
                case round =>
                  obtain ⟨m, hm0, hm64, hml, hmp, rfl, rfl⟩ := hrel
                  by_cases hm : m < 2 ^ 63
                  · have c2 : ((m : Int) / 9223372036854775808 == 0) = true := by rw [beq_iff_eq]; omega
                    have hu := up_len m hm0 hm
                    have hmo := hml.out
                    have hmp2 := hmp.out
                    have hlm := (bitLen_le_iff m 63 hm64).2 hm
                    obtain ⟨g, rfl⟩ : ∃ g, gk = g + 1 := ⟨gk - 1, by omega⟩
                    have H := Lib.hid (show Lib.bitLen (2 * m) + g = 64 by omega)
                    have H2 := Lib.hid (show 2 * m * 2 ^ g = Q by rw [← hmp2, Nat.pow_succ', Nat.mul_comm 2 m, Nat.mul_assoc])
                    clear hu hmo hmp2 hlm hml hmp
                    go_wp2
                    go_roundg g
                    case measure => omega
                    case rel => exact ⟨2 * m, by omega, by omega, H, H2, by first | rfl | simp, rfl⟩
                  · have c2 : ((m : Int) / 9223372036854775808 == 0) = false := by rw [beq_eq_false_iff_ne]; omega
                    have hu := up_full m (by omega) hm64
                    obtain rfl : gk = 0 := by have := hml.out; omega
                    obtain rfl : m = Q := by have := hmp.out; omega
                    have hR := HR2.out
                    subst hR
                    clear hu hml hmp hm HR2
                    go_wp2
                    go_ret
                    first | exact ⟨rfl, rfl⟩ | exact ⟨by simp, rfl⟩
        · have hmh := len_half m (by omega) hm64
          have hmo := hm.out
          obtain ⟨g, rfl⟩ : ∃ g, gk = g + 1 := ⟨gk - 1, by omega⟩
          have H := Lib.hid (show Lib.bitLen (m / 2) = g by omega)
          clear hmh hmo
          go_wp2
          go_roundg g
          case measure => omega
          case rel => exact ⟨m / 2, i + 1, H, by omega, by omega, by first | rfl | simp, by first | rfl | (simp; omega), rfl⟩
    · have hkh := len_half k (by omega) hk64
      have hko := hk.out
      obtain ⟨g, rfl⟩ : ∃ g, gk = g + 1 := ⟨gk - 1, by omega⟩
      have H := Lib.hid (show Lib.bitLen (k / 2) = g by omega)
      clear hkh hko
      go_wp2
      go_roundg g
      case measure => omega
      case rel => exact ⟨k / 2, j + 1, H, by omega, by omega, by first | rfl | simp, by first | rfl | (simp; omega), rfl⟩
end Go.Proofs.YtogdiobbjlpmoaaDoor

