/- The number of the bits that the document has written into a text. No condition but those written. -/
import Derived.Test.YtogdiobbjlpmoaaDoorRefBits
namespace Go.Proofs.YtogdiobbjlpmoaaDoor
open Go Go.RowKit Cal

theorem blist_get (k key i : Nat) (h : i < k) : (blist k key)[i]? = some (UInt8.ofNat (48 + key / 2 ^ (k - 1 - i) % 2)) := by
  induction k generalizing i with
  | zero => omega
  | succ k ih =>
    cases i with
    | zero => simp [blist]
    | succ i =>
      have := ih i (by omega)
      rw [show k + 1 - 1 - (i + 1) = k - 1 - i from by omega]
      simpa [blist] using this

theorem mod_bit (k key j : Nat) (h : j < k) : key % 2 ^ k / 2 ^ j % 2 = key / 2 ^ j % 2 := by
  have e : 2 ^ k = 2 ^ j * (2 * 2 ^ (k - j - 1)) := by rw [← Nat.pow_succ', ← Nat.pow_add]; congr 1; omega
  have h1 := Nat.div_add_mod key (2 ^ k)
  generalize key % 2 ^ k = R at *
  generalize key / 2 ^ k = q at *
  rw [← h1, e, Nat.mul_assoc, Nat.mul_add_div (two_pos j), Nat.mul_assoc]
  omega

set_option maxRecDepth 100000 in
set_option maxHeartbeats 800000 in
theorem rnumber_any (k key : Nat) (h : k ≤ 64) (w : World) :
    Calls Tryd.prog 152 #[.string ⟨(blist k key).toArray⟩] w fun e w' => e = .returned (.int .u64 ((key % 2 ^ k : Nat) : Int)) ∧ w = w' := by
  generalize hR : key % 2 ^ k = R
  have hRl : R < 2 ^ k := by rw [← hR]; exact Nat.mod_lt _ (two_pos k)
  have h64 := pow_le64 h
  have hg := blist_get k key
  have hl := blist_length k key
  generalize blist k key = L at *
  have HR := Lib.hid hR
  have HG := Lib.hid hg
  clear hR hg
  go_enter Tryd.func152, Tryd.ntmps152
  go_wp2
  go_loopg [3, 4] k (fun g s3 s4 wr => ∃ i v : Nat, i + g = k ∧ Hid (v = R / 2 ^ (k - i)) ∧ s3 = .int .u64 (v : Int) ∧ s4 = .int .i64 (i : Int) ∧ w = wr)
  case atStart => exact ⟨0, 0, by omega, (by rw [Nat.sub_zero, Nat.div_eq_of_lt hRl] : 0 = R / 2 ^ (k - 0)), rfl, rfl, rfl⟩
  case round =>
    obtain ⟨i, v, hi, hv, rfl, rfl, rfl⟩ := hrel
    cases gk with
    | zero =>
      have hz : ¬ ((i : Int) < (k : Int)) := by omega
      obtain rfl : v = R := by
        have := hv.out
        rw [show k - i = 0 from by omega, Nat.pow_zero, Nat.div_one] at this
        exact this
      clear hv
      go_wp2
      go_ret
      exact ⟨rfl, rfl⟩
    | succ g =>
      have hlt : (i : Int) < (k : Int) := by omega
      have hik : i < L.length := by omega
      have hget : L[i] = UInt8.ofNat (48 + key / 2 ^ (k - 1 - i) % 2) := by
        have := HG.out i (by omega)
        rw [List.getElem?_eq_getElem hik] at this
        exact Option.some.inj this
      have htn : L[i].toNat = 48 + key / 2 ^ (k - 1 - i) % 2 := by rw [hget, UInt8.toNat_ofNat']; omega
      have hb : ((ByteArray.mk L.toArray)[i]'(by simpa [ByteArray.size] using hik)).toNat = 48 + key / 2 ^ (k - 1 - i) % 2 := htn
      have hbit := mod_bit k key (k - 1 - i) (by omega)
      rw [HR.out] at hbit
      have hstep : R / 2 ^ (k - (i + 1)) = 2 * v + key / 2 ^ (k - 1 - i) % 2 := by
        have h1 : R / 2 ^ (k - i) = R / 2 ^ (k - 1 - i) / 2 := by
          rw [show k - i = k - 1 - i + 1 from by omega, Nat.pow_succ, Nat.div_div_eq_div_mul]
        rw [show k - (i + 1) = k - 1 - i from by omega, hv.out, h1]
        omega
      have hle : R / 2 ^ (k - (i + 1)) ≤ R := Nat.div_le_self _ _
      have hb2 : 2 * v + key / 2 ^ (k - 1 - i) % 2 < 18446744073709551616 := by omega
      have hbl : key / 2 ^ (k - 1 - i) % 2 < 2 := Nat.mod_lt _ (by decide)
      have HS := Lib.hid hstep
      generalize key / 2 ^ (k - 1 - i) % 2 = b at *
      have HB := Lib.hid hb
      clear hstep hbit hle htn hget hb
      go_wp2
      go_roundg g
      case measure => omega
      case rel =>
        refine ⟨i + 1, 2 * v + b, by omega, HS.out.symm, ?_, by first | rfl | simp, rfl⟩
        rw [HB.out, IntKind.wrap_u64]
        congr 1
        omega
end Go.Proofs.YtogdiobbjlpmoaaDoor

