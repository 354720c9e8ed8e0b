/- What ValueOrders wants of plain numbers: the sign turned. -/
import Derived.Test.YtogdiobbjlpmoaaDoorPure07
import Derived.Test.YtogdiobbjlpmoaaDoorCanon
namespace Go.Proofs.YtogdiobbjlpmoaaDoor
open Go Go.RowKit Cal

theorem i64_and3 (n : Int) : bits .and .i64 n 3 = n % 4 := by
  have h3 : (BitVec.ofInt 64 3).toNat = 2 ^ 2 - 1 := by decide
  have key : (BitVec.ofInt 64 n &&& BitVec.ofInt 64 3).toNat = (n % ((2 ^ 64 : Nat) : Int)).toNat % 2 ^ 2 := by
    rw [BitVec.toNat_and, BitVec.toNat_ofInt, h3, Nat.and_two_pow_sub_one_eq_mod]
  show IntKind.i64.wrap ((BitVec.ofInt 64 n &&& BitVec.ofInt 64 3).toNat : Nat) = n % 4
  rw [key, IntKind.wrap_i64]
  omega

theorem bits_xor_u64_nat (a b : Nat) (ha : a < 18446744073709551616) (hb : b < 18446744073709551616) :
    bits .xor .u64 (a : Int) (b : Int) = ((a ^^^ b : Nat) : Int) := by
  have h1 : (BitVec.ofInt 64 (a : Int)).toNat = a := by rw [BitVec.toNat_ofInt]; omega
  have h2 : (BitVec.ofInt 64 (b : Int)).toNat = b := by rw [BitVec.toNat_ofInt]; omega
  show IntKind.u64.wrap ((BitVec.ofInt 64 (a : Int) ^^^ BitVec.ofInt 64 (b : Int)).toNat : Nat) = _
  rw [BitVec.toNat_xor, h1, h2]
  exact u_id _ (Nat.xor_lt_two_pow (n := 64) ha hb)

theorem xor_bit (a k : Nat) (ha : a < 2 ^ (k + 1)) : a ^^^ 2 ^ k = if 2 ^ k ≤ a then a - 2 ^ k else a + 2 ^ k := by
  have hk := two_pos k
  have e : 2 ^ (k + 1) = 2 * 2 ^ k := by rw [Nat.pow_succ]; omega
  have h1 : (a ^^^ 2 ^ k) / 2 ^ k = a / 2 ^ k ^^^ 1 := by rw [Nat.xor_div_two_pow, Nat.div_self hk]
  have h2 : (a ^^^ 2 ^ k) % 2 ^ k = a % 2 ^ k := by rw [Nat.xor_mod_two_pow, Nat.mod_self, Nat.xor_zero]
  have h3 := Nat.div_add_mod (a ^^^ 2 ^ k) (2 ^ k)
  rw [h1, h2] at h3
  rw [← h3]
  by_cases h : 2 ^ k ≤ a
  · have hd : a / 2 ^ k = 1 := by
      rw [Nat.div_eq_sub_div hk h, Nat.div_eq_of_lt (by omega)]
    rw [hd, if_pos h, Nat.mod_eq_sub_mod h, Nat.mod_eq_of_lt (by omega)]
    simp
  · rw [Nat.div_eq_of_lt (by omega), if_neg h, Nat.mod_eq_of_lt (by omega)]
    simp; omega

theorem u_xor_bit (a k : Nat) (hk : k < 64) (ha : a < 2 ^ (k + 1)) : bits .xor .u64 (a : Int) ((2 ^ k : Nat) : Int) = ((if 2 ^ k ≤ a then a - 2 ^ k else a + 2 ^ k : Nat) : Int) := by
  have h1 : 2 ^ (k + 1) ≤ 18446744073709551616 := pow_le64 hk
  rw [bits_xor_u64_nat _ _ (by omega) (pow_lt64 hk), xor_bit a k ha]

/-- The order of the patterns of a posit with the sign turned. -/
def turnedP (S p : Nat) : Nat := if S ≤ p then p - S else p + S
def lessP (a b : Bool) (k n : Nat) : Bool := if a ≠ b then a else if a = true then decide (n < k) else decide (k < n)

theorem order_law (S p q : Nat) (hp : p < 2 * S) (hq : q < 2 * S) :
    lessP (decide (S ≤ p)) (decide (S ≤ q)) (if S ≤ p then 2 * S - p else p) (if S ≤ q then 2 * S - q else q) = decide (turnedP S p < turnedP S q) := by
  unfold lessP turnedP
  by_cases a : S ≤ p <;> by_cases b : S ≤ q <;> simp [a, b] <;> omega

theorem posit_facts (n : Nat) (h1 : 1 ≤ n) (h2 : n ≤ 4) : (frm n).kind = 1 ∧ (frm n).nan = 2 ^ ((frm n).width - 1) ∧ (frm n).inf = 0 := by
  have : n = 1 ∨ n = 2 ∨ n = 3 ∨ n = 4 := by omega
  rcases this with rfl | rfl | rfl | rfl <;> decide
end Go.Proofs.YtogdiobbjlpmoaaDoor

