/- The bits of a key, as the document writes them into a text. No condition but those written. -/
import Derived.Test.YtogdiobbjlpmoaaDoorRefParts
import Derived.Deep.LoopGhost
import Derived.Laws.Concat
import Derived.Laws.IdiomStrings
import Derived.Laws.Strings3
namespace Go.Proofs.YtogdiobbjlpmoaaDoor
open Go Go.RowKit Cal

/-- So many bits of a number, the highest first, as digits. -/
def blist : Nat → Nat → List UInt8
  | 0, _ => []
  | k + 1, key => UInt8.ofNat (48 + key / 2 ^ k % 2) :: blist k key
theorem blist_length (k key : Nat) : (blist k key).length = k := by
  induction k with
  | zero => rfl
  | succ k ih => simp [blist, ih]

theorem conv_byte (m : Nat) (wr : World) :
    (convert 181 9 (.slice (some ⟨wr.heap.size, 0, none⟩) 1 1)).run Tryd.prog (wr.alloc (.cells #[.int .u8 (48 + (m : Int) % 2)] 5)) = .ok (.string ⟨#[UInt8.ofNat (48 + m % 2)]⟩) (wr.alloc (.cells #[.int .u8 (48 + (m : Int) % 2)] 5)) := by
  have h := run_convert_bytes_back (P := Tryd.prog) (wr.alloc (.cells #[.int .u8 (48 + (m : Int) % 2)] 5)) 181 9 5 ⟨wr.heap.size, 0, none⟩ 1 [UInt8.ofNat (48 + m % 2)] Tryd.underlying181 Tryd.underlying5 Tryd.underlying9 (by
    intro j hj
    obtain rfl : j = 0 := by simpa using hj
    have e : (UInt8.ofNat (48 + m % 2)).toNat = 48 + m % 2 := by rw [UInt8.toNat_ofNat']; omega
    have e2 : ((48 + m % 2 : Nat) : Int) = 48 + (m : Int) % 2 := by omega
    simp only [List.getElem_cons_zero]
    rw [e, e2]
    simp [Addr.add])
  simpa using h

theorem cat_byte (x : UInt8) (L : List UInt8) : (ByteArray.mk #[x] ++ ByteArray.mk L.toArray) = ByteArray.mk (x :: L).toArray := ByteArray.mk_append_mk [x] L

set_option maxRecDepth 100000 in
set_option maxHeartbeats 800000 in
theorem rbits_any (n key : Nat) (h1 : 2 ≤ n) (h2 : n ≤ 64) (h0 : 0 < key) (hk : key < 2 ^ n) (w : World) :
    Calls Tryd.prog 151 #[.int .i64 ((n : Int) + 1), .int .u64 key] w fun e w' => e = .returned (.tuple #[.string ⟨(blist n key).toArray⟩, .bool true]) ∧ Ext w w' := by
  have h64 := pow_le64 h2
  have z0 : ((key : Int) == 0) = false := bfalse (b := 0) (by omega)
  have HK := Lib.hid hk
  have hkk : key < 18446744073709551616 := by omega
  clear hk h64
  go_enter Tryd.func151, Tryd.ntmps151
  go_wp2
  go_loopg [1, 6, 7] n (fun g s1 s6 s7 wr => ∃ k m : Nat, k + g = n ∧ Hid (m = key / 2 ^ k) ∧ s6 = .string ⟨(blist k key).toArray⟩ ∧ s1 = .int .u64 (m : Int) ∧ s7 = .int .i64 ((k : Int) + 1) ∧ Ext w wr)
  case atStart => exact ⟨0, key, by omega, (by simp : key = key / 2 ^ 0), rfl, rfl, rfl, Ext.refl _⟩
  case round =>
    obtain ⟨k, m, hkg, hm, rfl, rfl, rfl, hb⟩ := hrel
    cases gk with
    | zero =>
      have hz : ¬ ((k : Int) + 1 < (n : Int) + 1) := by omega
      obtain rfl : k = n := by omega
      have hm0 : m = 0 := by rw [hm.out]; exact Nat.div_eq_of_lt HK.out
      subst hm0
      clear hm
      go_wp2
      go_ret2
      exact ⟨rfl, hb⟩
    | succ g =>
      have hlt : (k : Int) + 1 < (n : Int) + 1 := by omega
      have hm64 : m < 18446744073709551616 := by rw [hm.out]; exact Nat.lt_of_le_of_lt (Nat.div_le_self _ _) hkk
      have hl := blist_length k key
      generalize hL : blist k key = L at *
      have hN : blist (k + 1) key = UInt8.ofNat (48 + m % 2) :: L := by rw [hm.out, ← hL]; rfl
      have HN := Lib.hid hN
      have HM : Hid (m / 2 = key / 2 ^ (k + 1)) := by
        show m / 2 = key / 2 ^ (k + 1)
        rw [hm.out, Nat.pow_succ, Nat.div_div_eq_div_mul]
      clear hL hN
      have hconv := conv_byte m wr
      have hcat := cat_byte (UInt8.ofNat (48 + m % 2)) L
      have hsz : ¬ (9223372036854775807 < 1 + L.length) := by omega
      generalize UInt8.ofNat (48 + m % 2) = x at *
      go_wp2
      go_roundg g
      case measure => omega
      case rel => exact ⟨k + 1, m / 2, by omega, HM, by rw [HN.out], by first | rfl | simp, by first | rfl | (simp; omega), hb.alloc _⟩
end Go.Proofs.YtogdiobbjlpmoaaDoor

