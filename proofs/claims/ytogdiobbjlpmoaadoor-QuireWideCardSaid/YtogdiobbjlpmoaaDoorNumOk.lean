/- The number of a magnitude, whatever the kind: one contract for all ways; and which magnitudes may be asked for. No condition but those written. -/
import Derived.Test.YtogdiobbjlpmoaaDoorOf
namespace Go.Proofs.YtogdiobbjlpmoaaDoor
open Go Go.RowKit Cal

/-- May a form with so many bits more be asked for this magnitude? -/
structure NumOk (f : Frm) (more key : Nat) : Prop where
  kind : 1 ≤ f.kind ∧ f.kind ≤ 4
  one : f.kind = 1 → 3 ≤ f.width + more ∧ f.width + more ≤ 65 ∧ 0 < key ∧ key < 2 ^ (f.width + more - 1)
  two : f.kind = 2 → f.man + more ≤ 60 ∧ f.bias ≤ 2000 ∧ key / 2 ^ (f.man + more) ≤ 4095
  three : f.kind = 3 → f.man + more ≤ 60
  four : f.kind = 4 → more ≤ 1 ∧ f.bias ≤ 2000 ∧ key ≤ 1000

theorem number_any (f : Frm) (more key : Nat) (h : NumOk f more key) (hk : key < 18446744073709551616) (w : World) (hE : Env w) :
    Calls Tryd.prog (nfn f.kind) #[.agg #[.int .i64 (f).kind, .int .i64 (f).width, .int .i64 (f).man, .int .i64 (f).bias, .int .u64 (f).top, .int .u64 (f).inf, .int .u64 (f).nan], .int .i64 more, .int .u64 key] w fun e w' =>
      e = .returned (.tuple #[.int .u64 (((number f more key).1 : Nat) : Int), .int .i64 (number f more key).2]) ∧ Ext w w' := by
  have hkd := h.kind
  have : f.kind = 1 ∨ f.kind = 2 ∨ f.kind = 3 ∨ f.kind = 4 := by omega
  unfold number nfn
  rcases this with k | k | k | k
  · obtain ⟨a, b, c, d⟩ := h.one k
    rw [if_pos k, if_pos k]
    exact number1 f more key a b c d w hE
  · obtain ⟨a, b, c⟩ := h.two k
    rw [if_neg (by omega), if_pos k, if_neg (by omega), if_pos k]
    exact number2 f more key a b hk c w hE
  · rw [if_neg (by omega), if_neg (by omega), if_pos k, if_neg (by omega), if_neg (by omega), if_pos k]
    exact number3 f more key (h.three k) hk w hE
  · obtain ⟨a, b, c⟩ := h.four k
    rw [if_neg (by omega), if_neg (by omega), if_neg (by omega), if_neg (by omega), if_neg (by omega), if_neg (by omega)]
    exact number4 f more key a b c w

theorem enters_nfn (k : Nat) (args : Array Value) (w : World) : (callFunc (nfn k) args).run Tryd.prog w = .ok (.enter (nfn k) args) w := by
  unfold nfn
  split
  · exact enters_of Tryd.func144 (by kernel_rfl) rfl _ _
  · split
    · exact enters_of Tryd.func146 (by kernel_rfl) rfl _ _
    · split
      · exact enters_of Tryd.func148 (by kernel_rfl) rfl _ _
      · exact enters_of Tryd.func150 (by kernel_rfl) rfl _ _

theorem numOk_0 (i key : Nat) (h1 : 1 ≤ i) (h2 : i ≤ 14) (hk : key ≤ lastKey (frm i)) (h0 : (frm i).kind = 1 → 0 < key) : NumOk (frm i) 0 key := by
  have : i = 1 ∨ i = 2 ∨ i = 3 ∨ i = 4 ∨ i = 5 ∨ i = 6 ∨ i = 7 ∨ i = 8 ∨ i = 9 ∨ i = 10 ∨ i = 11 ∨ i = 12 ∨ i = 13 ∨ i = 14 := by omega
  rcases this with rfl | rfl | rfl | rfl | rfl | rfl | rfl | rfl | rfl | rfl | rfl | rfl | rfl | rfl
  all_goals
    simp [frm, lastKey] at hk h0
    constructor <;> simp [frm] <;> omega

theorem numOk_1 (i key : Nat) (h1 : 1 ≤ i) (h2 : i ≤ 14) (hk : key ≤ lastKey (frm i)) : NumOk (frm i) 1 (2 * key + 1) := by
  have : i = 1 ∨ i = 2 ∨ i = 3 ∨ i = 4 ∨ i = 5 ∨ i = 6 ∨ i = 7 ∨ i = 8 ∨ i = 9 ∨ i = 10 ∨ i = 11 ∨ i = 12 ∨ i = 13 ∨ i = 14 := by omega
  rcases this with rfl | rfl | rfl | rfl | rfl | rfl | rfl | rfl | rfl | rfl | rfl | rfl | rfl | rfl
  all_goals
    simp [frm, lastKey] at hk
    constructor <;> simp [frm] <;> omega

theorem lastKey_lt (i : Nat) (h1 : 1 ≤ i) (h2 : i ≤ 14) : lastKey (frm i) < 9223372036854775808 ∧ (frm i).top ≤ lastKey (frm i) ∧ (frm i).top < 2 ^ (frm i).width ∧ lastKey (frm i) ≤ 2 ^ (frm i).width := by
  have : i = 1 ∨ i = 2 ∨ i = 3 ∨ i = 4 ∨ i = 5 ∨ i = 6 ∨ i = 7 ∨ i = 8 ∨ i = 9 ∨ i = 10 ∨ i = 11 ∨ i = 12 ∨ i = 13 ∨ i = 14 := by omega
  rcases this with rfl | rfl | rfl | rfl | rfl | rfl | rfl | rfl | rfl | rfl | rfl | rfl | rfl | rfl <;> decide
end Go.Proofs.YtogdiobbjlpmoaaDoor

