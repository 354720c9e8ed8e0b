/- What trailing noughts are, and the odd number of a number: bits.TrailingZeros64, value.odd, posit.odd. No condition but that the table holds what it is laid with. -/
import Derived.Test.YtogdiobbjlpmoaaDoorEnv
import Derived.Test.YtogdiobbjlpmoaaDoorBits
import Derived.Laws.Bits64b
import Derived.Shelf.Spec.TrailingZeros
namespace Go.Proofs.YtogdiobbjlpmoaaDoor
open Go Go.RowKit Cal

theorem fuel_u64 : IntKind.u64.wrap 0 = 0 := by rw [IntKind.wrap_u64]; rfl

set_option maxHeartbeats 400000 in
theorem tz_core (x k idx : Nat) (w : World) (hx0 : ((x : Int) == 0) = false)
    (key : IntKind.u64.wrap (bits BinOp.and IntKind.u64 (x : Int) (IntKind.u64.wrap (-(x : Int))) * 285870213051353865) / 288230376151711744 = (idx : Int))
    (hi : idx < 64) (hk : k < 64) (hcell : w.cell? ⟨3, idx, none⟩ = some (.int .u8 k)) :
    Calls Tryd.prog 160 #[.int .u64 x] w fun e w' => e = .returned (.int .i64 k) ∧ w = w' := by
  go_enter Tryd.func160, Tryd.ntmps160
  go_wp2_with (simp only [key])
  go_ret
  exact ⟨rfl, rfl⟩

/-- bits.TrailingZeros64. -/
theorem tz_any (x : Nat) (h0 : 0 < x) (hx : x < 18446744073709551616) (w : World) (hE : Env w) :
    Calls Tryd.prog 160 #[.int .u64 x] w fun e w' => e = .returned (.int .i64 (Lib.ctz 64 x)) ∧ w = w' := by
  obtain ⟨hlow, hk⟩ := Lib.lowest_bit 64 x (by omega) hx
  obtain ⟨hi, htab⟩ := Lib.deBruijn64_at _ hk
  have hcell := hE.tz _ hi
  rw [htab] at hcell
  exact tz_core x _ _ w (by simp; omega) (tz64_key x _ hx (by omega) hlow) hi hk hcell

set_option maxHeartbeats 400000 in
/-- value.odd. -/
theorem vodd_any (x : Nat) (e : Int) (hx : x < 18446744073709551616) (he : -100000 ≤ e) (he2 : e ≤ 100000) (w : World) (hE : Env w) :
    Calls Tryd.prog 149 #[.int .u64 x, .int .i64 e] w fun en w' => en = .returned (.tuple #[.int .u64 ((odd x e).1 : Nat), .int .i64 (odd x e).2]) ∧ w = w' := by
  by_cases h0 : x = 0
  · subst h0
    go_enter Tryd.func149, Tryd.ntmps149
    go_wp2
    go_ret2
    exact ⟨rfl, rfl⟩
  · have hk := ctz_lt x (by omega) hx
    have ho : odd x e = (x / 2 ^ Lib.ctz 64 x, e + Lib.ctz 64 x) := by unfold odd; rw [if_neg h0]
    have hx0 : ((x : Int) == 0) = false := by rw [beq_eq_false_iff_ne]; omega
    have H := Lib.hid (tz_any x (by omega) hx w hE)
    rw [ho]
    clear ho
    generalize Lib.ctz 64 x = k at *
    go_enter Tryd.func149, Tryd.ntmps149
    go_wp2_with (first | (go_at_call 160; refine (H.out).mono ?_; rintro e w1 ⟨rfl, rfl⟩))
    go_ret2
    exact ⟨ret2 (zdiv x k) rfl, rfl⟩

set_option maxHeartbeats 400000 in
/-- posit.odd. -/
theorem podd_any (x : Nat) (e : Int) (h0 : 0 < x) (hx : x < 18446744073709551616) (he : -100000 ≤ e) (he2 : e ≤ 100000) (w : World) (hE : Env w) :
    Calls Tryd.prog 162 #[.int .u64 x, .int .i64 e] w fun en w' => en = .returned (.tuple #[.int .u64 ((odd x e).1 : Nat), .int .i64 (odd x e).2]) ∧ w = w' := by
  have hk := ctz_lt x (by omega) hx
  have ho : odd x e = (x / 2 ^ Lib.ctz 64 x, e + Lib.ctz 64 x) := by unfold odd; rw [if_neg (by omega)]
  have H := Lib.hid (tz_any x (by omega) hx w hE)
  rw [ho]
  clear ho
  generalize Lib.ctz 64 x = k at *
  go_enter Tryd.func162, Tryd.ntmps162
  go_wp2_with (first | (go_at_call 160; refine (H.out).mono ?_; rintro e w1 ⟨rfl, rfl⟩))
  go_ret2
  exact ⟨ret2 (zdiv x k) rfl, rfl⟩
end Go.Proofs.YtogdiobbjlpmoaaDoor

