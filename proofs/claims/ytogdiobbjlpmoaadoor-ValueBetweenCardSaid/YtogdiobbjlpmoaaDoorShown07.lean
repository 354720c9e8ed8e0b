/- What caliperlaw07.shown answers: true. No condition but that the package variables hold what they are laid with. -/
import Derived.Test.YtogdiobbjlpmoaaDoorAt
namespace Go.Proofs.YtogdiobbjlpmoaaDoor
open Go Go.RowKit Cal

theorem m_a : means 1 192 = ⟨2, true, 1, 0⟩ := by decide +kernel
theorem m_b : means 6 252 = ⟨3, true, 0, 0⟩ := by decide +kernel
theorem m_c : means 10 128 = ⟨2, true, 1, 1⟩ := by decide +kernel
theorem m_d : betV 5 126 = (29, 4, 0) := by decide +kernel
theorem m_e : patV 13 true 1065353216 = (3212836864, 0) := by decide +kernel
theorem f_a : fitsE 1 192 = 0 := by decide +kernel
theorem f_b : fitsE 6 252 = 0 := by decide +kernel
theorem f_c : fitsE 10 128 = 0 := by decide +kernel

set_option maxRecDepth 100000 in
set_option maxHeartbeats 1600000 in
theorem shown_any (w : World) (hE : Env w) : Calls Tryd.prog 25 #[] w fun e w' => e = .returned (.bool true) ∧ Ext w w' := by
  have c1 := Lib.hid (fun W h => decode_any 1 192 (by omega) W h)
  have c2 := Lib.hid (fun W h => decode_any 6 252 (by omega) W h)
  have c3 := Lib.hid (fun W h => decode_any 10 128 (by omega) W h)
  have c4 := Lib.hid (fun W h => between_any 5 126 W h)
  have c5 := Lib.hid (fun W h => pattern_any 13 true 1065353216 (by omega) W h)
  rw [m_a, f_a] at c1
  rw [m_b, f_b] at c2
  rw [m_c, f_c] at c3
  rw [m_d] at c4
  rw [m_e] at c5
  simp only at c1 c2 c3 c4 c5
  go_enter Tryd.func25, Tryd.ntmps25
  go_wp2_with fail
  refine (c1.out _ hE).mono ?_
  rintro e w1 ⟨rfl, hb1⟩
  have E1 := (hE.ext hb1).alloc (.cells #[.int .i64 2, .bool true, .int .u64 1, .int .i64 0] 25)
  have A1 := Blk.new w1 25 #[.int .i64 2, .bool true, .int .u64 1, .int .i64 0]
  go_wp2_with fail
  refine (c2.out _ E1).mono ?_
  rintro e w2 ⟨rfl, hb2⟩
  have E2 := (E1.ext hb2).alloc (.cells #[.int .i64 3, .bool true, .int .u64 0, .int .i64 0] 25)
  have B2 := Blk.new w2 25 #[.int .i64 3, .bool true, .int .u64 0, .int .i64 0]
  have A2 := (A1.ext hb2).alloc (.cells #[.int .i64 3, .bool true, .int .u64 0, .int .i64 0] 25)
  go_wp2_with fail
  refine (c3.out _ E2).mono ?_
  rintro e w3 ⟨rfl, hb3⟩
  have E3 := (E2.ext hb3).alloc (.cells #[.int .i64 2, .bool true, .int .u64 1, .int .i64 1] 25)
  have C3 := Blk.new w3 25 #[.int .i64 2, .bool true, .int .u64 1, .int .i64 1]
  have A3 := (A2.ext hb3).alloc (.cells #[.int .i64 2, .bool true, .int .u64 1, .int .i64 1] 25)
  have B3 := (B2.ext hb3).alloc (.cells #[.int .i64 2, .bool true, .int .u64 1, .int .i64 1] 25)
  go_wp2_with fail
  refine (c4.out _ E3).mono ?_
  rintro e w4 ⟨rfl, hb4⟩
  have E4 := E3.ext hb4
  go_wp2_with fail
  refine (c5.out _ E4).mono ?_
  rintro e w5 ⟨rfl, hb5⟩
  have A5 := (A3.ext hb4).ext hb5
  have B5 := (B3.ext hb4).ext hb5
  have C5 := (C3.ext hb4).ext hb5
  have cA := A5.cell
  have cB := B5.cell
  have cC := C5.cell
  go_wp2_with fail
  go_ret
  exact ⟨rfl, by (repeat (first | (with_reducible exact Ext.refl _) | (with_reducible assumption) | (with_reducible refine Ext.drew ?_) | (with_reducible refine Ext.drewN ?_ _) | (with_reducible refine Ext.alloc ?_ _) | (with_reducible refine Ext.setCell ?_ (Nat.le_refl _) _) | (with_reducible refine Ext.setCell ?_ (by simp; try omega) _) | (with_reducible refine Ext.trans ?_ (by with_reducible assumption))))⟩
end Go.Proofs.YtogdiobbjlpmoaaDoor

