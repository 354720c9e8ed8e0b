/- Quire.does, Add, Sub. No condition but those written, and that the package variables hold what they are laid with. How large the product of two posits is: it fits a quire. Plain Lean; no condition but those written. Quire.New, Add, Sub, of any patterns: what they do as numbers. No condition but those written, and that the package variables hold what they are laid with. -/
import Derived.Test.YtogdiobbjlpmoaaDoorQuireA
import Derived.Test.YtogdiobbjlpmoaaDoorDecode
import Derived.Test.YtogdiobbjlpmoaaDoorRuns2
import Derived.Test.YtogdiobbjlpmoaaDoorBits
import Derived.Test.YtogdiobbjlpmoaaDoorPure07
import Derived.Test.YtogdiobbjlpmoaaDoorOrderLaw
import Derived.Test.YtogdiobbjlpmoaaDoorKeys
namespace Go.Proofs.YtogdiobbjlpmoaaDoor
open Go Go.RowKit Cal

set_option linter.unusedVariables false
/-- What Decode answers, as a contract. -/
def Dec (i : Int) (p : Nat) (c : Nat) (ng : Bool) (m : Nat) (e er : Int) : Prop := ∀ W : World, Env W → Calls Tryd.prog 26 #[.int .i64 i, .int .u64 p] W fun r w' =>
  r = .returned (.tuple #[.agg #[.int .i64 c, .bool ng, .int .u64 m, .int .i64 e], .int .i64 er]) ∧ Ext W w'

set_option maxRecDepth 100000 in
set_option maxHeartbeats 1600000 in
theorem q_does_a (g : Nat) (f : Frm) (i : Int) (p q : Nat) (less : Bool) (B : Nat) (c1 : Nat) (n1 : Bool) (m1 : Nat) (e1 er1 : Int) (c2 : Nat) (n2 : Bool) (m2 : Nat) (e2 er2 : Int) (hf : f.width ≤ 64) (hf1 : 1 ≤ f.width)
    (d1 : Hid (Dec i p c1 n1 m1 e1 er1)) (d2 : Hid (Dec i q c2 n2 m2 e2 er2)) (hB : B < topB f) (h1 : er1 ≠ 0) (w : World) (hE : Env w) (h : QAt w g f i B) :
    Calls Tryd.prog 108 #[.pointer (some ⟨g, 0, none⟩), .int .u64 p, .int .u64 q, .bool less] w fun e w' => e = .returned (.int .i64 1) ∧ QAt w' g f i B ∧ w.grownBy w' (some g) := by
  obtain ⟨v0, q0, k0⟩ := h
  have HQ := Lib.hid q0
  have HN := Lib.hid k0
  have hc7 : w.cell? ⟨g, 7, none⟩ = some (.int .i64 i) := q0.cell 7
  have hc0 : w.cell? ⟨g, 0, none⟩ = some (.int .i64 f.kind) := q0.cell 0
  have t1 : (er1 != 0) = true := by rw [bne_iff_ne]; exact h1
  clear q0 k0
  go_enter Tryd.func108, Tryd.ntmps108
  go_wp2_with fail
  refine (d1.out _ hE).mono ?_
  clear hc7 hc0
  rintro e w1 ⟨rfl, hb1⟩
  have E1 := (hE.ext hb1).alloc (.cells #[.int .i64 c1, .bool n1, .int .u64 m1, .int .i64 e1] 25)
  have q1 := (HQ.out.ext hb1).alloc (.cells #[.int .i64 c1, .bool n1, .int .u64 m1, .int .i64 e1] 25)
  have hc7 : w1.cell? ⟨g, 7, none⟩ = some (.int .i64 i) := (HQ.out.ext hb1).cell 7
  have hc0 : w1.cell? ⟨g, 0, none⟩ = some (.int .i64 f.kind) := (HQ.out.ext hb1).cell 0
  have hg1 : g < w1.heap.size := (HQ.out.ext hb1).lt
  go_wp2_with fail
  refine (d2.out _ E1).mono ?_
  clear hc7 hc0
  rintro e w2 ⟨rfl, hb2⟩
  have V2 := (Blk.new w1 25 #[.int .i64 c1, .bool n1, .int .u64 m1, .int .i64 e1]).ext hb2
  have q2 := (q1.ext hb2).alloc (.cells #[.int .i64 c2, .bool n2, .int .u64 m2, .int .i64 e2] 25)
  have l2 := V2.lt
  have cV := V2.cell
  have x2 : Ext w (w2.alloc (.cells #[.int .i64 c2, .bool n2, .int .u64 m2, .int .i64 e2] 25)) := ((hb1.alloc _).trans hb2).alloc _
  go_wp2_with fail
  go_ret
  exact ⟨rfl, ⟨v0, q2, HN.out.ext x2⟩, x2.grown _⟩

set_option maxRecDepth 100000 in
set_option maxHeartbeats 1600000 in
theorem q_does_b (g : Nat) (f : Frm) (i : Int) (p q : Nat) (less : Bool) (B : Nat) (c1 : Nat) (n1 : Bool) (m1 : Nat) (e1 er1 : Int) (c2 : Nat) (n2 : Bool) (m2 : Nat) (e2 er2 : Int) (hf : f.width ≤ 64) (hf1 : 1 ≤ f.width)
    (d1 : Hid (Dec i p c1 n1 m1 e1 er1)) (d2 : Hid (Dec i q c2 n2 m2 e2 er2)) (hB : B < topB f) (h1 : er1 = 0) (h2 : er2 ≠ 0) (w : World) (hE : Env w) (h : QAt w g f i B) :
    Calls Tryd.prog 108 #[.pointer (some ⟨g, 0, none⟩), .int .u64 p, .int .u64 q, .bool less] w fun e w' => e = .returned (.int .i64 1) ∧ QAt w' g f i B ∧ w.grownBy w' (some g) := by
  obtain ⟨v0, q0, k0⟩ := h
  have HQ := Lib.hid q0
  have HN := Lib.hid k0
  have hc7 : w.cell? ⟨g, 7, none⟩ = some (.int .i64 i) := q0.cell 7
  have hc0 : w.cell? ⟨g, 0, none⟩ = some (.int .i64 f.kind) := q0.cell 0
  have t1 : (er1 != 0) = false := by rw [h1]; rfl
  have t2 : (er2 != 0) = true := by rw [bne_iff_ne]; exact h2
  clear q0 k0
  go_enter Tryd.func108, Tryd.ntmps108
  go_wp2_with fail
  refine (d1.out _ hE).mono ?_
  clear hc7 hc0
  rintro e w1 ⟨rfl, hb1⟩
  have E1 := (hE.ext hb1).alloc (.cells #[.int .i64 c1, .bool n1, .int .u64 m1, .int .i64 e1] 25)
  have q1 := (HQ.out.ext hb1).alloc (.cells #[.int .i64 c1, .bool n1, .int .u64 m1, .int .i64 e1] 25)
  have hc7 : w1.cell? ⟨g, 7, none⟩ = some (.int .i64 i) := (HQ.out.ext hb1).cell 7
  have hc0 : w1.cell? ⟨g, 0, none⟩ = some (.int .i64 f.kind) := (HQ.out.ext hb1).cell 0
  have hg1 : g < w1.heap.size := (HQ.out.ext hb1).lt
  go_wp2_with fail
  refine (d2.out _ E1).mono ?_
  clear hc7 hc0
  rintro e w2 ⟨rfl, hb2⟩
  have V2 := (Blk.new w1 25 #[.int .i64 c1, .bool n1, .int .u64 m1, .int .i64 e1]).ext hb2
  have q2 := (q1.ext hb2).alloc (.cells #[.int .i64 c2, .bool n2, .int .u64 m2, .int .i64 e2] 25)
  have l2 := V2.lt
  have cV := V2.cell
  have x2 : Ext w (w2.alloc (.cells #[.int .i64 c2, .bool n2, .int .u64 m2, .int .i64 e2] 25)) := ((hb1.alloc _).trans hb2).alloc _
  go_wp2_with fail
  go_ret
  exact ⟨rfl, ⟨v0, q2, HN.out.ext x2⟩, x2.grown _⟩

set_option maxRecDepth 100000 in
set_option maxHeartbeats 1600000 in
theorem q_does_c (g : Nat) (f : Frm) (i : Int) (p q : Nat) (less : Bool) (B : Nat) (c1 : Nat) (n1 : Bool) (m1 : Nat) (e1 er1 : Int) (c2 : Nat) (n2 : Bool) (m2 : Nat) (e2 er2 : Int) (hf : f.width ≤ 64) (hf1 : 1 ≤ f.width)
    (d1 : Hid (Dec i p c1 n1 m1 e1 er1)) (d2 : Hid (Dec i q c2 n2 m2 e2 er2)) (hB : B < topB f) (h1 : er1 = 0) (h2 : er2 = 0) (hn : B = narB f) (w : World) (hE : Env w) (h : QAt w g f i B) :
    Calls Tryd.prog 108 #[.pointer (some ⟨g, 0, none⟩), .int .u64 p, .int .u64 q, .bool less] w fun e w' => e = .returned (.int .i64 0) ∧ QAt w' g f i B ∧ w.grownBy w' (some g) := by
  obtain ⟨v0, q0, k0⟩ := h
  have HQ := Lib.hid q0
  have HN := Lib.hid k0
  have hc7 : w.cell? ⟨g, 7, none⟩ = some (.int .i64 i) := q0.cell 7
  have hc0 : w.cell? ⟨g, 0, none⟩ = some (.int .i64 f.kind) := q0.cell 0
  have t1 : (er1 != 0) = false := by rw [h1]; rfl
  have t2 : (er2 != 0) = false := by rw [h2]; rfl
  have c55 := Lib.hid (fun W h => q_isnar g f i B hf hf1 W h)
  rw [decide_eq_true (show B = 2 ^ (16 * f.width - 1) from hn)] at c55
  clear q0 k0
  go_enter Tryd.func108, Tryd.ntmps108
  go_wp2_with fail
  refine (d1.out _ hE).mono ?_
  clear hc7 hc0
  rintro e w1 ⟨rfl, hb1⟩
  have E1 := (hE.ext hb1).alloc (.cells #[.int .i64 c1, .bool n1, .int .u64 m1, .int .i64 e1] 25)
  have q1 := (HQ.out.ext hb1).alloc (.cells #[.int .i64 c1, .bool n1, .int .u64 m1, .int .i64 e1] 25)
  have hc7 : w1.cell? ⟨g, 7, none⟩ = some (.int .i64 i) := (HQ.out.ext hb1).cell 7
  have hc0 : w1.cell? ⟨g, 0, none⟩ = some (.int .i64 f.kind) := (HQ.out.ext hb1).cell 0
  have hg1 : g < w1.heap.size := (HQ.out.ext hb1).lt
  go_wp2_with fail
  refine (d2.out _ E1).mono ?_
  clear hc7 hc0
  rintro e w2 ⟨rfl, hb2⟩
  have V2 := (Blk.new w1 25 #[.int .i64 c1, .bool n1, .int .u64 m1, .int .i64 e1]).ext hb2
  have q2 := (q1.ext hb2).alloc (.cells #[.int .i64 c2, .bool n2, .int .u64 m2, .int .i64 e2] 25)
  have l2 := V2.lt
  have cV := V2.cell
  have x2 : Ext w (w2.alloc (.cells #[.int .i64 c2, .bool n2, .int .u64 m2, .int .i64 e2] 25)) := ((hb1.alloc _).trans hb2).alloc _
  go_wp2_with fail
  refine (c55.out _ ⟨v0, q2, HN.out.ext x2⟩).mono ?_
  rintro e w3 ⟨rfl, hb3⟩
  have q3 := q2.ext hb3
  have x3 := x2.trans hb3
  have V3 := (V2.alloc _).ext hb3
  have U3 := (Blk.new w2 25 #[.int .i64 c2, .bool n2, .int .u64 m2, .int .i64 e2]).ext hb3
  have l3 := V3.lt
  have m3 := U3.lt
  clear cV
  have cV := V3.cell
  have cU := U3.cell
  go_wp2_with fail
  go_ret
  exact ⟨rfl, ⟨v0, q3, HN.out.ext x3⟩, x3.grown _⟩

set_option maxRecDepth 100000 in
set_option maxHeartbeats 1600000 in
theorem q_does_d (g : Nat) (f : Frm) (i : Int) (p q : Nat) (less : Bool) (B : Nat) (n1 : Bool) (m1 : Nat) (e1 er1 : Int) (c2 : Nat) (n2 : Bool) (m2 : Nat) (e2 er2 : Int) (hf : f.width ≤ 64) (hf1 : 1 ≤ f.width)
    (d1 : Hid (Dec i p 4 n1 m1 e1 er1)) (d2 : Hid (Dec i q c2 n2 m2 e2 er2)) (hB : B < topB f) (h1 : er1 = 0) (h2 : er2 = 0) (hn : ¬ B = narB f)  (w : World) (hE : Env w) (h : QAt w g f i B) :
    Calls Tryd.prog 108 #[.pointer (some ⟨g, 0, none⟩), .int .u64 p, .int .u64 q, .bool less] w fun e w' => e = .returned (.int .i64 0) ∧ QAt w' g f i (narB f) ∧ w.grownBy w' (some g) := by
  obtain ⟨v0, q0, k0⟩ := h
  have HQ := Lib.hid q0
  have HN := Lib.hid k0
  have hc7 : w.cell? ⟨g, 7, none⟩ = some (.int .i64 i) := q0.cell 7
  have hc0 : w.cell? ⟨g, 0, none⟩ = some (.int .i64 f.kind) := q0.cell 0
  have t1 : (er1 != 0) = false := by rw [h1]; rfl
  have t2 : (er2 != 0) = false := by rw [h2]; rfl
  have c55 := Lib.hid (fun W h => q_isnar g f i B hf hf1 W h)
  rw [decide_eq_false (show ¬ B = 2 ^ (16 * f.width - 1) from hn)] at c55
  have c109 := Lib.hid (fun W h => q_nar g f i v0 hf hf1 W h)
  clear q0 k0
  go_enter Tryd.func108, Tryd.ntmps108
  go_wp2_with fail
  refine (d1.out _ hE).mono ?_
  clear hc7 hc0
  rintro e w1 ⟨rfl, hb1⟩
  have E1 := (hE.ext hb1).alloc (.cells #[.int .i64 4, .bool n1, .int .u64 m1, .int .i64 e1] 25)
  have q1 := (HQ.out.ext hb1).alloc (.cells #[.int .i64 4, .bool n1, .int .u64 m1, .int .i64 e1] 25)
  have hc7 : w1.cell? ⟨g, 7, none⟩ = some (.int .i64 i) := (HQ.out.ext hb1).cell 7
  have hc0 : w1.cell? ⟨g, 0, none⟩ = some (.int .i64 f.kind) := (HQ.out.ext hb1).cell 0
  have hg1 : g < w1.heap.size := (HQ.out.ext hb1).lt
  go_wp2_with fail
  refine (d2.out _ E1).mono ?_
  clear hc7 hc0
  rintro e w2 ⟨rfl, hb2⟩
  have V2 := (Blk.new w1 25 #[.int .i64 4, .bool n1, .int .u64 m1, .int .i64 e1]).ext hb2
  have q2 := (q1.ext hb2).alloc (.cells #[.int .i64 c2, .bool n2, .int .u64 m2, .int .i64 e2] 25)
  have l2 := V2.lt
  have cV := V2.cell
  have x2 : Ext w (w2.alloc (.cells #[.int .i64 c2, .bool n2, .int .u64 m2, .int .i64 e2] 25)) := ((hb1.alloc _).trans hb2).alloc _
  go_wp2_with fail
  refine (c55.out _ ⟨v0, q2, HN.out.ext x2⟩).mono ?_
  rintro e w3 ⟨rfl, hb3⟩
  have q3 := q2.ext hb3
  have x3 := x2.trans hb3
  have V3 := (V2.alloc _).ext hb3
  have U3 := (Blk.new w2 25 #[.int .i64 c2, .bool n2, .int .u64 m2, .int .i64 e2]).ext hb3
  have l3 := V3.lt
  have m3 := U3.lt
  clear cV
  have cV := V3.cell
  have cU := U3.cell
  go_wp2_with fail
  refine (c109.out _ q3).mono ?_
  clear cV cU
  rintro e w4 ⟨v4, rfl, n4, hb4⟩
  have q4 := q3.ext hb4
  have n4' := n4
  obtain ⟨_, A1, cap1, rfl, _⟩ := n4'
  have hc8 : w4.cell? ⟨g, 8, none⟩ = some v0 := q4.cell 8
  have hc0 : w4.cell? ⟨g, 0, none⟩ = some (.int .i64 f.kind) := q4.cell 0
  have f8 := q4.frozen 8
  have hst := Lib.hid (store_bits (B := narB f) q4 HN.out.slice n4)
  go_wp2_with fail
  go_ret
  exact ⟨rfl, hst.out, grown_trans ((x3.trans hb4).grown _) (grown_set _ _ _ _)⟩

set_option maxRecDepth 100000 in
set_option maxHeartbeats 1600000 in
theorem q_does_e (g : Nat) (f : Frm) (i : Int) (p q : Nat) (less : Bool) (B : Nat) (c1 : Nat) (n1 : Bool) (m1 : Nat) (e1 er1 : Int) (n2 : Bool) (m2 : Nat) (e2 er2 : Int) (hf : f.width ≤ 64) (hf1 : 1 ≤ f.width)
    (d1 : Hid (Dec i p c1 n1 m1 e1 er1)) (d2 : Hid (Dec i q 4 n2 m2 e2 er2)) (hB : B < topB f) (h1 : er1 = 0) (h2 : er2 = 0) (hn : ¬ B = narB f) (hk1 : ¬ c1 = 4) (w : World) (hE : Env w) (h : QAt w g f i B) :
    Calls Tryd.prog 108 #[.pointer (some ⟨g, 0, none⟩), .int .u64 p, .int .u64 q, .bool less] w fun e w' => e = .returned (.int .i64 0) ∧ QAt w' g f i (narB f) ∧ w.grownBy w' (some g) := by
  obtain ⟨v0, q0, k0⟩ := h
  have HQ := Lib.hid q0
  have HN := Lib.hid k0
  have hc7 : w.cell? ⟨g, 7, none⟩ = some (.int .i64 i) := q0.cell 7
  have hc0 : w.cell? ⟨g, 0, none⟩ = some (.int .i64 f.kind) := q0.cell 0
  have t1 : (er1 != 0) = false := by rw [h1]; rfl
  have t2 : (er2 != 0) = false := by rw [h2]; rfl
  have c55 := Lib.hid (fun W h => q_isnar g f i B hf hf1 W h)
  rw [decide_eq_false (show ¬ B = 2 ^ (16 * f.width - 1) from hn)] at c55
  have c109 := Lib.hid (fun W h => q_nar g f i v0 hf hf1 W h)
  have k1 : ((c1 : Int) == 4) = false := bfalse (b := 4) hk1
  clear q0 k0
  go_enter Tryd.func108, Tryd.ntmps108
  go_wp2_with fail
  refine (d1.out _ hE).mono ?_
  clear hc7 hc0
  rintro e w1 ⟨rfl, hb1⟩
  have E1 := (hE.ext hb1).alloc (.cells #[.int .i64 c1, .bool n1, .int .u64 m1, .int .i64 e1] 25)
  have q1 := (HQ.out.ext hb1).alloc (.cells #[.int .i64 c1, .bool n1, .int .u64 m1, .int .i64 e1] 25)
  have hc7 : w1.cell? ⟨g, 7, none⟩ = some (.int .i64 i) := (HQ.out.ext hb1).cell 7
  have hc0 : w1.cell? ⟨g, 0, none⟩ = some (.int .i64 f.kind) := (HQ.out.ext hb1).cell 0
  have hg1 : g < w1.heap.size := (HQ.out.ext hb1).lt
  go_wp2_with fail
  refine (d2.out _ E1).mono ?_
  clear hc7 hc0
  rintro e w2 ⟨rfl, hb2⟩
  have V2 := (Blk.new w1 25 #[.int .i64 c1, .bool n1, .int .u64 m1, .int .i64 e1]).ext hb2
  have q2 := (q1.ext hb2).alloc (.cells #[.int .i64 4, .bool n2, .int .u64 m2, .int .i64 e2] 25)
  have l2 := V2.lt
  have cV := V2.cell
  have x2 : Ext w (w2.alloc (.cells #[.int .i64 4, .bool n2, .int .u64 m2, .int .i64 e2] 25)) := ((hb1.alloc _).trans hb2).alloc _
  go_wp2_with fail
  refine (c55.out _ ⟨v0, q2, HN.out.ext x2⟩).mono ?_
  rintro e w3 ⟨rfl, hb3⟩
  have q3 := q2.ext hb3
  have x3 := x2.trans hb3
  have V3 := (V2.alloc _).ext hb3
  have U3 := (Blk.new w2 25 #[.int .i64 4, .bool n2, .int .u64 m2, .int .i64 e2]).ext hb3
  have l3 := V3.lt
  have m3 := U3.lt
  clear cV
  have cV := V3.cell
  have cU := U3.cell
  go_wp2_with fail
  refine (c109.out _ q3).mono ?_
  clear cV cU
  rintro e w4 ⟨v4, rfl, n4, hb4⟩
  have q4 := q3.ext hb4
  have n4' := n4
  obtain ⟨_, A1, cap1, rfl, _⟩ := n4'
  have hc8 : w4.cell? ⟨g, 8, none⟩ = some v0 := q4.cell 8
  have hc0 : w4.cell? ⟨g, 0, none⟩ = some (.int .i64 f.kind) := q4.cell 0
  have f8 := q4.frozen 8
  have hst := Lib.hid (store_bits (B := narB f) q4 HN.out.slice n4)
  go_wp2_with fail
  go_ret
  exact ⟨rfl, hst.out, grown_trans ((x3.trans hb4).grown _) (grown_set _ _ _ _)⟩

set_option maxRecDepth 100000 in
set_option maxHeartbeats 1600000 in
theorem q_does_f (g : Nat) (f : Frm) (i : Int) (p q : Nat) (less : Bool) (B : Nat) (c1 : Nat) (n1 : Bool) (m1 : Nat) (e1 er1 : Int) (c2 : Nat) (n2 : Bool) (m2 : Nat) (e2 er2 : Int) (hf : f.width ≤ 64) (hf1 : 1 ≤ f.width)
    (d1 : Hid (Dec i p c1 n1 m1 e1 er1)) (d2 : Hid (Dec i q c2 n2 m2 e2 er2)) (hB : B < topB f) (h1 : er1 = 0) (h2 : er2 = 0) (hn : ¬ B = narB f) (hk1 : ¬ c1 = 4) (hk2 : ¬ c2 = 4) (hk3 : ¬ c1 = 2) (w : World) (hE : Env w) (h : QAt w g f i B) :
    Calls Tryd.prog 108 #[.pointer (some ⟨g, 0, none⟩), .int .u64 p, .int .u64 q, .bool less] w fun e w' => e = .returned (.int .i64 0) ∧ QAt w' g f i B ∧ w.grownBy w' (some g) := by
  obtain ⟨v0, q0, k0⟩ := h
  have HQ := Lib.hid q0
  have HN := Lib.hid k0
  have hc7 : w.cell? ⟨g, 7, none⟩ = some (.int .i64 i) := q0.cell 7
  have hc0 : w.cell? ⟨g, 0, none⟩ = some (.int .i64 f.kind) := q0.cell 0
  have t1 : (er1 != 0) = false := by rw [h1]; rfl
  have t2 : (er2 != 0) = false := by rw [h2]; rfl
  have c55 := Lib.hid (fun W h => q_isnar g f i B hf hf1 W h)
  rw [decide_eq_false (show ¬ B = 2 ^ (16 * f.width - 1) from hn)] at c55
  have k1 : ((c1 : Int) == 4) = false := bfalse (b := 4) hk1
  have k2 : ((c2 : Int) == 4) = false := bfalse (b := 4) hk2
  have k3 : ((c1 : Int) == 2) = false := bfalse (b := 2) hk3
  clear q0 k0
  go_enter Tryd.func108, Tryd.ntmps108
  go_wp2_with fail
  refine (d1.out _ hE).mono ?_
  clear hc7 hc0
  rintro e w1 ⟨rfl, hb1⟩
  have E1 := (hE.ext hb1).alloc (.cells #[.int .i64 c1, .bool n1, .int .u64 m1, .int .i64 e1] 25)
  have q1 := (HQ.out.ext hb1).alloc (.cells #[.int .i64 c1, .bool n1, .int .u64 m1, .int .i64 e1] 25)
  have hc7 : w1.cell? ⟨g, 7, none⟩ = some (.int .i64 i) := (HQ.out.ext hb1).cell 7
  have hc0 : w1.cell? ⟨g, 0, none⟩ = some (.int .i64 f.kind) := (HQ.out.ext hb1).cell 0
  have hg1 : g < w1.heap.size := (HQ.out.ext hb1).lt
  go_wp2_with fail
  refine (d2.out _ E1).mono ?_
  clear hc7 hc0
  rintro e w2 ⟨rfl, hb2⟩
  have V2 := (Blk.new w1 25 #[.int .i64 c1, .bool n1, .int .u64 m1, .int .i64 e1]).ext hb2
  have q2 := (q1.ext hb2).alloc (.cells #[.int .i64 c2, .bool n2, .int .u64 m2, .int .i64 e2] 25)
  have l2 := V2.lt
  have cV := V2.cell
  have x2 : Ext w (w2.alloc (.cells #[.int .i64 c2, .bool n2, .int .u64 m2, .int .i64 e2] 25)) := ((hb1.alloc _).trans hb2).alloc _
  go_wp2_with fail
  refine (c55.out _ ⟨v0, q2, HN.out.ext x2⟩).mono ?_
  rintro e w3 ⟨rfl, hb3⟩
  have q3 := q2.ext hb3
  have x3 := x2.trans hb3
  have V3 := (V2.alloc _).ext hb3
  have U3 := (Blk.new w2 25 #[.int .i64 c2, .bool n2, .int .u64 m2, .int .i64 e2]).ext hb3
  have l3 := V3.lt
  have m3 := U3.lt
  clear cV
  have cV := V3.cell
  have cU := U3.cell
  go_wp2_with fail
  go_ret
  exact ⟨rfl, ⟨v0, q3, HN.out.ext x3⟩, x3.grown _⟩

set_option maxRecDepth 100000 in
set_option maxHeartbeats 1600000 in
theorem q_does_g (g : Nat) (f : Frm) (i : Int) (p q : Nat) (less : Bool) (B : Nat) (n1 : Bool) (m1 : Nat) (e1 er1 : Int) (c2 : Nat) (n2 : Bool) (m2 : Nat) (e2 er2 : Int) (hf : f.width ≤ 64) (hf1 : 1 ≤ f.width)
    (d1 : Hid (Dec i p 2 n1 m1 e1 er1)) (d2 : Hid (Dec i q c2 n2 m2 e2 er2)) (hB : B < topB f) (h1 : er1 = 0) (h2 : er2 = 0) (hn : ¬ B = narB f) (hk2 : ¬ c2 = 4) (hk4 : ¬ c2 = 2) (w : World) (hE : Env w) (h : QAt w g f i B) :
    Calls Tryd.prog 108 #[.pointer (some ⟨g, 0, none⟩), .int .u64 p, .int .u64 q, .bool less] w fun e w' => e = .returned (.int .i64 0) ∧ QAt w' g f i B ∧ w.grownBy w' (some g) := by
  obtain ⟨v0, q0, k0⟩ := h
  have HQ := Lib.hid q0
  have HN := Lib.hid k0
  have hc7 : w.cell? ⟨g, 7, none⟩ = some (.int .i64 i) := q0.cell 7
  have hc0 : w.cell? ⟨g, 0, none⟩ = some (.int .i64 f.kind) := q0.cell 0
  have t1 : (er1 != 0) = false := by rw [h1]; rfl
  have t2 : (er2 != 0) = false := by rw [h2]; rfl
  have c55 := Lib.hid (fun W h => q_isnar g f i B hf hf1 W h)
  rw [decide_eq_false (show ¬ B = 2 ^ (16 * f.width - 1) from hn)] at c55
  have k2 : ((c2 : Int) == 4) = false := bfalse (b := 4) hk2
  have k4 : ((c2 : Int) == 2) = false := bfalse (b := 2) hk4
  clear q0 k0
  go_enter Tryd.func108, Tryd.ntmps108
  go_wp2_with fail
  refine (d1.out _ hE).mono ?_
  clear hc7 hc0
  rintro e w1 ⟨rfl, hb1⟩
  have E1 := (hE.ext hb1).alloc (.cells #[.int .i64 2, .bool n1, .int .u64 m1, .int .i64 e1] 25)
  have q1 := (HQ.out.ext hb1).alloc (.cells #[.int .i64 2, .bool n1, .int .u64 m1, .int .i64 e1] 25)
  have hc7 : w1.cell? ⟨g, 7, none⟩ = some (.int .i64 i) := (HQ.out.ext hb1).cell 7
  have hc0 : w1.cell? ⟨g, 0, none⟩ = some (.int .i64 f.kind) := (HQ.out.ext hb1).cell 0
  have hg1 : g < w1.heap.size := (HQ.out.ext hb1).lt
  go_wp2_with fail
  refine (d2.out _ E1).mono ?_
  clear hc7 hc0
  rintro e w2 ⟨rfl, hb2⟩
  have V2 := (Blk.new w1 25 #[.int .i64 2, .bool n1, .int .u64 m1, .int .i64 e1]).ext hb2
  have q2 := (q1.ext hb2).alloc (.cells #[.int .i64 c2, .bool n2, .int .u64 m2, .int .i64 e2] 25)
  have l2 := V2.lt
  have cV := V2.cell
  have x2 : Ext w (w2.alloc (.cells #[.int .i64 c2, .bool n2, .int .u64 m2, .int .i64 e2] 25)) := ((hb1.alloc _).trans hb2).alloc _
  go_wp2_with fail
  refine (c55.out _ ⟨v0, q2, HN.out.ext x2⟩).mono ?_
  rintro e w3 ⟨rfl, hb3⟩
  have q3 := q2.ext hb3
  have x3 := x2.trans hb3
  have V3 := (V2.alloc _).ext hb3
  have U3 := (Blk.new w2 25 #[.int .i64 c2, .bool n2, .int .u64 m2, .int .i64 e2]).ext hb3
  have l3 := V3.lt
  have m3 := U3.lt
  clear cV
  have cV := V3.cell
  have cU := U3.cell
  go_wp2_with fail
  go_ret
  exact ⟨rfl, ⟨v0, q3, HN.out.ext x3⟩, x3.grown _⟩

set_option maxRecDepth 100000 in
set_option maxHeartbeats 1600000 in
theorem q_does_h (g : Nat) (f : Frm) (i : Int) (p q : Nat) (less : Bool) (B : Nat) (n1 : Bool) (m1 : Nat) (e1 er1 : Int) (n2 : Bool) (m2 : Nat) (e2 er2 : Int) (hf : f.width ≤ 64) (hf1 : 1 ≤ f.width)
    (d1 : Hid (Dec i p 2 n1 m1 e1 er1)) (d2 : Hid (Dec i q 2 n2 m2 e2 er2)) (hB : B < topB f) (h1 : er1 = 0) (h2 : er2 = 0) (hn : ¬ B = narB f) (ha0 : 0 < m1) (hb0 : 0 < m2) (ha : m1 < 18446744073709551616) (hb : m2 < 18446744073709551616) (ea : -20000 ≤ e1 ∧ e1 ≤ 20000) (eb : -20000 ≤ e2 ∧ e2 ≤ 20000) (hP : m1 * m2 * 2 ^ qshift f.width e1 e2 < topB f) (hR : qprod f ⟨2, n1, m1, e1⟩ ⟨2, n2, m2, e2⟩ less < topB f) (w : World) (hE : Env w) (h : QAt w g f i B) :
    Calls Tryd.prog 108 #[.pointer (some ⟨g, 0, none⟩), .int .u64 p, .int .u64 q, .bool less] w fun e w' => e = .returned (.int .i64 0) ∧ QAt w' g f i (qsum (topB f) B (qprod f ⟨2, n1, m1, e1⟩ ⟨2, n2, m2, e2⟩ less)) ∧ w.grownBy w' (some g) := by
  obtain ⟨v0, q0, k0⟩ := h
  have HQ := Lib.hid q0
  have HN := Lib.hid k0
  have hc7 : w.cell? ⟨g, 7, none⟩ = some (.int .i64 i) := q0.cell 7
  have hc0 : w.cell? ⟨g, 0, none⟩ = some (.int .i64 f.kind) := q0.cell 0
  have t1 : (er1 != 0) = false := by rw [h1]; rfl
  have t2 : (er2 != 0) = false := by rw [h2]; rfl
  have c55 := Lib.hid (fun W h => q_isnar g f i B hf hf1 W h)
  rw [decide_eq_false (show ¬ B = 2 ^ (16 * f.width - 1) from hn)] at c55
  have c139 := Lib.hid (fun W h => q_product g f i v0 ⟨2, n1, m1, e1⟩ ⟨2, n2, m2, e2⟩ less hf hf1 W h ha0 hb0 ha hb ea eb hP)
  have c138 := Lib.hid (fun W v h hv => q_sum g f i B (qprod f ⟨2, n1, m1, e1⟩ ⟨2, n2, m2, e2⟩ less) v hf hf1 W h hB hv hR)
  clear q0 k0
  go_enter Tryd.func108, Tryd.ntmps108
  go_wp2_with fail
  refine (d1.out _ hE).mono ?_
  clear hc7 hc0
  rintro e w1 ⟨rfl, hb1⟩
  have E1 := (hE.ext hb1).alloc (.cells #[.int .i64 2, .bool n1, .int .u64 m1, .int .i64 e1] 25)
  have q1 := (HQ.out.ext hb1).alloc (.cells #[.int .i64 2, .bool n1, .int .u64 m1, .int .i64 e1] 25)
  have hc7 : w1.cell? ⟨g, 7, none⟩ = some (.int .i64 i) := (HQ.out.ext hb1).cell 7
  have hc0 : w1.cell? ⟨g, 0, none⟩ = some (.int .i64 f.kind) := (HQ.out.ext hb1).cell 0
  have hg1 : g < w1.heap.size := (HQ.out.ext hb1).lt
  go_wp2_with fail
  refine (d2.out _ E1).mono ?_
  clear hc7 hc0
  rintro e w2 ⟨rfl, hb2⟩
  have V2 := (Blk.new w1 25 #[.int .i64 2, .bool n1, .int .u64 m1, .int .i64 e1]).ext hb2
  have q2 := (q1.ext hb2).alloc (.cells #[.int .i64 2, .bool n2, .int .u64 m2, .int .i64 e2] 25)
  have l2 := V2.lt
  have cV := V2.cell
  have x2 : Ext w (w2.alloc (.cells #[.int .i64 2, .bool n2, .int .u64 m2, .int .i64 e2] 25)) := ((hb1.alloc _).trans hb2).alloc _
  go_wp2_with fail
  refine (c55.out _ ⟨v0, q2, HN.out.ext x2⟩).mono ?_
  rintro e w3 ⟨rfl, hb3⟩
  have q3 := q2.ext hb3
  have x3 := x2.trans hb3
  have V3 := (V2.alloc _).ext hb3
  have U3 := (Blk.new w2 25 #[.int .i64 2, .bool n2, .int .u64 m2, .int .i64 e2]).ext hb3
  have l3 := V3.lt
  have m3 := U3.lt
  clear cV
  have cV := V3.cell
  have cU := U3.cell
  go_wp2_with fail
  refine (c139.out _ q3).mono ?_
  rintro e w4 ⟨v4, rfl, n4, hb4⟩
  have q4 := q3.ext hb4
  go_wp2_with fail
  refine (c138.out _ _ ⟨v0, q4, HN.out.ext (x3.trans hb4)⟩ n4).mono ?_
  rintro e w5 ⟨rfl, hq5, hg5⟩
  go_wp2_with fail
  go_ret
  exact ⟨rfl, hq5, grown_trans ((x3.trans hb4).grown _) hg5⟩

end Go.Proofs.YtogdiobbjlpmoaaDoor

namespace Go.Proofs.YtogdiobbjlpmoaaDoor
open Go Go.RowKit Cal

theorem pleft_run {n key : Nat} (h : n - 1 ≤ prun n key) : pleft n key = 0 := by unfold pleft; omega
theorem pexp_run {n key : Nat} (h : n - 1 ≤ prun n key) : pexp n key = 0 := by
  have h0 := pleft_run h
  have hr : prest n key = 0 := by unfold prest; rw [h0]; simp [Nat.mod_one]
  unfold pexp
  rw [hr]
  simp
theorem pexp_lt4 (n key : Nat) : pexp n key ≤ 3 := by
  have hr : prest n key < 2 ^ pleft n key := Nat.mod_lt _ (two_pos _)
  unfold pexp
  unfold pbits
  generalize prest n key = r at *
  generalize pleft n key = L at *
  by_cases h : 2 ≤ L
  · rw [show 2 - L = 0 from by omega, Nat.pow_zero, Nat.mul_one]
    have : r / 2 ^ (L - 2) < 4 := by
      rw [Nat.div_lt_iff_lt_mul (two_pos _), show (4 : Nat) = 2 ^ 2 from rfl, ← Nat.pow_add, show 2 + (L - 2) = L from by omega]
      exact hr
    omega
  · have : L = 0 ∨ L = 1 := by omega
    rcases this with rfl | rfl
    · simp at hr ⊢
      omega
    · simp at hr ⊢
      omega
/-- A posit's magnitude is below what its width lets be. -/
theorem pval_bound (n key : Nat) (hn0 : 2 ≤ n) (hn : n ≤ 64) : ∃ t : Nat, (pval n key).1 < 2 ^ t ∧ (t : Int) + (pval n key).2 ≤ 4 * ((n : Int) - 1) + 1 ∧ 0 < (pval n key).1 ∧ (pval n key).1 < 2 ^ 64 := by
  have hf : pfrac n key < 2 ^ pbits n key := Nat.mod_lt _ (two_pos _)
  have hm1 : 2 ^ pbits n key + pfrac n key < 2 ^ (pbits n key + 1) := by rw [Nat.pow_succ]; omega
  have hm0 : 0 < 2 ^ pbits n key + pfrac n key := by have := two_pos (pbits n key); omega
  have hb : pbits n key ≤ 62 := by unfold pbits pleft; omega
  have hm64 : 2 ^ pbits n key + pfrac n key < 2 ^ 64 := Nat.lt_of_lt_of_le hm1 (Nat.pow_le_pow_right (by decide) (by omega))
  have hscale : 4 * preg n key + (pexp n key : Int) ≤ 4 * ((n : Int) - 1) := by
    have hr := prun_le n key
    have hg : preg n key ≤ (prun n key : Int) - 1 ∨ preg n key ≤ 0 := by unfold preg; split <;> omega
    by_cases h : n - 1 ≤ prun n key
    · rw [pexp_run h]
      omega
    · have := pexp_lt4 n key
      omega
  unfold pval
  generalize 2 ^ pbits n key + pfrac n key = m at *
  generalize pbits n key = pb at *
  generalize 4 * preg n key + (pexp n key : Int) = sc at *
  obtain ⟨o, k, rfl, ho, hk, _⟩ := odd_parts m hm0 hm64
  rw [odd_mul o k _ ho hm64]
  have ho0 : 0 < o := by omega
  have hkb : k < pb + 1 := by
    have h1 : 1 * 2 ^ k ≤ o * 2 ^ k := Nat.mul_le_mul_right _ ho0
    exact (Nat.pow_lt_pow_iff_right (by decide : 1 < 2)).1 (by omega : 2 ^ k < 2 ^ (pb + 1))
  refine ⟨pb + 1 - k, ?_, by show ((pb + 1 - k : Nat) : Int) + (sc - pb + k) ≤ _; omega, ho0, ?_⟩
  · have e : 2 ^ (pb + 1) = 2 ^ (pb + 1 - k) * 2 ^ k := by rw [← Nat.pow_add]; congr 1; omega
    rw [e] at hm1
    exact Nat.lt_of_mul_lt_mul_right hm1
  · exact Nat.lt_of_le_of_lt (Nat.le_mul_of_pos_right _ (two_pos k)) hm64
/-- The product of two, in a quire's lowest bits. -/
theorem prod_lt (W a b : Nat) (s : Nat) (d e : Int) (t u : Nat) (hW : 8 ≤ W) (ha : a < 2 ^ t) (hb : b < 2 ^ u) (ha64 : a < 2 ^ 64) (hb64 : b < 2 ^ 64) (hd : (t : Int) + d ≤ 4 * ((W : Int) - 2) + 1) (he : (u : Int) + e ≤ 4 * ((W : Int) - 2) + 1)
    (hs : (s : Int) = max (d + e - (16 - 8 * (W : Int))) 0) : a * b * 2 ^ s < 2 ^ (16 * W) := by
  by_cases h0 : d + e - (16 - 8 * (W : Int)) ≤ 0
  · obtain rfl : s = 0 := by omega
    rw [Nat.pow_zero, Nat.mul_one]
    have h1 : a * b < 2 ^ 64 * 2 ^ 64 := Nat.mul_lt_mul'' ha64 hb64
    refine Nat.lt_of_lt_of_le h1 ?_
    rw [← Nat.pow_add]
    exact Nat.pow_le_pow_right (by decide) (by omega)
  · have h1 : a * b < 2 ^ t * 2 ^ u := Nat.mul_lt_mul'' ha hb
    have h2 : a * b * 2 ^ s < 2 ^ t * 2 ^ u * 2 ^ s := Nat.mul_lt_mul_of_pos_right h1 (two_pos s)
    refine Nat.lt_of_lt_of_le h2 ?_
    rw [← Nat.pow_add, ← Nat.pow_add]
    exact Nat.pow_le_pow_right (by decide) (by omega)
end Go.Proofs.YtogdiobbjlpmoaaDoor

namespace Go.Proofs.YtogdiobbjlpmoaaDoor
open Go Go.RowKit Cal

/-- What Add (or Sub) makes of the bits, and its error. -/
def qdoes (f : Frm) (i : Int) (B p q : Nat) (less : Bool) : Nat :=
  if fitsE i p ≠ 0 ∨ fitsE i q ≠ 0 then B else if B = narB f then B else if (means i p).cls = 4 ∨ (means i q).cls = 4 then narB f
  else if (means i p).cls = 2 ∧ (means i q).cls = 2 then qsum (topB f) B (qprod f (means i p) (means i q) less) else B
def qerr (i : Int) (p q : Nat) : Int := if fitsE i p ≠ 0 ∨ fitsE i q ≠ 0 then 1 else 0

theorem posit_frm (n : Nat) (h1 : 1 ≤ n) (h2 : n ≤ 4) : (frm n).kind = 1 ∧ 8 ≤ (frm n).width ∧ (frm n).width ≤ 64 ∧ (frm n).width = 4 * 2 ^ n := by
  have : n = 1 ∨ n = 2 ∨ n = 3 ∨ n = 4 := by omega
  rcases this with rfl | rfl | rfl | rfl <;> decide

/-- What a pattern of a posit that is a number but nought means. -/
structure PosV (f : Frm) (v : Val) : Prop where
  pos : 0 < v.m
  lt : v.m < 18446744073709551616
  elo : -20000 ≤ v.e
  ehi : v.e ≤ 20000
  bound : ∃ t : Nat, v.m < 2 ^ t ∧ (t : Int) + v.e ≤ 4 * ((f.width : Int) - 2) + 1
theorem pos_means (n p : Nat) (h1 : 1 ≤ n) (h2 : n ≤ 4) (hf : fitsE n p = 0) (hc : (means n p).cls = 2) : PosV (frm n) (means n p) := by
  obtain ⟨n', hn', h1', h2', hp⟩ := fits_zero n p hf
  obtain rfl : n = n' := by omega
  obtain ⟨hk, hw8, hw64, _⟩ := posit_frm n h1 h2
  have hm : means n p = decodeF (frm n) p := by unfold means; rw [if_pos hf]; simp
  have hcls := means_cls hf
  simp only [Int.toNat_natCast] at hcls
  rw [hcls] at hc
  have hd : decodeF (frm n) p = ⟨2, negP (frm n) p, (number (frm n) 0 (keyP (frm n) p)).1, (number (frm n) 0 (keyP (frm n) p)).2⟩ := by unfold decodeF; rw [if_pos hc]
  rw [hm, hd]
  have hlast := key_last n p h1' h2' hp (.inl hc)
  have hk0 := key_pos _ _ hc (by omega)
  have hok := numOk_0 n (keyP (frm n) p) h1' h2' hlast (fun _ => hk0)
  have hklt := key_lt (frm n) p hw64 hp
  obtain ⟨b1, b2, b3⟩ := num_bounds (frm n) 0 _ hok hklt
  have hpv := number_1 (frm n) 0 (keyP (frm n) p) hk
  rw [Nat.add_zero] at hpv
  obtain ⟨t, ht, hte, hp0, _⟩ := pval_bound ((frm n).width - 1) (keyP (frm n) p) (by omega) (by omega)
  rw [← hpv] at ht hte hp0
  exact ⟨hp0, b1, b2, b3, t, ht, by show (t : Int) + (number (frm n) 0 (keyP (frm n) p)).2 ≤ _; omega⟩
theorem pos_prod (f : Frm) (h8 : 8 ≤ f.width) (h64 : f.width ≤ 64) (v u : Val) (hv : PosV f v) (hu : PosV f u) : v.m * u.m * 2 ^ qshift f.width v.e u.e < topB f := by
  obtain ⟨t, ht, hte⟩ := hv.bound
  obtain ⟨s, hs, hse⟩ := hu.bound
  have h1 := hv.elo
  have h2 := hv.ehi
  have h3 := hu.elo
  have h4 := hu.ehi
  refine prod_lt f.width v.m u.m (qshift f.width v.e u.e) v.e u.e t s h8 ht hs hv.lt hu.lt hte hse ?_
  unfold qshift
  omega
theorem qprod_lt (f : Frm) (h8 : 8 ≤ f.width) (h64 : f.width ≤ 64) (v u : Val) (less : Bool) (hv : PosV f v) (hu : PosV f u) : qprod f v u less < topB f := by
  have h := pos_prod f h8 h64 v u hv hu
  unfold qprod
  split
  · exact qturn_lt h
  · exact h

theorem q_does (g n p q : Nat) (less : Bool) (B : Nat) (h1 : 1 ≤ n) (h2 : n ≤ 4) (hp : p < 18446744073709551616) (hq : q < 18446744073709551616) (hB : B < topB (frm n)) (w : World) (hE : Env w) (h : QAt w g (frm n) n B) :
    Calls Tryd.prog 108 #[.pointer (some ⟨g, 0, none⟩), .int .u64 p, .int .u64 q, .bool less] w fun e w' => e = .returned (.int .i64 (qerr n p q)) ∧ QAt w' g (frm n) n (qdoes (frm n) n B p q less) ∧ w.grownBy w' (some g) := by
  obtain ⟨hk, hw8, hw64, _⟩ := posit_frm n h1 h2
  have d1 : Dec n p (means n p).cls (means n p).neg (means n p).m (means n p).e (fitsE n p) := fun W hE => decode_any n p hp W hE
  have d2 : Dec n q (means n q).cls (means n q).neg (means n q).m (means n q).e (fitsE n q) := fun W hE => decode_any n q hq W hE
  by_cases e1 : fitsE n p = 0
  · by_cases e2 : fitsE n q = 0
    · have hr : qerr n p q = 0 := by unfold qerr; rw [if_neg (by simp [e1, e2])]
      rw [hr]
      unfold qdoes
      rw [if_neg (by simp [e1, e2])]
      by_cases hn : B = narB (frm n)
      · rw [if_pos hn]
        exact q_does_c g _ n p q less B _ _ _ _ _ _ _ _ _ _ hw64 (by omega) (Lib.hid d1) (Lib.hid d2) hB e1 e2 hn w hE h
      · rw [if_neg hn]
        by_cases k1 : (means n p).cls = 4
        · rw [if_pos (.inl k1)]
          rw [k1] at d1
          exact q_does_d g _ n p q less B _ _ _ _ _ _ _ _ _ hw64 (by omega) (Lib.hid d1) (Lib.hid d2) hB e1 e2 hn w hE h
        · by_cases k2 : (means n q).cls = 4
          · rw [if_pos (.inr k2)]
            rw [k2] at d2
            exact q_does_e g _ n p q less B _ _ _ _ _ _ _ _ _ hw64 (by omega) (Lib.hid d1) (Lib.hid d2) hB e1 e2 hn k1 w hE h
          · rw [if_neg (fun h => h.elim k1 k2)]
            by_cases k3 : (means n p).cls = 2
            · by_cases k4 : (means n q).cls = 2
              · rw [if_pos ⟨k3, k4⟩]
                have P1 := pos_means n p h1 h2 e1 k3
                have P2 := pos_means n q h1 h2 e2 k4
                have hP := pos_prod (frm n) hw8 hw64 _ _ P1 P2
                have hR := qprod_lt (frm n) hw8 hw64 _ _ less P1 P2
                generalize means n p = v at *
                generalize means n q = u at *
                obtain ⟨vc, vn, vm, ve⟩ := v
                obtain ⟨uc, un, um, ue⟩ := u
                simp only at k3 k4 d1 d2 hP
                subst k3 k4
                exact q_does_h g _ n p q less B _ _ _ _ _ _ _ _ hw64 (by omega) (Lib.hid d1) (Lib.hid d2) hB e1 e2 hn P1.pos P2.pos P1.lt P2.lt ⟨P1.elo, P1.ehi⟩ ⟨P2.elo, P2.ehi⟩ hP hR w hE h
              · rw [if_neg (fun h => k4 h.2)]
                rw [k3] at d1
                exact q_does_g g _ n p q less B _ _ _ _ _ _ _ _ _ hw64 (by omega) (Lib.hid d1) (Lib.hid d2) hB e1 e2 hn k2 k4 w hE h
            · rw [if_neg (fun h => k3 h.1)]
              exact q_does_f g _ n p q less B _ _ _ _ _ _ _ _ _ _ hw64 (by omega) (Lib.hid d1) (Lib.hid d2) hB e1 e2 hn k1 k2 k3 w hE h
    · have hr : qerr n p q = 1 := by unfold qerr; rw [if_pos (.inr e2)]
      rw [hr]
      unfold qdoes
      rw [if_pos (.inr e2)]
      exact q_does_b g _ n p q less B _ _ _ _ _ _ _ _ _ _ hw64 (by omega) (Lib.hid d1) (Lib.hid d2) hB e1 e2 w hE h
  · have hr : qerr n p q = 1 := by unfold qerr; rw [if_pos (.inl e1)]
    rw [hr]
    unfold qdoes
    rw [if_pos (.inl e1)]
    exact q_does_a g _ n p q less B _ _ _ _ _ _ _ _ _ _ hw64 (by omega) (Lib.hid d1) (Lib.hid d2) hB e1 w hE h

theorem qdoes_lt (n p q : Nat) (less : Bool) (B : Nat) (h1 : 1 ≤ n) (h2 : n ≤ 4) (hB : B < topB (frm n)) : qdoes (frm n) n B p q less < topB (frm n) := by
  obtain ⟨hk, hw8, hw64, _⟩ := posit_frm n h1 h2
  have ht := topB_half (frm n) (by omega)
  have hn := narB_pos (frm n)
  unfold qdoes
  split
  · exact hB
  · rename_i e
    split
    · exact hB
    · split
      · omega
      · split
        · rename_i k
          have e1 : fitsE n p = 0 := by
            by_cases h : fitsE n p = 0
            · exact h
            · exact absurd (.inl h) e
          have e2 : fitsE n q = 0 := by
            by_cases h : fitsE n q = 0
            · exact h
            · exact absurd (.inr h) e
          exact qsum_lt hB (qprod_lt (frm n) hw8 hw64 _ _ less (pos_means n p h1 h2 e1 k.1) (pos_means n q h1 h2 e2 k.2))
        · exact hB

set_option maxRecDepth 100000 in
theorem q_add (g n p q : Nat) (B : Nat) (h1 : 1 ≤ n) (h2 : n ≤ 4) (hp : p < 18446744073709551616) (hq : q < 18446744073709551616) (hB : B < topB (frm n)) (w : World) (hE : Env w) (h : QAt w g (frm n) n B) :
    Calls Tryd.prog 54 #[.pointer (some ⟨g, 0, none⟩), .int .u64 p, .int .u64 q] w fun e w' => e = .returned (.int .i64 (qerr n p q)) ∧ QAt w' g (frm n) n (qdoes (frm n) n B p q false) ∧ w.grownBy w' (some g) := by
  have c := Lib.hid (q_does g n p q false B h1 h2 hp hq hB w hE h)
  generalize qdoes (frm n) n B p q false = R at *
  generalize qerr n p q = E at *
  clear h hB
  go_enter Tryd.func54, Tryd.ntmps54
  go_wp2_with fail
  refine c.out.mono ?_
  rintro e w1 ⟨rfl, h1, hg⟩
  go_wp2_with fail
  go_ret
  exact ⟨rfl, h1, hg⟩
set_option maxRecDepth 100000 in
theorem q_sub (g n p q : Nat) (B : Nat) (h1 : 1 ≤ n) (h2 : n ≤ 4) (hp : p < 18446744073709551616) (hq : q < 18446744073709551616) (hB : B < topB (frm n)) (w : World) (hE : Env w) (h : QAt w g (frm n) n B) :
    Calls Tryd.prog 59 #[.pointer (some ⟨g, 0, none⟩), .int .u64 p, .int .u64 q] w fun e w' => e = .returned (.int .i64 (qerr n p q)) ∧ QAt w' g (frm n) n (qdoes (frm n) n B p q true) ∧ w.grownBy w' (some g) := by
  have c := Lib.hid (q_does g n p q true B h1 h2 hp hq hB w hE h)
  generalize qdoes (frm n) n B p q true = R at *
  generalize qerr n p q = E at *
  clear h hB
  go_enter Tryd.func59, Tryd.ntmps59
  go_wp2_with fail
  refine c.out.mono ?_
  rintro e w1 ⟨rfl, h1, hg⟩
  go_wp2_with fail
  go_ret
  exact ⟨rfl, h1, hg⟩

set_option maxRecDepth 100000 in
set_option maxHeartbeats 800000 in
/-- quire.New of a form of posits. -/
theorem q_new (n : Nat) (h1 : 1 ≤ n) (h2 : n ≤ 4) (w : World) (hE : Env w) :
    Calls Tryd.prog 53 #[.int .i64 n] w fun e w' => ∃ g, e = .returned (.tuple #[.pointer (some ⟨g, 0, none⟩), .int .i64 0]) ∧ QAt w' g (frm n) n 0 ∧ Ext w w' ∧ w.heap.size ≤ g := by
  have c39 := Lib.hid (fun W h => formsOf_yes n W h h1 (by omega))
  have hk := (posit_frm n h1 h2).1
  generalize frm n = f at *
  have k1 : ((f.kind : Int) != 1) = false := nfalse (b := 1) hk
  clear hk
  go_enter Tryd.func53, Tryd.ntmps53
  go_wp2_with fail
  refine (c39.out _ hE).mono ?_
  rintro e w1 ⟨rfl, hb1⟩
  go_wp2_with fail
  go_ret2
  have hx := (hb1.alloc (.cells #[.int .i64 (f).kind, .int .i64 (f).width, .int .i64 (f).man, .int .i64 (f).bias, .int .u64 (f).top, .int .u64 (f).inf, .int .u64 (f).nan] 40)).alloc (.cells #[.int .i64 (f).kind, .int .i64 (f).width, .int .i64 (f).man, .int .i64 (f).bias, .int .u64 (f).top, .int .u64 (f).inf, .int .u64 (f).nan, .int .i64 (n : Int), .slice none 0 0] 137)
  refine ⟨w1.heap.size + 1, by simp, ⟨.slice none 0 0, ?_, ?_⟩, hx, by have := hb1.size; omega⟩
  · have := Blk.new (w1.alloc (.cells #[.int .i64 (f).kind, .int .i64 (f).width, .int .i64 (f).man, .int .i64 (f).bias, .int .u64 (f).top, .int .u64 (f).inf, .int .u64 (f).nan] 40)) 137 #[.int .i64 (f).kind, .int .i64 (f).width, .int .i64 (f).man, .int .i64 (f).bias, .int .u64 (f).top, .int .u64 (f).inf, .int .u64 (f).nan, .int .i64 (n : Int), .slice none 0 0]
    rwa [show (w1.alloc (.cells #[.int .i64 (f).kind, .int .i64 (f).width, .int .i64 (f).man, .int .i64 (f).bias, .int .u64 (f).top, .int .u64 (f).inf, .int .u64 (f).nan] 40)).heap.size = w1.heap.size + 1 from by simp] at this
  · rw [wlen_zero]
    exact NatV.none_ _ _ _ (by decide)
end Go.Proofs.YtogdiobbjlpmoaaDoor

