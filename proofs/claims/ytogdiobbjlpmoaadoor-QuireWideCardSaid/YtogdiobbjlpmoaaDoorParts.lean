/- What a shape's parts and class answer of a pattern that fits. No condition but those written. -/
import Derived.Test.YtogdiobbjlpmoaaDoorOf
namespace Go.Proofs.YtogdiobbjlpmoaaDoor
open Go Go.RowKit Cal

theorem sign_all (f : Frm) (w : World) (h1 : f.width ≤ 64) (h2 : 1 ≤ f.width) :
    Calls Tryd.prog 41 #[.agg #[.int .i64 (f).kind, .int .i64 (f).width, .int .i64 (f).man, .int .i64 (f).bias, .int .u64 (f).top, .int .u64 (f).inf, .int .u64 (f).nan]] w fun e w' => e = .returned (.int .u64 ((signB f : Nat) : Int)) ∧ Ext w w' := by
  by_cases h : f.kind = 4
  · exact sign_scale f w h
  · exact sign_any f w h h1 h2

theorem pow_width (k : Nat) (h : 1 ≤ k) : 2 ^ k = 2 * 2 ^ (k - 1) := by rw [← Nat.pow_succ']; congr 1; omega

theorem and_sign (f : Frm) (p : Nat) (h1 : f.width ≤ 64) (h2 : 1 ≤ f.width) (hp : p < 2 ^ f.width) :
    bits BinOp.and IntKind.u64 (p : Int) ((signB f : Nat) : Int) = ((if negP f p = true then 2 ^ (f.width - 1) else 0 : Nat) : Int) := by
  unfold signB negP
  have h64 := pow_le64 h1
  by_cases h : f.kind = 4
  · rw [if_pos h]
    simp only [h, ne_eq, not_true, false_and, decide_false, Bool.false_eq_true, if_false]
    rw [bits_and_u64_nat p 0 (by omega) (by omega), Nat.and_zero]
  · rw [if_neg h, u_and_bit p (f.width - 1) (by omega) (by rw [show f.width - 1 + 1 = f.width from by omega]; exact hp)]
    by_cases h3 : 2 ^ (f.width - 1) ≤ p <;> simp [h, h3]

set_option maxHeartbeats 800000 in
/-- shape.parts. -/
theorem parts_any (f : Frm) (p : Nat) (g : Value) (h1 : f.width ≤ 64) (h2 : 1 ≤ f.width) (hp : p < 2 ^ f.width) (w : World) :
    Calls Tryd.prog 74 #[.agg #[.int .i64 (f).kind, .int .i64 (f).width, .int .i64 (f).man, .int .i64 (f).bias, .int .u64 (f).top, .int .u64 (f).inf, .int .u64 (f).nan, g], .int .u64 p] w fun e w' => e = .returned (.tuple #[.bool (negP f p), .int .u64 ((keyP f p : Nat) : Int)]) ∧ Ext w w' := by
  have h64 := pow_le64 h1
  have hs := and_sign f p h1 h2 hp
  have hpw := pow_width f.width h2
  have hp0 := two_pos (f.width - 1)
  have c41 := Lib.hid (fun W => sign_all f W h1 h2)
  have c40 := Lib.hid (fun W => mask_any f W h1)
  cases hn : negP f p with
  | false =>
    rw [hn] at hs
    have hk : keyP f p = p := by unfold keyP; rw [if_neg (by rw [hn]; decide)]
    rw [hk]
    have ht : (bits BinOp.and IntKind.u64 (p : Int) ((signB f : Nat) : Int) == 0) = true := by rw [hs]; rfl
    clear hs hn hk hpw
    go_enter Tryd.func74, Tryd.ntmps74
    go_wp2_with (first | (go_at_call 41; refine (c41.out _).mono ?_; rintro e w1 ⟨rfl, hb1⟩))
    go_ret2
    exact ⟨rfl, by (repeat (first | (with_reducible exact Ext.refl _) | (with_reducible assumption) | (with_reducible refine Ext.drew ?_) | (with_reducible refine Ext.drewN ?_ _) | (with_reducible refine Ext.alloc ?_ _) | (with_reducible refine Ext.setCell ?_ (Nat.le_refl _) _) | (with_reducible refine Ext.setCell ?_ (by simp; try omega) _) | (with_reducible refine Ext.trans ?_ (by with_reducible assumption))))⟩
  | true =>
    rw [hn] at hs
    have hsg : signB f = 2 ^ (f.width - 1) ∧ f.kind ≠ 4 ∧ 2 ^ (f.width - 1) ≤ p := by
      unfold negP at hn
      have := of_decide_eq_true hn
      unfold signB
      rw [if_neg this.1]
      exact ⟨rfl, this⟩
    have ht : (bits BinOp.and IntKind.u64 (p : Int) ((signB f : Nat) : Int) == 0) = false := by
      rw [hs, if_pos rfl, beq_eq_false_iff_ne]
      omega
    by_cases hk2 : f.kind = 2
    · have hk : keyP f p = p - 2 ^ (f.width - 1) := by unfold keyP; rw [if_pos hn, if_pos hk2]
      have hb : bits BinOp.andNot IntKind.u64 (p : Int) ((signB f : Nat) : Int) = ((p - 2 ^ (f.width - 1) : Nat) : Int) := by
        rw [hsg.1, u_andNot_bit p (f.width - 1) (by omega) (by rw [show f.width - 1 + 1 = f.width from by omega]; exact hp)]
        congr 1
        rw [Nat.mod_eq_sub_mod hsg.2.2, Nat.mod_eq_of_lt (by omega)]
      have hkk : ((f.kind : Int) == 2) = true := by rw [hk2]; rfl
      rw [hk]
      generalize p - 2 ^ (f.width - 1) = r at *
      clear hs hn hk hk2 hsg hpw
      go_enter Tryd.func74, Tryd.ntmps74
      go_wp2_with (first | (go_at_call 41; refine (c41.out _).mono ?_; rintro e w1 ⟨rfl, hb1⟩; have hs1 := hb1.size; obtain ⟨hc1, hf1⟩ := ecell hb1))
      go_ret2
      exact ⟨rfl, by (repeat (first | (with_reducible exact Ext.refl _) | (with_reducible assumption) | (with_reducible refine Ext.drew ?_) | (with_reducible refine Ext.drewN ?_ _) | (with_reducible refine Ext.alloc ?_ _) | (with_reducible refine Ext.setCell ?_ (Nat.le_refl _) _) | (with_reducible refine Ext.setCell ?_ (by simp; try omega) _) | (with_reducible refine Ext.trans ?_ (by with_reducible assumption))))⟩
    · have hk : keyP f p = 2 ^ f.width - p := by unfold keyP; rw [if_pos hn, if_neg hk2]
      have hb : bits BinOp.and IntKind.u64 (IntKind.u64.wrap (-(p : Int))) ((2 ^ f.width - 1 : Nat) : Int) = ((2 ^ f.width - p : Nat) : Int) := u_neg_mask p f.width (by omega) (by omega) h1
      have hkk : ((f.kind : Int) == 2) = false := by rw [beq_eq_false_iff_ne]; omega
      rw [hk]
      generalize 2 ^ f.width - p = r at *
      clear hs hn hk hk2 hsg hpw
      go_enter Tryd.func74, Tryd.ntmps74
      go_wp2_with (first | (go_at_call 41; refine (c41.out _).mono ?_; rintro e w1 ⟨rfl, hb1⟩; have hs1 := hb1.size; obtain ⟨hc1, hf1⟩ := ecell hb1) | (go_at_call 40; refine (c40.out _).mono ?_; rintro e w2 ⟨rfl, hb2⟩))
      go_ret2
      exact ⟨rfl, by (repeat (first | (with_reducible exact Ext.refl _) | (with_reducible assumption) | (with_reducible refine Ext.drew ?_) | (with_reducible refine Ext.drewN ?_ _) | (with_reducible refine Ext.alloc ?_ _) | (with_reducible refine Ext.setCell ?_ (Nat.le_refl _) _) | (with_reducible refine Ext.setCell ?_ (by simp; try omega) _) | (with_reducible refine Ext.trans ?_ (by with_reducible assumption))))⟩
end Go.Proofs.YtogdiobbjlpmoaaDoor

