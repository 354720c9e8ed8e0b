/- The document's Mask, Sign, Fits and parts. No condition but those written. -/
import Derived.Test.YtogdiobbjlpmoaaDoorRefOf
import Derived.Test.YtogdiobbjlpmoaaDoorPval
namespace Go.Proofs.YtogdiobbjlpmoaaDoor
open Go Go.RowKit Cal

set_option maxRecDepth 100000 in
set_option maxHeartbeats 1600000 in
/-- The document's Mask. -/
theorem rmask_any (f : Frm) (h : f.width ≤ 64) (w : World) :
    Calls Tryd.prog 86 #[.agg #[.int .i64 (f).kind, .int .i64 (f).width, .int .i64 (f).man, .int .i64 (f).bias, .int .u64 (f).top, .int .u64 (f).inf, .int .u64 (f).nan]] w fun e w' => e = .returned (.int .u64 ((2 ^ f.width - 1 : Nat) : Int)) ∧ Ext w w' := by
  have c := Lib.hid (fun W => ones_any f.width h W)
  generalize 2 ^ f.width - 1 = M at *
  go_enter Tryd.func86, Tryd.ntmps86
  go_wp2_with (go_at_call 124; (with_reducible refine (c.out _).mono ?_); rintro e w1 ⟨rfl, rfl⟩)
  go_ret
  exact ⟨rfl, by (repeat (first | (with_reducible exact Ext.refl _) | (with_reducible assumption) | (with_reducible refine Ext.drew ?_) | (with_reducible refine Ext.drewN ?_ _) | (with_reducible refine Ext.alloc ?_ _) | (with_reducible refine Ext.setCell ?_ (Nat.le_refl _) _) | (with_reducible refine Ext.setCell ?_ (by simp; try omega) _) | (with_reducible refine Ext.trans ?_ (by with_reducible assumption))))⟩

set_option maxRecDepth 100000 in
set_option maxHeartbeats 1600000 in
/-- The document's Sign. -/
theorem rsign_any (f : Frm) (h : f.width ≤ 64) (h2 : 1 ≤ f.width) (w : World) :
    Calls Tryd.prog 85 #[.agg #[.int .i64 (f).kind, .int .i64 (f).width, .int .i64 (f).man, .int .i64 (f).bias, .int .u64 (f).top, .int .u64 (f).inf, .int .u64 (f).nan]] w fun e w' => e = .returned (.int .u64 ((signB f : Nat) : Int)) ∧ Ext w w' := by
  by_cases k : f.kind = 4
  · have d : ((f.kind : Int) == 4) = true := btrue (b := 4) k
    have hs : signB f = 0 := by unfold signB; rw [if_pos k]
    rw [hs]
    clear k hs
    go_enter Tryd.func85, Tryd.ntmps85
    go_wp2_with fail
    go_ret
    exact ⟨rfl, by (repeat (first | (with_reducible exact Ext.refl _) | (with_reducible assumption) | (with_reducible refine Ext.drew ?_) | (with_reducible refine Ext.drewN ?_ _) | (with_reducible refine Ext.alloc ?_ _) | (with_reducible refine Ext.setCell ?_ (Nat.le_refl _) _) | (with_reducible refine Ext.setCell ?_ (by simp; try omega) _) | (with_reducible refine Ext.trans ?_ (by with_reducible assumption))))⟩
  · have d : ((f.kind : Int) == 4) = false := bfalse (b := 4) k
    have c := Lib.hid (fun W => ones_any f.width h W)
    have c2 := Lib.hid (fun W => ones_any (f.width - 1) (by omega) W)
    rw [show ((f.width - 1 : Nat) : Int) = (f.width : Int) - 1 from by omega] at c2
    have hs : signB f = 2 ^ (f.width - 1) := by unfold signB; rw [if_neg k]
    have hw := pow_width f.width h2
    have hp := two_pos (f.width - 1)
    have h64 := pow_le64 h
    have e1 : 2 ^ f.width - 1 = 2 ^ (f.width - 1) - 1 + signB f := by omega
    have e2 : 2 ^ f.width - 1 < 18446744073709551616 := by omega
    generalize 2 ^ f.width - 1 = A at *
    generalize 2 ^ (f.width - 1) - 1 = B at *
    generalize signB f = S at *
    clear hw hs hp h64 k
    have E := Lib.hid e1
    have hBA : B ≤ A := by omega
    clear e1
    go_enter Tryd.func85, Tryd.ntmps85
    go_wp2_with fail
    go_quiet ((go_at_call 124; first | (with_reducible exact quiet_left (c.out _)) | (with_reducible exact quiet_left (c2.out _))))
    go_wp2_with fail
    go_ret
    refine ⟨?_, by (repeat (first | (with_reducible exact Ext.refl _) | (with_reducible assumption) | (with_reducible refine Ext.drew ?_) | (with_reducible refine Ext.drewN ?_ _) | (with_reducible refine Ext.alloc ?_ _) | (with_reducible refine Ext.setCell ?_ (Nat.le_refl _) _) | (with_reducible refine Ext.setCell ?_ (by simp; try omega) _) | (with_reducible refine Ext.trans ?_ (by with_reducible assumption))))⟩
    show Ending.returned (.int .u64 ((A : Int) - (B : Int))) = _
    rw [show ((A : Int) - (B : Int)) = (S : Int) from by have := E.out; omega]

set_option maxRecDepth 100000 in
set_option maxHeartbeats 1600000 in
/-- The document's parts. -/
theorem rparts_any (f : Frm) (p : Nat) (h1 : f.width ≤ 64) (h2 : 1 ≤ f.width) (hp : p < 2 ^ f.width) (w : World) :
    Calls Tryd.prog 78 #[.agg #[.int .i64 (f).kind, .int .i64 (f).width, .int .i64 (f).man, .int .i64 (f).bias, .int .u64 (f).top, .int .u64 (f).inf, .int .u64 (f).nan], .int .u64 p] w fun e w' => e = .returned (.tuple #[.bool (negP f p), .int .u64 ((keyP f p : Nat) : Int)]) ∧ Ext w w' := by
  have h64 := pow_le64 h1
  have hpw := pow_width f.width h2
  have hp0 := two_pos (f.width - 1)
  have c85 := Lib.hid (fun W => rsign_any f h1 h2 W)
  have c86 := Lib.hid (fun W => rmask_any f h1 W)
  by_cases k4 : f.kind = 4
  · have hn : negP f p = false := by unfold negP; exact decide_eq_false (fun h => h.1 k4)
    have hk : keyP f p = p := by unfold keyP; rw [if_neg (by rw [hn]; decide)]
    have hs : signB f = 0 := by unfold signB; rw [if_pos k4]
    rw [hn, hk]
    rw [hs] at c85
    clear hn hk hs hpw hp0 hp h64 k4
    go_enter Tryd.func78, Tryd.ntmps78
    go_wp2_with (first | (go_at_call 85; refine (c85.out _).mono ?_; rintro e w1 ⟨rfl, hb1⟩; have F1 := (Blk.new w 99 _).ext hb1; have cF := F1.cell))
    go_ret2
    exact ⟨rfl, by (repeat (first | (with_reducible exact Ext.refl _) | (with_reducible assumption) | (with_reducible refine Ext.drew ?_) | (with_reducible refine Ext.drewN ?_ _) | (with_reducible refine Ext.alloc ?_ _) | (with_reducible refine Ext.setCell ?_ (Nat.le_refl _) _) | (with_reducible refine Ext.setCell ?_ (by simp; try omega) _) | (with_reducible refine Ext.trans ?_ (by with_reducible assumption))))⟩
  · have hs : signB f = 2 ^ (f.width - 1) := by unfold signB; rw [if_neg k4]
    have z : ((signB f : Int) == 0) = false := bfalse (b := 0) (by omega)
    by_cases hlt : p < signB f
    · have hn : negP f p = false := by unfold negP; exact decide_eq_false (fun h => by omega)
      have hk : keyP f p = p := by unfold keyP; rw [if_neg (by rw [hn]; decide)]
      have d : decide (p < signB f) = true := decide_eq_true hlt
      have d' : decide ((p : Int) < (signB f : Int)) = true := decide_eq_true (by omega)
      rw [hn, hk]
      generalize signB f = S at *
      clear hn hk hs hpw hp0 hp h64 k4 hlt
      go_enter Tryd.func78, Tryd.ntmps78
      go_wp2_with (first | (go_at_call 85; refine (c85.out _).mono ?_; rintro e w1 ⟨rfl, hb1⟩; have F1 := (Blk.new w 99 _).ext hb1; have cF := F1.cell))
      go_ret2
      exact ⟨rfl, by (repeat (first | (with_reducible exact Ext.refl _) | (with_reducible assumption) | (with_reducible refine Ext.drew ?_) | (with_reducible refine Ext.drewN ?_ _) | (with_reducible refine Ext.alloc ?_ _) | (with_reducible refine Ext.setCell ?_ (Nat.le_refl _) _) | (with_reducible refine Ext.setCell ?_ (by simp; try omega) _) | (with_reducible refine Ext.trans ?_ (by with_reducible assumption))))⟩
    · have hn : negP f p = true := by unfold negP; exact decide_eq_true ⟨k4, by omega⟩
      have d : decide (p < signB f) = false := decide_eq_false hlt
      have d' : decide ((p : Int) < (signB f : Int)) = false := decide_eq_false (by omega)
      rw [hn]
      by_cases k2 : f.kind = 2
      · have hk : keyP f p = p - signB f := by unfold keyP; rw [if_pos hn, if_pos k2, hs]
        have t : ((f.kind : Int) == 2) = true := btrue (b := 2) k2
        have hle : signB f ≤ p := by omega
        have hp64 : p < 18446744073709551616 := by omega
        generalize keyP f p = K at *
        generalize signB f = S at *
        have HK := Lib.hid hk
        clear hn hk hs hpw hp0 hp h64 k4 hlt k2
        go_enter Tryd.func78, Tryd.ntmps78
        go_wp2_with (first | (go_at_call 85; refine (c85.out _).mono ?_; rintro e w1 ⟨rfl, hb1⟩; have F1 := (Blk.new w 99 _).ext hb1; have cF := F1.cell))
        go_ret2
        refine ⟨?_, by (repeat (first | (with_reducible exact Ext.refl _) | (with_reducible assumption) | (with_reducible refine Ext.drew ?_) | (with_reducible refine Ext.drewN ?_ _) | (with_reducible refine Ext.alloc ?_ _) | (with_reducible refine Ext.setCell ?_ (Nat.le_refl _) _) | (with_reducible refine Ext.setCell ?_ (by simp; try omega) _) | (with_reducible refine Ext.trans ?_ (by with_reducible assumption))))⟩
        show Ending.returned (.tuple #[.bool true, .int .u64 ((p : Int) - (S : Int))]) = _
        rw [show ((p : Int) - (S : Int)) = (K : Int) from by have := HK.out; omega]
      · have hk : keyP f p = 2 ^ f.width - p := by unfold keyP; rw [if_pos hn, if_neg k2]
        have t : ((f.kind : Int) == 2) = false := bfalse (b := 2) k2
        have hM : 2 ^ f.width - 1 + 1 = keyP f p + p := by omega
        have hle : p ≤ 2 ^ f.width - 1 := by omega
        have hK : 2 ^ f.width - 1 - p + 1 < 18446744073709551616 := by omega
        have hp64 : 2 ^ f.width - 1 < 18446744073709551616 := by omega
        generalize keyP f p = K at *
        generalize 2 ^ f.width - 1 = M at *
        generalize signB f = S at *
        have HK := Lib.hid hM
        clear hn hk hs hpw hp0 hp h64 k4 hlt k2 hM
        go_enter Tryd.func78, Tryd.ntmps78
        go_wp2_with (first | (go_at_call 85; refine (c85.out _).mono ?_; rintro e w1 ⟨rfl, hb1⟩; have F1 := (Blk.new w 99 _).ext hb1; have cF := F1.cell) | (go_at_call 86; refine (c86.out _).mono ?_; rintro e w2 ⟨rfl, hb2⟩))
        go_ret2
        refine ⟨?_, by (repeat (first | (with_reducible exact Ext.refl _) | (with_reducible assumption) | (with_reducible refine Ext.drew ?_) | (with_reducible refine Ext.drewN ?_ _) | (with_reducible refine Ext.alloc ?_ _) | (with_reducible refine Ext.setCell ?_ (Nat.le_refl _) _) | (with_reducible refine Ext.setCell ?_ (by simp; try omega) _) | (with_reducible refine Ext.trans ?_ (by with_reducible assumption))))⟩
        show Ending.returned (.tuple #[.bool true, .int .u64 ((M : Int) - (p : Int) + 1)]) = _
        rw [show ((M : Int) - (p : Int) + 1) = (K : Int) from by have := HK.out; omega]

set_option maxRecDepth 100000 in
set_option maxHeartbeats 1600000 in
/-- The document's Fits. -/
theorem rfits_any (i : Int) (p : Nat) (w : World) :
    Calls Tryd.prog 76 #[.int .i64 i, .int .u64 p] w fun e w' => e = .returned (.int .i64 (fitsE i p)) ∧ Ext w w' := by
  by_cases hi : isForm i
  · obtain ⟨n, rfl, h1, h2⟩ := isForm_nat hi
    obtain ⟨w4, w64⟩ := frm_width n h1 h2
    have hf : fitsE n p = if p < 2 ^ (frm n).width then 0 else 1 := by unfold fitsE; rw [if_pos hi]; simp
    have c77 := Lib.hid (fun W => rof_yes n h1 h2 W)
    have c86 := Lib.hid (fun W => rmask_any (frm n) w64 W)
    have hp := two_pos (frm n).width
    rw [hf]
    generalize frm n = f at *
    by_cases h : p < 2 ^ f.width
    · have d : decide (2 ^ f.width - 1 < p) = false := decide_eq_false (by omega)
      have d' : decide (((2 ^ f.width - 1 : Nat) : Int) < (p : Int)) = false := decide_eq_false (by omega)
      rw [if_pos h]
      generalize 2 ^ f.width - 1 = M at *
      clear h hp hf hi
      go_enter Tryd.func76, Tryd.ntmps76
      go_wp2_with (first | (go_at_call 77; refine (c77.out _).mono ?_; rintro e w1 ⟨rfl, hb1⟩) | (go_at_call 86; refine (c86.out _).mono ?_; rintro e w2 ⟨rfl, hb2⟩))
      go_ret
      exact ⟨rfl, by (repeat (first | (with_reducible exact Ext.refl _) | (with_reducible assumption) | (with_reducible refine Ext.drew ?_) | (with_reducible refine Ext.drewN ?_ _) | (with_reducible refine Ext.alloc ?_ _) | (with_reducible refine Ext.setCell ?_ (Nat.le_refl _) _) | (with_reducible refine Ext.setCell ?_ (by simp; try omega) _) | (with_reducible refine Ext.trans ?_ (by with_reducible assumption))))⟩
    · have d : decide (2 ^ f.width - 1 < p) = true := decide_eq_true (by omega)
      have d' : decide (((2 ^ f.width - 1 : Nat) : Int) < (p : Int)) = true := decide_eq_true (by omega)
      rw [if_neg h]
      generalize 2 ^ f.width - 1 = M at *
      clear h hp hf hi
      go_enter Tryd.func76, Tryd.ntmps76
      go_wp2_with (first | (go_at_call 77; refine (c77.out _).mono ?_; rintro e w1 ⟨rfl, hb1⟩) | (go_at_call 86; refine (c86.out _).mono ?_; rintro e w2 ⟨rfl, hb2⟩))
      go_ret
      exact ⟨rfl, by (repeat (first | (with_reducible exact Ext.refl _) | (with_reducible assumption) | (with_reducible refine Ext.drew ?_) | (with_reducible refine Ext.drewN ?_ _) | (with_reducible refine Ext.alloc ?_ _) | (with_reducible refine Ext.setCell ?_ (Nat.le_refl _) _) | (with_reducible refine Ext.setCell ?_ (by simp; try omega) _) | (with_reducible refine Ext.trans ?_ (by with_reducible assumption))))⟩
  · have hf : fitsE i p = 3 := by unfold fitsE; rw [if_neg hi]
    have c77 := Lib.hid (fun W => rof_no i hi W)
    rw [hf]
    generalize frm 0 = f at *
    clear hf hi
    go_enter Tryd.func76, Tryd.ntmps76
    go_wp2_with (first | (go_at_call 77; refine (c77.out _).mono ?_; rintro e w1 ⟨rfl, hb1⟩))
    go_ret
    exact ⟨rfl, by (repeat (first | (with_reducible exact Ext.refl _) | (with_reducible assumption) | (with_reducible refine Ext.drew ?_) | (with_reducible refine Ext.drewN ?_ _) | (with_reducible refine Ext.alloc ?_ _) | (with_reducible refine Ext.setCell ?_ (Nat.le_refl _) _) | (with_reducible refine Ext.setCell ?_ (by simp; try omega) _) | (with_reducible refine Ext.trans ?_ (by with_reducible assumption))))⟩
end Go.Proofs.YtogdiobbjlpmoaaDoor

