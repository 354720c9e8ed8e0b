/- What the document's Pattern answers. No condition but that written. -/
import Derived.Test.YtogdiobbjlpmoaaDoorRefMost
namespace Go.Proofs.YtogdiobbjlpmoaaDoor
open Go Go.RowKit Cal

theorem last_lt_pow (n : Nat) (h1 : 1 ≤ n) (h2 : n ≤ 14) : lastKey (frm n) < 2 ^ (frm n).width := by
  have : n = 1 ∨ n = 2 ∨ n = 3 ∨ n = 4 ∨ n = 5 ∨ n = 6 ∨ n = 7 ∨ n = 8 ∨ n = 9 ∨ n = 10 ∨ n = 11 ∨ n = 12 ∨ n = 13 ∨ n = 14 := by omega
  rcases this with rfl | rfl | rfl | rfl | rfl | rfl | rfl | rfl | rfl | rfl | rfl | rfl | rfl | rfl <;> decide

set_option maxRecDepth 100000 in
set_option maxHeartbeats 1600000 in
theorem rpattern_any (i : Int) (neg : Bool) (key : Nat) (_hkey : key < 18446744073709551616) (w : World) :
    Calls Tryd.prog 38 #[.int .i64 i, .bool neg, .int .u64 key] w fun e w' => e = .returned (.tuple #[.int .u64 ((patV i neg key).1 : Nat), .int .i64 (patV i neg key).2]) ∧ Ext w w' := by
  have c35 := Lib.hid (fun W => rmost_any i neg W)
  by_cases he : (mostV i neg).2 = 0
  · have hi : isForm i := by
      by_cases h : isForm i
      · exact h
      · unfold mostV at he
        rw [if_pos h] at he
        simp at he
    obtain ⟨n, rfl, h1, h2⟩ := isForm_nat hi
    obtain ⟨hmo, hm4, hm2⟩ := most_ok n neg h1 h2 he
    obtain ⟨t63, _, _, tw⟩ := lastKey_lt n h1 h2
    obtain ⟨w4, w64⟩ := frm_width n h1 h2
    have hst := sign_top n h1 h2
    have hlp := last_lt_pow n h1 h2
    rw [he] at c35
    have c73 := Lib.hid (fun W => rof_yes n h1 h2 W)
    by_cases hlt : (mostV n neg).1 < key
    · have hr : patV n neg key = (0, 4) := by unfold patV; rw [if_neg (by omega), if_pos hlt]
      rw [hr]
      have d1 : decide (((mostV n neg).1 : Int) < (key : Int)) = true := decide_eq_true (by omega)
      generalize (mostV n neg).1 = mo at *
      clear hr he hi hst hm2 hm4
      go_enter Tryd.func38, Tryd.ntmps38
      go_wp2_with (first | (go_at_call 36; refine (c35.out _).mono ?_; rintro e w1 ⟨rfl, hb1⟩))
      go_ret2
      exact ⟨rfl, by (repeat (first | (with_reducible exact Ext.refl _) | (with_reducible assumption) | (with_reducible refine Ext.drew ?_) | (with_reducible refine Ext.drewN ?_ _) | (with_reducible refine Ext.alloc ?_ _) | (with_reducible refine Ext.setCell ?_ (Nat.le_refl _) _) | (with_reducible refine Ext.setCell ?_ (by simp; try omega) _) | (with_reducible refine Ext.trans ?_ (by with_reducible assumption))))⟩
    · have hr : patV n neg key = (patF (frm n) neg key, 0) := by unfold patV; rw [if_neg (by omega), if_neg hlt]; simp
      rw [hr]
      have d1 : decide (((mostV n neg).1 : Int) < (key : Int)) = false := decide_eq_false (by omega)
      generalize (mostV n neg).1 = mo at *
      generalize frm n = f at *
      have c41 := Lib.hid (fun W => rsign_any f w64 (by omega) W)
      have c40 := Lib.hid (fun W => rmask_any f w64 W)
      cases neg with
      | false =>
        have hp : patF f false key = key := by unfold patF; rw [if_pos rfl]
        rw [hp]
        clear hr he hi hst hm2 hm4 hp
        go_enter Tryd.func38, Tryd.ntmps38
        go_wp2_with (first | (go_at_call 36; refine (c35.out _).mono ?_; rintro e w1 ⟨rfl, hb1⟩) | (go_at_call 77; refine (c73.out _).mono ?_; rintro e w2 ⟨rfl, hb2⟩))
        go_ret2
        exact ⟨rfl, by (repeat (first | (with_reducible exact Ext.refl _) | (with_reducible assumption) | (with_reducible refine Ext.drew ?_) | (with_reducible refine Ext.drewN ?_ _) | (with_reducible refine Ext.alloc ?_ _) | (with_reducible refine Ext.setCell ?_ (Nat.le_refl _) _) | (with_reducible refine Ext.setCell ?_ (by simp; try omega) _) | (with_reducible refine Ext.trans ?_ (by with_reducible assumption))))⟩
      | true =>
        have hk4 := hm4 rfl
        by_cases k2 : f.kind = 2
        · have hsg : signB f = 2 ^ (f.width - 1) := by unfold signB; rw [if_neg hk4]
          have hlt2 : key < 2 ^ (f.width - 1) := by have := hm2 k2; have := hst k2; omega
          have hp : patF f true key = key + 2 ^ (f.width - 1) := by unfold patF; rw [if_neg (by decide), if_pos k2]
          have hsum : key + signB f < 18446744073709551616 := by have := pow_lt64 (k := f.width - 1) (by omega); have := pow_width f.width (by omega); have := pow_le64 w64; omega
          rw [← hsg] at hp
          rw [hp]
          have d2 : ((f.kind : Int) == 2) = true := btrue (b := 2) k2
          generalize signB f = sg at *
          clear hr he hi hst hm2 hm4 hp k2 hsg
          go_enter Tryd.func38, Tryd.ntmps38
          go_wp2_with (first | (go_at_call 36; refine (c35.out _).mono ?_; rintro e w1 ⟨rfl, hb1⟩) | (go_at_call 77; refine (c73.out _).mono ?_; rintro e w2 ⟨rfl, hb2⟩) | (go_at_call 85; refine (c41.out _).mono ?_; rintro e w3 ⟨rfl, hb3⟩))
          go_ret2
          exact ⟨rfl, by (repeat (first | (with_reducible exact Ext.refl _) | (with_reducible assumption) | (with_reducible refine Ext.drew ?_) | (with_reducible refine Ext.drewN ?_ _) | (with_reducible refine Ext.alloc ?_ _) | (with_reducible refine Ext.setCell ?_ (Nat.le_refl _) _) | (with_reducible refine Ext.setCell ?_ (by simp; try omega) _) | (with_reducible refine Ext.trans ?_ (by with_reducible assumption))))⟩
        · have hp : patF f true key = if key = 0 then 0 else 2 ^ f.width - key := by unfold patF; rw [if_neg (by decide), if_neg k2]
          have d2 : ((f.kind : Int) == 2) = false := bfalse (b := 2) k2
          by_cases hk0 : key = 0
          · subst hk0
            rw [hp, if_pos rfl]
            clear hr he hi hst hm2 hm4 hp k2
            go_enter Tryd.func38, Tryd.ntmps38
            go_wp2_with (first | (go_at_call 36; refine (c35.out _).mono ?_; rintro e w1 ⟨rfl, hb1⟩) | (go_at_call 77; refine (c73.out _).mono ?_; rintro e w2 ⟨rfl, hb2⟩))
            go_ret2
            exact ⟨rfl, by (repeat (first | (with_reducible exact Ext.refl _) | (with_reducible assumption) | (with_reducible refine Ext.drew ?_) | (with_reducible refine Ext.drewN ?_ _) | (with_reducible refine Ext.alloc ?_ _) | (with_reducible refine Ext.setCell ?_ (Nat.le_refl _) _) | (with_reducible refine Ext.setCell ?_ (by simp; try omega) _) | (with_reducible refine Ext.trans ?_ (by with_reducible assumption))))⟩
          · rw [hp, if_neg hk0]
            have z : ((key : Int) == 0) = false := bfalse (b := 0) hk0
            have hkw : key ≤ 2 ^ f.width - 1 := by omega
            have hM : 2 ^ f.width - 1 < 18446744073709551616 := by have := pow_le64 w64; have := two_pos f.width; omega
            have hK : 2 ^ f.width - 1 + 1 = 2 ^ f.width - key + key := by have := two_pos f.width; omega
            have hs : 2 ^ f.width - 1 - key + 1 < 18446744073709551616 := by omega
            generalize 2 ^ f.width - key = K at *
            generalize 2 ^ f.width - 1 = M at *
            have HK := Lib.hid hK
            clear hr he hi hst hm2 hm4 hp k2 hk0 hK
            go_enter Tryd.func38, Tryd.ntmps38
            go_wp2_with (first | (go_at_call 36; refine (c35.out _).mono ?_; rintro e w1 ⟨rfl, hb1⟩) | (go_at_call 77; refine (c73.out _).mono ?_; rintro e w2 ⟨rfl, hb2⟩) | (go_at_call 86; refine (c40.out _).mono ?_; rintro e w3 ⟨rfl, hb3⟩))
            go_ret2
            refine ⟨?_, by (repeat (first | (with_reducible exact Ext.refl _) | (with_reducible assumption) | (with_reducible refine Ext.drew ?_) | (with_reducible refine Ext.drewN ?_ _) | (with_reducible refine Ext.alloc ?_ _) | (with_reducible refine Ext.setCell ?_ (Nat.le_refl _) _) | (with_reducible refine Ext.setCell ?_ (by simp; try omega) _) | (with_reducible refine Ext.trans ?_ (by with_reducible assumption))))⟩
            show Ending.returned (.tuple #[.int .u64 ((M : Int) - (key : Int) + 1), .int .i64 0]) = _
            rw [show ((M : Int) - (key : Int) + 1) = (K : Int) from by have := HK.out; omega]
  · have hr : patV i neg key = (0, (mostV i neg).2) := by unfold patV; rw [if_pos he]
    rw [hr]
    have d1 : (((mostV i neg).2 : Int) != 0) = true := by rw [bne_iff_ne]; exact he
    generalize mostV i neg = mo at *
    obtain ⟨m1, m2⟩ := mo
    simp only at *
    clear hr he
    go_enter Tryd.func38, Tryd.ntmps38
    go_wp2_with (first | (go_at_call 36; refine (c35.out _).mono ?_; rintro e w1 ⟨rfl, hb1⟩))
    go_ret2
    exact ⟨rfl, by (repeat (first | (with_reducible exact Ext.refl _) | (with_reducible assumption) | (with_reducible refine Ext.drew ?_) | (with_reducible refine Ext.drewN ?_ _) | (with_reducible refine Ext.alloc ?_ _) | (with_reducible refine Ext.setCell ?_ (Nat.le_refl _) _) | (with_reducible refine Ext.setCell ?_ (by simp; try omega) _) | (with_reducible refine Ext.trans ?_ (by with_reducible assumption))))⟩
end Go.Proofs.YtogdiobbjlpmoaaDoor

