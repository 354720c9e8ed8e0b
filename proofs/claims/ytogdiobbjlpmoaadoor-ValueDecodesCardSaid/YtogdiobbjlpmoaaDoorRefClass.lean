/- What the document says that a pattern is. No condition but those written. -/
import Derived.Test.YtogdiobbjlpmoaaDoorRefParts
namespace Go.Proofs.YtogdiobbjlpmoaaDoor
open Go Go.RowKit Cal

theorem two_inf (n : Nat) (h1 : 1 ≤ n) (h2 : n ≤ 14) : (frm n).inf ≠ 0 → (frm n).top < (frm n).inf := by
  have : n = 1 ∨ n = 2 ∨ n = 3 ∨ n = 4 ∨ n = 5 ∨ n = 6 ∨ n = 7 ∨ n = 8 ∨ n = 9 ∨ n = 10 ∨ n = 11 ∨ n = 12 ∨ n = 13 ∨ n = 14 := by omega
  rcases this with rfl | rfl | rfl | rfl | rfl | rfl | rfl | rfl | rfl | rfl | rfl | rfl | rfl | rfl <;> decide

set_option maxRecDepth 100000 in
set_option maxHeartbeats 3200000 in
theorem rclass_any (n p : Nat) (h1 : 1 ≤ n) (h2 : n ≤ 14) (hp : p < 2 ^ (frm n).width) (w : World) :
    Calls Tryd.prog 79 #[.int .i64 n, .int .u64 p] w fun e w' => e = .returned (.int .i64 ((cls (frm n) p : Nat) : Int)) ∧ Ext w w' := by
  obtain ⟨w4, w64⟩ := frm_width n h1 h2
  have c77 := Lib.hid (fun W => rof_yes n h1 h2 W)
  have c78 := Lib.hid (fun W => rparts_any (frm n) p w64 (by omega) hp W)
  have ti := two_inf n h1 h2
  generalize hc : cls (frm n) p = c
  unfold cls at hc
  clear hp w4 w64
  generalize keyP (frm n) p = key at *
  generalize negP (frm n) p = ng at *
  generalize frm n = f at *
  by_cases k2 : f.kind = 2
  · have a1 : ((f.kind : Int) == 2) = true := btrue (b := 2) k2
    have a2 : ((f.kind : Int) != 2) = false := nfalse (b := 2) k2
    have a4 : ((f.kind : Int) != 4) = true := ntrue (b := 4) (by omega)
    by_cases ht : f.top < key
    · have d1 : decide (f.top < key) = true := decide_eq_true ht
      have d1' : decide ((f.top : Int) < (key : Int)) = true := decide_eq_true (by omega)
      by_cases hi : key = f.inf
      · have d2 : ((key : Int) == (f.inf : Int)) = true := btrue hi
        obtain rfl : 3 = c := by rw [if_pos ⟨k2, hi, by omega⟩] at hc; exact hc
        clear hc ti hi ht k2
        go_enter Tryd.func79, Tryd.ntmps79
        go_wp2_with (first | (go_at_call 77; refine (c77.out _).mono ?_; rintro e w1 ⟨rfl, hb1⟩; have F1 := Blk.new w1 99 #[.int .i64 (f).kind, .int .i64 (f).width, .int .i64 (f).man, .int .i64 (f).bias, .int .u64 (f).top, .int .u64 (f).inf, .int .u64 (f).nan]) | (go_at_call 78; refine (c78.out _).mono ?_; rintro e w2 ⟨rfl, hb2⟩; have F2 := F1.ext hb2; have cF := F2.cell))
        go_ret
        exact ⟨rfl, by (repeat (first | (with_reducible exact Ext.refl _) | (with_reducible assumption) | (with_reducible refine Ext.drew ?_) | (with_reducible refine Ext.drewN ?_ _) | (with_reducible refine Ext.alloc ?_ _) | (with_reducible refine Ext.setCell ?_ (Nat.le_refl _) _) | (with_reducible refine Ext.setCell ?_ (by simp; try omega) _) | (with_reducible refine Ext.trans ?_ (by with_reducible assumption))))⟩
      · have d2 : ((key : Int) == (f.inf : Int)) = false := bfalse hi
        obtain rfl : 4 = c := by rw [if_neg (fun h => hi h.2.1), if_pos (.inl ⟨k2, ht⟩)] at hc; exact hc
        clear hc ti hi ht k2
        go_enter Tryd.func79, Tryd.ntmps79
        go_wp2_with (first | (go_at_call 77; refine (c77.out _).mono ?_; rintro e w1 ⟨rfl, hb1⟩; have F1 := Blk.new w1 99 #[.int .i64 (f).kind, .int .i64 (f).width, .int .i64 (f).man, .int .i64 (f).bias, .int .u64 (f).top, .int .u64 (f).inf, .int .u64 (f).nan]) | (go_at_call 78; refine (c78.out _).mono ?_; rintro e w2 ⟨rfl, hb2⟩; have F2 := F1.ext hb2; have cF := F2.cell))
        go_ret
        exact ⟨rfl, by (repeat (first | (with_reducible exact Ext.refl _) | (with_reducible assumption) | (with_reducible refine Ext.drew ?_) | (with_reducible refine Ext.drewN ?_ _) | (with_reducible refine Ext.alloc ?_ _) | (with_reducible refine Ext.setCell ?_ (Nat.le_refl _) _) | (with_reducible refine Ext.setCell ?_ (by simp; try omega) _) | (with_reducible refine Ext.trans ?_ (by with_reducible assumption))))⟩
    · have d1 : decide (f.top < key) = false := decide_eq_false ht
      have d1' : decide ((f.top : Int) < (key : Int)) = false := decide_eq_false (by omega)
      rw [if_neg (fun h => by have := ti h.2.2; omega), if_neg (fun h => h.elim (fun h => ht h.2) (fun h => h.1 k2))] at hc
      by_cases hk : key = 0
      · have d3 : ((key : Int) == 0) = true := btrue (b := 0) hk
        obtain rfl : 1 = c := by rw [if_pos ⟨hk, by omega⟩] at hc; exact hc
        clear hc ti hk ht k2
        go_enter Tryd.func79, Tryd.ntmps79
        go_wp2_with (first | (go_at_call 77; refine (c77.out _).mono ?_; rintro e w1 ⟨rfl, hb1⟩; have F1 := Blk.new w1 99 #[.int .i64 (f).kind, .int .i64 (f).width, .int .i64 (f).man, .int .i64 (f).bias, .int .u64 (f).top, .int .u64 (f).inf, .int .u64 (f).nan]) | (go_at_call 78; refine (c78.out _).mono ?_; rintro e w2 ⟨rfl, hb2⟩; have F2 := F1.ext hb2; have cF := F2.cell))
        go_ret
        exact ⟨rfl, by (repeat (first | (with_reducible exact Ext.refl _) | (with_reducible assumption) | (with_reducible refine Ext.drew ?_) | (with_reducible refine Ext.drewN ?_ _) | (with_reducible refine Ext.alloc ?_ _) | (with_reducible refine Ext.setCell ?_ (Nat.le_refl _) _) | (with_reducible refine Ext.setCell ?_ (by simp; try omega) _) | (with_reducible refine Ext.trans ?_ (by with_reducible assumption))))⟩
      · have d3 : ((key : Int) == 0) = false := bfalse (b := 0) hk
        obtain rfl : 2 = c := by rw [if_neg (fun h => hk h.1)] at hc; exact hc
        clear hc ti hk ht k2
        go_enter Tryd.func79, Tryd.ntmps79
        go_wp2_with (first | (go_at_call 77; refine (c77.out _).mono ?_; rintro e w1 ⟨rfl, hb1⟩; have F1 := Blk.new w1 99 #[.int .i64 (f).kind, .int .i64 (f).width, .int .i64 (f).man, .int .i64 (f).bias, .int .u64 (f).top, .int .u64 (f).inf, .int .u64 (f).nan]) | (go_at_call 78; refine (c78.out _).mono ?_; rintro e w2 ⟨rfl, hb2⟩; have F2 := F1.ext hb2; have cF := F2.cell))
        go_ret
        exact ⟨rfl, by (repeat (first | (with_reducible exact Ext.refl _) | (with_reducible assumption) | (with_reducible refine Ext.drew ?_) | (with_reducible refine Ext.drewN ?_ _) | (with_reducible refine Ext.alloc ?_ _) | (with_reducible refine Ext.setCell ?_ (Nat.le_refl _) _) | (with_reducible refine Ext.setCell ?_ (by simp; try omega) _) | (with_reducible refine Ext.trans ?_ (by with_reducible assumption))))⟩
  · have a1 : ((f.kind : Int) == 2) = false := bfalse (b := 2) k2
    have a2 : ((f.kind : Int) != 2) = true := ntrue (b := 2) k2
    have hnan : (f.nan ≠ 0 ∧ p = f.nan ∧ ((f.nan : Int) != 0) = true ∧ ((p : Int) == (f.nan : Int)) = true) ∨ (¬ (f.nan ≠ 0 ∧ p = f.nan) ∧ (((f.nan : Int) != 0) = false ∨ (((f.nan : Int) != 0) = true ∧ ((p : Int) == (f.nan : Int)) = false))) := by
      by_cases x : f.nan = 0
      · exact .inr ⟨fun h => h.1 x, .inl (nfalse (b := 0) x)⟩
      · by_cases y : p = f.nan
        · exact .inl ⟨x, y, ntrue (b := 0) x, btrue y⟩
        · exact .inr ⟨fun h => y h.2, .inr ⟨ntrue (b := 0) x, bfalse y⟩⟩
    rcases hnan with ⟨x, y, n1, n2⟩ | ⟨xy, hn⟩
    · obtain rfl : 4 = c := by rw [if_neg (fun h => k2 h.1), if_pos (.inr ⟨k2, x, y⟩)] at hc; exact hc
      clear hc ti x y k2
      go_enter Tryd.func79, Tryd.ntmps79
      go_wp2_with (first | (go_at_call 77; refine (c77.out _).mono ?_; rintro e w1 ⟨rfl, hb1⟩; have F1 := Blk.new w1 99 #[.int .i64 (f).kind, .int .i64 (f).width, .int .i64 (f).man, .int .i64 (f).bias, .int .u64 (f).top, .int .u64 (f).inf, .int .u64 (f).nan]) | (go_at_call 78; refine (c78.out _).mono ?_; rintro e w2 ⟨rfl, hb2⟩; have F2 := F1.ext hb2; have cF := F2.cell))
      go_ret
      exact ⟨rfl, by (repeat (first | (with_reducible exact Ext.refl _) | (with_reducible assumption) | (with_reducible refine Ext.drew ?_) | (with_reducible refine Ext.drewN ?_ _) | (with_reducible refine Ext.alloc ?_ _) | (with_reducible refine Ext.setCell ?_ (Nat.le_refl _) _) | (with_reducible refine Ext.setCell ?_ (by simp; try omega) _) | (with_reducible refine Ext.trans ?_ (by with_reducible assumption))))⟩
    · rw [if_neg (fun h => k2 h.1), if_neg (fun h => h.elim (fun h => k2 h.1) (fun h => xy h.2))] at hc
      have hq : (c = 1 ∧ ((key : Int) == 0) = true ∧ ((f.kind : Int) != 4) = true) ∨ (c = 2 ∧ ((key : Int) == 0) = false) ∨ (c = 2 ∧ ((key : Int) == 0) = true ∧ ((f.kind : Int) != 4) = false) := by
        by_cases x : key = 0
        · by_cases y : f.kind = 4
          · rw [if_neg (fun h => h.2 y)] at hc; exact .inr (.inr ⟨hc.symm, btrue (b := 0) x, nfalse (b := 4) y⟩)
          · rw [if_pos ⟨x, y⟩] at hc; exact .inl ⟨hc.symm, btrue (b := 0) x, ntrue (b := 4) y⟩
        · rw [if_neg (fun h => x h.1)] at hc; exact .inr (.inl ⟨hc.symm, bfalse (b := 0) x⟩)
      clear hc ti xy k2
      rcases hn with n1 | ⟨n1, n2⟩
      all_goals rcases hq with ⟨rfl, q1, q2⟩ | ⟨rfl, q1⟩ | ⟨rfl, q1, q2⟩
      all_goals go_enter Tryd.func79, Tryd.ntmps79
      all_goals go_wp2_with (first | (go_at_call 77; refine (c77.out _).mono ?_; rintro e w1 ⟨rfl, hb1⟩; have F1 := Blk.new w1 99 #[.int .i64 (f).kind, .int .i64 (f).width, .int .i64 (f).man, .int .i64 (f).bias, .int .u64 (f).top, .int .u64 (f).inf, .int .u64 (f).nan]) | (go_at_call 78; refine (c78.out _).mono ?_; rintro e w2 ⟨rfl, hb2⟩; have F2 := F1.ext hb2; have cF := F2.cell))
      all_goals go_ret
      all_goals exact ⟨rfl, by (repeat (first | (with_reducible exact Ext.refl _) | (with_reducible assumption) | (with_reducible refine Ext.drew ?_) | (with_reducible refine Ext.drewN ?_ _) | (with_reducible refine Ext.alloc ?_ _) | (with_reducible refine Ext.setCell ?_ (Nat.le_refl _) _) | (with_reducible refine Ext.setCell ?_ (by simp; try omega) _) | (with_reducible refine Ext.trans ?_ (by with_reducible assumption))))⟩
end Go.Proofs.YtogdiobbjlpmoaaDoor

