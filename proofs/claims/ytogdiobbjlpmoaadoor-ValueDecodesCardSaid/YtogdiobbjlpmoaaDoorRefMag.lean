/- The number of a magnitude, as the document says it: magnitude, At, Between. No condition but those written. -/
import Derived.Test.YtogdiobbjlpmoaaDoorRefVal
import Derived.Test.YtogdiobbjlpmoaaDoorRefMini
import Derived.Test.YtogdiobbjlpmoaaDoorRefFits
import Derived.Test.YtogdiobbjlpmoaaDoorOrderLaw
import Derived.Test.YtogdiobbjlpmoaaDoorNumOk
import Derived.Deep.QuietTactic
import Derived.BigQuiet
namespace Go.Proofs.YtogdiobbjlpmoaaDoor
open Go Go.RowKit Cal

set_option maxRecDepth 100000 in
set_option maxHeartbeats 1600000 in
theorem rmag_any (f : Frm) (key : Nat) (h : NumOk f 0 key) (hk : key < 18446744073709551616) (w : World) :
    Calls Tryd.prog 80 #[.agg #[.int .i64 (f).kind, .int .i64 (f).width, .int .i64 (f).man, .int .i64 (f).bias, .int .u64 (f).top, .int .u64 (f).inf, .int .u64 (f).nan], .int .u64 key] w fun e w' => e = .returned (.tuple #[.int .u64 (((number f 0 key).1 : Nat) : Int), .int .i64 (number f 0 key).2]) ∧ Ext w w' := by
  have hkd := h.kind
  have : f.kind = 1 ∨ f.kind = 2 ∨ f.kind = 3 ∨ f.kind = 4 := by omega
  rcases this with k | k | k | k
  · obtain ⟨a, b, c, d⟩ := h.one k
    rw [number_1 f 0 key k]
    obtain ⟨n, hn⟩ : ∃ n, f.width = n + 1 := ⟨f.width - 1, by omega⟩
    have hn' : f.width + 0 - 1 = n := by omega
    rw [hn'] at d ⊢
    have c83 := Lib.hid (fun W => rvalue5_any n key (by omega) (by omega) c d W)
    have hw : (n : Int) + 1 = (f.width : Int) := by omega
    rw [hw] at c83
    have d1 : ((f.kind : Int) == 1) = true := btrue (b := 1) k
    generalize pval n key = v at *
    clear hn hn' hw h hkd k
    go_enter Tryd.func80, Tryd.ntmps80
    go_wp2_with (first | (go_at_call 83; refine (c83.out _).mono ?_; rintro e w1 ⟨rfl, hb1⟩))
    go_ret2
    exact ⟨rfl, by (repeat (first | (with_reducible exact Ext.refl _) | (with_reducible assumption) | (with_reducible refine Ext.drew ?_) | (with_reducible refine Ext.drewN ?_ _) | (with_reducible refine Ext.alloc ?_ _) | (with_reducible refine Ext.setCell ?_ (Nat.le_refl _) _) | (with_reducible refine Ext.setCell ?_ (by simp; try omega) _) | (with_reducible refine Ext.trans ?_ (by with_reducible assumption))))⟩
  · obtain ⟨a, b, c⟩ := h.two k
    rw [number_2 f 0 key k]
    rw [Nat.add_zero] at a c ⊢
    have c84 := Lib.hid (fun W => rvalue6_any f.man f.bias key a b hk c W)
    have d1 : ((f.kind : Int) == 1) = false := bfalse (b := 1) (by omega)
    have d2 : ((f.kind : Int) == 2) = true := btrue (b := 2) k
    generalize mval f.man f.bias key = v at *
    clear h hkd k
    go_enter Tryd.func80, Tryd.ntmps80
    go_wp2_with (first | (go_at_call 84; refine (c84.out _).mono ?_; rintro e w1 ⟨rfl, hb1⟩))
    go_ret2
    exact ⟨rfl, by (repeat (first | (with_reducible exact Ext.refl _) | (with_reducible assumption) | (with_reducible refine Ext.drew ?_) | (with_reducible refine Ext.drewN ?_ _) | (with_reducible refine Ext.alloc ?_ _) | (with_reducible refine Ext.setCell ?_ (Nat.le_refl _) _) | (with_reducible refine Ext.setCell ?_ (by simp; try omega) _) | (with_reducible refine Ext.trans ?_ (by with_reducible assumption))))⟩
  · have a := h.three k
    rw [number_3 f 0 key k]
    rw [show -(f.man : Int) - ((0 : Nat) : Int) = -(f.man : Int) from by omega]
    have c126 := Lib.hid (fun W => rodd_any key (-(f.man : Int)) hk (by omega) (by omega) W)
    have d1 : ((f.kind : Int) == 1) = false := bfalse (b := 1) (by omega)
    have d2 : ((f.kind : Int) == 2) = false := bfalse (b := 2) (by omega)
    have d3 : ((f.kind : Int) == 3) = true := btrue (b := 3) k
    have hm : f.man ≤ 60 := by omega
    generalize odd key (-(f.man : Int)) = v at *
    clear h hkd k a
    go_enter Tryd.func80, Tryd.ntmps80
    go_wp2_with (first | (go_at_call 126; refine (c126.out _).mono ?_; rintro e w1 ⟨rfl, rfl⟩))
    go_ret2
    exact ⟨rfl, by (repeat (first | (with_reducible exact Ext.refl _) | (with_reducible assumption) | (with_reducible refine Ext.drew ?_) | (with_reducible refine Ext.drewN ?_ _) | (with_reducible refine Ext.alloc ?_ _) | (with_reducible refine Ext.setCell ?_ (Nat.le_refl _) _) | (with_reducible refine Ext.setCell ?_ (by simp; try omega) _) | (with_reducible refine Ext.trans ?_ (by with_reducible assumption))))⟩
  · obtain ⟨a, b, c⟩ := h.four k
    rw [number_4 f 0 key k]
    have d1 : ((f.kind : Int) == 1) = false := bfalse (b := 1) (by omega)
    have d2 : ((f.kind : Int) == 2) = false := bfalse (b := 2) (by omega)
    have d3 : ((f.kind : Int) == 3) = false := bfalse (b := 3) (by omega)
    clear h hkd k
    go_enter Tryd.func80, Tryd.ntmps80
    go_wp2_with fail
    go_quiet (fail)
    go_wp2_with fail
    go_ret2
    exact ⟨ret2 (by simp) (by simp), by (repeat (first | (with_reducible exact Ext.refl _) | (with_reducible assumption) | (with_reducible refine Ext.drew ?_) | (with_reducible refine Ext.drewN ?_ _) | (with_reducible refine Ext.alloc ?_ _) | (with_reducible refine Ext.setCell ?_ (Nat.le_refl _) _) | (with_reducible refine Ext.setCell ?_ (by simp; try omega) _) | (with_reducible refine Ext.trans ?_ (by with_reducible assumption))))⟩

set_option maxRecDepth 100000 in
set_option maxHeartbeats 1600000 in
/-- The document's At. -/
theorem rat_any (i : Int) (key : Nat) (hkey : key < 18446744073709551616) (w : World) :
    Calls Tryd.prog 29 #[.int .i64 i, .int .u64 key] w fun e w' => e = .returned (.tuple #[.int .u64 ((atV i key).1 : Nat), .int .i64 (atV i key).2.1, .int .i64 (atV i key).2.2]) ∧ Ext w w' := by
  by_cases hi : isForm i
  · obtain ⟨n, rfl, h1, h2⟩ := isForm_nat hi
    have c82 := Lib.hid (fun W => rkfits_yes n key h1 h2 W)
    rcases keyE_cases (key := key) h1 h2 with ⟨he, hl⟩ | ⟨he, hl⟩
    · rw [he] at c82
      by_cases hz : key = 0 ∧ (frm n).kind ≠ 4
      · have hr : atV n key = (0, 0, 0) := by unfold atV; rw [if_pos (.inr (by simpa using hz)), he]
        rw [hr]
        have d1 : ((key : Int) == 0) = true := btrue (b := 0) hz.1
        have d2 : (((frm n).kind : Int) != 4) = true := ntrue (b := 4) hz.2
        generalize frm n = f at *
        clear hr he hz hi
        go_enter Tryd.func29, Tryd.ntmps29
        go_wp2_with (first | (go_at_call 82; refine (c82.out _).mono ?_; rintro e w1 ⟨rfl, hb1⟩; have F1 := Blk.new w1 99 #[.int .i64 (f).kind, .int .i64 (f).width, .int .i64 (f).man, .int .i64 (f).bias, .int .u64 (f).top, .int .u64 (f).inf, .int .u64 (f).nan]; have cF := F1.cell))
        go_ret3
        exact ⟨rfl, by (repeat (first | (with_reducible exact Ext.refl _) | (with_reducible assumption) | (with_reducible refine Ext.drew ?_) | (with_reducible refine Ext.drewN ?_ _) | (with_reducible refine Ext.alloc ?_ _) | (with_reducible refine Ext.setCell ?_ (Nat.le_refl _) _) | (with_reducible refine Ext.setCell ?_ (by simp; try omega) _) | (with_reducible refine Ext.trans ?_ (by with_reducible assumption))))⟩
      · have hr : atV n key = ((number (frm n) 0 key).1, (number (frm n) 0 key).2, 0) := by
          unfold atV
          rw [if_neg (by simp only [Int.toNat_natCast, he, ne_eq, not_true, false_or]; exact hz)]
          simp
        rw [hr]
        have hok := numOk_0 n key h1 h2 hl (fun hk => Nat.pos_of_ne_zero fun h0 => hz ⟨h0, by omega⟩)
        have c80 := Lib.hid (fun W => rmag_any (frm n) key hok hkey W)
        have hd : ((key : Int) == 0) = false ∨ (((key : Int) == 0) = true ∧ (((frm n).kind : Int) != 4) = false) := by
          by_cases h0 : key = 0
          · exact .inr ⟨btrue (b := 0) h0, nfalse (b := 4) (by omega)⟩
          · exact .inl (bfalse (b := 0) h0)
        generalize frm n = f at *
        generalize number f 0 key = nn at *
        clear hr he hz hi hok
        rcases hd with d1 | ⟨d1, d2⟩
        all_goals
          go_enter Tryd.func29, Tryd.ntmps29
          go_wp2_with (first | (go_at_call 82; refine (c82.out _).mono ?_; rintro e w1 ⟨rfl, hb1⟩; have F1 := Blk.new w1 99 #[.int .i64 (f).kind, .int .i64 (f).width, .int .i64 (f).man, .int .i64 (f).bias, .int .u64 (f).top, .int .u64 (f).inf, .int .u64 (f).nan]; have cF := F1.cell) | (go_at_call 80; refine (c80.out _).mono ?_; rintro e w2 ⟨rfl, hb2⟩))
          go_ret3
          exact ⟨rfl, by (repeat (first | (with_reducible exact Ext.refl _) | (with_reducible assumption) | (with_reducible refine Ext.drew ?_) | (with_reducible refine Ext.drewN ?_ _) | (with_reducible refine Ext.alloc ?_ _) | (with_reducible refine Ext.setCell ?_ (Nat.le_refl _) _) | (with_reducible refine Ext.setCell ?_ (by simp; try omega) _) | (with_reducible refine Ext.trans ?_ (by with_reducible assumption))))⟩
    · have hr : atV n key = (0, 0, 4) := by unfold atV; rw [if_pos (.inl (by omega)), he]
      rw [hr]
      rw [he] at c82
      generalize frm n = f at *
      clear hr he hl hi
      go_enter Tryd.func29, Tryd.ntmps29
      go_wp2_with (first | (go_at_call 82; refine (c82.out _).mono ?_; rintro e w1 ⟨rfl, hb1⟩; have F1 := Blk.new w1 99 #[.int .i64 (f).kind, .int .i64 (f).width, .int .i64 (f).man, .int .i64 (f).bias, .int .u64 (f).top, .int .u64 (f).inf, .int .u64 (f).nan]; have cF := F1.cell))
      go_ret3
      exact ⟨rfl, by (repeat (first | (with_reducible exact Ext.refl _) | (with_reducible assumption) | (with_reducible refine Ext.drew ?_) | (with_reducible refine Ext.drewN ?_ _) | (with_reducible refine Ext.alloc ?_ _) | (with_reducible refine Ext.setCell ?_ (Nat.le_refl _) _) | (with_reducible refine Ext.setCell ?_ (by simp; try omega) _) | (with_reducible refine Ext.trans ?_ (by with_reducible assumption))))⟩
  · have hr : atV i key = (0, 0, 3) := by unfold atV; rw [keyE_no hi, if_pos (.inl (by decide))]
    rw [hr]
    have c82 := Lib.hid (fun W => rkfits_no i key hi W)
    generalize frm 0 = f at *
    clear hr hi
    go_enter Tryd.func29, Tryd.ntmps29
    go_wp2_with (first | (go_at_call 82; refine (c82.out _).mono ?_; rintro e w1 ⟨rfl, hb1⟩; have F1 := Blk.new w1 99 #[.int .i64 (f).kind, .int .i64 (f).width, .int .i64 (f).man, .int .i64 (f).bias, .int .u64 (f).top, .int .u64 (f).inf, .int .u64 (f).nan]; have cF := F1.cell))
    go_ret3
    exact ⟨rfl, by (repeat (first | (with_reducible exact Ext.refl _) | (with_reducible assumption) | (with_reducible refine Ext.drew ?_) | (with_reducible refine Ext.drewN ?_ _) | (with_reducible refine Ext.alloc ?_ _) | (with_reducible refine Ext.setCell ?_ (Nat.le_refl _) _) | (with_reducible refine Ext.setCell ?_ (by simp; try omega) _) | (with_reducible refine Ext.trans ?_ (by with_reducible assumption))))⟩

set_option maxRecDepth 100000 in
set_option maxHeartbeats 3200000 in
/-- The document's Between. -/
theorem rbet_any (i : Int) (key : Nat) (hkey : key < 18446744073709551616) (w : World) :
    Calls Tryd.prog 31 #[.int .i64 i, .int .u64 key] w fun e w' => e = .returned (.tuple #[.int .u64 ((betV i key).1 : Nat), .int .i64 (betV i key).2.1, .int .i64 (betV i key).2.2]) ∧ Ext w w' := by
  by_cases hi : isForm i
  · obtain ⟨n, rfl, h1, h2⟩ := isForm_nat hi
    have c82 := Lib.hid (fun W => rkfits_yes n key h1 h2 W)
    obtain ⟨t63, _, _, _⟩ := lastKey_lt n h1 h2
    rcases keyE_cases (key := key) h1 h2 with ⟨he, hl⟩ | ⟨he, hl⟩
    · rw [he] at c82
      have hr : betV n key = ((number (frm n) 1 (2 * key + 1)).1, (number (frm n) 1 (2 * key + 1)).2, 0) := by
        unfold betV
        rw [if_neg (by omega)]
        simp
      rw [hr]
      have hk2 : key < 9223372036854775808 := by omega
      have hok := numOk_1 n key h1 h2 hl
      clear hr he hi hl t63
      generalize frm n = f at *
      have hkd := hok.kind
      have : f.kind = 1 ∨ f.kind = 2 ∨ f.kind = 3 ∨ f.kind = 4 := by omega
      rcases this with k | k | k | k
      · obtain ⟨a, b, c, d⟩ := hok.one k
        rw [number_1 f 1 _ k]
        rw [show f.width + 1 - 1 = f.width from by omega] at d ⊢
        have c83 := Lib.hid (fun W => rvalue5_any f.width (2 * key + 1) (by omega) (by omega) c d W)
        rw [show ((2 * key + 1 : Nat) : Int) = 2 * (key : Int) + 1 from by omega] at c83
        have d1 : ((f.kind : Int) == 1) = true := btrue (b := 1) k
        have hw : f.width ≤ 64 := by omega
        generalize pval f.width (2 * key + 1) = v at *
        clear hok hkd k a b c d
        go_enter Tryd.func31, Tryd.ntmps31
        go_wp2_with (first | (go_at_call 82; refine (c82.out _).mono ?_; rintro e w1 ⟨rfl, hb1⟩; have F1 := Blk.new w1 99 #[.int .i64 (f).kind, .int .i64 (f).width, .int .i64 (f).man, .int .i64 (f).bias, .int .u64 (f).top, .int .u64 (f).inf, .int .u64 (f).nan]; have cF := F1.cell) | (go_at_call 83; refine (c83.out _).mono ?_; rintro e w2 ⟨rfl, hb2⟩))
        go_ret3
        exact ⟨rfl, by (repeat (first | (with_reducible exact Ext.refl _) | (with_reducible assumption) | (with_reducible refine Ext.drew ?_) | (with_reducible refine Ext.drewN ?_ _) | (with_reducible refine Ext.alloc ?_ _) | (with_reducible refine Ext.setCell ?_ (Nat.le_refl _) _) | (with_reducible refine Ext.setCell ?_ (by simp; try omega) _) | (with_reducible refine Ext.trans ?_ (by with_reducible assumption))))⟩
      · obtain ⟨a, b, c⟩ := hok.two k
        rw [number_2 f 1 _ k]
        have c84 := Lib.hid (fun W => rvalue6_any (f.man + 1) f.bias (2 * key + 1) a b (by omega) c W)
        rw [show ((2 * key + 1 : Nat) : Int) = 2 * (key : Int) + 1 from by omega, show ((f.man + 1 : Nat) : Int) = (f.man : Int) + 1 from by omega] at c84
        have d1 : ((f.kind : Int) == 1) = false := bfalse (b := 1) (by omega)
        have d2 : ((f.kind : Int) == 2) = true := btrue (b := 2) k
        have hw : f.man ≤ 60 := by omega
        generalize mval (f.man + 1) f.bias (2 * key + 1) = v at *
        clear hok hkd k a b c
        go_enter Tryd.func31, Tryd.ntmps31
        go_wp2_with (first | (go_at_call 82; refine (c82.out _).mono ?_; rintro e w1 ⟨rfl, hb1⟩; have F1 := Blk.new w1 99 #[.int .i64 (f).kind, .int .i64 (f).width, .int .i64 (f).man, .int .i64 (f).bias, .int .u64 (f).top, .int .u64 (f).inf, .int .u64 (f).nan]; have cF := F1.cell) | (go_at_call 84; refine (c84.out _).mono ?_; rintro e w2 ⟨rfl, hb2⟩))
        go_ret3
        exact ⟨rfl, by (repeat (first | (with_reducible exact Ext.refl _) | (with_reducible assumption) | (with_reducible refine Ext.drew ?_) | (with_reducible refine Ext.drewN ?_ _) | (with_reducible refine Ext.alloc ?_ _) | (with_reducible refine Ext.setCell ?_ (Nat.le_refl _) _) | (with_reducible refine Ext.setCell ?_ (by simp; try omega) _) | (with_reducible refine Ext.trans ?_ (by with_reducible assumption))))⟩
      · have a := hok.three k
        rw [number_3 f 1 _ k, odd_self (2 * key + 1) _ (by omega) (by omega)]
        have d1 : ((f.kind : Int) == 1) = false := bfalse (b := 1) (by omega)
        have d2 : ((f.kind : Int) == 2) = false := bfalse (b := 2) (by omega)
        have d3 : ((f.kind : Int) == 3) = true := btrue (b := 3) k
        have hw : f.man ≤ 60 := by omega
        clear hok hkd k a
        go_enter Tryd.func31, Tryd.ntmps31
        go_wp2_with (first | (go_at_call 82; refine (c82.out _).mono ?_; rintro e w1 ⟨rfl, hb1⟩; have F1 := Blk.new w1 99 #[.int .i64 (f).kind, .int .i64 (f).width, .int .i64 (f).man, .int .i64 (f).bias, .int .u64 (f).top, .int .u64 (f).inf, .int .u64 (f).nan]; have cF := F1.cell))
        go_quiet (fail)
        go_wp2_with fail
        go_ret3
        exact ⟨ret3 (by simp; try omega) (by simp; try omega) rfl, by (repeat (first | (with_reducible exact Ext.refl _) | (with_reducible assumption) | (with_reducible refine Ext.drew ?_) | (with_reducible refine Ext.drewN ?_ _) | (with_reducible refine Ext.alloc ?_ _) | (with_reducible refine Ext.setCell ?_ (Nat.le_refl _) _) | (with_reducible refine Ext.setCell ?_ (by simp; try omega) _) | (with_reducible refine Ext.trans ?_ (by with_reducible assumption))))⟩
      · obtain ⟨a, b, c⟩ := hok.four k
        rw [number_4 f 1 _ k, show (2 * key + 1) / 2 ^ 1 = key from by omega]
        have d1 : ((f.kind : Int) == 1) = false := bfalse (b := 1) (by omega)
        have d2 : ((f.kind : Int) == 2) = false := bfalse (b := 2) (by omega)
        have d3 : ((f.kind : Int) == 3) = false := bfalse (b := 3) (by omega)
        have hw : key ≤ 1000 := by omega
        clear hok hkd k a c
        go_enter Tryd.func31, Tryd.ntmps31
        go_wp2_with (first | (go_at_call 82; refine (c82.out _).mono ?_; rintro e w1 ⟨rfl, hb1⟩; have F1 := Blk.new w1 99 #[.int .i64 (f).kind, .int .i64 (f).width, .int .i64 (f).man, .int .i64 (f).bias, .int .u64 (f).top, .int .u64 (f).inf, .int .u64 (f).nan]; have cF := F1.cell))
        go_quiet (fail)
        go_wp2_with fail
        go_ret3
        exact ⟨ret3 (by simp) (by simp) rfl, by (repeat (first | (with_reducible exact Ext.refl _) | (with_reducible assumption) | (with_reducible refine Ext.drew ?_) | (with_reducible refine Ext.drewN ?_ _) | (with_reducible refine Ext.alloc ?_ _) | (with_reducible refine Ext.setCell ?_ (Nat.le_refl _) _) | (with_reducible refine Ext.setCell ?_ (by simp; try omega) _) | (with_reducible refine Ext.trans ?_ (by with_reducible assumption))))⟩
    · have hr : betV n key = (0, 0, 4) := by unfold betV; rw [if_pos (by omega), he]
      rw [hr]
      rw [he] at c82
      generalize frm n = f at *
      clear hr he hl hi t63
      go_enter Tryd.func31, Tryd.ntmps31
      go_wp2_with (first | (go_at_call 82; refine (c82.out _).mono ?_; rintro e w1 ⟨rfl, hb1⟩; have F1 := Blk.new w1 99 #[.int .i64 (f).kind, .int .i64 (f).width, .int .i64 (f).man, .int .i64 (f).bias, .int .u64 (f).top, .int .u64 (f).inf, .int .u64 (f).nan]; have cF := F1.cell))
      go_ret3
      exact ⟨rfl, by (repeat (first | (with_reducible exact Ext.refl _) | (with_reducible assumption) | (with_reducible refine Ext.drew ?_) | (with_reducible refine Ext.drewN ?_ _) | (with_reducible refine Ext.alloc ?_ _) | (with_reducible refine Ext.setCell ?_ (Nat.le_refl _) _) | (with_reducible refine Ext.setCell ?_ (by simp; try omega) _) | (with_reducible refine Ext.trans ?_ (by with_reducible assumption))))⟩
  · have hr : betV i key = (0, 0, 3) := by unfold betV; rw [keyE_no hi, if_pos (by decide)]
    rw [hr]
    have c82 := Lib.hid (fun W => rkfits_no i key hi W)
    generalize frm 0 = f at *
    clear hr hi
    go_enter Tryd.func31, Tryd.ntmps31
    go_wp2_with (first | (go_at_call 82; refine (c82.out _).mono ?_; rintro e w1 ⟨rfl, hb1⟩; have F1 := Blk.new w1 99 #[.int .i64 (f).kind, .int .i64 (f).width, .int .i64 (f).man, .int .i64 (f).bias, .int .u64 (f).top, .int .u64 (f).inf, .int .u64 (f).nan]; have cF := F1.cell))
    go_ret3
    exact ⟨rfl, by (repeat (first | (with_reducible exact Ext.refl _) | (with_reducible assumption) | (with_reducible refine Ext.drew ?_) | (with_reducible refine Ext.drewN ?_ _) | (with_reducible refine Ext.alloc ?_ _) | (with_reducible refine Ext.setCell ?_ (Nat.le_refl _) _) | (with_reducible refine Ext.setCell ?_ (by simp; try omega) _) | (with_reducible refine Ext.trans ?_ (by with_reducible assumption))))⟩
end Go.Proofs.YtogdiobbjlpmoaaDoor

