/- What value.At and value.Between answer. No condition but that the package variables hold what they are laid with. -/
import Derived.Test.YtogdiobbjlpmoaaDoorMost
namespace Go.Proofs.YtogdiobbjlpmoaaDoor
open Go Go.RowKit Cal

theorem Blk.set8 {w : World} {b : Nat} {t : TypeId} {o0 o1 o2 o3 o4 o5 o6 o7 a0 a1 a2 a3 a4 a5 a6 a7 : Value} (h : Blk w b t #[o0, o1, o2, o3, o4, o5, o6, o7]) :
    Blk ((((((((w.setCell ⟨b, 0, none⟩ a0).setCell ⟨b, 1, none⟩ a1).setCell ⟨b, 2, none⟩ a2).setCell ⟨b, 3, none⟩ a3).setCell ⟨b, 4, none⟩ a4).setCell ⟨b, 5, none⟩ a5).setCell ⟨b, 6, none⟩ a6).setCell ⟨b, 7, none⟩ a7) b t #[a0, a1, a2, a3, a4, a5, a6, a7] := by
  have h8 := (((((((h.set_ 0 a0).set_ 1 a1).set_ 2 a2).set_ 3 a3).set_ 4 a4).set_ 5 a5).set_ 6 a6).set_ 7 a7
  simpa using h8

theorem load92 {w : World} {b : Nat} {a0 a1 a2 a3 a4 a5 a6 a7 : Value} (h : Blk w b 92 #[a0, a1, a2, a3, a4, a5, a6, a7]) : (loadVar 92 ⟨b, 0, none⟩).run Tryd.prog w = .ok (.agg #[a0, a1, a2, a3, a4, a5, a6, a7]) w := by
  have hc := h.cell
  simp [go_sem, hc]

set_option maxRecDepth 100000 in
set_option maxHeartbeats 1600000 in
theorem vfits_no (i : Int) (key : Nat) (hi : ¬ isForm i) (w : World) :
    Calls Tryd.prog 81 #[.int .i64 i, .int .u64 key] w fun e w' => e = .returned (.tuple #[.agg #[.int .i64 (frm 0).kind, .int .i64 (frm 0).width, .int .i64 (frm 0).man, .int .i64 (frm 0).bias, .int .u64 (frm 0).top, .int .u64 (frm 0).inf, .int .u64 (frm 0).nan, .nilFunc], .int .i64 3]) ∧ Ext w w' := by
  have c73 := Lib.hid (fun W => of_no i W hi)
  generalize frm 0 = f at *
  clear hi
  go_enter Tryd.func81, Tryd.ntmps81
  go_wp2_with (first | (go_at_call 73; refine (c73.out _).mono ?_; rintro e w1 ⟨rfl, hb1⟩; have B1 := (Blk.new w 92 _).ext hb1; have cB := B1.cell; have fB := B1.frozen; have l1 := B1.lt))
  have hx1 : Ext w w1 := ((Ext.refl w).alloc _).trans hb1
  clear cB fB
  have B8 := (Blk.set8 B1 (a0 := .int .i64 f.kind) (a1 := .int .i64 f.width) (a2 := .int .i64 f.man) (a3 := .int .i64 f.bias) (a4 := .int .u64 f.top) (a5 := .int .u64 f.inf) (a6 := .int .u64 f.nan) (a7 := .nilFunc)).alloc (.cells #[.int .i64 (f).kind, .int .i64 (f).width, .int .i64 (f).man, .int .i64 (f).bias, .int .u64 (f).top, .int .u64 (f).inf, .int .u64 (f).nan, .nilFunc] 92)
  exact bodyPost_ret (v := .tuple #[.agg #[.int .i64 (f).kind, .int .i64 (f).width, .int .i64 (f).man, .int .i64 (f).bias, .int .u64 (f).top, .int .u64 (f).inf, .int .u64 (f).nan, .nilFunc], .int .i64 3]) (ret_blk Tryd.results81 rfl (load92 B8) rfl) rfl ⟨rfl, by (repeat (first | (with_reducible exact Ext.refl _) | (with_reducible assumption) | (with_reducible refine Ext.drew ?_) | (with_reducible refine Ext.drewN ?_ _) | (with_reducible refine Ext.alloc ?_ _) | (with_reducible refine Ext.setCell ?_ (Nat.le_refl _) _) | (with_reducible refine Ext.setCell ?_ (by simp; try omega) _) | (with_reducible refine Ext.trans ?_ (by with_reducible assumption))))⟩

set_option maxRecDepth 100000 in
set_option maxHeartbeats 1600000 in
theorem vfits_yes (n key : Nat) (h1 : 1 ≤ n) (h2 : n ≤ 14) (w : World) (hE : Env w) :
    Calls Tryd.prog 81 #[.int .i64 n, .int .u64 key] w fun e w' => e = .returned (.tuple #[.agg #[.int .i64 (frm n).kind, .int .i64 (frm n).width, .int .i64 (frm n).man, .int .i64 (frm n).bias, .int .u64 (frm n).top, .int .u64 (frm n).inf, .int .u64 (frm n).nan, .func (.func (nfn (frm n).kind)) #[] #[]], .int .i64 (keyE n key)]) ∧ Ext w w' := by
  have c73 := Lib.hid (fun W (h' : Env W) => of_yes n W h' h1 h2)
  obtain ⟨t63, _, _, _⟩ := lastKey_lt n h1 h2
  have htop : (frm n).top < 9223372036854775808 := by have := lastKey_lt n h1 h2; omega
  have hke : keyE n key = if lastKey (frm n) < key then 4 else 0 := by unfold keyE; rw [if_neg (by simpa using isForm_of h1 h2)]; simp
  rw [hke]
  clear hke
  have hEA := hE.alloc (.cells #[.int .i64 (frm 0).kind, .int .i64 (frm 0).width, .int .i64 (frm 0).man, .int .i64 (frm 0).bias, .int .u64 (frm 0).top, .int .u64 (frm 0).inf, .int .u64 (frm 0).nan, .nilFunc] 92)
  by_cases k3 : (frm n).kind = 3
  · have hl : lastKey (frm n) = (frm n).top + 1 := by unfold lastKey; rw [if_pos k3]
    rw [hl]
    have d3 : (((frm n).kind : Int) == 3) = true := btrue (b := 3) k3
    generalize frm n = f at *
    generalize nfn f.kind = q at *
    clear hl k3
    by_cases hlt : f.top + 1 < key
    · rw [if_pos hlt]
      have d1 : decide ((f.top : Int) + 1 < (key : Int)) = true := decide_eq_true (by omega)
      go_enter Tryd.func81, Tryd.ntmps81
      go_wp2_with (first | (go_at_call 73; refine (c73.out _ hEA).mono ?_; rintro e w1 ⟨rfl, hb1⟩; have B1 := (Blk.new w 92 _).ext hb1; have cB := B1.cell; have fB := B1.frozen; have l1 := B1.lt))
      have hx1 : Ext w w1 := ((Ext.refl w).alloc _).trans hb1
      clear cB fB
      have B8 := (Blk.set8 B1 (a0 := .int .i64 f.kind) (a1 := .int .i64 f.width) (a2 := .int .i64 f.man) (a3 := .int .i64 f.bias) (a4 := .int .u64 f.top) (a5 := .int .u64 f.inf) (a6 := .int .u64 f.nan) (a7 := .func (.func q) #[] #[])).alloc (.cells #[.int .i64 (f).kind, .int .i64 (f).width, .int .i64 (f).man, .int .i64 (f).bias, .int .u64 (f).top, .int .u64 (f).inf, .int .u64 (f).nan, .func (.func q) #[] #[]] 92)
      exact bodyPost_ret (v := .tuple #[.agg #[.int .i64 (f).kind, .int .i64 (f).width, .int .i64 (f).man, .int .i64 (f).bias, .int .u64 (f).top, .int .u64 (f).inf, .int .u64 (f).nan, .func (.func q) #[] #[]], .int .i64 4]) (ret_blk Tryd.results81 rfl (load92 B8) rfl) rfl ⟨rfl, by (repeat (first | (with_reducible exact Ext.refl _) | (with_reducible assumption) | (with_reducible refine Ext.drew ?_) | (with_reducible refine Ext.drewN ?_ _) | (with_reducible refine Ext.alloc ?_ _) | (with_reducible refine Ext.setCell ?_ (Nat.le_refl _) _) | (with_reducible refine Ext.setCell ?_ (by simp; try omega) _) | (with_reducible refine Ext.trans ?_ (by with_reducible assumption))))⟩
    · rw [if_neg hlt]
      have d1 : decide ((f.top : Int) + 1 < (key : Int)) = false := decide_eq_false (by omega)
      go_enter Tryd.func81, Tryd.ntmps81
      go_wp2_with (first | (go_at_call 73; refine (c73.out _ hEA).mono ?_; rintro e w1 ⟨rfl, hb1⟩; have B1 := (Blk.new w 92 _).ext hb1; have cB := B1.cell; have fB := B1.frozen; have l1 := B1.lt))
      have hx1 : Ext w w1 := ((Ext.refl w).alloc _).trans hb1
      clear cB fB
      have B8 := (Blk.set8 B1 (a0 := .int .i64 f.kind) (a1 := .int .i64 f.width) (a2 := .int .i64 f.man) (a3 := .int .i64 f.bias) (a4 := .int .u64 f.top) (a5 := .int .u64 f.inf) (a6 := .int .u64 f.nan) (a7 := .func (.func q) #[] #[])).alloc (.cells #[.int .i64 (f).kind, .int .i64 (f).width, .int .i64 (f).man, .int .i64 (f).bias, .int .u64 (f).top, .int .u64 (f).inf, .int .u64 (f).nan, .func (.func q) #[] #[]] 92)
      exact bodyPost_ret (v := .tuple #[.agg #[.int .i64 (f).kind, .int .i64 (f).width, .int .i64 (f).man, .int .i64 (f).bias, .int .u64 (f).top, .int .u64 (f).inf, .int .u64 (f).nan, .func (.func q) #[] #[]], .int .i64 0]) (ret_blk Tryd.results81 rfl (load92 B8) rfl) rfl ⟨rfl, by (repeat (first | (with_reducible exact Ext.refl _) | (with_reducible assumption) | (with_reducible refine Ext.drew ?_) | (with_reducible refine Ext.drewN ?_ _) | (with_reducible refine Ext.alloc ?_ _) | (with_reducible refine Ext.setCell ?_ (Nat.le_refl _) _) | (with_reducible refine Ext.setCell ?_ (by simp; try omega) _) | (with_reducible refine Ext.trans ?_ (by with_reducible assumption))))⟩
  · have hl : lastKey (frm n) = (frm n).top := by unfold lastKey; rw [if_neg k3]
    rw [hl]
    have d3 : (((frm n).kind : Int) == 3) = false := bfalse (b := 3) k3
    generalize frm n = f at *
    generalize nfn f.kind = q at *
    clear hl k3
    by_cases hlt : f.top < key
    · rw [if_pos hlt]
      have d1 : decide ((f.top : Int) < (key : Int)) = true := decide_eq_true (by omega)
      go_enter Tryd.func81, Tryd.ntmps81
      go_wp2_with (first | (go_at_call 73; refine (c73.out _ hEA).mono ?_; rintro e w1 ⟨rfl, hb1⟩; have B1 := (Blk.new w 92 _).ext hb1; have cB := B1.cell; have fB := B1.frozen; have l1 := B1.lt))
      have hx1 : Ext w w1 := ((Ext.refl w).alloc _).trans hb1
      clear cB fB
      have B8 := (Blk.set8 B1 (a0 := .int .i64 f.kind) (a1 := .int .i64 f.width) (a2 := .int .i64 f.man) (a3 := .int .i64 f.bias) (a4 := .int .u64 f.top) (a5 := .int .u64 f.inf) (a6 := .int .u64 f.nan) (a7 := .func (.func q) #[] #[])).alloc (.cells #[.int .i64 (f).kind, .int .i64 (f).width, .int .i64 (f).man, .int .i64 (f).bias, .int .u64 (f).top, .int .u64 (f).inf, .int .u64 (f).nan, .func (.func q) #[] #[]] 92)
      exact bodyPost_ret (v := .tuple #[.agg #[.int .i64 (f).kind, .int .i64 (f).width, .int .i64 (f).man, .int .i64 (f).bias, .int .u64 (f).top, .int .u64 (f).inf, .int .u64 (f).nan, .func (.func q) #[] #[]], .int .i64 4]) (ret_blk Tryd.results81 rfl (load92 B8) rfl) rfl ⟨rfl, by (repeat (first | (with_reducible exact Ext.refl _) | (with_reducible assumption) | (with_reducible refine Ext.drew ?_) | (with_reducible refine Ext.drewN ?_ _) | (with_reducible refine Ext.alloc ?_ _) | (with_reducible refine Ext.setCell ?_ (Nat.le_refl _) _) | (with_reducible refine Ext.setCell ?_ (by simp; try omega) _) | (with_reducible refine Ext.trans ?_ (by with_reducible assumption))))⟩
    · rw [if_neg hlt]
      have d1 : decide ((f.top : Int) < (key : Int)) = false := decide_eq_false (by omega)
      go_enter Tryd.func81, Tryd.ntmps81
      go_wp2_with (first | (go_at_call 73; refine (c73.out _ hEA).mono ?_; rintro e w1 ⟨rfl, hb1⟩; have B1 := (Blk.new w 92 _).ext hb1; have cB := B1.cell; have fB := B1.frozen; have l1 := B1.lt))
      have hx1 : Ext w w1 := ((Ext.refl w).alloc _).trans hb1
      clear cB fB
      have B8 := (Blk.set8 B1 (a0 := .int .i64 f.kind) (a1 := .int .i64 f.width) (a2 := .int .i64 f.man) (a3 := .int .i64 f.bias) (a4 := .int .u64 f.top) (a5 := .int .u64 f.inf) (a6 := .int .u64 f.nan) (a7 := .func (.func q) #[] #[])).alloc (.cells #[.int .i64 (f).kind, .int .i64 (f).width, .int .i64 (f).man, .int .i64 (f).bias, .int .u64 (f).top, .int .u64 (f).inf, .int .u64 (f).nan, .func (.func q) #[] #[]] 92)
      exact bodyPost_ret (v := .tuple #[.agg #[.int .i64 (f).kind, .int .i64 (f).width, .int .i64 (f).man, .int .i64 (f).bias, .int .u64 (f).top, .int .u64 (f).inf, .int .u64 (f).nan, .func (.func q) #[] #[]], .int .i64 0]) (ret_blk Tryd.results81 rfl (load92 B8) rfl) rfl ⟨rfl, by (repeat (first | (with_reducible exact Ext.refl _) | (with_reducible assumption) | (with_reducible refine Ext.drew ?_) | (with_reducible refine Ext.drewN ?_ _) | (with_reducible refine Ext.alloc ?_ _) | (with_reducible refine Ext.setCell ?_ (Nat.le_refl _) _) | (with_reducible refine Ext.setCell ?_ (by simp; try omega) _) | (with_reducible refine Ext.trans ?_ (by with_reducible assumption))))⟩

theorem keyE_no {i : Int} {key : Nat} (h : ¬ isForm i) : keyE i key = 3 := by unfold keyE; rw [if_pos h]
theorem keyE_cases {n key : Nat} (h1 : 1 ≤ n) (h2 : n ≤ 14) : (keyE n key = 0 ∧ key ≤ lastKey (frm n)) ∨ (keyE n key = 4 ∧ lastKey (frm n) < key) := by
  unfold keyE
  rw [if_neg (by simpa using isForm_of h1 h2)]
  simp only [Int.toNat_natCast]
  split
  · exact .inr ⟨rfl, by assumption⟩
  · exact .inl ⟨rfl, by omega⟩

set_option maxRecDepth 100000 in
set_option maxHeartbeats 1600000 in
theorem at_no (i : Int) (key : Nat) (hi : ¬ isForm i) (w : World) :
    Calls Tryd.prog 28 #[.int .i64 i, .int .u64 key] w fun e w' => e = .returned (.tuple #[.int .u64 0, .int .i64 0, .int .i64 3]) ∧ Ext w w' := by
  have c81 := Lib.hid (fun W => vfits_no i key hi W)
  generalize frm 0 = f at *
  clear hi
  go_enter Tryd.func28, Tryd.ntmps28
  go_wp2_with (first | (go_at_call 81; refine (c81.out _).mono ?_; rintro e w1 ⟨rfl, hb1⟩))
  go_ret3
  exact ⟨rfl, by (repeat (first | (with_reducible exact Ext.refl _) | (with_reducible assumption) | (with_reducible refine Ext.drew ?_) | (with_reducible refine Ext.drewN ?_ _) | (with_reducible refine Ext.alloc ?_ _) | (with_reducible refine Ext.setCell ?_ (Nat.le_refl _) _) | (with_reducible refine Ext.setCell ?_ (by simp; try omega) _) | (with_reducible refine Ext.trans ?_ (by with_reducible assumption))))⟩

set_option maxRecDepth 100000 in
set_option maxHeartbeats 1600000 in
theorem between_no (i : Int) (key : Nat) (hi : ¬ isForm i) (w : World) :
    Calls Tryd.prog 30 #[.int .i64 i, .int .u64 key] w fun e w' => e = .returned (.tuple #[.int .u64 0, .int .i64 0, .int .i64 3]) ∧ Ext w w' := by
  have c81 := Lib.hid (fun W => vfits_no i key hi W)
  generalize frm 0 = f at *
  clear hi
  go_enter Tryd.func30, Tryd.ntmps30
  go_wp2_with (first | (go_at_call 81; refine (c81.out _).mono ?_; rintro e w1 ⟨rfl, hb1⟩))
  go_ret3
  exact ⟨rfl, by (repeat (first | (with_reducible exact Ext.refl _) | (with_reducible assumption) | (with_reducible refine Ext.drew ?_) | (with_reducible refine Ext.drewN ?_ _) | (with_reducible refine Ext.alloc ?_ _) | (with_reducible refine Ext.setCell ?_ (Nat.le_refl _) _) | (with_reducible refine Ext.setCell ?_ (by simp; try omega) _) | (with_reducible refine Ext.trans ?_ (by with_reducible assumption))))⟩

set_option maxRecDepth 100000 in
set_option maxHeartbeats 1600000 in
/-- value.At. -/
theorem at_any (i : Int) (key : Nat) (hkey : key < 18446744073709551616) (w : World) (hE : Env w) :
    Calls Tryd.prog 28 #[.int .i64 i, .int .u64 key] w fun e w' => e = .returned (.tuple #[.int .u64 ((atV i key).1 : Nat), .int .i64 (atV i key).2.1, .int .i64 (atV i key).2.2]) ∧ Ext w w' := by
  by_cases hi : isForm i
  · obtain ⟨n, rfl, h1, h2⟩ := isForm_nat hi
    have c81 := Lib.hid (fun W (h' : Env W) => vfits_yes n key h1 h2 W h')
    rcases keyE_cases (key := key) h1 h2 with ⟨he, hl⟩ | ⟨he, hl⟩
    · by_cases hz : key = 0 ∧ (frm n).kind ≠ 4
      · have hr : atV n key = (0, 0, 0) := by unfold atV; rw [if_pos (.inr (by simpa using hz)), he]
        rw [hr]
        rw [he] at c81
        have d1 : ((key : Int) == 0) = true := btrue (b := 0) hz.1
        have d2 : (((frm n).kind : Int) != 4) = true := ntrue (b := 4) hz.2
        generalize frm n = f at *
        generalize nfn f.kind = q at *
        clear hr he hz hi
        go_enter Tryd.func28, Tryd.ntmps28
        go_wp2_with (first | (go_at_call 81; refine (c81.out _ (by assumption)).mono ?_; rintro e w1 ⟨rfl, hb1⟩))
        go_ret3
        exact ⟨rfl, by (repeat (first | (with_reducible exact Ext.refl _) | (with_reducible assumption) | (with_reducible refine Ext.drew ?_) | (with_reducible refine Ext.drewN ?_ _) | (with_reducible refine Ext.alloc ?_ _) | (with_reducible refine Ext.setCell ?_ (Nat.le_refl _) _) | (with_reducible refine Ext.setCell ?_ (by simp; try omega) _) | (with_reducible refine Ext.trans ?_ (by with_reducible assumption))))⟩
      · have hr : atV n key = ((number (frm n) 0 key).1, (number (frm n) 0 key).2, 0) := by
          unfold atV
          rw [if_neg (by simp only [Int.toNat_natCast, he, ne_eq, not_true, false_or]; exact hz)]
          simp
        rw [hr]
        rw [he] at c81
        have hok := numOk_0 n key h1 h2 hl (fun hk => Nat.pos_of_ne_zero fun h0 => hz ⟨h0, by omega⟩)
        have cN := Lib.hid (fun W h' => number_any (frm n) 0 key hok hkey W h')
        have hent := fun args w => enters_nfn (frm n).kind args w
        by_cases h0 : key = 0
        · have d1 : ((key : Int) == 0) = true := btrue (b := 0) h0
          have d2 : (((frm n).kind : Int) != 4) = false := nfalse (b := 4) (by omega)
          generalize frm n = f at *
          generalize nfn f.kind = q at *
          generalize number f 0 key = nn at *
          clear hr he hz hi hok h0
          go_enter Tryd.func28, Tryd.ntmps28
          go_wp2_with (first | (go_at_call 81; refine (c81.out _ (by assumption)).mono ?_; rintro e w1 ⟨rfl, hb1⟩; have hE1 := (hE.ext hb1).alloc (.cells #[.int .i64 (f).kind, .int .i64 (f).width, .int .i64 (f).man, .int .i64 (f).bias, .int .u64 (f).top, .int .u64 (f).inf, .int .u64 (f).nan, .func (.func q) #[] #[]] 92)) | (go_at_fn q; refine (cN.out _ hE1).mono ?_; rintro e w6 ⟨rfl, hb6⟩))
          go_ret3
          exact ⟨rfl, by (repeat (first | (with_reducible exact Ext.refl _) | (with_reducible assumption) | (with_reducible refine Ext.drew ?_) | (with_reducible refine Ext.drewN ?_ _) | (with_reducible refine Ext.alloc ?_ _) | (with_reducible refine Ext.setCell ?_ (Nat.le_refl _) _) | (with_reducible refine Ext.setCell ?_ (by simp; try omega) _) | (with_reducible refine Ext.trans ?_ (by with_reducible assumption))))⟩
        · have d1 : ((key : Int) == 0) = false := bfalse (b := 0) h0
          generalize frm n = f at *
          generalize nfn f.kind = q at *
          generalize number f 0 key = nn at *
          clear hr he hz hi hok h0
          go_enter Tryd.func28, Tryd.ntmps28
          go_wp2_with (first | (go_at_call 81; refine (c81.out _ (by assumption)).mono ?_; rintro e w1 ⟨rfl, hb1⟩; have hE1 := (hE.ext hb1).alloc (.cells #[.int .i64 (f).kind, .int .i64 (f).width, .int .i64 (f).man, .int .i64 (f).bias, .int .u64 (f).top, .int .u64 (f).inf, .int .u64 (f).nan, .func (.func q) #[] #[]] 92)) | (go_at_fn q; refine (cN.out _ hE1).mono ?_; rintro e w6 ⟨rfl, hb6⟩))
          go_ret3
          exact ⟨rfl, by (repeat (first | (with_reducible exact Ext.refl _) | (with_reducible assumption) | (with_reducible refine Ext.drew ?_) | (with_reducible refine Ext.drewN ?_ _) | (with_reducible refine Ext.alloc ?_ _) | (with_reducible refine Ext.setCell ?_ (Nat.le_refl _) _) | (with_reducible refine Ext.setCell ?_ (by simp; try omega) _) | (with_reducible refine Ext.trans ?_ (by with_reducible assumption))))⟩
    · have hr : atV n key = (0, 0, 4) := by unfold atV; rw [if_pos (.inl (by omega)), he]
      rw [hr]
      rw [he] at c81
      generalize frm n = f at *
      generalize nfn f.kind = q at *
      clear hr he hl hi
      go_enter Tryd.func28, Tryd.ntmps28
      go_wp2_with (first | (go_at_call 81; refine (c81.out _ (by assumption)).mono ?_; rintro e w1 ⟨rfl, hb1⟩))
      go_ret3
      exact ⟨rfl, by (repeat (first | (with_reducible exact Ext.refl _) | (with_reducible assumption) | (with_reducible refine Ext.drew ?_) | (with_reducible refine Ext.drewN ?_ _) | (with_reducible refine Ext.alloc ?_ _) | (with_reducible refine Ext.setCell ?_ (Nat.le_refl _) _) | (with_reducible refine Ext.setCell ?_ (by simp; try omega) _) | (with_reducible refine Ext.trans ?_ (by with_reducible assumption))))⟩
  · have hr : atV i key = (0, 0, 3) := by unfold atV; rw [keyE_no hi, if_pos (.inl (by decide))]
    rw [hr]
    exact at_no i key hi w

set_option maxRecDepth 100000 in
set_option maxHeartbeats 1600000 in
/-- value.Between. -/
theorem between_any (i : Int) (key : Nat) (w : World) (hE : Env w) :
    Calls Tryd.prog 30 #[.int .i64 i, .int .u64 key] w fun e w' => e = .returned (.tuple #[.int .u64 ((betV i key).1 : Nat), .int .i64 (betV i key).2.1, .int .i64 (betV i key).2.2]) ∧ Ext w w' := by
  by_cases hi : isForm i
  · obtain ⟨n, rfl, h1, h2⟩ := isForm_nat hi
    have c81 := Lib.hid (fun W (h' : Env W) => vfits_yes n key h1 h2 W h')
    obtain ⟨t63, _, _, _⟩ := lastKey_lt n h1 h2
    rcases keyE_cases (key := key) h1 h2 with ⟨he, hl⟩ | ⟨he, hl⟩
    · have hr : betV n key = ((number (frm n) 1 (2 * key + 1)).1, (number (frm n) 1 (2 * key + 1)).2, 0) := by
        unfold betV
        rw [if_neg (by omega)]
        simp
      rw [hr]
      rw [he] at c81
      have hk2 : key < 9223372036854775808 := by omega
      have hok := numOk_1 n key h1 h2 hl
      have cN := Lib.hid (fun W h' => number_any (frm n) 1 (2 * key + 1) hok (by omega) W h')
      have hent := fun args w => enters_nfn (frm n).kind args w
      have hw1 : (((2 * key + 1 : Nat)) : Int) = 2 * (key : Int) + 1 := by omega
      rw [hw1] at cN
      generalize frm n = f at *
      generalize nfn f.kind = q at *
      generalize number f 1 (2 * key + 1) = nn at *
      clear hr he hi hok hw1
      go_enter Tryd.func30, Tryd.ntmps30
      go_wp2_with (first | (go_at_call 81; refine (c81.out _ (by assumption)).mono ?_; rintro e w1 ⟨rfl, hb1⟩; have hE1 := (hE.ext hb1).alloc (.cells #[.int .i64 (f).kind, .int .i64 (f).width, .int .i64 (f).man, .int .i64 (f).bias, .int .u64 (f).top, .int .u64 (f).inf, .int .u64 (f).nan, .func (.func q) #[] #[]] 92)) | (go_at_fn q; refine (cN.out _ hE1).mono ?_; rintro e w6 ⟨rfl, hb6⟩))
      go_ret3
      exact ⟨rfl, by (repeat (first | (with_reducible exact Ext.refl _) | (with_reducible assumption) | (with_reducible refine Ext.drew ?_) | (with_reducible refine Ext.drewN ?_ _) | (with_reducible refine Ext.alloc ?_ _) | (with_reducible refine Ext.setCell ?_ (Nat.le_refl _) _) | (with_reducible refine Ext.setCell ?_ (by simp; try omega) _) | (with_reducible refine Ext.trans ?_ (by with_reducible assumption))))⟩
    · have hr : betV n key = (0, 0, 4) := by unfold betV; rw [if_pos (by omega), he]
      rw [hr]
      rw [he] at c81
      generalize frm n = f at *
      generalize nfn f.kind = q at *
      clear hr he hl hi
      go_enter Tryd.func30, Tryd.ntmps30
      go_wp2_with (first | (go_at_call 81; refine (c81.out _ (by assumption)).mono ?_; rintro e w1 ⟨rfl, hb1⟩))
      go_ret3
      exact ⟨rfl, by (repeat (first | (with_reducible exact Ext.refl _) | (with_reducible assumption) | (with_reducible refine Ext.drew ?_) | (with_reducible refine Ext.drewN ?_ _) | (with_reducible refine Ext.alloc ?_ _) | (with_reducible refine Ext.setCell ?_ (Nat.le_refl _) _) | (with_reducible refine Ext.setCell ?_ (by simp; try omega) _) | (with_reducible refine Ext.trans ?_ (by with_reducible assumption))))⟩
  · have hr : betV i key = (0, 0, 3) := by unfold betV; rw [keyE_no hi, if_pos (by decide)]
    rw [hr]
    exact between_no i key hi w
end Go.Proofs.YtogdiobbjlpmoaaDoor

