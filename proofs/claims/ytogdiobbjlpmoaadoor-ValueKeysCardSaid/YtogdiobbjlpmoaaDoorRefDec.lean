/- The document's Decode. No condition but those written. -/
import Derived.Test.YtogdiobbjlpmoaaDoorRefMag
import Derived.Test.YtogdiobbjlpmoaaDoorRefClass
import Derived.Test.YtogdiobbjlpmoaaDoorDecode
namespace Go.Proofs.YtogdiobbjlpmoaaDoor
open Go Go.RowKit Cal

theorem neg_kind (n p : Nat) (h1 : 1 ≤ n) (h2 : n ≤ 14) (hp : p < 2 ^ (frm n).width) (hc : cls (frm n) p = 1 ∨ cls (frm n) p = 3) (hn : negP (frm n) p = true) : (frm n).kind = 2 := by
  obtain ⟨w4, w64⟩ := frm_width n h1 h2
  unfold cls at hc
  by_cases k2 : (frm n).kind = 2
  · exact k2
  · rw [if_neg (fun h => k2 h.1)] at hc
    split at hc
    · omega
    · split at hc
      · rename_i h
        have hk := h.1
        unfold keyP at hk
        rw [if_pos hn, if_neg k2] at hk
        omega
      · omega

set_option maxRecDepth 100000 in
set_option maxHeartbeats 1600000 in
theorem rdecode_err (i : Int) (p : Nat) (h : fitsE i p ≠ 0) (w : World) :
    Calls Tryd.prog 27 #[.int .i64 i, .int .u64 p] w fun e w' => e = .returned (.tuple #[.agg #[.int .i64 0, .bool false, .int .u64 0, .int .i64 0], .int .i64 (fitsE i p)]) ∧ Ext w w' := by
  have he := fitsE_err i p h
  have c76 := Lib.hid (fun W => rfits_any i p W)
  generalize fitsE i p = er at *
  clear h
  go_enter Tryd.func27, Tryd.ntmps27
  go_wp2_with (first | (go_at_call 76; refine (c76.out _).mono ?_; rintro e w1 ⟨rfl, hb1⟩; have B1 := (Blk.new w 25 _).ext hb1; have cB := B1.cell; have fB := B1.frozen))
  have hx1 : Ext w w1 := ((Ext.refl w).alloc _).trans hb1
  exact bodyPost_ret (v := .tuple #[.agg #[.int .i64 0, .bool false, .int .u64 0, .int .i64 0], .int .i64 er]) (ret_blk Tryd.results27 rfl (load25 (Blk.set4 B1)) rfl) rfl ⟨rfl, by (repeat (first | (with_reducible exact Ext.refl _) | (with_reducible assumption) | (with_reducible refine Ext.drew ?_) | (with_reducible refine Ext.drewN ?_ _) | (with_reducible refine Ext.alloc ?_ _) | (with_reducible refine Ext.setCell ?_ (Nat.le_refl _) _) | (with_reducible refine Ext.setCell ?_ (by simp; try omega) _) | (with_reducible refine Ext.trans ?_ (by with_reducible assumption))))⟩

set_option maxRecDepth 100000 in
set_option maxHeartbeats 1600000 in
theorem rdecode_fin (n p : Nat) (h1 : 1 ≤ n) (h2 : n ≤ 14) (hp : p < 2 ^ (frm n).width) (hc : cls (frm n) p = 2) (w : World) :
    Calls Tryd.prog 27 #[.int .i64 n, .int .u64 p] w fun e w' => e = .returned (.tuple #[.agg #[.int .i64 2, .bool (negP (frm n) p), .int .u64 (((number (frm n) 0 (keyP (frm n) p)).1 : Nat) : Int), .int .i64 (number (frm n) 0 (keyP (frm n) p)).2], .int .i64 0]) ∧ Ext w w' := by
  obtain ⟨w4, w64⟩ := frm_width n h1 h2
  have hp64 : p < 18446744073709551616 := Nat.lt_of_lt_of_le hp (pow_le64 w64)
  have hf0 : fitsE n p = 0 := by unfold fitsE; rw [if_pos (isForm_of h1 h2), if_pos (by simpa using hp)]
  have c76 := Lib.hid (fun W => rfits_any n p W)
  rw [hf0] at c76
  have c77 := Lib.hid (fun W => rof_yes n h1 h2 W)
  have hlast := key_last n p h1 h2 hp (.inl hc)
  have hok := numOk_0 n (keyP (frm n) p) h1 h2 hlast (fun hk => key_pos _ _ hc (by omega))
  have hklt := key_lt (frm n) p w64 hp
  have c80 := Lib.hid (fun W => rmag_any (frm n) (keyP (frm n) p) hok hklt W)
  have c78 := Lib.hid (fun W => rparts_any (frm n) p w64 (by omega) hp W)
  have c79 := Lib.hid (fun W => rclass_any n p h1 h2 hp W)
  rw [hc] at c79
  generalize frm n = f at *
  generalize number f 0 (keyP f p) = nn at *
  generalize keyP f p = key at *
  generalize negP f p = ng at *
  clear hf0 hc hlast hok hp hp64
  go_enter Tryd.func27, Tryd.ntmps27
  go_wp2_with (first
    | (go_at_call 76; refine (c76.out _).mono ?_; rintro e w1 ⟨rfl, hb1⟩; have B1 := (Blk.new w 25 _).ext hb1)
    | (go_at_call 77; refine (c77.out _).mono ?_; rintro e w2 ⟨rfl, hb2⟩; have B2 := B1.ext hb2; have F2 := Blk.new w2 99 #[.int .i64 (f).kind, .int .i64 (f).width, .int .i64 (f).man, .int .i64 (f).bias, .int .u64 (f).top, .int .u64 (f).inf, .int .u64 (f).nan])
    | (go_at_call 78; refine (c78.out _).mono ?_; rintro e w3 ⟨rfl, hb3⟩; have B3 := (B2.alloc _).ext hb3; have F3 := F2.ext hb3)
    | (go_at_call 79; refine (c79.out _).mono ?_; rintro e w4 ⟨rfl, hb4⟩; have B4 := B3.ext hb4; have F4 := F3.ext hb4; have cF := F4.cell; have lF := F4.lt; have lB := B4.lt)
    | (go_at_call 80; refine (c80.out _).mono ?_; rintro e w5 ⟨rfl, hb5⟩; have V5 := (Blk.new w4 25 _).ext hb5; have B5 := (B4.alloc _).ext hb5; have cV := V5.cell; have fV := V5.frozen; have lV := V5.lt; have cB := B5.cell; have fB := B5.frozen; have hne : ¬ w.heap.size = w4.heap.size := Nat.ne_of_lt lB; have hne2 : ¬ w4.heap.size = w.heap.size := fun h => hne h.symm))
  have hx1 : Ext w w1 := ((Ext.refl w).alloc _).trans hb1
  have hx4 : Ext w w4 := (((hx1.trans hb2).alloc _).trans hb3).trans hb4
  have hx5 : Ext w w5 := (hx4.alloc _).trans hb5
  have hs4 : w.heap.size ≤ w4.heap.size := hx4.size
  have B7 := Blk.set4 (a0 := .int .i64 2) (a1 := .bool ng) (a2 := .int .u64 nn.1) (a3 := .int .i64 nn.2) ((B5.far (p := ⟨w4.heap.size, 2, none⟩) hne (.int .u64 nn.1)).far (p := ⟨w4.heap.size, 3, none⟩) hne (.int .i64 nn.2))
  clear cV fV cB fB hx1
  exact bodyPost_ret (v := .tuple #[.agg #[.int .i64 2, .bool ng, .int .u64 nn.1, .int .i64 nn.2], .int .i64 0]) (ret_blk Tryd.results27 rfl (load25 B7) rfl) rfl
    ⟨rfl, ((((((hx5.setCell hs4 _).setCell hs4 _).setCell (Nat.le_refl _) _).setCell (Nat.le_refl _) _).setCell (Nat.le_refl _) _).setCell (Nat.le_refl _) _)⟩

set_option maxRecDepth 100000 in
set_option maxHeartbeats 1600000 in
theorem rdecode_cls (n p c : Nat) (h1 : 1 ≤ n) (h2 : n ≤ 14) (hp : p < 2 ^ (frm n).width) (hc : cls (frm n) p = c) (hcc : c = 1 ∨ c = 3 ∨ c = 4) (w : World) :
    Calls Tryd.prog 27 #[.int .i64 n, .int .u64 p] w fun e w' => e = .returned (.tuple #[.agg #[.int .i64 c, .bool (if c = 4 then false else negP (frm n) p), .int .u64 0, .int .i64 0], .int .i64 0]) ∧ Ext w w' := by
  obtain ⟨w4, w64⟩ := frm_width n h1 h2
  have hp64 : p < 18446744073709551616 := Nat.lt_of_lt_of_le hp (pow_le64 w64)
  have hf0 : fitsE n p = 0 := by unfold fitsE; rw [if_pos (isForm_of h1 h2), if_pos (by simpa using hp)]
  have c76 := Lib.hid (fun W => rfits_any n p W)
  rw [hf0] at c76
  have c77 := Lib.hid (fun W => rof_yes n h1 h2 W)
  have c78 := Lib.hid (fun W => rparts_any (frm n) p w64 (by omega) hp W)
  have c79 := Lib.hid (fun W => rclass_any n p h1 h2 hp W)
  have hnk := neg_kind n p h1 h2 hp
  rw [hc] at c79 hnk
  generalize frm n = f at *
  generalize keyP f p = key at *
  generalize negP f p = ng at *
  have hk : c = 4 ∨ ng = false ∨ (ng = true ∧ ((f.kind : Int) == 2) = true) := by
    by_cases h4 : c = 4
    · exact .inl h4
    · cases ng with
      | false => exact .inr (.inl rfl)
      | true => exact .inr (.inr ⟨rfl, btrue (b := 2) (hnk (by omega) rfl)⟩)
  clear hf0 hc hp hp64 hnk
  rcases hk with rfl | rfl | ⟨rfl, hkk⟩
  · rw [if_pos rfl]
    clear hcc
    go_enter Tryd.func27, Tryd.ntmps27
    go_wp2_with (first
      | (go_at_call 76; refine (c76.out _).mono ?_; rintro e w1 ⟨rfl, hb1⟩; have B1 := (Blk.new w 25 _).ext hb1)
      | (go_at_call 77; refine (c77.out _).mono ?_; rintro e w2 ⟨rfl, hb2⟩; have B2 := B1.ext hb2; have F2 := Blk.new w2 99 #[.int .i64 (f).kind, .int .i64 (f).width, .int .i64 (f).man, .int .i64 (f).bias, .int .u64 (f).top, .int .u64 (f).inf, .int .u64 (f).nan])
      | (go_at_call 78; refine (c78.out _).mono ?_; rintro e w3 ⟨rfl, hb3⟩; have B3 := (B2.alloc _).ext hb3; have F3 := F2.ext hb3)
      | (go_at_call 79; refine (c79.out _).mono ?_; rintro e w4 ⟨rfl, hb4⟩; have B4 := B3.ext hb4; have lB := B4.lt; have cB := B4.cell; have fB := B4.frozen; have F4 := F3.ext hb4; have cF := F4.cell; have lF := F4.lt))
    have hx1 : Ext w w1 := ((Ext.refl w).alloc _).trans hb1
    have hx4 : Ext w w4 := (((hx1.trans hb2).alloc _).trans hb3).trans hb4
    clear cB fB hx1 cF
    exact bodyPost_ret (v := .tuple #[.agg #[.int .i64 4, .bool false, .int .u64 0, .int .i64 0], .int .i64 0]) (ret_blk Tryd.results27 rfl (load25 ((Blk.set4 B4).alloc _)) rfl) rfl ⟨rfl, by (repeat (first | (with_reducible exact Ext.refl _) | (with_reducible assumption) | (with_reducible refine Ext.drew ?_) | (with_reducible refine Ext.drewN ?_ _) | (with_reducible refine Ext.alloc ?_ _) | (with_reducible refine Ext.setCell ?_ (Nat.le_refl _) _) | (with_reducible refine Ext.setCell ?_ (by simp; try omega) _) | (with_reducible refine Ext.trans ?_ (by with_reducible assumption))))⟩
  · rw [show (if c = 4 then false else false) = false from by split <;> rfl]
    rcases hcc with rfl | rfl | rfl
    · go_enter Tryd.func27, Tryd.ntmps27
      go_wp2_with (first
        | (go_at_call 76; refine (c76.out _).mono ?_; rintro e w1 ⟨rfl, hb1⟩; have B1 := (Blk.new w 25 _).ext hb1)
        | (go_at_call 77; refine (c77.out _).mono ?_; rintro e w2 ⟨rfl, hb2⟩; have B2 := B1.ext hb2; have F2 := Blk.new w2 99 #[.int .i64 (f).kind, .int .i64 (f).width, .int .i64 (f).man, .int .i64 (f).bias, .int .u64 (f).top, .int .u64 (f).inf, .int .u64 (f).nan])
        | (go_at_call 78; refine (c78.out _).mono ?_; rintro e w3 ⟨rfl, hb3⟩; have B3 := (B2.alloc _).ext hb3; have F3 := F2.ext hb3)
        | (go_at_call 79; refine (c79.out _).mono ?_; rintro e w4 ⟨rfl, hb4⟩; have B4 := B3.ext hb4; have lB := B4.lt; have cB := B4.cell; have fB := B4.frozen; have F4 := F3.ext hb4; have cF := F4.cell; have lF := F4.lt))
      have hx1 : Ext w w1 := ((Ext.refl w).alloc _).trans hb1
      have hx4 : Ext w w4 := (((hx1.trans hb2).alloc _).trans hb3).trans hb4
      clear cB fB hx1 cF
      exact bodyPost_ret (v := .tuple #[.agg #[.int .i64 1, .bool false, .int .u64 0, .int .i64 0], .int .i64 0]) (ret_blk Tryd.results27 rfl (load25 ((Blk.set4 B4).alloc _)) rfl) rfl ⟨rfl, by (repeat (first | (with_reducible exact Ext.refl _) | (with_reducible assumption) | (with_reducible refine Ext.drew ?_) | (with_reducible refine Ext.drewN ?_ _) | (with_reducible refine Ext.alloc ?_ _) | (with_reducible refine Ext.setCell ?_ (Nat.le_refl _) _) | (with_reducible refine Ext.setCell ?_ (by simp; try omega) _) | (with_reducible refine Ext.trans ?_ (by with_reducible assumption))))⟩
    · go_enter Tryd.func27, Tryd.ntmps27
      go_wp2_with (first
        | (go_at_call 76; refine (c76.out _).mono ?_; rintro e w1 ⟨rfl, hb1⟩; have B1 := (Blk.new w 25 _).ext hb1)
        | (go_at_call 77; refine (c77.out _).mono ?_; rintro e w2 ⟨rfl, hb2⟩; have B2 := B1.ext hb2; have F2 := Blk.new w2 99 #[.int .i64 (f).kind, .int .i64 (f).width, .int .i64 (f).man, .int .i64 (f).bias, .int .u64 (f).top, .int .u64 (f).inf, .int .u64 (f).nan])
        | (go_at_call 78; refine (c78.out _).mono ?_; rintro e w3 ⟨rfl, hb3⟩; have B3 := (B2.alloc _).ext hb3; have F3 := F2.ext hb3)
        | (go_at_call 79; refine (c79.out _).mono ?_; rintro e w4 ⟨rfl, hb4⟩; have B4 := B3.ext hb4; have lB := B4.lt; have cB := B4.cell; have fB := B4.frozen; have F4 := F3.ext hb4; have cF := F4.cell; have lF := F4.lt))
      have hx1 : Ext w w1 := ((Ext.refl w).alloc _).trans hb1
      have hx4 : Ext w w4 := (((hx1.trans hb2).alloc _).trans hb3).trans hb4
      clear cB fB hx1 cF
      exact bodyPost_ret (v := .tuple #[.agg #[.int .i64 3, .bool false, .int .u64 0, .int .i64 0], .int .i64 0]) (ret_blk Tryd.results27 rfl (load25 ((Blk.set4 B4).alloc _)) rfl) rfl ⟨rfl, by (repeat (first | (with_reducible exact Ext.refl _) | (with_reducible assumption) | (with_reducible refine Ext.drew ?_) | (with_reducible refine Ext.drewN ?_ _) | (with_reducible refine Ext.alloc ?_ _) | (with_reducible refine Ext.setCell ?_ (Nat.le_refl _) _) | (with_reducible refine Ext.setCell ?_ (by simp; try omega) _) | (with_reducible refine Ext.trans ?_ (by with_reducible assumption))))⟩
    · go_enter Tryd.func27, Tryd.ntmps27
      go_wp2_with (first
        | (go_at_call 76; refine (c76.out _).mono ?_; rintro e w1 ⟨rfl, hb1⟩; have B1 := (Blk.new w 25 _).ext hb1)
        | (go_at_call 77; refine (c77.out _).mono ?_; rintro e w2 ⟨rfl, hb2⟩; have B2 := B1.ext hb2; have F2 := Blk.new w2 99 #[.int .i64 (f).kind, .int .i64 (f).width, .int .i64 (f).man, .int .i64 (f).bias, .int .u64 (f).top, .int .u64 (f).inf, .int .u64 (f).nan])
        | (go_at_call 78; refine (c78.out _).mono ?_; rintro e w3 ⟨rfl, hb3⟩; have B3 := (B2.alloc _).ext hb3; have F3 := F2.ext hb3)
        | (go_at_call 79; refine (c79.out _).mono ?_; rintro e w4 ⟨rfl, hb4⟩; have B4 := B3.ext hb4; have lB := B4.lt; have cB := B4.cell; have fB := B4.frozen; have F4 := F3.ext hb4; have cF := F4.cell; have lF := F4.lt))
      have hx1 : Ext w w1 := ((Ext.refl w).alloc _).trans hb1
      have hx4 : Ext w w4 := (((hx1.trans hb2).alloc _).trans hb3).trans hb4
      clear cB fB hx1 cF
      exact bodyPost_ret (v := .tuple #[.agg #[.int .i64 4, .bool false, .int .u64 0, .int .i64 0], .int .i64 0]) (ret_blk Tryd.results27 rfl (load25 ((Blk.set4 B4).alloc _)) rfl) rfl ⟨rfl, by (repeat (first | (with_reducible exact Ext.refl _) | (with_reducible assumption) | (with_reducible refine Ext.drew ?_) | (with_reducible refine Ext.drewN ?_ _) | (with_reducible refine Ext.alloc ?_ _) | (with_reducible refine Ext.setCell ?_ (Nat.le_refl _) _) | (with_reducible refine Ext.setCell ?_ (by simp; try omega) _) | (with_reducible refine Ext.trans ?_ (by with_reducible assumption))))⟩
  · rcases hcc with rfl | rfl | rfl
    · rw [if_neg (by decide)]
      go_enter Tryd.func27, Tryd.ntmps27
      go_wp2_with (first
        | (go_at_call 76; refine (c76.out _).mono ?_; rintro e w1 ⟨rfl, hb1⟩; have B1 := (Blk.new w 25 _).ext hb1)
        | (go_at_call 77; refine (c77.out _).mono ?_; rintro e w2 ⟨rfl, hb2⟩; have B2 := B1.ext hb2; have F2 := Blk.new w2 99 #[.int .i64 (f).kind, .int .i64 (f).width, .int .i64 (f).man, .int .i64 (f).bias, .int .u64 (f).top, .int .u64 (f).inf, .int .u64 (f).nan])
        | (go_at_call 78; refine (c78.out _).mono ?_; rintro e w3 ⟨rfl, hb3⟩; have B3 := (B2.alloc _).ext hb3; have F3 := F2.ext hb3)
        | (go_at_call 79; refine (c79.out _).mono ?_; rintro e w4 ⟨rfl, hb4⟩; have B4 := B3.ext hb4; have lB := B4.lt; have cB := B4.cell; have fB := B4.frozen; have F4 := F3.ext hb4; have cF := F4.cell; have lF := F4.lt))
      have hx1 : Ext w w1 := ((Ext.refl w).alloc _).trans hb1
      have hx4 : Ext w w4 := (((hx1.trans hb2).alloc _).trans hb3).trans hb4
      clear cB fB hx1 cF
      exact bodyPost_ret (v := .tuple #[.agg #[.int .i64 1, .bool true, .int .u64 0, .int .i64 0], .int .i64 0]) (ret_blk Tryd.results27 rfl (load25 ((Blk.set4 B4).alloc _)) rfl) rfl ⟨rfl, by (repeat (first | (with_reducible exact Ext.refl _) | (with_reducible assumption) | (with_reducible refine Ext.drew ?_) | (with_reducible refine Ext.drewN ?_ _) | (with_reducible refine Ext.alloc ?_ _) | (with_reducible refine Ext.setCell ?_ (Nat.le_refl _) _) | (with_reducible refine Ext.setCell ?_ (by simp; try omega) _) | (with_reducible refine Ext.trans ?_ (by with_reducible assumption))))⟩
    · rw [if_neg (by decide)]
      go_enter Tryd.func27, Tryd.ntmps27
      go_wp2_with (first
        | (go_at_call 76; refine (c76.out _).mono ?_; rintro e w1 ⟨rfl, hb1⟩; have B1 := (Blk.new w 25 _).ext hb1)
        | (go_at_call 77; refine (c77.out _).mono ?_; rintro e w2 ⟨rfl, hb2⟩; have B2 := B1.ext hb2; have F2 := Blk.new w2 99 #[.int .i64 (f).kind, .int .i64 (f).width, .int .i64 (f).man, .int .i64 (f).bias, .int .u64 (f).top, .int .u64 (f).inf, .int .u64 (f).nan])
        | (go_at_call 78; refine (c78.out _).mono ?_; rintro e w3 ⟨rfl, hb3⟩; have B3 := (B2.alloc _).ext hb3; have F3 := F2.ext hb3)
        | (go_at_call 79; refine (c79.out _).mono ?_; rintro e w4 ⟨rfl, hb4⟩; have B4 := B3.ext hb4; have lB := B4.lt; have cB := B4.cell; have fB := B4.frozen; have F4 := F3.ext hb4; have cF := F4.cell; have lF := F4.lt))
      have hx1 : Ext w w1 := ((Ext.refl w).alloc _).trans hb1
      have hx4 : Ext w w4 := (((hx1.trans hb2).alloc _).trans hb3).trans hb4
      clear cB fB hx1 cF
      exact bodyPost_ret (v := .tuple #[.agg #[.int .i64 3, .bool true, .int .u64 0, .int .i64 0], .int .i64 0]) (ret_blk Tryd.results27 rfl (load25 ((Blk.set4 B4).alloc _)) rfl) rfl ⟨rfl, by (repeat (first | (with_reducible exact Ext.refl _) | (with_reducible assumption) | (with_reducible refine Ext.drew ?_) | (with_reducible refine Ext.drewN ?_ _) | (with_reducible refine Ext.alloc ?_ _) | (with_reducible refine Ext.setCell ?_ (Nat.le_refl _) _) | (with_reducible refine Ext.setCell ?_ (by simp; try omega) _) | (with_reducible refine Ext.trans ?_ (by with_reducible assumption))))⟩
    · rw [if_pos rfl]
      go_enter Tryd.func27, Tryd.ntmps27
      go_wp2_with (first
        | (go_at_call 76; refine (c76.out _).mono ?_; rintro e w1 ⟨rfl, hb1⟩; have B1 := (Blk.new w 25 _).ext hb1)
        | (go_at_call 77; refine (c77.out _).mono ?_; rintro e w2 ⟨rfl, hb2⟩; have B2 := B1.ext hb2; have F2 := Blk.new w2 99 #[.int .i64 (f).kind, .int .i64 (f).width, .int .i64 (f).man, .int .i64 (f).bias, .int .u64 (f).top, .int .u64 (f).inf, .int .u64 (f).nan])
        | (go_at_call 78; refine (c78.out _).mono ?_; rintro e w3 ⟨rfl, hb3⟩; have B3 := (B2.alloc _).ext hb3; have F3 := F2.ext hb3)
        | (go_at_call 79; refine (c79.out _).mono ?_; rintro e w4 ⟨rfl, hb4⟩; have B4 := B3.ext hb4; have lB := B4.lt; have cB := B4.cell; have fB := B4.frozen; have F4 := F3.ext hb4; have cF := F4.cell; have lF := F4.lt))
      have hx1 : Ext w w1 := ((Ext.refl w).alloc _).trans hb1
      have hx4 : Ext w w4 := (((hx1.trans hb2).alloc _).trans hb3).trans hb4
      clear cB fB hx1 cF
      exact bodyPost_ret (v := .tuple #[.agg #[.int .i64 4, .bool false, .int .u64 0, .int .i64 0], .int .i64 0]) (ret_blk Tryd.results27 rfl (load25 ((Blk.set4 B4).alloc _)) rfl) rfl ⟨rfl, by (repeat (first | (with_reducible exact Ext.refl _) | (with_reducible assumption) | (with_reducible refine Ext.drew ?_) | (with_reducible refine Ext.drewN ?_ _) | (with_reducible refine Ext.alloc ?_ _) | (with_reducible refine Ext.setCell ?_ (Nat.le_refl _) _) | (with_reducible refine Ext.setCell ?_ (by simp; try omega) _) | (with_reducible refine Ext.trans ?_ (by with_reducible assumption))))⟩

/-- The document's Decode. -/
theorem rdecode_any (i : Int) (p : Nat) (_hp : p < 18446744073709551616) (w : World) :
    Calls Tryd.prog 27 #[.int .i64 i, .int .u64 p] w fun e w' =>
      e = .returned (.tuple #[.agg #[.int .i64 ((means i p).cls : Nat), .bool (means i p).neg, .int .u64 ((means i p).m : Nat), .int .i64 (means i p).e], .int .i64 (fitsE i p)]) ∧ Ext w w' := by
  by_cases h : fitsE i p = 0
  · obtain ⟨n, rfl, h1, h2, hpn⟩ := fits_zero i p h
    have hm : means n p = decodeF (frm n) p := by unfold means; rw [if_pos h]; simp
    rw [hm, h]
    unfold decodeF
    rcases cls_range (frm n) p with hc | hc | hc | hc
    · have := rdecode_cls n p _ h1 h2 hpn hc (by omega) w
      rw [if_neg (by omega)] at this
      rw [if_neg (by omega), if_neg (by omega), hc]
      exact this
    · rw [if_pos hc]
      exact rdecode_fin n p h1 h2 hpn hc w
    · have := rdecode_cls n p _ h1 h2 hpn hc (by omega) w
      rw [if_neg (by omega)] at this
      rw [if_neg (by omega), if_neg (by omega), hc]
      exact this
    · have := rdecode_cls n p _ h1 h2 hpn hc (by omega) w
      rw [if_pos rfl] at this
      rw [if_neg (by omega), if_pos hc]
      exact this
  · rw [fits_ne i p h]
    exact rdecode_err i p h w
end Go.Proofs.YtogdiobbjlpmoaaDoor

