/- What value.Decode answers, of whatever form and pattern. No condition but that the package variables hold what they are laid with. -/
import Derived.Test.YtogdiobbjlpmoaaDoorKeys
import Derived.Deep.RegionWith
import Derived.Laws.ResultCell
namespace Go.Proofs.YtogdiobbjlpmoaaDoor
open Go Go.RowKit Cal

theorem ret_blk {P : Program} {fn : Func} {p u : Tmp} {ty : TypeId} (h : fn.results = #[.cell p ty, .tmp u]) {tmps : Array Value} {w : World} {b : Nat} {v x : Value}
    (hp : tmps.getD p undef = .pointer (some ⟨b, 0, none⟩)) (hl : (loadVar ty ⟨b, 0, none⟩).run P w = .ok v w) (hu : tmps.getD u undef = x) : (results fn tmps).run P w = .ok (.tuple #[v, x]) w := by
  have ha : (asAddr (.pointer (some ⟨b, 0, none⟩))).run P w = .ok ⟨b, 0, none⟩ w := rfl
  rw [results_cell_tmp h, hp, hu, ha]
  simp only [Result.andThen]
  rw [hl]

theorem load25 {w : World} {b : Nat} {a0 a1 a2 a3 : Value} (h : Blk w b 25 #[a0, a1, a2, a3]) : (loadVar 25 ⟨b, 0, none⟩).run Tryd.prog w = .ok (.agg #[a0, a1, a2, a3]) w := by
  have hc := h.cell
  simp [go_sem, hc]

theorem fitsE_err (i : Int) (p : Nat) (h : fitsE i p ≠ 0) : ((fitsE i p : Int) != 0) = true := by rw [bne_iff_ne]; exact h
theorem fits_zero (i : Int) (p : Nat) (h : fitsE i p = 0) : ∃ n : Nat, i = n ∧ 1 ≤ n ∧ n ≤ 14 ∧ p < 2 ^ (frm n).width := by
  unfold fitsE at h
  split at h
  · rename_i hi
    obtain ⟨n, rfl, h1, h2⟩ := isForm_nat hi
    refine ⟨n, rfl, h1, h2, ?_⟩
    split at h
    · rename_i hp
      simpa using hp
    · omega
  · omega
theorem fits_ne (i : Int) (p : Nat) (h : fitsE i p ≠ 0) : means i p = ⟨0, false, 0, 0⟩ := by unfold means; rw [if_neg h]

set_option maxHeartbeats 800000 in
theorem decode_err (i : Int) (p : Nat) (hp : p < 18446744073709551616) (h : fitsE i p ≠ 0) (w : World) (hE : Env w) :
    Calls Tryd.prog 26 #[.int .i64 i, .int .u64 p] w fun e w' => e = .returned (.tuple #[.agg #[.int .i64 0, .bool false, .int .u64 0, .int .i64 0], .int .i64 (fitsE i p)]) ∧ Ext w w' := by
  have he := fitsE_err i p h
  have c72 := Lib.hid (fun W h' => fits_any i p hp W h')
  generalize fitsE i p = er at *
  have hEA := fun o => hE.alloc o
  go_enter Tryd.func26, Tryd.ntmps26
  go_wp2_with (first | (go_at_call 72; refine (c72.out _ (hEA _)).mono ?_; rintro e w1 ⟨rfl, hb1⟩; have hs1 := hb1.size; obtain ⟨hc1, hf1⟩ := ecell hb1))
  exact bodyPost_ret (v := .tuple #[.agg #[.int .i64 0, .bool false, .int .u64 0, .int .i64 0], .int .i64 er]) (by simp [results, Tryd.results26, go_sem, hc1]) rfl ⟨rfl, by (repeat (first | (with_reducible exact Ext.refl _) | (with_reducible assumption) | (with_reducible refine Ext.drew ?_) | (with_reducible refine Ext.drewN ?_ _) | (with_reducible refine Ext.alloc ?_ _) | (with_reducible refine Ext.setCell ?_ (Nat.le_refl _) _) | (with_reducible refine Ext.setCell ?_ (by simp; try omega) _) | (with_reducible refine Ext.trans ?_ (by with_reducible assumption))))⟩

set_option maxRecDepth 100000 in
set_option maxHeartbeats 1600000 in
theorem decode_fin (n p : Nat) (h1 : 1 ≤ n) (h2 : n ≤ 14) (hp : p < 2 ^ (frm n).width) (hc : cls (frm n) p = 2) (w : World) (hE : Env w) :
    Calls Tryd.prog 26 #[.int .i64 n, .int .u64 p] w fun e w' => e = .returned (.tuple #[.agg #[.int .i64 2, .bool (negP (frm n) p), .int .u64 (((number (frm n) 0 (keyP (frm n) p)).1 : Nat) : Int), .int .i64 (number (frm n) 0 (keyP (frm n) p)).2], .int .i64 0]) ∧ Ext w w' := by
  obtain ⟨w4, w64⟩ := frm_width n h1 h2
  have hp64 : p < 18446744073709551616 := Nat.lt_of_lt_of_le hp (pow_le64 w64)
  have hf0 : fitsE n p = 0 := by unfold fitsE; rw [if_pos (isForm_of h1 h2), if_pos (by simpa using hp)]
  have c72 := Lib.hid (fun W h' => fits_any n p hp64 W h')
  rw [hf0] at c72
  have c73 := Lib.hid (fun W (h' : Env W) => of_yes n W h' h1 h2)
  have hlast := key_last n p h1 h2 hp (.inl hc)
  have hok := numOk_0 n (keyP (frm n) p) h1 h2 hlast (fun hk => key_pos _ _ hc (by omega))
  have hklt := key_lt (frm n) p w64 hp
  have cN := Lib.hid (fun W h' => number_any (frm n) 0 (keyP (frm n) p) hok hklt W h')
  have c74 := Lib.hid (fun W g => parts_any (frm n) p g w64 (by omega) hp W)
  have c75 := Lib.hid (fun W g => class_any (frm n) p (keyP (frm n) p) g W)
  rw [← cls_eq, hc] at c75
  generalize frm n = f at *
  have hent := fun args w => enters_nfn f.kind args w
  generalize nfn f.kind = q at *
  generalize number f 0 (keyP f p) = nn at *
  generalize keyP f p = key at *
  generalize negP f p = ng at *
  clear hf0 hc hlast hok
  have hEA := fun o => hE.alloc o
  have hz : 3 < w.heap.size := hE.size
  go_enter Tryd.func26, Tryd.ntmps26
  go_wp2_with (first
    | (go_at_call 72; refine (c72.out _ (hEA _)).mono ?_; rintro e w1 ⟨rfl, hb1⟩; have hE1 := (hEA _).ext hb1; have B1 := (Blk.new w 25 _).ext hb1)
    | (go_at_call 73; refine (c73.out _ hE1).mono ?_; rintro e w2 ⟨rfl, hb2⟩; have hE2 := hE1.ext hb2; have B2 := B1.ext hb2)
    | (go_at_call 74; refine (c74.out _ _).mono ?_; rintro e w3 ⟨rfl, hb3⟩; have hE3 := (hE2.alloc _).ext hb3; have B3 := (B2.alloc _).ext hb3; have S3 := (Blk.new w2 92 _).ext hb3; have cS3 := S3.cell)
    | (go_at_call 75; refine (c75.out _ _).mono ?_; rintro e w5 ⟨rfl, hb5⟩; have hE5 := hE3.ext hb5; have B5 := B3.ext hb5; have S5 := S3.ext hb5; clear cS3; have cB := B5.cell; have fB := B5.frozen; have cS := S5.cell; have hne : ¬ w.heap.size = w2.heap.size := Nat.ne_of_lt B2.lt; have hne2 : ¬ w2.heap.size = w.heap.size := fun h => hne h.symm)
    | (go_at_fn q; refine (cN.out _ ((hE5.set_ hz _).set_ hz _)).mono ?_; rintro e w6 ⟨rfl, hb6⟩; have B6 := ((B5.set_ 0 _).set_ 1 _).ext hb6; have cB6 := B6.cell; have fB6 := B6.frozen))
  have hx1 : Ext w w1 := ((Ext.refl w).alloc _).trans hb1
  have hx5 : Ext w w5 := (((hx1.trans hb2).alloc _).trans hb3).trans hb5
  have hx6 : Ext w w6 := ((hx5.setCell (Nat.le_refl _) _).setCell (Nat.le_refl _) _).trans hb6
  have B7 := (((((B6.set_ 2 (.int .u64 nn.1)).set_ 3 (.int .i64 nn.2)).set_ 0 (.int .i64 2)).set_ 1 (.bool ng)).set_ 2 (.int .u64 nn.1)).set_ 3 (.int .i64 nn.2)
  clear hx1 hx5 cB fB cS
  exact bodyPost_ret (v := .tuple #[.agg #[.int .i64 2, .bool ng, .int .u64 nn.1, .int .i64 nn.2], .int .i64 0]) (ret_blk Tryd.results26 rfl (load25 B7) rfl) rfl ⟨rfl, by (repeat (first | (with_reducible exact Ext.refl _) | (with_reducible assumption) | (with_reducible refine Ext.drew ?_) | (with_reducible refine Ext.drewN ?_ _) | (with_reducible refine Ext.alloc ?_ _) | (with_reducible refine Ext.setCell ?_ (Nat.le_refl _) _) | (with_reducible refine Ext.setCell ?_ (by simp; try omega) _) | (with_reducible refine Ext.trans ?_ (by with_reducible assumption))))⟩

set_option maxRecDepth 100000 in
set_option maxHeartbeats 1600000 in
theorem decode_cls (n p c : Nat) (h1 : 1 ≤ n) (h2 : n ≤ 14) (hp : p < 2 ^ (frm n).width) (hc : cls (frm n) p = c) (w : World) (hE : Env w) :
    (c = 1 ∨ c = 3 → Calls Tryd.prog 26 #[.int .i64 n, .int .u64 p] w fun e w' => e = .returned (.tuple #[.agg #[.int .i64 c, .bool (negP (frm n) p), .int .u64 0, .int .i64 0], .int .i64 0]) ∧ Ext w w') ∧
    (c = 4 → Calls Tryd.prog 26 #[.int .i64 n, .int .u64 p] w fun e w' => e = .returned (.tuple #[.agg #[.int .i64 4, .bool false, .int .u64 0, .int .i64 0], .int .i64 0]) ∧ Ext w w') := by
  obtain ⟨w4, w64⟩ := frm_width n h1 h2
  have hp64 : p < 18446744073709551616 := Nat.lt_of_lt_of_le hp (pow_le64 w64)
  have hf0 : fitsE n p = 0 := by unfold fitsE; rw [if_pos (isForm_of h1 h2), if_pos (by simpa using hp)]
  have c72 := Lib.hid (fun W h' => fits_any n p hp64 W h')
  rw [hf0] at c72
  have c73 := Lib.hid (fun W (h' : Env W) => of_yes n W h' h1 h2)
  have c74 := Lib.hid (fun W g => parts_any (frm n) p g w64 (by omega) hp W)
  have c75 := Lib.hid (fun W g => class_any (frm n) p (keyP (frm n) p) g W)
  rw [← cls_eq, hc] at c75
  generalize frm n = f at *
  generalize nfn f.kind = q at *
  generalize keyP f p = key at *
  generalize negP f p = ng at *
  clear hf0 hc
  have hEA := fun o => hE.alloc o
  have hz : 3 < w.heap.size := hE.size
  refine ⟨fun hcc => ?_, fun hcc => ?_⟩
  · rcases hcc with rfl | rfl
    all_goals
      go_enter Tryd.func26, Tryd.ntmps26
      go_wp2_with (first
        | (go_at_call 72; refine (c72.out _ (hEA _)).mono ?_; rintro e w1 ⟨rfl, hb1⟩; have hE1 := (hEA _).ext hb1; have B1 := (Blk.new w 25 _).ext hb1)
        | (go_at_call 73; refine (c73.out _ hE1).mono ?_; rintro e w2 ⟨rfl, hb2⟩; have hE2 := hE1.ext hb2; have B2 := B1.ext hb2)
        | (go_at_call 74; refine (c74.out _ _).mono ?_; rintro e w3 ⟨rfl, hb3⟩; have hE3 := (hE2.alloc _).ext hb3; have B3 := (B2.alloc _).ext hb3; have S3 := (Blk.new w2 92 _).ext hb3; have cS3 := S3.cell)
        | (go_at_call 75; refine (c75.out _ _).mono ?_; rintro e w5 ⟨rfl, hb5⟩; have B5 := B3.ext hb5; clear cS3; have cB := B5.cell; have fB := B5.frozen))
      have hx1 : Ext w w1 := ((Ext.refl w).alloc _).trans hb1
      have hx5 : Ext w w5 := (((hx1.trans hb2).alloc _).trans hb3).trans hb5
      clear hx1 cB fB
    · have B7 := ((((B5.set_ 0 (.int .i64 1)).set_ 1 (.bool ng)).set_ 0 (.int .i64 1)).set_ 1 (.bool ng)).set_ 2 (.int .u64 0) |>.set_ 3 (.int .i64 0)
      exact bodyPost_ret (v := .tuple #[.agg #[.int .i64 1, .bool ng, .int .u64 0, .int .i64 0], .int .i64 0]) (ret_blk Tryd.results26 rfl (load25 B7) rfl) rfl ⟨rfl, by (repeat (first | (with_reducible exact Ext.refl _) | (with_reducible assumption) | (with_reducible refine Ext.drew ?_) | (with_reducible refine Ext.drewN ?_ _) | (with_reducible refine Ext.alloc ?_ _) | (with_reducible refine Ext.setCell ?_ (Nat.le_refl _) _) | (with_reducible refine Ext.setCell ?_ (by simp; try omega) _) | (with_reducible refine Ext.trans ?_ (by with_reducible assumption))))⟩
    · have B7 := ((((B5.set_ 0 (.int .i64 3)).set_ 1 (.bool ng)).set_ 0 (.int .i64 3)).set_ 1 (.bool ng)).set_ 2 (.int .u64 0) |>.set_ 3 (.int .i64 0)
      exact bodyPost_ret (v := .tuple #[.agg #[.int .i64 3, .bool ng, .int .u64 0, .int .i64 0], .int .i64 0]) (ret_blk Tryd.results26 rfl (load25 B7) rfl) rfl ⟨rfl, by (repeat (first | (with_reducible exact Ext.refl _) | (with_reducible assumption) | (with_reducible refine Ext.drew ?_) | (with_reducible refine Ext.drewN ?_ _) | (with_reducible refine Ext.alloc ?_ _) | (with_reducible refine Ext.setCell ?_ (Nat.le_refl _) _) | (with_reducible refine Ext.setCell ?_ (by simp; try omega) _) | (with_reducible refine Ext.trans ?_ (by with_reducible assumption))))⟩
  · subst hcc
    go_enter Tryd.func26, Tryd.ntmps26
    go_wp2_with (first
      | (go_at_call 72; refine (c72.out _ (hEA _)).mono ?_; rintro e w1 ⟨rfl, hb1⟩; have hE1 := (hEA _).ext hb1; have B1 := (Blk.new w 25 _).ext hb1)
      | (go_at_call 73; refine (c73.out _ hE1).mono ?_; rintro e w2 ⟨rfl, hb2⟩; have hE2 := hE1.ext hb2; have B2 := B1.ext hb2)
      | (go_at_call 74; refine (c74.out _ _).mono ?_; rintro e w3 ⟨rfl, hb3⟩; have hE3 := (hE2.alloc _).ext hb3; have B3 := (B2.alloc _).ext hb3; have S3 := (Blk.new w2 92 _).ext hb3; have cS3 := S3.cell)
      | (go_at_call 75; refine (c75.out _ _).mono ?_; rintro e w5 ⟨rfl, hb5⟩; have B5 := B3.ext hb5; clear cS3; have cB := B5.cell; have fB := B5.frozen))
    have hx1 : Ext w w1 := ((Ext.refl w).alloc _).trans hb1
    have hx5 : Ext w w5 := (((hx1.trans hb2).alloc _).trans hb3).trans hb5
    clear hx1 cB fB
    have B7 := ((((B5.set_ 0 (.int .i64 4))).set_ 0 (.int .i64 4)).set_ 1 (.bool false)).set_ 2 (.int .u64 0) |>.set_ 3 (.int .i64 0)
    exact bodyPost_ret (v := .tuple #[.agg #[.int .i64 4, .bool false, .int .u64 0, .int .i64 0], .int .i64 0]) (ret_blk Tryd.results26 rfl (load25 B7) rfl) rfl ⟨rfl, by (repeat (first | (with_reducible exact Ext.refl _) | (with_reducible assumption) | (with_reducible refine Ext.drew ?_) | (with_reducible refine Ext.drewN ?_ _) | (with_reducible refine Ext.alloc ?_ _) | (with_reducible refine Ext.setCell ?_ (Nat.le_refl _) _) | (with_reducible refine Ext.setCell ?_ (by simp; try omega) _) | (with_reducible refine Ext.trans ?_ (by with_reducible assumption))))⟩

theorem cls_range (f : Frm) (p : Nat) : cls f p = 1 ∨ cls f p = 2 ∨ cls f p = 3 ∨ cls f p = 4 := by
  unfold cls
  split
  · omega
  · split
    · omega
    · split <;> omega

/-- value.Decode. -/
theorem decode_any (i : Int) (p : Nat) (hp : p < 18446744073709551616) (w : World) (hE : Env w) :
    Calls Tryd.prog 26 #[.int .i64 i, .int .u64 p] w fun e w' =>
      e = .returned (.tuple #[.agg #[.int .i64 ((means i p).cls : Nat), .bool (means i p).neg, .int .u64 ((means i p).m : Nat), .int .i64 (means i p).e], .int .i64 (fitsE i p)]) ∧ Ext w w' := by
  by_cases h : fitsE i p = 0
  · obtain ⟨n, rfl, h1, h2, hpn⟩ := fits_zero i p h
    have hm : means n p = decodeF (frm n) p := by unfold means; rw [if_pos h]; simp
    rw [hm, h]
    unfold decodeF
    obtain ⟨ha, hb⟩ := decode_cls n p _ h1 h2 hpn rfl w hE
    rcases cls_range (frm n) p with hc | hc | hc | hc
    · rw [if_neg (by omega), if_neg (by omega)]
      exact ha (by omega)
    · rw [if_pos hc]
      exact decode_fin n p h1 h2 hpn hc w hE
    · rw [if_neg (by omega), if_neg (by omega)]
      exact ha (by omega)
    · rw [if_neg (by omega), if_pos hc]
      exact hb hc
  · rw [fits_ne i p h]
    exact decode_err i p hp h w hE
end Go.Proofs.YtogdiobbjlpmoaaDoor

