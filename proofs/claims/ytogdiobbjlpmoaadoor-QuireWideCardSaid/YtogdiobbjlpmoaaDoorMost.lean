/- What value.Most and value.Pattern answer. No condition but that the package variables hold what they are laid with. -/
import Derived.Test.YtogdiobbjlpmoaaDoorKey
namespace Go.Proofs.YtogdiobbjlpmoaaDoor
open Go Go.RowKit Cal

set_option maxRecDepth 100000 in
set_option maxHeartbeats 1600000 in
/-- value.Most. -/
theorem most_any (i : Int) (neg : Bool) (w : World) (hE : Env w) :
    Calls Tryd.prog 35 #[.int .i64 i, .bool neg] w fun e w' => e = .returned (.tuple #[.int .u64 ((mostV i neg).1 : Nat), .int .i64 (mostV i neg).2]) ∧ Ext w w' := by
  by_cases hi : isForm i
  · obtain ⟨n, rfl, h1, h2⟩ := isForm_nat hi
    obtain ⟨t63, _, _, _⟩ := lastKey_lt n h1 h2
    have htop : (frm n).top < 9223372036854775808 := by have := lastKey_lt n h1 h2; omega
    have c73 := Lib.hid (fun W (h' : Env W) => of_yes n W h' h1 h2)
    cases neg with
    | false =>
      have hr : mostV n false = ((frm n).top, 0) := by unfold mostV; simp [hi]
      rw [hr]
      clear hr hi t63
      generalize frm n = f at *
      generalize nfn f.kind = q at *
      go_enter Tryd.func35, Tryd.ntmps35
      go_wp2_with (first | (go_at_call 73; refine (c73.out _ (by assumption)).mono ?_; rintro e w1 ⟨rfl, hb1⟩))
      go_ret2
      exact ⟨rfl, by (repeat (first | (with_reducible exact Ext.refl _) | (with_reducible assumption) | (with_reducible refine Ext.drew ?_) | (with_reducible refine Ext.drewN ?_ _) | (with_reducible refine Ext.alloc ?_ _) | (with_reducible refine Ext.setCell ?_ (Nat.le_refl _) _) | (with_reducible refine Ext.setCell ?_ (by simp; try omega) _) | (with_reducible refine Ext.trans ?_ (by with_reducible assumption))))⟩
    | true =>
      by_cases k4 : (frm n).kind = 4
      · have hr : mostV n true = (0, 5) := by unfold mostV; simp [hi, k4]
        rw [hr]
        have d4 : (((frm n).kind : Int) == 4) = true := btrue (b := 4) k4
        clear hr hi t63 k4
        generalize frm n = f at *
        generalize nfn f.kind = q at *
        go_enter Tryd.func35, Tryd.ntmps35
        go_wp2_with (first | (go_at_call 73; refine (c73.out _ (by assumption)).mono ?_; rintro e w1 ⟨rfl, hb1⟩))
        go_ret2
        exact ⟨rfl, by (repeat (first | (with_reducible exact Ext.refl _) | (with_reducible assumption) | (with_reducible refine Ext.drew ?_) | (with_reducible refine Ext.drewN ?_ _) | (with_reducible refine Ext.alloc ?_ _) | (with_reducible refine Ext.setCell ?_ (Nat.le_refl _) _) | (with_reducible refine Ext.setCell ?_ (by simp; try omega) _) | (with_reducible refine Ext.trans ?_ (by with_reducible assumption))))⟩
      · have d4 : (((frm n).kind : Int) == 4) = false := bfalse (b := 4) k4
        by_cases k3 : (frm n).kind = 3
        · have hr : mostV n true = ((frm n).top + 1, 0) := by unfold mostV; simp [hi, k3]
          rw [hr]
          have d3 : (((frm n).kind : Int) == 3) = true := btrue (b := 3) k3
          clear hr hi t63 k4 k3
          generalize frm n = f at *
          generalize nfn f.kind = q at *
          go_enter Tryd.func35, Tryd.ntmps35
          go_wp2_with (first | (go_at_call 73; refine (c73.out _ (by assumption)).mono ?_; rintro e w1 ⟨rfl, hb1⟩))
          go_ret2
          exact ⟨ret2 (by omega) rfl, by (repeat (first | (with_reducible exact Ext.refl _) | (with_reducible assumption) | (with_reducible refine Ext.drew ?_) | (with_reducible refine Ext.drewN ?_ _) | (with_reducible refine Ext.alloc ?_ _) | (with_reducible refine Ext.setCell ?_ (Nat.le_refl _) _) | (with_reducible refine Ext.setCell ?_ (by simp; try omega) _) | (with_reducible refine Ext.trans ?_ (by with_reducible assumption))))⟩
        · have hr : mostV n true = ((frm n).top, 0) := by unfold mostV; simp [hi, k3, k4]
          rw [hr]
          have d3 : (((frm n).kind : Int) == 3) = false := bfalse (b := 3) k3
          clear hr hi t63 k4 k3
          generalize frm n = f at *
          generalize nfn f.kind = q at *
          go_enter Tryd.func35, Tryd.ntmps35
          go_wp2_with (first | (go_at_call 73; refine (c73.out _ (by assumption)).mono ?_; rintro e w1 ⟨rfl, hb1⟩))
          go_ret2
          exact ⟨rfl, by (repeat (first | (with_reducible exact Ext.refl _) | (with_reducible assumption) | (with_reducible refine Ext.drew ?_) | (with_reducible refine Ext.drewN ?_ _) | (with_reducible refine Ext.alloc ?_ _) | (with_reducible refine Ext.setCell ?_ (Nat.le_refl _) _) | (with_reducible refine Ext.setCell ?_ (by simp; try omega) _) | (with_reducible refine Ext.trans ?_ (by with_reducible assumption))))⟩
  · have hr : mostV i neg = (0, 3) := by unfold mostV; rw [if_pos hi]
    rw [hr]
    have c73 := Lib.hid (fun W => of_no i W hi)
    clear hr hi
    go_enter Tryd.func35, Tryd.ntmps35
    go_wp2_with (first | (go_at_call 73; refine (c73.out _).mono ?_; rintro e w1 ⟨rfl, hb1⟩))
    go_ret2
    exact ⟨rfl, by (repeat (first | (with_reducible exact Ext.refl _) | (with_reducible assumption) | (with_reducible refine Ext.drew ?_) | (with_reducible refine Ext.drewN ?_ _) | (with_reducible refine Ext.alloc ?_ _) | (with_reducible refine Ext.setCell ?_ (Nat.le_refl _) _) | (with_reducible refine Ext.setCell ?_ (by simp; try omega) _) | (with_reducible refine Ext.trans ?_ (by with_reducible assumption))))⟩

theorem most_ok (n : Nat) (neg : Bool) (h1 : 1 ≤ n) (h2 : n ≤ 14) (h : (mostV n neg).2 = 0) : (mostV n neg).1 ≤ lastKey (frm n) ∧ (neg = true → (frm n).kind ≠ 4) ∧ ((frm n).kind = 2 → (mostV n neg).1 = (frm n).top) := by
  have hi := isForm_of h1 h2
  have hl := lastKey_lt n h1 h2
  unfold mostV at h ⊢
  rw [if_neg (by simpa using hi)] at h ⊢
  simp only [Int.toNat_natCast] at h ⊢
  unfold lastKey at hl ⊢
  split at h
  · simp at h
  · rename_i h4
    rw [if_neg h4]
    split at h
    · rename_i h3
      rw [if_pos h3]
      refine ⟨by simp [h3.2], fun hn hk => h4 ⟨hn, hk⟩, fun h2 => by have := h3.2; omega⟩
    · rename_i h3
      rw [if_neg h3]
      refine ⟨by simp; split <;> omega, fun hn hk => h4 ⟨hn, hk⟩, fun _ => rfl⟩

theorem sign_top (i : Nat) (h1 : 1 ≤ i) (h2 : i ≤ 14) (hk : (frm i).kind = 2) : (frm i).top < 2 ^ ((frm i).width - 1) := by
  have : i = 1 ∨ i = 2 ∨ i = 3 ∨ i = 4 ∨ i = 5 ∨ i = 6 ∨ i = 7 ∨ i = 8 ∨ i = 9 ∨ i = 10 ∨ i = 11 ∨ i = 12 ∨ i = 13 ∨ i = 14 := by omega
  rcases this with rfl | rfl | rfl | rfl | rfl | rfl | rfl | rfl | rfl | rfl | rfl | rfl | rfl | rfl <;> first | decide | (simp [frm] at hk)

theorem u_neg_any (a k : Nat) (ha : a ≤ 2 ^ k) (hk : k ≤ 64) : bits .and .u64 (IntKind.u64.wrap (-(a : Int))) ((2 ^ k - 1 : Nat) : Int) = ((if a = 0 then 0 else 2 ^ k - a : Nat) : Int) := by
  by_cases h : a = 0
  · subst h
    have := u_and_mask 0 k (by omega) hk
    rw [if_pos rfl]
    simpa [IntKind.wrap_u64] using this
  · rw [if_neg h]
    exact u_neg_mask a k (by omega) ha hk

set_option maxRecDepth 100000 in
set_option maxHeartbeats 1600000 in
/-- value.Pattern. -/
theorem pattern_any (i : Int) (neg : Bool) (key : Nat) (_hkey : key < 18446744073709551616) (w : World) (hE : Env w) :
    Calls Tryd.prog 37 #[.int .i64 i, .bool neg, .int .u64 key] w fun e w' => e = .returned (.tuple #[.int .u64 ((patV i neg key).1 : Nat), .int .i64 (patV i neg key).2]) ∧ Ext w w' := by
  have c35 := Lib.hid (fun W h' => most_any i neg W h')
  by_cases he : (mostV i neg).2 = 0
  · have hi : isForm i := by
      by_cases h : isForm i
      · exact h
      · unfold mostV at he
        rw [if_pos h] at he
        simp at he
    obtain ⟨n, rfl, h1, h2⟩ := isForm_nat hi
    obtain ⟨hmo, hm4, hm2⟩ := most_ok n neg h1 h2 he
    obtain ⟨t63, _, _, tw⟩ := lastKey_lt n h1 h2
    obtain ⟨w4, w64⟩ := frm_width n h1 h2
    have hst := sign_top n h1 h2
    rw [he] at c35
    have c73 := Lib.hid (fun W (h' : Env W) => of_yes n W h' h1 h2)
    by_cases hlt : (mostV n neg).1 < key
    · have hr : patV n neg key = (0, 4) := by unfold patV; rw [if_neg (by omega), if_pos hlt]
      rw [hr]
      have d1 : decide (((mostV n neg).1 : Int) < (key : Int)) = true := decide_eq_true (by omega)
      generalize (mostV n neg).1 = mo at *
      clear hr he hi hst hm2 hm4
      go_enter Tryd.func37, Tryd.ntmps37
      go_wp2_with (first | (go_at_call 35; refine (c35.out _ (by assumption)).mono ?_; rintro e w1 ⟨rfl, hb1⟩))
      go_ret2
      exact ⟨rfl, by (repeat (first | (with_reducible exact Ext.refl _) | (with_reducible assumption) | (with_reducible refine Ext.drew ?_) | (with_reducible refine Ext.drewN ?_ _) | (with_reducible refine Ext.alloc ?_ _) | (with_reducible refine Ext.setCell ?_ (Nat.le_refl _) _) | (with_reducible refine Ext.setCell ?_ (by simp; try omega) _) | (with_reducible refine Ext.trans ?_ (by with_reducible assumption))))⟩
    · have hr : patV n neg key = (patF (frm n) neg key, 0) := by unfold patV; rw [if_neg (by omega), if_neg hlt]; simp
      rw [hr]
      have d1 : decide (((mostV n neg).1 : Int) < (key : Int)) = false := decide_eq_false (by omega)
      generalize (mostV n neg).1 = mo at *
      generalize frm n = f at *
      have c41 := Lib.hid (fun W => sign_all f W w64 (by omega))
      have c40 := Lib.hid (fun W => mask_any f W w64)
      cases neg with
      | false =>
        have hp : patF f false key = key := by unfold patF; rw [if_pos rfl]
        rw [hp]
        generalize nfn f.kind = q at *
        clear hr he hi hst hm2 hm4 hp
        go_enter Tryd.func37, Tryd.ntmps37
        go_wp2_with (first | (go_at_call 35; refine (c35.out _ (by assumption)).mono ?_; rintro e w1 ⟨rfl, hb1⟩; have hE1 := hE.ext hb1) | (go_at_call 73; refine (c73.out _ hE1).mono ?_; rintro e w2 ⟨rfl, hb2⟩))
        go_ret2
        exact ⟨rfl, by (repeat (first | (with_reducible exact Ext.refl _) | (with_reducible assumption) | (with_reducible refine Ext.drew ?_) | (with_reducible refine Ext.drewN ?_ _) | (with_reducible refine Ext.alloc ?_ _) | (with_reducible refine Ext.setCell ?_ (Nat.le_refl _) _) | (with_reducible refine Ext.setCell ?_ (by simp; try omega) _) | (with_reducible refine Ext.trans ?_ (by with_reducible assumption))))⟩
      | true =>
        have hk4 := hm4 rfl
        by_cases k2 : f.kind = 2
        · have hsg : signB f = 2 ^ (f.width - 1) := by unfold signB; rw [if_neg hk4]
          have hlt2 : key < 2 ^ (f.width - 1) := by have := hm2 k2; have := hst k2; omega
          have hp : patF f true key = key + 2 ^ (f.width - 1) := by unfold patF; rw [if_neg (by decide), if_pos k2]
          have hor := u_or_bit' key (f.width - 1) (by omega) hlt2
          rw [← hsg] at hor hp
          rw [hp]
          have d2 : ((f.kind : Int) == 2) = true := btrue (b := 2) k2
          generalize signB f = sg at *
          generalize nfn f.kind = q at *
          clear hr he hi hst hm2 hm4 hp k2 hsg
          go_enter Tryd.func37, Tryd.ntmps37
          go_wp2_with (first | (go_at_call 35; refine (c35.out _ (by assumption)).mono ?_; rintro e w1 ⟨rfl, hb1⟩; have hE1 := hE.ext hb1) | (go_at_call 73; refine (c73.out _ hE1).mono ?_; rintro e w2 ⟨rfl, hb2⟩) | (go_at_call 41; refine (c41.out _).mono ?_; rintro e w3 ⟨rfl, hb3⟩))
          go_ret2
          exact ⟨rfl, by (repeat (first | (with_reducible exact Ext.refl _) | (with_reducible assumption) | (with_reducible refine Ext.drew ?_) | (with_reducible refine Ext.drewN ?_ _) | (with_reducible refine Ext.alloc ?_ _) | (with_reducible refine Ext.setCell ?_ (Nat.le_refl _) _) | (with_reducible refine Ext.setCell ?_ (by simp; try omega) _) | (with_reducible refine Ext.trans ?_ (by with_reducible assumption))))⟩
        · have hp : patF f true key = if key = 0 then 0 else 2 ^ f.width - key := by unfold patF; rw [if_neg (by decide), if_neg k2]
          have hng := u_neg_any key f.width (by omega) w64
          rw [hp]
          generalize (if key = 0 then 0 else 2 ^ f.width - key) = r at *
          have d2 : ((f.kind : Int) == 2) = false := bfalse (b := 2) k2
          generalize nfn f.kind = q at *
          clear hr he hi hst hm2 hm4 hp k2
          go_enter Tryd.func37, Tryd.ntmps37
          go_wp2_with (first | (go_at_call 35; refine (c35.out _ (by assumption)).mono ?_; rintro e w1 ⟨rfl, hb1⟩; have hE1 := hE.ext hb1) | (go_at_call 73; refine (c73.out _ hE1).mono ?_; rintro e w2 ⟨rfl, hb2⟩) | (go_at_call 40; refine (c40.out _).mono ?_; rintro e w3 ⟨rfl, hb3⟩))
          go_ret2
          exact ⟨rfl, by (repeat (first | (with_reducible exact Ext.refl _) | (with_reducible assumption) | (with_reducible refine Ext.drew ?_) | (with_reducible refine Ext.drewN ?_ _) | (with_reducible refine Ext.alloc ?_ _) | (with_reducible refine Ext.setCell ?_ (Nat.le_refl _) _) | (with_reducible refine Ext.setCell ?_ (by simp; try omega) _) | (with_reducible refine Ext.trans ?_ (by with_reducible assumption))))⟩
  · have hr : patV i neg key = (0, (mostV i neg).2) := by unfold patV; rw [if_pos he]
    rw [hr]
    have d1 : (((mostV i neg).2 : Int) != 0) = true := by rw [bne_iff_ne]; exact he
    generalize mostV i neg = mo at *
    obtain ⟨m1, m2⟩ := mo
    simp only at *
    clear hr he
    go_enter Tryd.func37, Tryd.ntmps37
    go_wp2_with (first | (go_at_call 35; refine (c35.out _ (by assumption)).mono ?_; rintro e w1 ⟨rfl, hb1⟩))
    go_ret2
    exact ⟨rfl, by (repeat (first | (with_reducible exact Ext.refl _) | (with_reducible assumption) | (with_reducible refine Ext.drew ?_) | (with_reducible refine Ext.drewN ?_ _) | (with_reducible refine Ext.alloc ?_ _) | (with_reducible refine Ext.setCell ?_ (Nat.le_refl _) _) | (with_reducible refine Ext.setCell ?_ (by simp; try omega) _) | (with_reducible refine Ext.trans ?_ (by with_reducible assumption))))⟩
end Go.Proofs.YtogdiobbjlpmoaaDoor

