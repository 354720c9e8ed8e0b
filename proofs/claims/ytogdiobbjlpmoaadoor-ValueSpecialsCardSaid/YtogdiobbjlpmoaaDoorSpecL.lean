/- ValueSpecials, joined. No condition but that the package variables hold what they are laid with. -/
import Derived.Test.YtogdiobbjlpmoaaDoorSpecW
namespace Go.Proofs.YtogdiobbjlpmoaaDoor
open Go Go.RowKit Cal

set_option maxRecDepth 100000 in
set_option maxHeartbeats 1600000 in
theorem special_err (i : Int) (p : Nat) (hp : p < 18446744073709551616) (he : fitsE i p ≠ 0) (w : World) (hE : Env w) :
    Calls Tryd.prog 9 #[.int .i64 i, .int .u64 p] w fun e w' => e = .returned (.bool true) ∧ Ext w w' := by
  have c25 := Lib.hid (fun W h => shown_any W h)
  have c26 := Lib.hid (fun W h => decode_any i p hp W h)
  have hm : means i p = ⟨0, false, 0, 0⟩ := by unfold means; rw [if_neg he]
  rw [hm] at c26
  have d1 : (fitsE i p != 0) = true := by rw [bne_iff_ne]; exact he
  generalize fitsE i p = er at *
  clear he hm
  go_enter Tryd.func9, Tryd.ntmps9
  go_wp2_with (first | (go_at_call 25; refine (c25.out _ hE).mono ?_; rintro e w1 ⟨rfl, hb1⟩; have E1 := hE.ext hb1) | (go_at_call 26; refine (c26.out _ E1).mono ?_; rintro e w2 ⟨rfl, hb2⟩))
  go_ret
  exact ⟨rfl, by (repeat (first | (with_reducible exact Ext.refl _) | (with_reducible assumption) | (with_reducible refine Ext.drew ?_) | (with_reducible refine Ext.drewN ?_ _) | (with_reducible refine Ext.alloc ?_ _) | (with_reducible refine Ext.setCell ?_ (Nat.le_refl _) _) | (with_reducible refine Ext.setCell ?_ (by simp; try omega) _) | (with_reducible refine Ext.trans ?_ (by with_reducible assumption))))⟩

/-- ValueSpecials. -/
theorem special_any (i : Int) (p : Nat) (hp : p < 18446744073709551616) (w : World) (hE : Env w) :
    Calls Tryd.prog 9 #[.int .i64 i, .int .u64 p] w fun e w' => e = .returned (.bool true) ∧ Ext w w' := by
  by_cases he : fitsE i p = 0
  · obtain ⟨n, rfl, h1, h2, hpn⟩ := fits_zero i p he
    obtain ⟨w4, w64⟩ := frm_width n h1 h2
    obtain ⟨t1, t2, t3⟩ := special_law n p h1 h2 hpn
    have c26 := Lib.hid (fun W h => decode_any n p hp W h)
    have c39 := Lib.hid (fun W h => formsOf_yes n W h h1 h2)
    have c42 := Lib.hid (fun W h => canon_yes n p h1 h2 hpn W h)
    have w1 : 1 ≤ (frm n).width := by omega
    have c41 := Lib.hid (fun W => sign_all (frm n) W w64 w1)
    have hb := u_andNot_bit p ((frm n).width - 1) (by omega) (by rw [show (frm n).width - 1 + 1 = (frm n).width from by omega]; exact hpn)
    have hm : means n p = decodeF (frm n) p := by unfold means; rw [if_pos he]; simp
    rw [hm, he] at c26
    have hs : (frm n).inf ≠ 0 → signB (frm n) = 2 ^ ((frm n).width - 1) := fun h => by
      have k := t3 h
      unfold signB
      rw [if_neg (fun h' => by rw [k] at h'; exact absurd h' (by decide))]
    clear hm he w4 w64
    unfold decodeF at c26
    have hcl : cls (frm n) p = 1 ∨ cls (frm n) p = 2 ∨ cls (frm n) p = 3 ∨ cls (frm n) p = 4 := by
      unfold cls
      split
      · simp
      · split
        · simp
        · split <;> simp
    generalize cls (frm n) p = k at *
    generalize negP (frm n) p = vn at *
    generalize number (frm n) 0 (keyP (frm n) p) = nm at *
    generalize (if isNum (frm n) p = true then p else (frm n).nan) = c at *
    generalize frm n = f at *
    generalize p % 2 ^ (f.width - 1) = x at *
    have hx : f.inf ≠ 0 → bits BinOp.andNot IntKind.u64 (p : Int) (signB f : Int) = x := fun h => by rw [hs h]; exact hb
    clear hb hs t3
    rcases hcl with rfl | rfl | rfl | rfl
    · rw [if_neg (by decide), if_neg (by decide)] at c26
      by_cases n1 : f.nan = 0
      · by_cases i1 : f.inf = 0
        · exact special_100 n p c 0 0 0 0 vn f (nfalse (b := 0) n1) (nfalse (b := 0) i1) c26 c39 c42 w hE
        · have i2 : x ≠ f.inf := fun h => absurd (t2.2 ⟨i1, h⟩) (by decide)
          exact special_102 n p c x (signB f) 0 0 vn f (nfalse (b := 0) n1) (ntrue (b := 0) i1) (bfalse i2) (hx i1) c26 c39 c42 c41 w hE
      · have n2 : c ≠ f.nan := fun h => absurd (t1.2 ⟨n1, h⟩) (by decide)
        by_cases i1 : f.inf = 0
        · exact special_120 n p c 0 0 0 0 vn f (ntrue (b := 0) n1) (bfalse n2) (nfalse (b := 0) i1) c26 c39 c42 w hE
        · have i2 : x ≠ f.inf := fun h => absurd (t2.2 ⟨i1, h⟩) (by decide)
          exact special_122 n p c x (signB f) 0 0 vn f (ntrue (b := 0) n1) (bfalse n2) (ntrue (b := 0) i1) (bfalse i2) (hx i1) c26 c39 c42 c41 w hE
    · rw [if_pos rfl] at c26
      obtain ⟨vm, ve⟩ := nm
      by_cases n1 : f.nan = 0
      · by_cases i1 : f.inf = 0
        · exact special_200 n p c 0 0 vm ve vn f (nfalse (b := 0) n1) (nfalse (b := 0) i1) c26 c39 c42 w hE
        · have i2 : x ≠ f.inf := fun h => absurd (t2.2 ⟨i1, h⟩) (by decide)
          exact special_202 n p c x (signB f) vm ve vn f (nfalse (b := 0) n1) (ntrue (b := 0) i1) (bfalse i2) (hx i1) c26 c39 c42 c41 w hE
      · have n2 : c ≠ f.nan := fun h => absurd (t1.2 ⟨n1, h⟩) (by decide)
        by_cases i1 : f.inf = 0
        · exact special_220 n p c 0 0 vm ve vn f (ntrue (b := 0) n1) (bfalse n2) (nfalse (b := 0) i1) c26 c39 c42 w hE
        · have i2 : x ≠ f.inf := fun h => absurd (t2.2 ⟨i1, h⟩) (by decide)
          exact special_222 n p c x (signB f) vm ve vn f (ntrue (b := 0) n1) (bfalse n2) (ntrue (b := 0) i1) (bfalse i2) (hx i1) c26 c39 c42 c41 w hE
    · rw [if_neg (by decide), if_neg (by decide)] at c26
      obtain ⟨i1, i2⟩ := t2.1 rfl
      by_cases n1 : f.nan = 0
      · exact special_301 n p c x (signB f) 0 0 vn f (nfalse (b := 0) n1) (ntrue (b := 0) i1) (btrue i2) (hx i1) c26 c39 c42 c41 w hE
      · have n2 : c ≠ f.nan := fun h => absurd (t1.2 ⟨n1, h⟩) (by decide)
        exact special_321 n p c x (signB f) 0 0 vn f (ntrue (b := 0) n1) (bfalse n2) (ntrue (b := 0) i1) (btrue i2) (hx i1) c26 c39 c42 c41 w hE
    · rw [if_neg (by decide), if_pos rfl] at c26
      obtain ⟨n1, n2⟩ := t1.1 rfl
      by_cases i1 : f.inf = 0
      · exact special_410 n p c 0 0 0 0 false f (ntrue (b := 0) n1) (btrue n2) (nfalse (b := 0) i1) c26 c39 c42 w hE
      · have i2 : x ≠ f.inf := fun h => absurd (t2.2 ⟨i1, h⟩) (by decide)
        exact special_412 n p c x (signB f) 0 0 false f (ntrue (b := 0) n1) (btrue n2) (ntrue (b := 0) i1) (bfalse i2) (hx i1) c26 c39 c42 c41 w hE
  · exact special_err i p hp he w hE

theorem special_args (a0 : Int) (_w0 : (Lit.int .i64 a0).wf = true) (a1 : Int) (w1 : (Lit.int .u64 a1).wf = true) (W : World) (hE : Env W) :
    Calls Tryd.prog 9 #[.int .i64 a0, .int .u64 a1] W fun e w' => e = .returned (.bool true) ∧ Ext W w' := by
  obtain ⟨n, rfl, hn⟩ := u64_nat w1
  exact special_any a0 n hn W hE
end Go.Proofs.YtogdiobbjlpmoaaDoor

