/- ValueOrders, joined. No condition but that the package variables hold what they are laid with. -/
import Derived.Test.YtogdiobbjlpmoaaDoorOrdersW
namespace Go.Proofs.YtogdiobbjlpmoaaDoor
open Go Go.RowKit Cal

theorem keyV_posit (n p : Nat) (h1 : 1 ≤ n) (h2 : n ≤ 4) (hp : p < 2 ^ (frm n).width) :
    keyV n p = if p = (frm n).nan then (false, 0, 5) else (decide (2 ^ ((frm n).width - 1) ≤ p), if 2 ^ ((frm n).width - 1) ≤ p then 2 * 2 ^ ((frm n).width - 1) - p else p, 0) := by
  obtain ⟨k, hn, hi⟩ := posit_facts n h1 h2
  have hf0 : fitsE n p = 0 := by unfold fitsE; rw [if_pos (isForm_of h1 (by omega)), if_pos (by simpa using hp)]
  have w1 := (frm_width n h1 (by omega)).1
  have e2 : 2 * 2 ^ ((frm n).width - 1) = 2 ^ (frm n).width := by rw [← Nat.pow_succ']; congr 1; omega
  have hpos := two_pos ((frm n).width - 1)
  unfold keyV
  rw [if_neg (by simpa using hf0), e2, show ((n : Int)).toNat = n from by simp]
  unfold keyP negP cls
  generalize frm n = f at *
  by_cases hpn : p = f.nan
  · rw [if_pos hpn, if_pos (.inr (by rw [if_neg (fun h => by omega), if_pos (.inr ⟨by omega, by omega, hpn⟩)]))]
  · rw [if_neg hpn, if_neg (by rw [if_neg (fun h => by omega), if_neg (fun h => h.elim (fun h => by omega) (fun h => hpn h.2.2))]; split <;> simp)]
    by_cases hs : 2 ^ (f.width - 1) ≤ p
    · simp [hs, k]
    · simp [hs]

set_option maxRecDepth 100000 in
set_option maxHeartbeats 1600000 in
/-- ValueOrders. -/
theorem orders_any (i : Int) (p q : Nat) (hp : p < 18446744073709551616) (hq : q < 18446744073709551616) (w : World) (hE : Env w) :
    Calls Tryd.prog 8 #[.int .i64 i, .int .u64 p, .int .u64 q] w fun e w' => e = .returned (.bool true) ∧ Ext w w' := by
  obtain ⟨m, hm⟩ : ∃ m : Nat, i % 4 = m := ⟨(i % 4).toNat, by omega⟩
  have hm4 : m < 4 := by omega
  have hi : bits BinOp.and IntKind.i64 i 3 = (m : Int) := by rw [i64_and3, hm]
  have h1 : 1 ≤ 1 + m := by omega
  have h2 : 1 + m ≤ 4 := by omega
  obtain ⟨k, hn, hinf⟩ := posit_facts (1 + m) h1 h2
  obtain ⟨w4, w64⟩ := frm_width (1 + m) h1 (by omega)
  have hP := u_and_mask p (frm (1 + m)).width hp w64
  have hQ := u_and_mask q (frm (1 + m)).width hq w64
  have lP : p % 2 ^ (frm (1 + m)).width < 2 ^ (frm (1 + m)).width := Nat.mod_lt _ (two_pos _)
  have lQ : q % 2 ^ (frm (1 + m)).width < 2 ^ (frm (1 + m)).width := Nat.mod_lt _ (two_pos _)
  generalize p % 2 ^ (frm (1 + m)).width = P at *
  generalize q % 2 ^ (frm (1 + m)).width = Q at *
  have lP64 : P < 18446744073709551616 := Nat.lt_of_lt_of_le lP (pow_le64 w64)
  have lQ64 : Q < 18446744073709551616 := Nat.lt_of_lt_of_le lQ (pow_le64 w64)
  have c39 := Lib.hid (fun W h => formsOf_yes (1 + m) W h h1 (by omega))
  have c40 := Lib.hid (fun W => mask_any (frm (1 + m)) W w64)
  have c41 := Lib.hid (fun W => sign_all (frm (1 + m)) W w64 (by omega))
  have c33 := Lib.hid (fun W h => key_any (1 + m : Nat) P lP64 W h)
  have d33 := Lib.hid (fun W h => key_any (1 + m : Nat) Q lQ64 W h)
  have e2 : 2 * 2 ^ ((frm (1 + m)).width - 1) = 2 ^ (frm (1 + m)).width := by rw [← Nat.pow_succ']; congr 1; omega
  have eS : signB (frm (1 + m)) = 2 ^ ((frm (1 + m)).width - 1) := by unfold signB; rw [if_neg (by omega)]
  have hx := u_xor_bit P ((frm (1 + m)).width - 1) (by omega) (by rw [show (frm (1 + m)).width - 1 + 1 = (frm (1 + m)).width from by omega]; exact lP)
  have hy := u_xor_bit Q ((frm (1 + m)).width - 1) (by omega) (by rw [show (frm (1 + m)).width - 1 + 1 = (frm (1 + m)).width from by omega]; exact lQ)
  rw [keyV_posit (1 + m) P h1 h2 lP] at c33
  rw [keyV_posit (1 + m) Q h1 h2 lQ] at d33
  rw [eS] at c41
  rw [← e2] at lP lQ
  have law := order_law (2 ^ ((frm (1 + m)).width - 1)) P Q lP lQ
  rw [show (if 2 ^ ((frm (1 + m)).width - 1) ≤ P then P - 2 ^ ((frm (1 + m)).width - 1) else P + 2 ^ ((frm (1 + m)).width - 1)) = turnedP (2 ^ ((frm (1 + m)).width - 1)) P from rfl] at hx
  rw [show (if 2 ^ ((frm (1 + m)).width - 1) ≤ Q then Q - 2 ^ ((frm (1 + m)).width - 1) else Q + 2 ^ ((frm (1 + m)).width - 1)) = turnedP (2 ^ ((frm (1 + m)).width - 1)) Q from rfl] at hy
  clear hinf lP lQ e2 eS k w4 w64
  generalize hid : ((1 + m : Nat) : Int) = id at *
  have hid2 : id = 1 + (m : Int) := by omega
  subst hid2
  generalize frm (1 + m) = f at *
  generalize 2 ^ f.width - 1 = M at *
  generalize 2 ^ (f.width - 1) = S at *
  generalize turnedP S P = x at *
  generalize turnedP S Q = y at *
  by_cases p1 : P = f.nan
  · rw [if_pos p1] at c33
    generalize (if Q = f.nan then (false, 0, 5) else (decide (S ≤ Q), if S ≤ Q then 2 * S - Q else Q, 0) : Bool × Nat × Int) = kv at *
    exact orders_err1 i m p q P Q M S x y _ kv.2.1 5 kv.2.2 _ kv.1 f hm4 hi hP hQ (by decide) (btrue p1) c39 c40 c33 d33 w hE
  · rw [if_neg p1] at c33
    by_cases q1 : Q = f.nan
    · rw [if_pos q1] at d33
      exact orders_err2f i m p q P Q M S x y _ _ 0 5 _ _ f hm4 hi hP hQ (by decide) (bfalse p1) (btrue q1) c39 c40 c33 d33 w hE
    · rw [if_neg q1] at d33
      simp only at c33 d33
      generalize (if S ≤ P then 2 * S - P else P) = k at *
      generalize (if S ≤ Q then 2 * S - Q else Q) = n at *
      have cast : decide ((x : Int) < (y : Int)) = decide (x < y) := by simp
      have castk : decide ((k : Int) < (n : Int)) = decide (k < n) := by simp
      have castn : decide ((n : Int) < (k : Int)) = decide (n < k) := by simp
      unfold lessP at law
      cases ha : decide (S ≤ P) <;> cases hb : decide (S ≤ Q) <;> rw [ha, hb] at law <;> rw [ha] at c33 <;> rw [hb] at d33
      · simp at law
        cases ht : decide (x < y)
        · have hk : decide (k < n) = false := by rw [← ht]; simpa using law
          exact orders_fff i m p q P Q M S x y k n 0 0 false false f hm4 hi hP hQ hx hy ht (cast.trans ht) hk (castk.trans hk) c39 c40 c33 d33 c41 w hE
        · have hk : decide (k < n) = true := by rw [← ht]; simpa using law
          exact orders_fft i m p q P Q M S x y k n 0 0 false false f hm4 hi hP hQ hx hy ht (cast.trans ht) hk (castk.trans hk) c39 c40 c33 d33 c41 w hE
      · have ht : decide (x < y) = false := by rw [← law]; rfl
        exact orders_ftf i m p q P Q M S x y k n 0 0 false true f hm4 hi hP hQ hx hy ht (cast.trans ht) c39 c40 c33 d33 c41 w hE
      · have ht : decide (x < y) = true := by rw [← law]; rfl
        exact orders_tft i m p q P Q M S x y k n 0 0 true false f hm4 hi hP hQ hx hy ht (cast.trans ht) c39 c40 c33 d33 c41 w hE
      · simp at law
        cases ht : decide (x < y)
        · have hk : decide (n < k) = false := by rw [← ht]; simpa using law
          exact orders_ttf i m p q P Q M S x y k n 0 0 true true f hm4 hi hP hQ hx hy ht (cast.trans ht) hk (castn.trans hk) c39 c40 c33 d33 c41 w hE
        · have hk : decide (n < k) = true := by rw [← ht]; simpa using law
          exact orders_ttt i m p q P Q M S x y k n 0 0 true true f hm4 hi hP hQ hx hy ht (cast.trans ht) hk (castn.trans hk) c39 c40 c33 d33 c41 w hE

theorem orders_args (a0 : Int) (_w0 : (Lit.int .i64 a0).wf = true) (a1 : Int) (w1 : (Lit.int .u64 a1).wf = true) (a2 : Int) (w2 : (Lit.int .u64 a2).wf = true) (W : World) (hE : Env W) :
    Calls Tryd.prog 8 #[.int .i64 a0, .int .u64 a1, .int .u64 a2] W fun e w' => e = .returned (.bool true) ∧ Ext W w' := by
  obtain ⟨n, rfl, hn⟩ := u64_nat w1
  obtain ⟨k, rfl, hk⟩ := u64_nat w2
  exact orders_any a0 n k hn hk W hE
end Go.Proofs.YtogdiobbjlpmoaaDoor

