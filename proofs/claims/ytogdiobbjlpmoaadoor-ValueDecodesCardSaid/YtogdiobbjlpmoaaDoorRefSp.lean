/- The document's Split of a posit's magnitude: the run, the exponent, the fraction, out of a text of bits. No condition but those written. -/
import Derived.Test.YtogdiobbjlpmoaaDoorRefList
import Derived.Test.YtogdiobbjlpmoaaDoorRuns2
import Derived.Deep.QuietTactic
import Derived.BigQuiet
import Derived.Outline
namespace Go.Proofs.YtogdiobbjlpmoaaDoor
open Go Go.RowKit Cal

theorem rexp_eq (n key L : Nat) (hL : L = pleft n key) : (if 2 ≤ L then key / 2 ^ (L - 2) else key % 2 ^ L * 2 ^ (2 - L)) % 2 ^ 2 = pexp n key := by
  unfold pexp prest pbits
  rw [← hL]
  by_cases h : 2 ≤ L
  · rw [if_pos h, show 2 - L = 0 from by omega, Nat.pow_zero, Nat.mul_one]
    rw [show 2 ^ L = 2 ^ (L - 2) * 2 ^ 2 from by rw [← Nat.pow_add]; congr 1; omega, Nat.mod_mul_right_div_self]
  · rw [if_neg h, show L - 2 = 0 from by omega, Nat.pow_zero, Nat.div_one]
    have : L = 0 ∨ L = 1 := by omega
    rcases this with rfl | rfl
    · simp [Nat.mod_one]
    · have : key % 2 < 2 := Nat.mod_lt _ (by decide)
      simp
      omega
theorem rfrac_eq (n key L : Nat) (hL : L = pleft n key) (h : 2 < L) : key % 2 ^ (L - 2) = pfrac n key := by
  unfold pfrac prest pbits
  rw [← hL, show 2 ^ L = 2 ^ (L - 2) * 2 ^ 2 from by rw [← Nat.pow_add]; congr 1; omega, Nat.mod_mul_right_mod]
theorem rfrac_zero (n key L : Nat) (hL : L = pleft n key) (h : ¬ 2 < L) : pfrac n key = 0 ∧ pbits n key = 0 := by
  unfold pfrac pbits
  rw [← hL, show L - 2 = 0 from by omega]
  simp [Nat.mod_one]

theorem ext_bytes (l : List UInt8) (a b : Nat) : (ByteArray.mk l.toArray).extract a b = ByteArray.mk ((l.drop a).take (b - a)).toArray := by
  apply ByteArray.ext
  simp [ByteArray.data_extract, List.extract_toArray, List.extract_eq_take_drop]
theorem load153 {w : World} {b : Nat} {a0 a1 a2 a3 : Value} (h : Blk w b 153 #[a0, a1, a2, a3]) : (loadVar 153 ⟨b, 0, none⟩).run Tryd.prog w = .ok (.agg #[a0, a1, a2, a3]) w := by
  have hc := h.cell
  simp [go_sem, hc]
theorem Blk.set4 {w : World} {b : Nat} {t : TypeId} {o0 o1 o2 o3 a0 a1 a2 a3 : Value} (h : Blk w b t #[o0, o1, o2, o3]) :
    Blk ((((w.setCell ⟨b, 0, none⟩ a0).setCell ⟨b, 1, none⟩ a1).setCell ⟨b, 2, none⟩ a2).setCell ⟨b, 3, none⟩ a3) b t #[a0, a1, a2, a3] := by
  have h4 := (((h.set_ 0 a0).set_ 1 a1).set_ 2 a2).set_ 3 a3
  simpa using h4
theorem ret_split {a a' b b' c c' d d' : Int} (h1 : a = a') (h2 : b = b') (h3 : c = c') (h4 : d = d') :
    Ending.returned (.tuple #[.agg #[.int .i64 a, .int .i64 b, .int .u64 c, .int .i64 d], .bool true]) = .returned (.tuple #[.agg #[.int .i64 a', .int .i64 b', .int .u64 c', .int .i64 d'], .bool true]) := by rw [h1, h2, h3, h4]
theorem rnumber_of (s : ByteArray) (k key : Nat) (hs : s = ⟨(blist k key).toArray⟩) (h : k ≤ 64) (w : World) :
    Calls Tryd.prog 152 #[.string s] w fun e w' => e = .returned (.int .u64 ((key % 2 ^ k : Nat) : Int)) ∧ w = w' := by
  subst hs
  exact rnumber_any k key h w
theorem cut_rest {L : List UInt8} {n r key : Nat} (hl : L.length = n) (hd : L.drop (r + 1) = blist (n - (r + 1)) key) :
    (ByteArray.mk L.toArray).extract (r + 1) n = ⟨(blist (n - (r + 1)) key).toArray⟩ := by
  rw [ext_bytes, ← hd, List.take_of_length_le (by simp; omega)]
theorem cut_exp {m key X : Nat} (hX : (if 2 ≤ m then key / 2 ^ (m - 2) else key % 2 ^ m * 2 ^ (2 - m)) = X) :
    ((ByteArray.mk (blist m key).toArray) ++ (ByteArray.mk #[48, 48])).extract 0 2 = ⟨(blist 2 X).toArray⟩ := by
  rw [show (ByteArray.mk #[48, 48]) = ByteArray.mk ([48, 48] : List UInt8).toArray from rfl, ByteArray.mk_append_mk, ext_bytes, List.drop_zero, blist_pad _ m key rfl, hX]
theorem cut_frac {m key : Nat} (h : 2 ≤ m) : (ByteArray.mk (blist m key).toArray).extract 2 m = ⟨(blist (m - 2) key).toArray⟩ := by
  rw [ext_bytes, blist_drop m key 2 h, List.take_of_length_le (by rw [blist_length]; omega)]

set_option maxRecDepth 100000 in
set_option maxHeartbeats 3200000 in
theorem rsplit5_any (n key : Nat) (h1 : 2 ≤ n) (h2 : n ≤ 64) (h0 : 0 < key) (hk : key < 2 ^ n) (w : World) :
    Calls Tryd.prog 127 #[.int .i64 ((n : Int) + 1), .int .u64 key] w fun e w' =>
      e = .returned (.tuple #[.agg #[.int .i64 (preg n key), .int .i64 ((pexp n key : Nat) : Int), .int .u64 ((pfrac n key : Nat) : Int), .int .i64 ((pbits n key : Nat) : Int)], .bool true]) ∧ Ext w w' := by
  have c151 := Lib.hid (fun W => rbits_any n key h1 h2 h0 hk W)
  have hg := blist_get n key
  have hl := blist_length n key
  generalize hL : blist n key = L at *
  have HL := Lib.hid hL
  have HG := Lib.hid hg
  have HK := Lib.hid hk
  generalize hP1 : preg n key = P1
  generalize hE : pexp n key = E
  generalize hF : pfrac n key = F
  generalize hPB : pbits n key = PB
  have HP1 := Lib.hid hP1
  have HE1 := Lib.hid hE
  have HF1 := Lib.hid hF
  have HPB := Lib.hid hPB
  clear hL hg hk hP1 hE hF hPB
  go_enter Tryd.func127, Tryd.ntmps127
  go_wp2_with (first | (go_at_call 151; refine (c151.out _).mono ?_; rintro e w1 ⟨rfl, hb1⟩))
  go_loopg [8] n (fun g s8 wr => ∃ r : Nat, r + g = n ∧ Hid (∀ j, j < r → bitAt n key j = bitAt n key 0) ∧ s8 = .int .i64 (r : Int) ∧ Ext w1 wr)
  case atStart => exact ⟨0, by omega, (fun j hj => by omega : ∀ j, j < 0 → bitAt n key j = bitAt n key 0), rfl, Ext.refl _⟩
  case round =>
    obtain ⟨r, hr, hall, rfl, hal⟩ := hrel
    have hL0 : 0 < L.length := by omega
    have hb0 : L[0].toNat = 48 + bitAt n key 0 := by
      have := HG.out 0 (by omega)
      rw [List.getElem?_eq_getElem hL0] at this
      rw [Option.some.inj this, UInt8.toNat_ofNat']
      unfold bitAt
      simp only [Nat.sub_zero]
      omega
    have hbb := bitAt_lt n key 0
    have hB0 : ((ByteArray.mk L.toArray)[0]'(by simpa [ByteArray.size] using hL0)).toNat = 48 + bitAt n key 0 := hb0
    by_cases hcont : r < n ∧ bitAt n key r = bitAt n key 0
    · obtain ⟨hlt, he⟩ := hcont
      obtain ⟨g, rfl⟩ : ∃ g, gk = g + 1 := ⟨gk - 1, by omega⟩
      have hrl : r < L.length := by omega
      have hbr : L[r].toNat = 48 + bitAt n key r := by
        have := HG.out r hlt
        rw [List.getElem?_eq_getElem hrl] at this
        rw [Option.some.inj this, UInt8.toNat_ofNat']
        unfold bitAt
        omega
      have hBr : ((ByteArray.mk L.toArray)[r]'(by simpa [ByteArray.size] using hrl)).toNat = 48 + bitAt n key r := hbr
      have hz : decide ((r : Int) < (n : Int)) = true := decide_eq_true (by omega)
      have hz' : decide (r < n) = true := decide_eq_true (by omega)
      have H1 : Hid (∀ j, j < r + 1 → bitAt n key j = bitAt n key 0) := by
        show ∀ j, j < r + 1 → bitAt n key j = bitAt n key 0
        intro j hj
        rcases Nat.lt_or_ge j r with h | h
        · exact hall.out j h
        · rw [show j = r from by omega]
          exact he
      rw [he] at hBr
      generalize hb : bitAt n key 0 = b at *
      have HB := Lib.hid hb
      clear hb0 hbr he hb
      go_wp2_with fail
      go_quiet (fail)
      go_wp2_with fail
      go_roundg g
      case measure => omega
      case rel => exact ⟨r + 1, by omega, by first | exact H1 | (rw [HB.out]; exact H1), by first | rfl | simp, by (repeat (first | (with_reducible exact Ext.refl _) | (with_reducible assumption) | (with_reducible refine Ext.drew ?_) | (with_reducible refine Ext.drewN ?_ _) | (with_reducible refine Ext.alloc ?_ _) | (with_reducible refine Ext.setCell ?_ (Nat.le_refl _) _) | (with_reducible refine Ext.setCell ?_ (by simp; try omega) _) | (with_reducible refine Ext.trans ?_ (by with_reducible assumption))))⟩
    · have hr0 : 0 < r := by
        rcases Nat.eq_zero_or_pos r with h | h
        · subst h
          exact absurd ⟨by omega, rfl⟩ hcont
        · exact h
      have hprun : prun n key = r := by
        refine prun_of n key r (by omega) h2 h0 HK.out (by omega) hr0 hall.out (fun h he => hcont ⟨h, he⟩)
      have hpl : n - (r + 1) = pleft n key := by unfold pleft; omega
      have hbz := bitAt_zero n key (by omega) HK.out
      have hpreg : preg n key = if bitAt n key 0 = 0 then -(r : Int) else (r : Int) - 1 := by
        unfold preg
        rw [hprun, hbz]
        split <;> simp
      have hexp := rexp_eq n key _ hpl
      have hfr := rfrac_eq n key _ hpl
      have hfz := rfrac_zero n key _ hpl
      have hpb : pbits n key = n - (r + 1) - 2 := by unfold pbits; rw [← hpl]
      have hdrop := blist_drop n key (r + 1)
      rw [HL.out] at hdrop
      have hguard : (∃ b', r < n ∧ (∃ h : r < L.length, ((ByteArray.mk L.toArray)[r]'(by simpa [ByteArray.size] using h)).toNat = 48 + b') ∧ (((48 + b' : Nat) : Int) == ((48 + bitAt n key 0 : Nat) : Int)) = false) ∨ ¬ r < n := by
        rcases Nat.lt_or_ge r n with hlt | hge
        · have hrl : r < L.length := by omega
          refine .inl ⟨bitAt n key r, hlt, ⟨hrl, ?_⟩, bfalse (fun h => hcont ⟨hlt, by omega⟩)⟩
          have := HG.out r hlt
          rw [List.getElem?_eq_getElem hrl] at this
          show L[r].toNat = _
          rw [Option.some.inj this, UInt8.toNat_ofNat']
          unfold bitAt
          omega
        · exact .inr (by omega)
      rw [HP1.out] at hpreg
      rw [HE1.out] at hexp
      rw [HF1.out] at hfr
      rw [HF1.out, HPB.out] at hfz
      rw [HPB.out] at hpb
      generalize hX : (if 2 ≤ n - (r + 1) then key / 2 ^ (n - (r + 1) - 2) else key % 2 ^ (n - (r + 1)) * 2 ^ (2 - (n - (r + 1)))) = X at *
      have HX := Lib.hid hX
      generalize bitAt n key 0 = b at *
      have HD := Lib.hid hdrop
      have HE := Lib.hid hexp
      have HF := Lib.hid hfr
      have HZ := Lib.hid hfz
      have HPR := Lib.hid hpreg
      have HPB2 := Lib.hid hpb
      have hb01 : b = 0 ∨ b = 1 := by omega
      clear hb0 hcont hprun hpl hbz hpreg hdrop hexp hfr hfz hpb hX
      have hgd : ((decide ((r : Int) < (n : Int)) = true ∧ decide (r < n) = true) ∧ (∃ b', (∃ h : r < L.length, ((ByteArray.mk L.toArray)[r]'(by simpa [ByteArray.size] using h)).toNat = 48 + b') ∧ (((48 + b' : Nat) : Int) == ((48 + b : Nat) : Int)) = false)) ∨ (decide ((r : Int) < (n : Int)) = false ∧ decide (r < n) = false) := by
        rcases hguard with ⟨b', hlt, h, k⟩ | hge
        · exact .inl ⟨⟨decide_eq_true (by omega), decide_eq_true hlt⟩, b', h, k⟩
        · exact .inr ⟨decide_eq_false (by omega), decide_eq_false hge⟩
      clear hguard
      rcases hgd with ⟨⟨hz, hz'⟩, b', ⟨hrl, hBr⟩, dne⟩ | ⟨hz, hz'⟩
      all_goals
        go_wp2_with fail
        go_quiet (fail)
        generalize hwq : wr.drewN _ = wq
        have hxq : Ext w1 wq := by rw [← hwq]; exact hal.drewN _
        clear hwq hz hz'
        have F0 := (Blk.new w 153 #[.int .i64 0, .int .i64 0, .int .u64 0, .int .i64 0]).ext (hb1.trans hxq)
        have lF := F0.lt
        have cF := F0.cell
        have fF := F0.frozen
        have hxw : Ext w wq := ((Ext.refl w).alloc _).trans (hb1.trans hxq)
        obtain rfl : X % 2 ^ 2 = E := HE.out
        have hP : (b = 0 ∧ P1 = -(r : Int)) ∨ (b = 1 ∧ P1 = (r : Int) - 1) := by
          have := HPR.out
          rcases hb01 with rfl | rfl
          · rw [if_pos rfl] at this; exact .inl ⟨rfl, this⟩
          · rw [if_neg (by decide)] at this; exact .inr ⟨rfl, this⟩
        clear hb01
        rcases hP with ⟨rfl, rfl⟩ | ⟨rfl, rfl⟩
        all_goals
          by_cases hm : r + 1 < n
          · have hmd : decide ((r : Int) + 1 < (n : Int)) = true := decide_eq_true (by omega)
            have hcut := cut_rest hl (HD.out (by omega))
            have htn : ((r : Int) + 1).toNat = r + 1 := by omega
            have hlen := blist_length (n - (r + 1)) key
            have hexp' := Lib.hid (cut_exp HX.out)
            have hfrac' := Lib.hid (fun h => cut_frac (m := n - (r + 1)) (key := key) h)
            have hf1 := Lib.hid HF.out
            have hz1 := Lib.hid HZ.out
            have hpb1 := HPB2.out
            obtain ⟨m, hmn⟩ : ∃ m, m = n - (r + 1) := ⟨_, rfl⟩
            rw [← hmn] at hcut hlen hexp' hfrac' hf1 hz1 hpb1
            have hm0 : r + 1 + m = n := by omega
            clear HF HZ HPB2 HX HD hmn
            generalize blist m key = M at *
            have hsz : ¬ (9223372036854775807 < M.length + 2) := by omega
            by_cases h3 : 2 < m
            · have d3 : decide (2 < m) = true := decide_eq_true h3
              have d3' : decide ((2 : Int) < (m : Int)) = true := decide_eq_true (by omega)
              go_wp2_with fail
              refine (rnumber_of _ 2 X hexp'.out (by decide) _).mono ?_
              rintro e w2 ⟨rfl, rfl⟩
              go_wp2_with fail
              refine (rnumber_of _ (m - 2) key (hfrac'.out (by omega)) (by omega) _).mono ?_
              rintro e w2 ⟨rfl, rfl⟩
              go_wp2_with fail
              exact bodyPost_ret (v := .tuple #[.agg #[.int .i64 _, .int .i64 ((X : Int) % 4), .int .u64 _, .int .i64 ((m : Int) - 2)], .bool true]) (ret_blk Tryd.results127 rfl (load153 ((Blk.set4 F0).alloc _)) rfl) rfl ⟨ret_split rfl (by simp) (by have := hf1.out h3; rw [← this]; simp) (by omega), by (repeat (first | (with_reducible exact Ext.refl _) | (with_reducible assumption) | (with_reducible refine Ext.drew ?_) | (with_reducible refine Ext.drewN ?_ _) | (with_reducible refine Ext.alloc ?_ _) | (with_reducible refine Ext.setCell ?_ (Nat.le_refl _) _) | (with_reducible refine Ext.setCell ?_ (by simp; try omega) _) | (with_reducible refine Ext.trans ?_ (by with_reducible assumption))))⟩
            · have d3 : decide (2 < m) = false := decide_eq_false h3
              have d3' : decide ((2 : Int) < (m : Int)) = false := decide_eq_false (by omega)
              go_wp2_with fail
              refine (rnumber_of _ 2 X hexp'.out (by decide) _).mono ?_
              rintro e w2 ⟨rfl, rfl⟩
              go_wp2_with fail
              exact bodyPost_ret (v := .tuple #[.agg #[.int .i64 _, .int .i64 ((X : Int) % 4), .int .u64 0, .int .i64 0], .bool true]) (ret_blk Tryd.results127 rfl (load153 ((Blk.set4 F0).alloc _)) rfl) rfl ⟨ret_split rfl (by simp) (by have := (hz1.out h3).1; omega) (by omega), by (repeat (first | (with_reducible exact Ext.refl _) | (with_reducible assumption) | (with_reducible refine Ext.drew ?_) | (with_reducible refine Ext.drewN ?_ _) | (with_reducible refine Ext.alloc ?_ _) | (with_reducible refine Ext.setCell ?_ (Nat.le_refl _) _) | (with_reducible refine Ext.setCell ?_ (by simp; try omega) _) | (with_reducible refine Ext.trans ?_ (by with_reducible assumption))))⟩
          · have hmd : decide ((r : Int) + 1 < (n : Int)) = false := decide_eq_false (by omega)
            have hexp' := Lib.hid (cut_exp HX.out)
            have hpb1 := HPB2.out
            have hz1 := HZ.out (by omega)
            rw [show n - (r + 1) = 0 from by omega] at hexp' hpb1
            clear HF HZ HPB2 HX HD
            go_wp2_with fail
            refine (rnumber_of _ 2 X hexp'.out (by decide) _).mono ?_
            rintro e w2 ⟨rfl, rfl⟩
            go_wp2_with fail
            exact bodyPost_ret (v := .tuple #[.agg #[.int .i64 _, .int .i64 ((X : Int) % 4), .int .u64 0, .int .i64 0], .bool true]) (ret_blk Tryd.results127 rfl (load153 ((Blk.set4 F0).alloc _)) rfl) rfl ⟨ret_split rfl (by simp) (by have := hz1.1; omega) (by omega), by (repeat (first | (with_reducible exact Ext.refl _) | (with_reducible assumption) | (with_reducible refine Ext.drew ?_) | (with_reducible refine Ext.drewN ?_ _) | (with_reducible refine Ext.alloc ?_ _) | (with_reducible refine Ext.setCell ?_ (Nat.le_refl _) _) | (with_reducible refine Ext.setCell ?_ (by simp; try omega) _) | (with_reducible refine Ext.trans ?_ (by with_reducible assumption))))⟩
end Go.Proofs.YtogdiobbjlpmoaaDoor

