/- ValueBetween: magnitudes, and the boundaries behind them, are the numbers that the document says. No condition. -/
import Derived.Test.YtogdiobbjlpmoaaDoorLaid
import Derived.Test.YtogdiobbjlpmoaaDoorFacts
import Derived.Test.YtogdiobbjlpmoaaDoorRefLaws
import Derived.Test.YtogdiobbjlpmoaaDoorCards
import Derived.Test.YtogdiobbjlpmoaaDoorTie
import Derived.SevenTiedAt
import Derived.OpenShut
import Derived.ProofKit
import Derived.RowKit
import Derived.RowKitTokens
import Derived.LaidLaws
import Derived.LaidHandle
import Derived.JoinedOf
import Derived.Stop.Joined
namespace Go.Proofs.YtogdiobbjlpmoaaDoor
open Go Go.ChangeShapes Go.WideShapes Go.ChangeAt Go.RowKit
set_option linter.unusedVariables false
set_option maxRecDepth 100000 in
theorem valueBetween_lifted (os : Os) (started : os.Started) (H : Type) (enc : TypeId × Value → H) :
    ReturnsInHanded {} Tryd.checked os 4 .any (fun w args => (Rows.valueBetweenSpec.pre enc Tryd.prog Tryd.f4 [] false w args ∧ laidMetH Tryd.prog Rows.valueBetweenRow.laid w) ∧ sizedMet enc Tryd.prog Tryd.f4 (OpenSpec.ofChange Rows.valueBetweenSpec) false w args)
      (Rows.valueBetweenSpec.post enc Tryd.prog Tryd.f4 false true false false) := by
  refine returnsInHanded_of_change_and (C := Tryd.checked) (X := fun w _ => laidMetH Tryd.prog laidL w) (fun _ _ _ hh h => h.of_heap hh) own started (by kernel_rfl) Tryd.func4
    (ChangeSpec.witness_at (enc := enc) (C := Tryd.checked) (os := os) (X := fun w _ => laidMetH Tryd.prog laidL w) false (laidWorld os) #[.int .i64 0, .int .u64 0] 8 rfl (by kernel_rfl) (by kernel_rfl) (by kernel_rfl) (by kernel_rfl) (by kernel_rfl) (laidWorld_met os _)) ?_
  intro W base args ds gs before hval0 hW _ _ hL _
  have hval : ∀ (j : Nat) t v, Tryd.f4.params[j]? = some t → args[j]? = some v → Value.okWide Tryd.prog W .any base t v := hval0
  have hW' := hW
  obtain ⟨p, q, hA0, hV, rfl, hfz, hnd⟩ := hW
  have hA : DataW.TrodAll enc Tryd.prog W 0 (fun _ => true) true Tryd.f4.params.toList args.toList ds p := hA0
  rw [Tryd.params4] at hA hval
  obtain ⟨v0, vs0, d0, ds0, p0, q0, hargs, rfl, rfl, h0, r0⟩ := trodAll_cons hA
  obtain ⟨v1, vs1, d1, ds1, p1, q1, rfl, rfl, rfl, h1, r1⟩ := trodAll_cons r0
  obtain ⟨rfl, rfl, rfl⟩ := trodAll_nil r1
  obtain rfl : args = #[v0, v1] := by cases args; simp_all
  obtain ⟨rfl, rfl⟩ := trodVars_none hV
  obtain ⟨a0, rfl, rfl, rfl, w0⟩ := open_int Tryd.underlying3 (hval 0 3 v0 rfl rfl) h0
  obtain ⟨a1, rfl, rfl, rfl, w1⟩ := open_int Tryd.underlying22 (hval 1 22 v1 rfl rfl) h1
  clear hA0 hval0
  simp only [List.append_nil] at hW'
  have hE : Env W := env_of_laid hL
  refine (betw_args a0 w0 a1 w1 W hE).mono fun e W' ⟨he, hg⟩ => ?_
  subst he
  exact ⟨_, rfl, post_of_below (pa := []) (pv := []) hW' (fun _ _ _ => (trodAll_cons_mk (shut_bool Tryd.underlying4 _) trodAll_mk0)) (fun sp _ => (trodAll_cons_mk (shut_int Tryd.underlying3 w0) (trodAll_cons_mk (shut_int Tryd.underlying22 w1) trodAll_mk0))) (fun _ _ => rfl) rfl
    hg (ok_one (by kernel_rfl) rfl (okWide_bool_mk Tryd.underlying4 _))⟩

theorem valueBetween_inPlace : (Rows.valueBetweenRow.inPlace == Tryd.pinned.checked.prog.inPlace 4) = true := by kernel_rfl
theorem valueBetween_unfollowed : (Rows.valueBetweenRow.unfollowed == Tryd.pinned.checked.prog.unfollowed 4) = true := by kernel_rfl
theorem valueBetween_recurses : (Rows.valueBetweenRow.recurses == Tryd.pinned.checked.prog.recurses 4) = true := by kernel_rfl
theorem valueBetween_named : (Rows.valueBetweenRow.named == Tryd.pinned.checked.prog.varsNamed 4) = true := by kernel_rfl
theorem valueBetween_goes : false = Rows.valueBetweenRow.goesBy Tryd.pinned.checked.prog := by kernel_rfl
theorem valueBetween_named' : Tryd.pinned.checked.prog.funcNamed Rows.valueBetweenRow.func = some 4 := by kernel_rfl
set_option maxRecDepth 100000 in
theorem valueBetween_closed : joinedFacts Tryd.pinned.checked.prog 4 Tryd.f4 Rows.valueBetweenSpec Rows.valueBetweenRow = true := by
  have e1 : (Rows.valueBetweenRow.lifted == Tryd.pinned.checked.prog.liftsFinal) = true := by rw [lifts_final]; rfl
  have e2 : (Tryd.pinned.checked.prog.make == some Rows.valueBetweenRow.make) = true := by rw [make_is]; kernel_rfl
  unfold joinedFacts
  rw [laid_out, maps_rowed, valueBetween_inPlace, valueBetween_unfollowed, valueBetween_recurses, valueBetween_named, stops_heard, may_enter, e1, e2]
  apply Eq.symm
  apply Eq.symm
  kernel_rfl
theorem valueBetween_row : Rows.ValueBetweenSaid :=
  OpenClaim.holds_of_wide 4 Tryd.f4 rfl rfl rfl rfl rfl rfl rfl ⟨rfl, rfl, rfl, rfl, rfl⟩ rfl rfl rfl rfl rfl valueBetween_named' Tryd.func4 valueBetween_closed
    (of_decide_eq_true (by kernel_rfl)) (by unfold Func.isWrapper; first | (rw [if_pos (by decide +kernel)]; kernel_rfl) | (rw [if_neg (by decide +kernel)]; exact ⟨rfl, rfl⟩))
    (fun os started H enc _ => valueBetween_lifted os started H enc)

theorem valueBetween_holds : Rows.ValueBetweenCardSaid :=
  Claim7.holds_tied_plain_at .later [] [.data, .data] true (true, "67740e5f8200d13ce50034b76e267fe4aee4270ac87907a654273d6e70485dca") true
    valueBetween_row (fun _ h => by cases h) (by kernel_rfl) (fun _ h => by cases h) valueBetween_row_tie rfl ⟨rfl, rfl⟩ main_is rfl
    (fun f fn hf hfn => by
      obtain rfl : f = 4 := (Option.some.inj (valueBetween_named'.symm.trans hf)).symm
      obtain rfl : fn = Tryd.f4 := (Option.some.inj (Tryd.func4.symm.trans hfn)).symm
      exact ⟨looks_is, fun j t ht => by
        rw [Tryd.params4] at ht
        have h3 : t = 3 ∨ t = 22 := by
          rcases j with _ | _ | j <;> simp at ht
          all_goals (first | exact .inl ht.symm | exact .inr ht.symm | exact .inr (.inl ht.symm) | exact .inr (.inr ht.symm))
        rcases h3 with rfl | rfl
        · exact wants3
        · exact wants22
      ⟩)
    valueBetween_goes
#print axioms valueBetween_holds
end Go.Proofs.YtogdiobbjlpmoaaDoor
