/- QuireSwaps: a product is the same whichever of both comes first, and of both signs turned. No condition. -/
import Derived.Test.YtogdiobbjlpmoaaDoorLaid
import Derived.Test.YtogdiobbjlpmoaaDoorFacts
import Derived.Test.YtogdiobbjlpmoaaDoorSwapsW
import Derived.Test.YtogdiobbjlpmoaaDoorArgNat
import Derived.Test.YtogdiobbjlpmoaaDoorCards
import Derived.Test.YtogdiobbjlpmoaaDoorTie
import Derived.SevenTiedAt
import Derived.OpenShut
import Derived.ProofKit
import Derived.RowKit
import Derived.RowKitTokens
import Derived.LaidLaws
import Derived.LaidHandle
import Derived.JoinedOf
import Derived.Stop.Joined
namespace Go.Proofs.YtogdiobbjlpmoaaDoor
open Go Go.ChangeShapes Go.WideShapes Go.ChangeAt Go.RowKit
set_option linter.unusedVariables false
theorem wants47 : Tryd.prog.wantsStandIn 47 = false := by kernel_rfl
set_option maxRecDepth 100000 in
theorem quireSwaps_lifted (os : Os) (started : os.Started) (H : Type) (enc : TypeId × Value → H) :
    ReturnsInHanded {} Tryd.checked os 18 .any (fun w args => (Rows.quireSwapsSpec.pre enc Tryd.prog Tryd.f18 [] false w args ∧ laidMetH Tryd.prog Rows.quireSwapsRow.laid w) ∧ sizedMet enc Tryd.prog Tryd.f18 (OpenSpec.ofChange Rows.quireSwapsSpec) false w args)
      (Rows.quireSwapsSpec.post enc Tryd.prog Tryd.f18 false true false false) := by
  refine returnsInHanded_of_change_and (C := Tryd.checked) (X := fun w _ => laidMetH Tryd.prog laidL w) (fun _ _ _ hh h => h.of_heap hh) own started (by kernel_rfl) Tryd.func18
    (ChangeSpec.witness_at (enc := enc) (C := Tryd.checked) (os := os) (X := fun w _ => laidMetH Tryd.prog laidL w) false (laidWorld os) #[.int .i64 0, .slice none 0 0, .int .u64 0, .int .u64 0] 8 rfl (by kernel_rfl) (by kernel_rfl) (by kernel_rfl) (by kernel_rfl) (by kernel_rfl) (laidWorld_met os _)) ?_
  intro W base args ds gs before hval0 hW _ _ hL _
  have hval : ∀ (j : Nat) t v, Tryd.f18.params[j]? = some t → args[j]? = some v → Value.okWide Tryd.prog W .any base t v := hval0
  have hW' := hW
  obtain ⟨p, q, hA0, hV, rfl, hfz, hnd⟩ := hW
  have hA : DataW.TrodAll enc Tryd.prog W 0 (fun _ => true) true Tryd.f18.params.toList args.toList ds p := hA0
  rw [Tryd.params18] at hA hval
  obtain ⟨v0, vs0, d0, ds0, p0, q0, hargs, rfl, rfl, h0, r0⟩ := trodAll_cons hA
  obtain ⟨v1, vs1, d1, ds1, p1, q1, rfl, rfl, rfl, h1, r1⟩ := trodAll_cons r0
  obtain ⟨v2, vs2, d2, ds2, p2, q2, rfl, rfl, rfl, h2, r2⟩ := trodAll_cons r1
  obtain ⟨v3, vs3, d3, ds3, p3, q3, rfl, rfl, rfl, h3, r3⟩ := trodAll_cons r2
  obtain ⟨rfl, rfl, rfl⟩ := trodAll_nil r3
  obtain rfl : args = #[v0, v1, v2, v3] := by cases args; simp_all
  obtain ⟨rfl, rfl⟩ := trodVars_none hV
  obtain ⟨a0, rfl, rfl, rfl, w0⟩ := open_int Tryd.underlying3 (hval 0 3 v0 rfl rfl) h0
  obtain ⟨A1, len1, cap1, m1, rfl, nv1, hA1, again1⟩ := open_nat (hval 1 47 v1 rfl rfl) h1
  obtain ⟨a2, rfl, rfl, rfl, w2⟩ := open_int Tryd.underlying22 (hval 2 22 v2 rfl rfl) h2
  obtain ⟨a3, rfl, rfl, rfl, w3⟩ := open_int Tryd.underlying22 (hval 3 22 v3 rfl rfl) h3
  clear hA0 hval0
  simp only [List.append_nil] at hW'
  have hE : Env W := env_of_laid hL
  refine (swaps_args a0 w0 A1 len1 cap1 m1 nv1 hA1 a2 w2 a3 w3 hE).mono fun e W' ⟨he, hg⟩ => ?_
  subst he
  exact ⟨_, rfl, post_of_below (pa := ([] ++ (p1 ++ ([] ++ ([] ++ []))))) (pv := []) hW' (fun _ _ _ => (trodAll_cons_mk (shut_bool Tryd.underlying4 _) trodAll_mk0)) (fun sp hsp => (trodAll_cons_mk (shut_int Tryd.underlying3 w0) (trodAll_cons_mk (again1 W' sp hg (fun x hx => hsp x (by simp only [List.mem_append]; simp [hx]))) (trodAll_cons_mk (shut_int Tryd.underlying22 w2) (trodAll_cons_mk (shut_int Tryd.underlying22 w3) trodAll_mk0))))) (fun _ _ => rfl) (by simp)
    hg (ok_one (by kernel_rfl) rfl (okWide_bool_mk Tryd.underlying4 _))⟩

theorem quireSwaps_inPlace : (Rows.quireSwapsRow.inPlace == Tryd.pinned.checked.prog.inPlace 18) = true := by kernel_rfl
theorem quireSwaps_unfollowed : (Rows.quireSwapsRow.unfollowed == Tryd.pinned.checked.prog.unfollowed 18) = true := by kernel_rfl
theorem quireSwaps_recurses : (Rows.quireSwapsRow.recurses == Tryd.pinned.checked.prog.recurses 18) = true := by kernel_rfl
theorem quireSwaps_named : (Rows.quireSwapsRow.named == Tryd.pinned.checked.prog.varsNamed 18) = true := by kernel_rfl
theorem quireSwaps_goes : false = Rows.quireSwapsRow.goesBy Tryd.pinned.checked.prog := by kernel_rfl
theorem quireSwaps_named' : Tryd.pinned.checked.prog.funcNamed Rows.quireSwapsRow.func = some 18 := by kernel_rfl
set_option maxRecDepth 100000 in
theorem quireSwaps_closed : joinedFacts Tryd.pinned.checked.prog 18 Tryd.f18 Rows.quireSwapsSpec Rows.quireSwapsRow = true := by
  have e1 : (Rows.quireSwapsRow.lifted == Tryd.pinned.checked.prog.liftsFinal) = true := by rw [lifts_final]; rfl
  have e2 : (Tryd.pinned.checked.prog.make == some Rows.quireSwapsRow.make) = true := by rw [make_is]; kernel_rfl
  unfold joinedFacts
  rw [laid_out, maps_rowed, quireSwaps_inPlace, quireSwaps_unfollowed, quireSwaps_recurses, quireSwaps_named, stops_heard, may_enter, e1, e2]
  apply Eq.symm
  apply Eq.symm
  kernel_rfl
theorem quireSwaps_row : Rows.QuireSwapsSaid :=
  OpenClaim.holds_of_wide 18 Tryd.f18 rfl rfl rfl rfl rfl rfl rfl ⟨rfl, rfl, rfl, rfl, rfl⟩ rfl rfl rfl rfl rfl quireSwaps_named' Tryd.func18 quireSwaps_closed
    (of_decide_eq_true (by kernel_rfl)) (by unfold Func.isWrapper; first | (rw [if_pos (by decide +kernel)]; kernel_rfl) | (rw [if_neg (by decide +kernel)]; exact ⟨rfl, rfl⟩))
    (fun os started H enc _ => quireSwaps_lifted os started H enc)

theorem quireSwaps_holds : Rows.QuireSwapsCardSaid :=
  Claim7.holds_tied_plain_at .later [] [.data, .data] true (true, "67740e5f8200d13ce50034b76e267fe4aee4270ac87907a654273d6e70485dca") true
    quireSwaps_row (fun _ h => by cases h) (by kernel_rfl) (fun _ h => by cases h) quireSwaps_row_tie rfl ⟨rfl, rfl⟩ main_is rfl
    (fun f fn hf hfn => by
      obtain rfl : f = 18 := (Option.some.inj (quireSwaps_named'.symm.trans hf)).symm
      obtain rfl : fn = Tryd.f18 := (Option.some.inj (Tryd.func18.symm.trans hfn)).symm
      exact ⟨looks_is, fun j t ht => by
        rw [Tryd.params18] at ht
        have h3 : t = 3 ∨ t = 22 ∨ t = 47 := by
          rcases j with _ | _ | _ | _ | j <;> simp at ht
          all_goals (first | exact .inl ht.symm | exact .inr ht.symm | exact .inr (.inl ht.symm) | exact .inr (.inr ht.symm))
        rcases h3 with rfl | rfl | rfl
        · exact wants3
        · exact wants22
        · exact wants47
      ⟩)
    quireSwaps_goes
#print axioms quireSwaps_holds
end Go.Proofs.YtogdiobbjlpmoaaDoor
