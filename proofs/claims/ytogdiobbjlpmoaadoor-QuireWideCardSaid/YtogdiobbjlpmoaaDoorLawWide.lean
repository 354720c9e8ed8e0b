/- QuireWide: the bits of a quire go round. No condition. -/
import Derived.Test.YtogdiobbjlpmoaaDoorLaid
import Derived.Test.YtogdiobbjlpmoaaDoorFacts
import Derived.Test.YtogdiobbjlpmoaaDoorWideW
import Derived.Test.YtogdiobbjlpmoaaDoorArgNat
import Derived.Test.YtogdiobbjlpmoaaDoorCards
import Derived.Test.YtogdiobbjlpmoaaDoorTie
import Derived.SevenTiedAt
import Derived.OpenShut
import Derived.ProofKit
import Derived.RowKit
import Derived.RowKitTokens
import Derived.LaidLaws
import Derived.LaidHandle
import Derived.JoinedOf
import Derived.Stop.Joined
namespace Go.Proofs.YtogdiobbjlpmoaaDoor
open Go Go.ChangeShapes Go.WideShapes Go.ChangeAt Go.RowKit
set_option linter.unusedVariables false
theorem wants47 : Tryd.prog.wantsStandIn 47 = false := by kernel_rfl
set_option maxRecDepth 100000 in
theorem quireWide_lifted (os : Os) (started : os.Started) (H : Type) (enc : TypeId × Value → H) :
    ReturnsInHanded {} Tryd.checked os 16 .any (fun w args => (Rows.quireWideSpec.pre enc Tryd.prog Tryd.f16 [] false w args ∧ laidMetH Tryd.prog Rows.quireWideRow.laid w) ∧ sizedMet enc Tryd.prog Tryd.f16 (OpenSpec.ofChange Rows.quireWideSpec) false w args)
      (Rows.quireWideSpec.post enc Tryd.prog Tryd.f16 false true false false) := by
  refine returnsInHanded_of_change_and (C := Tryd.checked) (X := fun w _ => laidMetH Tryd.prog laidL w) (fun _ _ _ hh h => h.of_heap hh) own started (by kernel_rfl) Tryd.func16
    (ChangeSpec.witness_at (enc := enc) (C := Tryd.checked) (os := os) (X := fun w _ => laidMetH Tryd.prog laidL w) false (laidWorld os) #[.int .i64 0, .slice none 0 0, .int .i64 0] 8 rfl (by kernel_rfl) (by kernel_rfl) (by kernel_rfl) (by kernel_rfl) (by kernel_rfl) (laidWorld_met os _)) ?_
  intro W base args ds gs before hval0 hW _ _ hL _
  have hval : ∀ (j : Nat) t v, Tryd.f16.params[j]? = some t → args[j]? = some v → Value.okWide Tryd.prog W .any base t v := hval0
  have hW' := hW
  obtain ⟨p, q, hA0, hV, rfl, hfz, hnd⟩ := hW
  have hA : DataW.TrodAll enc Tryd.prog W 0 (fun _ => true) true Tryd.f16.params.toList args.toList ds p := hA0
  rw [Tryd.params16] at hA hval
  obtain ⟨v0, vs0, d0, ds0, p0, q0, hargs, rfl, rfl, h0, r0⟩ := trodAll_cons hA
  obtain ⟨v1, vs1, d1, ds1, p1, q1, rfl, rfl, rfl, h1, r1⟩ := trodAll_cons r0
  obtain ⟨v2, vs2, d2, ds2, p2, q2, rfl, rfl, rfl, h2, r2⟩ := trodAll_cons r1
  obtain ⟨rfl, rfl, rfl⟩ := trodAll_nil r2
  obtain rfl : args = #[v0, v1, v2] := by cases args; simp_all
  obtain ⟨rfl, rfl⟩ := trodVars_none hV
  obtain ⟨a0, rfl, rfl, rfl, w0⟩ := open_int Tryd.underlying3 (hval 0 3 v0 rfl rfl) h0
  obtain ⟨A1, len1, cap1, m1, rfl, nv1, hA1, again1⟩ := open_nat (hval 1 47 v1 rfl rfl) h1
  obtain ⟨a2, rfl, rfl, rfl, w2⟩ := open_int Tryd.underlying3 (hval 2 3 v2 rfl rfl) h2
  clear hA0 hval0
  simp only [List.append_nil] at hW'
  have hE : Env W := env_of_laid hL
  refine (wide_args a0 w0 A1 len1 cap1 m1 nv1 hA1 a2 w2 hE).mono fun e W' ⟨he, hg⟩ => ?_
  subst he
  exact ⟨_, rfl, post_of_below (pa := ([] ++ (p1 ++ ([] ++ [])))) (pv := []) hW' (fun _ _ _ => (trodAll_cons_mk (shut_bool Tryd.underlying4 _) trodAll_mk0)) (fun sp hsp => (trodAll_cons_mk (shut_int Tryd.underlying3 w0) (trodAll_cons_mk (again1 W' sp hg (fun x hx => hsp x (by simp only [List.mem_append]; simp [hx]))) (trodAll_cons_mk (shut_int Tryd.underlying3 w2) trodAll_mk0)))) (fun _ _ => rfl) (by simp)
    hg (ok_one (by kernel_rfl) rfl (okWide_bool_mk Tryd.underlying4 _))⟩

theorem quireWide_inPlace : (Rows.quireWideRow.inPlace == Tryd.pinned.checked.prog.inPlace 16) = true := by kernel_rfl
theorem quireWide_unfollowed : (Rows.quireWideRow.unfollowed == Tryd.pinned.checked.prog.unfollowed 16) = true := by kernel_rfl
theorem quireWide_recurses : (Rows.quireWideRow.recurses == Tryd.pinned.checked.prog.recurses 16) = true := by kernel_rfl
theorem quireWide_named : (Rows.quireWideRow.named == Tryd.pinned.checked.prog.varsNamed 16) = true := by kernel_rfl
theorem quireWide_goes : false = Rows.quireWideRow.goesBy Tryd.pinned.checked.prog := by kernel_rfl
theorem quireWide_named' : Tryd.pinned.checked.prog.funcNamed Rows.quireWideRow.func = some 16 := by kernel_rfl
set_option maxRecDepth 100000 in
theorem quireWide_closed : joinedFacts Tryd.pinned.checked.prog 16 Tryd.f16 Rows.quireWideSpec Rows.quireWideRow = true := by
  have e1 : (Rows.quireWideRow.lifted == Tryd.pinned.checked.prog.liftsFinal) = true := by rw [lifts_final]; rfl
  have e2 : (Tryd.pinned.checked.prog.make == some Rows.quireWideRow.make) = true := by rw [make_is]; kernel_rfl
  unfold joinedFacts
  rw [laid_out, maps_rowed, quireWide_inPlace, quireWide_unfollowed, quireWide_recurses, quireWide_named, stops_heard, may_enter, e1, e2]
  apply Eq.symm
  apply Eq.symm
  kernel_rfl
theorem quireWide_row : Rows.QuireWideSaid :=
  OpenClaim.holds_of_wide 16 Tryd.f16 rfl rfl rfl rfl rfl rfl rfl ⟨rfl, rfl, rfl, rfl, rfl⟩ rfl rfl rfl rfl rfl quireWide_named' Tryd.func16 quireWide_closed
    (of_decide_eq_true (by kernel_rfl)) (by unfold Func.isWrapper; first | (rw [if_pos (by decide +kernel)]; kernel_rfl) | (rw [if_neg (by decide +kernel)]; exact ⟨rfl, rfl⟩))
    (fun os started H enc _ => quireWide_lifted os started H enc)

theorem quireWide_holds : Rows.QuireWideCardSaid :=
  Claim7.holds_tied_plain_at .later [] [.data, .data] true (true, "67740e5f8200d13ce50034b76e267fe4aee4270ac87907a654273d6e70485dca") true
    quireWide_row (fun _ h => by cases h) (by kernel_rfl) (fun _ h => by cases h) quireWide_row_tie rfl ⟨rfl, rfl⟩ main_is rfl
    (fun f fn hf hfn => by
      obtain rfl : f = 16 := (Option.some.inj (quireWide_named'.symm.trans hf)).symm
      obtain rfl : fn = Tryd.f16 := (Option.some.inj (Tryd.func16.symm.trans hfn)).symm
      exact ⟨looks_is, fun j t ht => by
        rw [Tryd.params16] at ht
        have h3 : t = 3 ∨ t = 47 := by
          rcases j with _ | _ | _ | j <;> simp at ht
          all_goals (first | exact .inl ht.symm | exact .inr ht.symm | exact .inr (.inl ht.symm) | exact .inr (.inr ht.symm))
        rcases h3 with rfl | rfl
        · exact wants3
        · exact wants47
      ⟩)
    quireWide_goes
#print axioms quireWide_holds
end Go.Proofs.YtogdiobbjlpmoaaDoor
