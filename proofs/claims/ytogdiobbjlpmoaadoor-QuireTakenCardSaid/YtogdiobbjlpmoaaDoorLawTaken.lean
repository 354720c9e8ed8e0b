/- QuireTaken: what is added, and taken away again, is as it was. No condition. -/
import Derived.Test.YtogdiobbjlpmoaaDoorLaid
import Derived.Test.YtogdiobbjlpmoaaDoorFacts
import Derived.Test.YtogdiobbjlpmoaaDoorTakenW
import Derived.Test.YtogdiobbjlpmoaaDoorArgNat
import Derived.Test.YtogdiobbjlpmoaaDoorCards
import Derived.Test.YtogdiobbjlpmoaaDoorTie
import Derived.SevenTiedAt
import Derived.OpenShut
import Derived.ProofKit
import Derived.RowKit
import Derived.RowKitTokens
import Derived.LaidLaws
import Derived.LaidHandle
import Derived.JoinedOf
import Derived.Stop.Joined
namespace Go.Proofs.YtogdiobbjlpmoaaDoor
open Go Go.ChangeShapes Go.WideShapes Go.ChangeAt Go.RowKit
set_option linter.unusedVariables false
theorem wants47 : Tryd.prog.wantsStandIn 47 = false := by kernel_rfl
set_option maxRecDepth 100000 in
theorem quireTaken_lifted (os : Os) (started : os.Started) (H : Type) (enc : TypeId × Value → H) :
    ReturnsInHanded {} Tryd.checked os 17 .any (fun w args => (Rows.quireTakenSpec.pre enc Tryd.prog Tryd.f17 [] false w args ∧ laidMetH Tryd.prog Rows.quireTakenRow.laid w) ∧ sizedMet enc Tryd.prog Tryd.f17 (OpenSpec.ofChange Rows.quireTakenSpec) false w args)
      (Rows.quireTakenSpec.post enc Tryd.prog Tryd.f17 false true false false) := by
  refine returnsInHanded_of_change_and (C := Tryd.checked) (X := fun w _ => laidMetH Tryd.prog laidL w) (fun _ _ _ hh h => h.of_heap hh) own started (by kernel_rfl) Tryd.func17
    (ChangeSpec.witness_at (enc := enc) (C := Tryd.checked) (os := os) (X := fun w _ => laidMetH Tryd.prog laidL w) false (laidWorld os) #[.int .i64 0, .slice none 0 0, .int .u64 0, .int .u64 0] 8 rfl (by kernel_rfl) (by kernel_rfl) (by kernel_rfl) (by kernel_rfl) (by kernel_rfl) (laidWorld_met os _)) ?_
  intro W base args ds gs before hval0 hW _ _ hL _
  have hval : ∀ (j : Nat) t v, Tryd.f17.params[j]? = some t → args[j]? = some v → Value.okWide Tryd.prog W .any base t v := hval0
  have hW' := hW
  obtain ⟨p, q, hA0, hV, rfl, hfz, hnd⟩ := hW
  have hA : DataW.TrodAll enc Tryd.prog W 0 (fun _ => true) true Tryd.f17.params.toList args.toList ds p := hA0
  rw [Tryd.params17] at hA hval
  obtain ⟨v0, vs0, d0, ds0, p0, q0, hargs, rfl, rfl, h0, r0⟩ := trodAll_cons hA
  obtain ⟨v1, vs1, d1, ds1, p1, q1, rfl, rfl, rfl, h1, r1⟩ := trodAll_cons r0
  obtain ⟨v2, vs2, d2, ds2, p2, q2, rfl, rfl, rfl, h2, r2⟩ := trodAll_cons r1
  obtain ⟨v3, vs3, d3, ds3, p3, q3, rfl, rfl, rfl, h3, r3⟩ := trodAll_cons r2
  obtain ⟨rfl, rfl, rfl⟩ := trodAll_nil r3
  obtain rfl : args = #[v0, v1, v2, v3] := by cases args; simp_all
  obtain ⟨rfl, rfl⟩ := trodVars_none hV
  obtain ⟨a0, rfl, rfl, rfl, w0⟩ := open_int Tryd.underlying3 (hval 0 3 v0 rfl rfl) h0
  obtain ⟨A1, len1, cap1, m1, rfl, nv1, hA1, again1⟩ := open_nat (hval 1 47 v1 rfl rfl) h1
  obtain ⟨a2, rfl, rfl, rfl, w2⟩ := open_int Tryd.underlying22 (hval 2 22 v2 rfl rfl) h2
  obtain ⟨a3, rfl, rfl, rfl, w3⟩ := open_int Tryd.underlying22 (hval 3 22 v3 rfl rfl) h3
  clear hA0 hval0
  simp only [List.append_nil] at hW'
  have hE : Env W := env_of_laid hL
  refine (taken_args a0 w0 A1 len1 cap1 m1 nv1 hA1 a2 w2 a3 w3 hE).mono fun e W' ⟨he, hg⟩ => ?_
  subst he
  exact ⟨_, rfl, post_of_below (pa := ([] ++ (p1 ++ ([] ++ ([] ++ []))))) (pv := []) hW' (fun _ _ _ => (trodAll_cons_mk (shut_bool Tryd.underlying4 _) trodAll_mk0)) (fun sp hsp => (trodAll_cons_mk (shut_int Tryd.underlying3 w0) (trodAll_cons_mk (again1 W' sp hg (fun x hx => hsp x (by simp only [List.mem_append]; simp [hx]))) (trodAll_cons_mk (shut_int Tryd.underlying22 w2) (trodAll_cons_mk (shut_int Tryd.underlying22 w3) trodAll_mk0))))) (fun _ _ => rfl) (by simp)
    hg (ok_one (by kernel_rfl) rfl (okWide_bool_mk Tryd.underlying4 _))⟩

theorem quireTaken_inPlace : (Rows.quireTakenRow.inPlace == Tryd.pinned.checked.prog.inPlace 17) = true := by kernel_rfl
theorem quireTaken_unfollowed : (Rows.quireTakenRow.unfollowed == Tryd.pinned.checked.prog.unfollowed 17) = true := by kernel_rfl
theorem quireTaken_recurses : (Rows.quireTakenRow.recurses == Tryd.pinned.checked.prog.recurses 17) = true := by kernel_rfl
theorem quireTaken_named : (Rows.quireTakenRow.named == Tryd.pinned.checked.prog.varsNamed 17) = true := by kernel_rfl
theorem quireTaken_goes : false = Rows.quireTakenRow.goesBy Tryd.pinned.checked.prog := by kernel_rfl
theorem quireTaken_named' : Tryd.pinned.checked.prog.funcNamed Rows.quireTakenRow.func = some 17 := by kernel_rfl
set_option maxRecDepth 100000 in
theorem quireTaken_closed : joinedFacts Tryd.pinned.checked.prog 17 Tryd.f17 Rows.quireTakenSpec Rows.quireTakenRow = true := by
  have e1 : (Rows.quireTakenRow.lifted == Tryd.pinned.checked.prog.liftsFinal) = true := by rw [lifts_final]; rfl
  have e2 : (Tryd.pinned.checked.prog.make == some Rows.quireTakenRow.make) = true := by rw [make_is]; kernel_rfl
  unfold joinedFacts
  rw [laid_out, maps_rowed, quireTaken_inPlace, quireTaken_unfollowed, quireTaken_recurses, quireTaken_named, stops_heard, may_enter, e1, e2]
  apply Eq.symm
  apply Eq.symm
  kernel_rfl
theorem quireTaken_row : Rows.QuireTakenSaid :=
  OpenClaim.holds_of_wide 17 Tryd.f17 rfl rfl rfl rfl rfl rfl rfl ⟨rfl, rfl, rfl, rfl, rfl⟩ rfl rfl rfl rfl rfl quireTaken_named' Tryd.func17 quireTaken_closed
    (of_decide_eq_true (by kernel_rfl)) (by unfold Func.isWrapper; first | (rw [if_pos (by decide +kernel)]; kernel_rfl) | (rw [if_neg (by decide +kernel)]; exact ⟨rfl, rfl⟩))
    (fun os started H enc _ => quireTaken_lifted os started H enc)

theorem quireTaken_holds : Rows.QuireTakenCardSaid :=
  Claim7.holds_tied_plain_at .later [] [.data, .data] true (true, "67740e5f8200d13ce50034b76e267fe4aee4270ac87907a654273d6e70485dca") true
    quireTaken_row (fun _ h => by cases h) (by kernel_rfl) (fun _ h => by cases h) quireTaken_row_tie rfl ⟨rfl, rfl⟩ main_is rfl
    (fun f fn hf hfn => by
      obtain rfl : f = 17 := (Option.some.inj (quireTaken_named'.symm.trans hf)).symm
      obtain rfl : fn = Tryd.f17 := (Option.some.inj (Tryd.func17.symm.trans hfn)).symm
      exact ⟨looks_is, fun j t ht => by
        rw [Tryd.params17] at ht
        have h3 : t = 3 ∨ t = 22 ∨ t = 47 := by
          rcases j with _ | _ | _ | _ | j <;> simp at ht
          all_goals (first | exact .inl ht.symm | exact .inr ht.symm | exact .inr (.inl ht.symm) | exact .inr (.inr ht.symm))
        rcases h3 with rfl | rfl | rfl
        · exact wants3
        · exact wants22
        · exact wants47
      ⟩)
    quireTaken_goes
#print axioms quireTaken_holds
end Go.Proofs.YtogdiobbjlpmoaaDoor
