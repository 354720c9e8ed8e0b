/- From what the rows say that the package variables hold when the call begins, to what the contracts ask; and a world in which it is so. No condition but those written. -/
import Derived.Test.YtogdiobbjlpmoaaDoorRows
import Derived.Test.YtogdiobbjlpmoaaDoorEnv
import Derived.Lib.LaidTab
import Derived.OpenShut
import Derived.LaidHandle
import Derived.ChangeSame
import Derived.Below
import Derived.ProofKit
namespace Go.Proofs.YtogdiobbjlpmoaaDoor
open Go Go.RowKit Go.ChangeShapes Go.WideShapes Cal
theorem gT : Tryd.prog.globalNamed "math/bits.deBruijn64tab" = some 3 := by kernel_rfl
theorem gTType : (Tryd.prog.globals[3]?).map (·.type) = some 186 := by kernel_rfl
theorem gF : Tryd.prog.globalNamed "caliper/forms.forms" = some 0 := by kernel_rfl
theorem gFType : (Tryd.prog.globals[0]?).map (·.type) = some 112 := by kernel_rfl
theorem cellsOf5 : Tryd.prog.cellsOf 5 = 1 := by kernel_rfl
theorem cellsOf186 : Tryd.prog.cellsOf 186 = 64 := by kernel_rfl
theorem cellsOf40 : Tryd.prog.cellsOf 40 = 7 := by kernel_rfl
theorem cellsOf3 : Tryd.prog.cellsOf 3 = 1 := by kernel_rfl
theorem cellsOf22 : Tryd.prog.cellsOf 22 = 1 := by kernel_rfl

def laidL : List (String × DataW Unit) := [("math/bits.deBruijn64tab", Rows.laid_math_bits_deBruijn64tab), ("caliper/forms.forms", Rows.laid_caliper_forms_forms)]

theorem tab_eq : (Rows.laid_math_bits_deBruijn64tab : DataW Unit) = Lib.tabData .u8 (Lib.deBruijn64tab.map fun (n : Nat) => (n : Int)) := rfl

/-- A form, as a reading. -/
def frmD (f : Frm) : DataW Unit := .agg [.lit (.int .i64 f.kind), .lit (.int .i64 f.width), .lit (.int .i64 f.man), .lit (.int .i64 f.bias), .lit (.int .u64 f.top), .lit (.int .u64 f.inf), .lit (.int .u64 f.nan)]
theorem forms_eq : (Rows.laid_caliper_forms_forms : DataW Unit) = .agg ((List.range 15).map fun i => frmD (frm i)) := rfl

theorem drop_take_one {cs : List Value} {j : Nat} {v : Value} (h : (cs.drop j).take 1 = [v]) : cs[j]? = some v := by
  have := congrArg (·[0]?) h
  simpa [List.getElem?_take, List.getElem?_drop] using this

/-- One field that is a whole number. -/
theorem field_int {W : World} {base m : Nat} {sp : Nat → Bool} {held : Bool} {cs : List Value} {xs : List (DataW Unit × List MemPlace)} {t j : Nat} {k : IntKind} {z : Int} (ht : Tryd.prog.underlying t = some (.int k))
    (hx : (xs.map (·.1))[j]? = some (.lit (.int k z))) (h : DataW.trod (fun _ => ()) Tryd.prog W base sp held m t ((cs.drop j).take 1) = xs[j]?) : cs[j]? = some (.int k z) := by
  rw [List.getElem?_map] at hx
  obtain ⟨y, hy, hyd⟩ := Option.map_eq_some_iff.1 hx
  rw [hy] at h
  obtain ⟨n, hc, hyn, _⟩ := DataW.trod_int ht h
  rw [hyn] at hyd
  simp only [DataW.lit.injEq, Lit.int.injEq, true_and] at hyd
  subst hyd
  exact drop_take_one hc

theorem struct_cells {W : World} {base fuel : Nat} {sp : Nat → Bool} {held : Bool} {cs : List Value} {f : Frm} {p : List MemPlace} (h : DataW.trod (fun _ => ()) Tryd.prog W base sp held fuel 40 cs = some (frmD f, p)) :
    cs[0]? = some (.int .i64 f.kind) ∧ cs[1]? = some (.int .i64 f.width) ∧ cs[2]? = some (.int .i64 f.man) ∧ cs[3]? = some (.int .i64 f.bias) ∧ cs[4]? = some (.int .u64 f.top) ∧ cs[5]? = some (.int .u64 f.inf) ∧ cs[6]? = some (.int .u64 f.nan) := by
  obtain ⟨xs, m, rfl, hx, hl, hlen, hf⟩ := DataW.trod_struct Tryd.underlying40 h
  simp only [Prod.mk.injEq] at hx
  have hxs := hx.1
  unfold frmD at hxs
  simp only [DataW.agg.injEq] at hxs
  refine ⟨?_, ?_, ?_, ?_, ?_, ?_, ?_⟩
  · exact field_int Tryd.underlying3 (by rw [← hxs]; rfl) (by have h0 : DataW.trod (fun _ => ()) Tryd.prog W base sp held m 3 ((cs.drop 0).take (Tryd.prog.cellsOf 3)) = xs[0]? := hf 0 _ rfl; rwa [cellsOf3] at h0)
  · exact field_int Tryd.underlying3 (by rw [← hxs]; rfl) (by have h0 : DataW.trod (fun _ => ()) Tryd.prog W base sp held m 3 ((cs.drop 1).take (Tryd.prog.cellsOf 3)) = xs[1]? := hf 1 _ rfl; rwa [cellsOf3] at h0)
  · exact field_int Tryd.underlying3 (by rw [← hxs]; rfl) (by have h0 : DataW.trod (fun _ => ()) Tryd.prog W base sp held m 3 ((cs.drop 2).take (Tryd.prog.cellsOf 3)) = xs[2]? := hf 2 _ rfl; rwa [cellsOf3] at h0)
  · exact field_int Tryd.underlying3 (by rw [← hxs]; rfl) (by have h0 : DataW.trod (fun _ => ()) Tryd.prog W base sp held m 3 ((cs.drop 3).take (Tryd.prog.cellsOf 3)) = xs[3]? := hf 3 _ rfl; rwa [cellsOf3] at h0)
  · exact field_int Tryd.underlying22 (by rw [← hxs]; rfl) (by have h0 : DataW.trod (fun _ => ()) Tryd.prog W base sp held m 22 ((cs.drop 4).take (Tryd.prog.cellsOf 22)) = xs[4]? := hf 4 _ rfl; rwa [cellsOf22] at h0)
  · exact field_int Tryd.underlying22 (by rw [← hxs]; rfl) (by have h0 : DataW.trod (fun _ => ()) Tryd.prog W base sp held m 22 ((cs.drop 5).take (Tryd.prog.cellsOf 22)) = xs[5]? := hf 5 _ rfl; rwa [cellsOf22] at h0)
  · exact field_int Tryd.underlying22 (by rw [← hxs]; rfl) (by have h0 : DataW.trod (fun _ => ()) Tryd.prog W base sp held m 22 ((cs.drop 6).take (Tryd.prog.cellsOf 22)) = xs[6]? := hf 6 _ rfl; rwa [cellsOf22] at h0)

theorem forms_cells {W : World} {base fuel : Nat} {sp : Nat → Bool} {held : Bool} {cs : List Value} {p : List MemPlace} (h : DataW.trod (fun _ => ()) Tryd.prog W base sp held fuel 112 cs = some (.agg ((List.range 15).map fun i => frmD (frm i)), p))
    (i : Nat) (hi : i ≤ 14) : cs[i * 7]? = some (.int .i64 (frm i).kind) ∧ cs[i * 7 + 1]? = some (.int .i64 (frm i).width) ∧ cs[i * 7 + 2]? = some (.int .i64 (frm i).man) ∧ cs[i * 7 + 3]? = some (.int .i64 (frm i).bias) ∧
      cs[i * 7 + 4]? = some (.int .u64 (frm i).top) ∧ cs[i * 7 + 5]? = some (.int .u64 (frm i).inf) ∧ cs[i * 7 + 6]? = some (.int .u64 (frm i).nan) := by
  obtain ⟨xs, m, rfl, hx, hl, hlen, hf⟩ := DataW.trod_array Tryd.underlying112 h
  simp only [Prod.mk.injEq, DataW.agg.injEq] at hx
  have h1 := hf i (by omega)
  rw [cellsOf40] at h1
  have h2 : (xs.map (·.1))[i]? = some (frmD (frm i)) := by
    rw [← hx.1]
    simp [show i < 15 by omega]
  rw [List.getElem?_map] at h2
  obtain ⟨y, hy, hyd⟩ := Option.map_eq_some_iff.1 h2
  rw [hy] at h1
  obtain ⟨y1, y2⟩ := y
  simp only at hyd
  subst hyd
  have := struct_cells h1
  simpa [List.getElem?_take, List.getElem?_drop] using this

/-- What the condition gives the walks. -/
theorem env_of_laid {W : World} (h : laidMetH Tryd.prog laidL W) : Env W := by
  have h' : laidMet Tryd.prog laidL W := h
  obtain ⟨ps, hps, _, _⟩ := h'
  obtain ⟨g1, t1, cs1, fuel1, p1, q1, hg1, ht1, hv1, hd1, hr1, _⟩ := hps
  obtain ⟨g2, t2, cs2, fuel2, p2, q2, hg2, ht2, hv2, hd2, _, _⟩ := hr1
  obtain rfl := Option.some.inj (gT.symm.trans hg1)
  obtain rfl := Option.some.inj (gTType.symm.trans ht1)
  obtain rfl := Option.some.inj (gF.symm.trans hg2)
  obtain rfl := Option.some.inj (gFType.symm.trans ht2)
  rw [tab_eq] at hd1
  rw [forms_eq] at hd2
  have hT := Lib.cells_of_tab Tryd.underlying186 Tryd.underlying5 cellsOf5 cellsOf186 hd1
  have hF := forms_cells hd2
  have ht : TzAt W := by
    intro j hj
    have := World.var?_cell gT hv1 j
    rw [this, ← Array.getElem?_toList, hT]
    simp only [List.getElem?_map, List.map_map]
    rw [List.getElem?_eq_getElem hj]
    simp [List.getD, hj]
  refine ⟨?_, fun i hi => ?_, ht⟩
  · have := ht 0 (by decide)
    exact World.block_lt_of_cell? W _ this
  · obtain ⟨a, b, c, d, e, f, g⟩ := hF i hi
    have hc := fun j => World.var?_cell gF hv2 j
    refine ⟨?_, ?_, ?_, ?_, ?_, ?_, ?_⟩
    all_goals (rw [hc, ← Array.getElem?_toList]; assumption)
section
variable {H : Type} {enc : TypeId × Value → H} {P : Program}
theorem post_of_below {f : Func} {s : ChangeSpec} {apart fresh handsOn again : Bool} {W W' : World} {args : Array Value} {v : Value} {ds gs : List (DataW H)} {before pa pv : List MemPlace}
    (hW : DataW.Whole enc P f.params.toList s.vars apart W args.toList ds gs before)
    (hres : ∀ (b : Nat) (sp : Nat → Bool) (hd : Bool), DataW.TrodAll enc P W' b sp hd f.resultTypes.toList (v.resultList f.resultTypes.size) (s.fn H (ds ++ gs)).results [])
    (hargs : ∀ sp : Nat → Bool, (∀ p ∈ before, sp p.block = true) → DataW.TrodAll enc P W' 0 sp true f.params.toList args.toList (s.fn H (ds ++ gs)).args pa)
    (hvars : ∀ sp : Nat → Bool, (∀ p ∈ before, sp p.block = true) → DataW.TrodVars enc P W' sp s.vars (s.fn H (ds ++ gs)).vars pv)
    (hps : before = pa ++ pv) (hb : Below W.heap.size W W')
    (hok : ∀ (j : Nat) (t : TypeId) (r : Value), f.resultTypes[j]? = some t → (v.resultList f.resultTypes.size)[j]? = some r → Value.okWide P W' .any 0 t r) :
    s.post enc P f apart fresh handsOn again W args v W' := by
  have hlt : ∀ p ∈ before, p.block < W.heap.size := fun p hp => hW.lt p hp
  have hold : ∀ p ∈ before, (fun b => decide (b < W.heap.size)) p.block = true := fun p hp => by simpa using hlt p hp
  refine ⟨ds, gs, before, [], pa, pv, hW, hres _ _ _, hargs _ hold, hvars _ hold, World.keptBut_mono (fun p hp => ⟨hp, ?_⟩) (hb.frame (· ∈ before)), fun _ => ?_⟩
  · rw [hps, List.mem_append] at hp
    exact Or.inr hp
  · obtain ⟨_, _, _, _, _, hz, hn⟩ := hW
    refine ⟨hok, _, _, ([] ++ pa) ++ pv, ⟨[] ++ pa, pv, trodAll_append (hargs _ (fun _ _ => rfl)) (hres _ _ _), hvars _ (fun _ _ => rfl), rfl, ?_, ?_⟩, ?_⟩
    · intro b off hp
      have hin : MemPlace.cell b off ∈ before := by rw [hps]; simpa using hp
      rw [hb.frozen (hlt _ hin)]
      exact hz b off hin
    · intro ha
      have := hn ha
      rw [hps] at this
      simpa using this
    · intro p hp _
      rw [hps]
      simpa using hp
end

def tzObj : Obj → Obj
  | .cells _ t fr => .cells (Lib.deBruijn64tab.map fun (n : Nat) => Value.int .u8 n).toArray t fr
  | o => o
def formsObj : Obj → Obj
  | .cells _ t fr => .cells ((List.range 15).flatMap fun i => [Value.int .i64 (frm i).kind, .int .i64 (frm i).width, .int .i64 (frm i).man, .int .i64 (frm i).bias, .int .u64 (frm i).top, .int .u64 (frm i).inf, .int .u64 (frm i).nan]).toArray t fr
  | o => o
/-- A world that meets the condition: the settled one, both tables laid. -/
noncomputable def laidWorld (os : Os) : World :=
  { World.holding Tryd.prog os ⟨#[], #[], []⟩ with heap := ((World.holding Tryd.prog os ⟨#[], #[], []⟩).heap.modify 3 tzObj).modify 0 formsObj }
theorem laidWorld_met (os : Os) (args : Array Value) : laidMetH Tryd.prog laidL ((laidWorld os).forCall (fun _ _ => 0) ⟨#[], args, []⟩).memory := by
  show laidMet Tryd.prog laidL _
  exact laidMet_of_run' 8 (by kernel_rfl) (by kernel_rfl)
theorem own : ownKnob Tryd.prog.godebug = none := by kernel_rfl
end Go.Proofs.YtogdiobbjlpmoaaDoor

