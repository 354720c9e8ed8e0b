/-
  NARROWER THAN 'FOR EVERY INPUT', by the rows' own cells (each row's printed sentence says how): ValueDecodes: laid · ValueBetween: laid · ValueOrder: laid · ValueKeys: laid · ValueTurned: laid · ValueOrders: laid · ValueSpecials: laid · ValueBack: laid · ShortFull: laid · ShortSigns: laid · QuireOrder: laid · QuireOne: laid · QuireNaR: laid · QuireWide: laid · QuireTaken: laid · QuireSwaps: laid · ShortBack: laid · ShortWholes: laid · ShortPowers: laid · QuireRounds: laid · ShortNearest: laid · QuireLoads: laid.
  DERIVED. THE GIVEN ROWS OF THIS SEAT. 22 by the template 'for every input the law returns true; each argument reads behind the call as it read before'; 0 by the template 'total and deterministic' (their statements: YtogdiobbjlpmoaaDoorTotals.lean).
  GIVEN WITH THE SEED: the statements are not yours to turn. If you find one false, say at which input.
  Laid BY PROGRAM, IN A SANDBOX (cutbox-rows.mjs): the forced cells as the released guide's own fill.sh prints them over the translation 9cb22ffb1585430e… (all of the seat's roots in one cut). By AI agents, Wed Nov 11 2026. No macro, syntax, notation, axiom, sorry.
-/
import Derived.Test.YtogdiobbjlpmoaaDoorChecked
import GoSem.Claim
import GoSem.ClaimJoined
import GoSem.ClaimMapViews
import Derived.JoinedTies
import Derived.KernelRfl
namespace Go.Proofs.YtogdiobbjlpmoaaDoor
/- THE CELL 'sum', in the pinned program and in every row, IS THE sha256 OF THE DUMP (.gsa) THAT YtogdiobbjlpmoaaDoorProg.lean LOADS. Nothing in Lean hashes anything: it is a label: what it is worth is what the hold of that sum in a sandbox is worth. -/
noncomputable def Tryd.pinned : Pinned := { name := "ytogdiobbjlpmoaadoor", sum := "9cb22ffb1585430ed40594794c43f1564097897944911267da710ce4e9cbf614", checked := Tryd.checked }
namespace Rows
def none {H : Type} : Left H := { results := [], args := [] }

/- WHAT THE LISTED PACKAGE-LEVEL VARIABLES READ AS WHEN THE CALL BEGINS. Each datum BY PROGRAM (the guide's laid-datum.mjs) off the statement by which the dump's own 'gosem.cut.vars' lays the variable. In a bare row this is a premise. The card (YtogdiobbjlpmoaaDoorCards.lean) ties it to the program's text. -/
def laid_math_bits_deBruijn64tab {H : Type} : DataW H := .agg [.lit (.int .u8 0), .lit (.int .u8 1), .lit (.int .u8 56), .lit (.int .u8 2), .lit (.int .u8 57), .lit (.int .u8 49), .lit (.int .u8 28), .lit (.int .u8 3), .lit (.int .u8 61), .lit (.int .u8 58), .lit (.int .u8 42), .lit (.int .u8 50), .lit (.int .u8 38), .lit (.int .u8 29), .lit (.int .u8 17), .lit (.int .u8 4), .lit (.int .u8 62), .lit (.int .u8 47), .lit (.int .u8 59), .lit (.int .u8 36), .lit (.int .u8 45), .lit (.int .u8 43), .lit (.int .u8 51), .lit (.int .u8 22), .lit (.int .u8 53), .lit (.int .u8 39), .lit (.int .u8 33), .lit (.int .u8 30), .lit (.int .u8 24), .lit (.int .u8 18), .lit (.int .u8 12), .lit (.int .u8 5), .lit (.int .u8 63), .lit (.int .u8 55), .lit (.int .u8 48), .lit (.int .u8 27), .lit (.int .u8 60), .lit (.int .u8 41), .lit (.int .u8 37), .lit (.int .u8 16), .lit (.int .u8 46), .lit (.int .u8 35), .lit (.int .u8 44), .lit (.int .u8 21), .lit (.int .u8 52), .lit (.int .u8 32), .lit (.int .u8 23), .lit (.int .u8 11), .lit (.int .u8 54), .lit (.int .u8 26), .lit (.int .u8 40), .lit (.int .u8 15), .lit (.int .u8 34), .lit (.int .u8 20), .lit (.int .u8 31), .lit (.int .u8 10), .lit (.int .u8 25), .lit (.int .u8 14), .lit (.int .u8 19), .lit (.int .u8 9), .lit (.int .u8 13), .lit (.int .u8 8), .lit (.int .u8 7), .lit (.int .u8 6)]
def laid_caliper_forms_forms {H : Type} : DataW H := .agg [.agg [.lit (.int .i64 0), .lit (.int .i64 0), .lit (.int .i64 0), .lit (.int .i64 0), .lit (.int .u64 0), .lit (.int .u64 0), .lit (.int .u64 0)], .agg [.lit (.int .i64 1), .lit (.int .i64 8), .lit (.int .i64 0), .lit (.int .i64 0), .lit (.int .u64 127), .lit (.int .u64 0), .lit (.int .u64 128)], .agg [.lit (.int .i64 1), .lit (.int .i64 16), .lit (.int .i64 0), .lit (.int .i64 0), .lit (.int .u64 32767), .lit (.int .u64 0), .lit (.int .u64 32768)], .agg [.lit (.int .i64 1), .lit (.int .i64 32), .lit (.int .i64 0), .lit (.int .i64 0), .lit (.int .u64 2147483647), .lit (.int .u64 0), .lit (.int .u64 2147483648)], .agg [.lit (.int .i64 1), .lit (.int .i64 64), .lit (.int .i64 0), .lit (.int .i64 0), .lit (.int .u64 9223372036854775807), .lit (.int .u64 0), .lit (.int .u64 9223372036854775808)], .agg [.lit (.int .i64 2), .lit (.int .i64 8), .lit (.int .i64 3), .lit (.int .i64 7), .lit (.int .u64 126), .lit (.int .u64 0), .lit (.int .u64 127)], .agg [.lit (.int .i64 2), .lit (.int .i64 8), .lit (.int .i64 2), .lit (.int .i64 15), .lit (.int .u64 123), .lit (.int .u64 124), .lit (.int .u64 126)], .agg [.lit (.int .i64 2), .lit (.int .i64 6), .lit (.int .i64 2), .lit (.int .i64 3), .lit (.int .u64 31), .lit (.int .u64 0), .lit (.int .u64 0)], .agg [.lit (.int .i64 2), .lit (.int .i64 6), .lit (.int .i64 3), .lit (.int .i64 1), .lit (.int .u64 31), .lit (.int .u64 0), .lit (.int .u64 0)], .agg [.lit (.int .i64 2), .lit (.int .i64 4), .lit (.int .i64 1), .lit (.int .i64 1), .lit (.int .u64 7), .lit (.int .u64 0), .lit (.int .u64 0)], .agg [.lit (.int .i64 3), .lit (.int .i64 8), .lit (.int .i64 6), .lit (.int .i64 0), .lit (.int .u64 127), .lit (.int .u64 0), .lit (.int .u64 0)], .agg [.lit (.int .i64 4), .lit (.int .i64 8), .lit (.int .i64 0), .lit (.int .i64 127), .lit (.int .u64 254), .lit (.int .u64 0), .lit (.int .u64 255)], .agg [.lit (.int .i64 2), .lit (.int .i64 16), .lit (.int .i64 10), .lit (.int .i64 15), .lit (.int .u64 31743), .lit (.int .u64 31744), .lit (.int .u64 32256)], .agg [.lit (.int .i64 2), .lit (.int .i64 32), .lit (.int .i64 23), .lit (.int .i64 127), .lit (.int .u64 2139095039), .lit (.int .u64 2139095040), .lit (.int .u64 2143289344)], .agg [.lit (.int .i64 2), .lit (.int .i64 64), .lit (.int .i64 52), .lit (.int .i64 1023), .lit (.int .u64 9218868437227405311), .lit (.int .u64 9218868437227405312), .lit (.int .u64 9221120237041090560)]]

/-- 'caliperlaw07.ValueDecodes': WHATEVER THE INPUT: true; the input reads as it did. -/
def valueDecodesSpec : ChangeSpec := { name := "valueDecodes", fn := fun _ => fun
  | [d1, d2] => { results := [.lit (.bool true)], args := [d1, d2] }
  | _ => none }
def valueDecodesRow : OpenClaim := { program := "ytogdiobbjlpmoaadoor", sum := "9cb22ffb1585430ed40594794c43f1564097897944911267da710ce4e9cbf614", func := "caliper/caliperlaw07.ValueDecodes", spec := "valueDecodes", unfollowed := true, recurses := true, named := ["caliper/forms.forms", "math/bits.deBruijn64tab"], apart := false, laid := [("math/bits.deBruijn64tab", laid_math_bits_deBruijn64tab), ("caliper/forms.forms", laid_caliper_forms_forms)] }
def ValueDecodesSaid : Prop := valueDecodesRow.holds Tryd.pinned (OpenSpec.ofChange valueDecodesSpec)

/-- ITS FALSE NEIGHBOUR: 'it returns false'. Refute it at one input. -/
def valueDecodesWrong : ChangeSpec := { name := "valueDecodes", fn := fun _ => fun
  | [d1, d2] => { results := [.lit (.bool false)], args := [d1, d2] }
  | _ => none }
def ValueDecodesWrongFalsely : Prop := valueDecodesRow.holds Tryd.pinned (OpenSpec.ofChange valueDecodesWrong)

/-- 'caliperlaw07.ValueBetween': WHATEVER THE INPUT: true; the input reads as it did. -/
def valueBetweenSpec : ChangeSpec := { name := "valueBetween", fn := fun _ => fun
  | [d1, d2] => { results := [.lit (.bool true)], args := [d1, d2] }
  | _ => none }
def valueBetweenRow : OpenClaim := { program := "ytogdiobbjlpmoaadoor", sum := "9cb22ffb1585430ed40594794c43f1564097897944911267da710ce4e9cbf614", func := "caliper/caliperlaw07.ValueBetween", spec := "valueBetween", unfollowed := true, recurses := true, named := ["caliper/forms.forms", "math/bits.deBruijn64tab"], apart := false, laid := [("math/bits.deBruijn64tab", laid_math_bits_deBruijn64tab), ("caliper/forms.forms", laid_caliper_forms_forms)] }
def ValueBetweenSaid : Prop := valueBetweenRow.holds Tryd.pinned (OpenSpec.ofChange valueBetweenSpec)

/-- ITS FALSE NEIGHBOUR: 'it returns false'. Refute it at one input. -/
def valueBetweenWrong : ChangeSpec := { name := "valueBetween", fn := fun _ => fun
  | [d1, d2] => { results := [.lit (.bool false)], args := [d1, d2] }
  | _ => none }
def ValueBetweenWrongFalsely : Prop := valueBetweenRow.holds Tryd.pinned (OpenSpec.ofChange valueBetweenWrong)

/-- 'caliperlaw07.ValueOrder': WHATEVER THE INPUT: true; the input reads as it did. -/
def valueOrderSpec : ChangeSpec := { name := "valueOrder", fn := fun _ => fun
  | [d1, d2] => { results := [.lit (.bool true)], args := [d1, d2] }
  | _ => none }
def valueOrderRow : OpenClaim := { program := "ytogdiobbjlpmoaadoor", sum := "9cb22ffb1585430ed40594794c43f1564097897944911267da710ce4e9cbf614", func := "caliper/caliperlaw07.ValueOrder", spec := "valueOrder", unfollowed := true, recurses := true, named := ["caliper/forms.forms", "math/bits.deBruijn64tab"], apart := false, laid := [("math/bits.deBruijn64tab", laid_math_bits_deBruijn64tab), ("caliper/forms.forms", laid_caliper_forms_forms)] }
def ValueOrderSaid : Prop := valueOrderRow.holds Tryd.pinned (OpenSpec.ofChange valueOrderSpec)

/-- ITS FALSE NEIGHBOUR: 'it returns false'. Refute it at one input. -/
def valueOrderWrong : ChangeSpec := { name := "valueOrder", fn := fun _ => fun
  | [d1, d2] => { results := [.lit (.bool false)], args := [d1, d2] }
  | _ => none }
def ValueOrderWrongFalsely : Prop := valueOrderRow.holds Tryd.pinned (OpenSpec.ofChange valueOrderWrong)

/-- 'caliperlaw07.ValueKeys': WHATEVER THE INPUT: true; the input reads as it did. -/
def valueKeysSpec : ChangeSpec := { name := "valueKeys", fn := fun _ => fun
  | [d1, d2, d3, d4] => { results := [.lit (.bool true)], args := [d1, d2, d3, d4] }
  | _ => none }
def valueKeysRow : OpenClaim := { program := "ytogdiobbjlpmoaadoor", sum := "9cb22ffb1585430ed40594794c43f1564097897944911267da710ce4e9cbf614", func := "caliper/caliperlaw07.ValueKeys", spec := "valueKeys", unfollowed := true, recurses := true, named := ["caliper/forms.forms", "math/bits.deBruijn64tab"], apart := false, laid := [("math/bits.deBruijn64tab", laid_math_bits_deBruijn64tab), ("caliper/forms.forms", laid_caliper_forms_forms)] }
def ValueKeysSaid : Prop := valueKeysRow.holds Tryd.pinned (OpenSpec.ofChange valueKeysSpec)

/-- ITS FALSE NEIGHBOUR: 'it returns false'. Refute it at one input. -/
def valueKeysWrong : ChangeSpec := { name := "valueKeys", fn := fun _ => fun
  | [d1, d2, d3, d4] => { results := [.lit (.bool false)], args := [d1, d2, d3, d4] }
  | _ => none }
def ValueKeysWrongFalsely : Prop := valueKeysRow.holds Tryd.pinned (OpenSpec.ofChange valueKeysWrong)

/-- 'caliperlaw07.ValueTurned': WHATEVER THE INPUT: true; the input reads as it did. -/
def valueTurnedSpec : ChangeSpec := { name := "valueTurned", fn := fun _ => fun
  | [d1, d2] => { results := [.lit (.bool true)], args := [d1, d2] }
  | _ => none }
def valueTurnedRow : OpenClaim := { program := "ytogdiobbjlpmoaadoor", sum := "9cb22ffb1585430ed40594794c43f1564097897944911267da710ce4e9cbf614", func := "caliper/caliperlaw07.ValueTurned", spec := "valueTurned", unfollowed := true, recurses := true, named := ["caliper/forms.forms", "math/bits.deBruijn64tab"], apart := false, laid := [("math/bits.deBruijn64tab", laid_math_bits_deBruijn64tab), ("caliper/forms.forms", laid_caliper_forms_forms)] }
def ValueTurnedSaid : Prop := valueTurnedRow.holds Tryd.pinned (OpenSpec.ofChange valueTurnedSpec)

/-- ITS FALSE NEIGHBOUR: 'it returns false'. Refute it at one input. -/
def valueTurnedWrong : ChangeSpec := { name := "valueTurned", fn := fun _ => fun
  | [d1, d2] => { results := [.lit (.bool false)], args := [d1, d2] }
  | _ => none }
def ValueTurnedWrongFalsely : Prop := valueTurnedRow.holds Tryd.pinned (OpenSpec.ofChange valueTurnedWrong)

/-- 'caliperlaw07.ValueOrders': WHATEVER THE INPUT: true; the input reads as it did. -/
def valueOrdersSpec : ChangeSpec := { name := "valueOrders", fn := fun _ => fun
  | [d1, d2, d3] => { results := [.lit (.bool true)], args := [d1, d2, d3] }
  | _ => none }
def valueOrdersRow : OpenClaim := { program := "ytogdiobbjlpmoaadoor", sum := "9cb22ffb1585430ed40594794c43f1564097897944911267da710ce4e9cbf614", func := "caliper/caliperlaw07.ValueOrders", spec := "valueOrders", unfollowed := true, recurses := true, named := ["caliper/forms.forms", "math/bits.deBruijn64tab"], apart := false, laid := [("math/bits.deBruijn64tab", laid_math_bits_deBruijn64tab), ("caliper/forms.forms", laid_caliper_forms_forms)] }
def ValueOrdersSaid : Prop := valueOrdersRow.holds Tryd.pinned (OpenSpec.ofChange valueOrdersSpec)

/-- ITS FALSE NEIGHBOUR: 'it returns false'. Refute it at one input. -/
def valueOrdersWrong : ChangeSpec := { name := "valueOrders", fn := fun _ => fun
  | [d1, d2, d3] => { results := [.lit (.bool false)], args := [d1, d2, d3] }
  | _ => none }
def ValueOrdersWrongFalsely : Prop := valueOrdersRow.holds Tryd.pinned (OpenSpec.ofChange valueOrdersWrong)

/-- 'caliperlaw07.ValueSpecials': WHATEVER THE INPUT: true; the input reads as it did. -/
def valueSpecialsSpec : ChangeSpec := { name := "valueSpecials", fn := fun _ => fun
  | [d1, d2] => { results := [.lit (.bool true)], args := [d1, d2] }
  | _ => none }
def valueSpecialsRow : OpenClaim := { program := "ytogdiobbjlpmoaadoor", sum := "9cb22ffb1585430ed40594794c43f1564097897944911267da710ce4e9cbf614", func := "caliper/caliperlaw07.ValueSpecials", spec := "valueSpecials", unfollowed := true, recurses := true, named := ["caliper/forms.forms", "math/bits.deBruijn64tab"], apart := false, laid := [("math/bits.deBruijn64tab", laid_math_bits_deBruijn64tab), ("caliper/forms.forms", laid_caliper_forms_forms)] }
def ValueSpecialsSaid : Prop := valueSpecialsRow.holds Tryd.pinned (OpenSpec.ofChange valueSpecialsSpec)

/-- ITS FALSE NEIGHBOUR: 'it returns false'. Refute it at one input. -/
def valueSpecialsWrong : ChangeSpec := { name := "valueSpecials", fn := fun _ => fun
  | [d1, d2] => { results := [.lit (.bool false)], args := [d1, d2] }
  | _ => none }
def ValueSpecialsWrongFalsely : Prop := valueSpecialsRow.holds Tryd.pinned (OpenSpec.ofChange valueSpecialsWrong)

/-- 'caliperlaw07.ValueBack': WHATEVER THE INPUT: true; the input reads as it did. -/
def valueBackSpec : ChangeSpec := { name := "valueBack", fn := fun _ => fun
  | [d1, d2] => { results := [.lit (.bool true)], args := [d1, d2] }
  | _ => none }
def valueBackRow : OpenClaim := { program := "ytogdiobbjlpmoaadoor", sum := "9cb22ffb1585430ed40594794c43f1564097897944911267da710ce4e9cbf614", func := "caliper/caliperlaw07.ValueBack", spec := "valueBack", unfollowed := true, recurses := true, named := ["caliper/forms.forms", "math/bits.deBruijn64tab"], apart := false, laid := [("math/bits.deBruijn64tab", laid_math_bits_deBruijn64tab), ("caliper/forms.forms", laid_caliper_forms_forms)] }
def ValueBackSaid : Prop := valueBackRow.holds Tryd.pinned (OpenSpec.ofChange valueBackSpec)

/-- ITS FALSE NEIGHBOUR: 'it returns false'. Refute it at one input. -/
def valueBackWrong : ChangeSpec := { name := "valueBack", fn := fun _ => fun
  | [d1, d2] => { results := [.lit (.bool false)], args := [d1, d2] }
  | _ => none }
def ValueBackWrongFalsely : Prop := valueBackRow.holds Tryd.pinned (OpenSpec.ofChange valueBackWrong)

/-- 'caliperlaw11.ShortFull': WHATEVER THE INPUT: true; the input reads as it did. -/
def shortFullSpec : ChangeSpec := { name := "shortFull", fn := fun _ => fun
  | [d1, d2] => { results := [.lit (.bool true)], args := [d1, d2] }
  | _ => none }
def shortFullRow : OpenClaim := { program := "ytogdiobbjlpmoaadoor", sum := "9cb22ffb1585430ed40594794c43f1564097897944911267da710ce4e9cbf614", func := "caliper/caliperlaw11.ShortFull", spec := "shortFull", inPlace := ["math/bits.Add64", "math/bits.Sub64"], unfollowed := true, recurses := true, named := ["caliper/forms.forms", "math/bits.deBruijn64tab", "math/bits.divideError", "math/bits.overflowError"], apart := false, laid := [("math/bits.deBruijn64tab", laid_math_bits_deBruijn64tab), ("caliper/forms.forms", laid_caliper_forms_forms)] }
def ShortFullSaid : Prop := shortFullRow.holds Tryd.pinned (OpenSpec.ofChange shortFullSpec)

/-- ITS FALSE NEIGHBOUR: 'it returns false'. Refute it at one input. -/
def shortFullWrong : ChangeSpec := { name := "shortFull", fn := fun _ => fun
  | [d1, d2] => { results := [.lit (.bool false)], args := [d1, d2] }
  | _ => none }
def ShortFullWrongFalsely : Prop := shortFullRow.holds Tryd.pinned (OpenSpec.ofChange shortFullWrong)

/-- 'caliperlaw11.ShortSigns': WHATEVER THE INPUT: true; the input reads as it did. -/
def shortSignsSpec : ChangeSpec := { name := "shortSigns", fn := fun _ => fun
  | [d1, d2] => { results := [.lit (.bool true)], args := [d1, d2] }
  | _ => none }
def shortSignsRow : OpenClaim := { program := "ytogdiobbjlpmoaadoor", sum := "9cb22ffb1585430ed40594794c43f1564097897944911267da710ce4e9cbf614", func := "caliper/caliperlaw11.ShortSigns", spec := "shortSigns", inPlace := ["math/bits.Add64", "math/bits.Sub64"], unfollowed := true, recurses := true, named := ["caliper/forms.forms", "math/bits.deBruijn64tab", "math/bits.divideError", "math/bits.overflowError"], apart := false, laid := [("math/bits.deBruijn64tab", laid_math_bits_deBruijn64tab), ("caliper/forms.forms", laid_caliper_forms_forms)] }
def ShortSignsSaid : Prop := shortSignsRow.holds Tryd.pinned (OpenSpec.ofChange shortSignsSpec)

/-- ITS FALSE NEIGHBOUR: 'it returns false'. Refute it at one input. -/
def shortSignsWrong : ChangeSpec := { name := "shortSigns", fn := fun _ => fun
  | [d1, d2] => { results := [.lit (.bool false)], args := [d1, d2] }
  | _ => none }
def ShortSignsWrongFalsely : Prop := shortSignsRow.holds Tryd.pinned (OpenSpec.ofChange shortSignsWrong)

/-- 'caliperlaw15.QuireOrder': WHATEVER THE INPUT: true; the input reads as it did. -/
def quireOrderSpec : ChangeSpec := { name := "quireOrder", fn := fun _ => fun
  | [d1, d2] => { results := [.lit (.bool true)], args := [d1, d2] }
  | _ => none }
def quireOrderRow : OpenClaim := { program := "ytogdiobbjlpmoaadoor", sum := "9cb22ffb1585430ed40594794c43f1564097897944911267da710ce4e9cbf614", func := "caliper/caliperlaw15.QuireOrder", spec := "quireOrder", inPlace := ["math/bits.Add64", "math/bits.Sub64"], unfollowed := true, recurses := true, named := ["caliper/forms.forms", "math/bits.deBruijn64tab", "math/bits.divideError", "math/bits.overflowError"], apart := false, laid := [("math/bits.deBruijn64tab", laid_math_bits_deBruijn64tab), ("caliper/forms.forms", laid_caliper_forms_forms)] }
def QuireOrderSaid : Prop := quireOrderRow.holds Tryd.pinned (OpenSpec.ofChange quireOrderSpec)

/-- ITS FALSE NEIGHBOUR: 'it returns false'. Refute it at one input. -/
def quireOrderWrong : ChangeSpec := { name := "quireOrder", fn := fun _ => fun
  | [d1, d2] => { results := [.lit (.bool false)], args := [d1, d2] }
  | _ => none }
def QuireOrderWrongFalsely : Prop := quireOrderRow.holds Tryd.pinned (OpenSpec.ofChange quireOrderWrong)

/-- 'caliperlaw15.QuireOne': WHATEVER THE INPUT: true; the input reads as it did. -/
def quireOneSpec : ChangeSpec := { name := "quireOne", fn := fun _ => fun
  | [d1, d2] => { results := [.lit (.bool true)], args := [d1, d2] }
  | _ => none }
def quireOneRow : OpenClaim := { program := "ytogdiobbjlpmoaadoor", sum := "9cb22ffb1585430ed40594794c43f1564097897944911267da710ce4e9cbf614", func := "caliper/caliperlaw15.QuireOne", spec := "quireOne", inPlace := ["math/bits.Add64", "math/bits.Sub64"], unfollowed := true, recurses := true, named := ["caliper/forms.forms", "math/bits.deBruijn64tab", "math/bits.divideError", "math/bits.overflowError"], apart := false, laid := [("math/bits.deBruijn64tab", laid_math_bits_deBruijn64tab), ("caliper/forms.forms", laid_caliper_forms_forms)] }
def QuireOneSaid : Prop := quireOneRow.holds Tryd.pinned (OpenSpec.ofChange quireOneSpec)

/-- ITS FALSE NEIGHBOUR: 'it returns false'. Refute it at one input. -/
def quireOneWrong : ChangeSpec := { name := "quireOne", fn := fun _ => fun
  | [d1, d2] => { results := [.lit (.bool false)], args := [d1, d2] }
  | _ => none }
def QuireOneWrongFalsely : Prop := quireOneRow.holds Tryd.pinned (OpenSpec.ofChange quireOneWrong)

/-- 'caliperlaw15.QuireNaR': WHATEVER THE INPUT: true; the input reads as it did. -/
def quireNaRSpec : ChangeSpec := { name := "quireNaR", fn := fun _ => fun
  | [d1, d2] => { results := [.lit (.bool true)], args := [d1, d2] }
  | _ => none }
def quireNaRRow : OpenClaim := { program := "ytogdiobbjlpmoaadoor", sum := "9cb22ffb1585430ed40594794c43f1564097897944911267da710ce4e9cbf614", func := "caliper/caliperlaw15.QuireNaR", spec := "quireNaR", inPlace := ["math/bits.Add64", "math/bits.Sub64"], unfollowed := true, recurses := true, named := ["caliper/forms.forms", "math/bits.deBruijn64tab", "math/bits.divideError", "math/bits.overflowError"], apart := false, laid := [("math/bits.deBruijn64tab", laid_math_bits_deBruijn64tab), ("caliper/forms.forms", laid_caliper_forms_forms)] }
def QuireNaRSaid : Prop := quireNaRRow.holds Tryd.pinned (OpenSpec.ofChange quireNaRSpec)

/-- ITS FALSE NEIGHBOUR: 'it returns false'. Refute it at one input. -/
def quireNaRWrong : ChangeSpec := { name := "quireNaR", fn := fun _ => fun
  | [d1, d2] => { results := [.lit (.bool false)], args := [d1, d2] }
  | _ => none }
def QuireNaRWrongFalsely : Prop := quireNaRRow.holds Tryd.pinned (OpenSpec.ofChange quireNaRWrong)

/-- 'caliperlaw15.QuireWide': WHATEVER THE INPUT: true; the input reads as it did. -/
def quireWideSpec : ChangeSpec := { name := "quireWide", fn := fun _ => fun
  | [d1, d2, d3] => { results := [.lit (.bool true)], args := [d1, d2, d3] }
  | _ => none }
def quireWideRow : OpenClaim := { program := "ytogdiobbjlpmoaadoor", sum := "9cb22ffb1585430ed40594794c43f1564097897944911267da710ce4e9cbf614", func := "caliper/caliperlaw15.QuireWide", spec := "quireWide", inPlace := ["math/bits.Add64", "math/bits.Sub64"], unfollowed := true, recurses := true, named := ["caliper/forms.forms", "math/bits.deBruijn64tab", "math/bits.divideError", "math/bits.overflowError"], apart := false, laid := [("math/bits.deBruijn64tab", laid_math_bits_deBruijn64tab), ("caliper/forms.forms", laid_caliper_forms_forms)] }
def QuireWideSaid : Prop := quireWideRow.holds Tryd.pinned (OpenSpec.ofChange quireWideSpec)

/-- ITS FALSE NEIGHBOUR: 'it returns false'. Refute it at one input. -/
def quireWideWrong : ChangeSpec := { name := "quireWide", fn := fun _ => fun
  | [d1, d2, d3] => { results := [.lit (.bool false)], args := [d1, d2, d3] }
  | _ => none }
def QuireWideWrongFalsely : Prop := quireWideRow.holds Tryd.pinned (OpenSpec.ofChange quireWideWrong)

/-- 'caliperlaw15.QuireTaken': WHATEVER THE INPUT: true; the input reads as it did. -/
def quireTakenSpec : ChangeSpec := { name := "quireTaken", fn := fun _ => fun
  | [d1, d2, d3, d4] => { results := [.lit (.bool true)], args := [d1, d2, d3, d4] }
  | _ => none }
def quireTakenRow : OpenClaim := { program := "ytogdiobbjlpmoaadoor", sum := "9cb22ffb1585430ed40594794c43f1564097897944911267da710ce4e9cbf614", func := "caliper/caliperlaw15.QuireTaken", spec := "quireTaken", inPlace := ["math/bits.Add64", "math/bits.Sub64"], unfollowed := true, recurses := true, named := ["caliper/forms.forms", "math/bits.deBruijn64tab", "math/bits.divideError", "math/bits.overflowError"], apart := false, laid := [("math/bits.deBruijn64tab", laid_math_bits_deBruijn64tab), ("caliper/forms.forms", laid_caliper_forms_forms)] }
def QuireTakenSaid : Prop := quireTakenRow.holds Tryd.pinned (OpenSpec.ofChange quireTakenSpec)

/-- ITS FALSE NEIGHBOUR: 'it returns false'. Refute it at one input. -/
def quireTakenWrong : ChangeSpec := { name := "quireTaken", fn := fun _ => fun
  | [d1, d2, d3, d4] => { results := [.lit (.bool false)], args := [d1, d2, d3, d4] }
  | _ => none }
def QuireTakenWrongFalsely : Prop := quireTakenRow.holds Tryd.pinned (OpenSpec.ofChange quireTakenWrong)

/-- 'caliperlaw15.QuireSwaps': WHATEVER THE INPUT: true; the input reads as it did. -/
def quireSwapsSpec : ChangeSpec := { name := "quireSwaps", fn := fun _ => fun
  | [d1, d2, d3, d4] => { results := [.lit (.bool true)], args := [d1, d2, d3, d4] }
  | _ => none }
def quireSwapsRow : OpenClaim := { program := "ytogdiobbjlpmoaadoor", sum := "9cb22ffb1585430ed40594794c43f1564097897944911267da710ce4e9cbf614", func := "caliper/caliperlaw15.QuireSwaps", spec := "quireSwaps", inPlace := ["math/bits.Add64", "math/bits.Sub64"], unfollowed := true, recurses := true, named := ["caliper/forms.forms", "math/bits.deBruijn64tab", "math/bits.divideError", "math/bits.overflowError"], apart := false, laid := [("math/bits.deBruijn64tab", laid_math_bits_deBruijn64tab), ("caliper/forms.forms", laid_caliper_forms_forms)] }
def QuireSwapsSaid : Prop := quireSwapsRow.holds Tryd.pinned (OpenSpec.ofChange quireSwapsSpec)

/-- ITS FALSE NEIGHBOUR: 'it returns false'. Refute it at one input. -/
def quireSwapsWrong : ChangeSpec := { name := "quireSwaps", fn := fun _ => fun
  | [d1, d2, d3, d4] => { results := [.lit (.bool false)], args := [d1, d2, d3, d4] }
  | _ => none }
def QuireSwapsWrongFalsely : Prop := quireSwapsRow.holds Tryd.pinned (OpenSpec.ofChange quireSwapsWrong)

/-- 'caliperlaw11.ShortBack': WHATEVER THE INPUT: true; the input reads as it did. -/
def shortBackSpec : ChangeSpec := { name := "shortBack", fn := fun _ => fun
  | [d1, d2, d3] => { results := [.lit (.bool true)], args := [d1, d2, d3] }
  | _ => none }
def shortBackRow : OpenClaim := { program := "ytogdiobbjlpmoaadoor", sum := "9cb22ffb1585430ed40594794c43f1564097897944911267da710ce4e9cbf614", func := "caliper/caliperlaw11.ShortBack", spec := "shortBack", inPlace := ["math/bits.Add64", "math/bits.Sub64"], unfollowed := true, recurses := true, named := ["caliper/forms.forms", "math/bits.deBruijn64tab", "math/bits.divideError", "math/bits.overflowError"], apart := false, laid := [("math/bits.deBruijn64tab", laid_math_bits_deBruijn64tab), ("caliper/forms.forms", laid_caliper_forms_forms)] }
def ShortBackSaid : Prop := shortBackRow.holds Tryd.pinned (OpenSpec.ofChange shortBackSpec)

/-- ITS FALSE NEIGHBOUR: 'it returns false'. Refute it at one input. -/
def shortBackWrong : ChangeSpec := { name := "shortBack", fn := fun _ => fun
  | [d1, d2, d3] => { results := [.lit (.bool false)], args := [d1, d2, d3] }
  | _ => none }
def ShortBackWrongFalsely : Prop := shortBackRow.holds Tryd.pinned (OpenSpec.ofChange shortBackWrong)

/-- 'caliperlaw11.ShortWholes': WHATEVER THE INPUT: true; the input reads as it did. -/
def shortWholesSpec : ChangeSpec := { name := "shortWholes", fn := fun _ => fun
  | [d1, d2] => { results := [.lit (.bool true)], args := [d1, d2] }
  | _ => none }
def shortWholesRow : OpenClaim := { program := "ytogdiobbjlpmoaadoor", sum := "9cb22ffb1585430ed40594794c43f1564097897944911267da710ce4e9cbf614", func := "caliper/caliperlaw11.ShortWholes", spec := "shortWholes", inPlace := ["math/bits.Add64", "math/bits.Sub64"], unfollowed := true, recurses := true, named := ["caliper/forms.forms", "math/bits.deBruijn64tab", "math/bits.divideError", "math/bits.overflowError"], apart := false, laid := [("math/bits.deBruijn64tab", laid_math_bits_deBruijn64tab), ("caliper/forms.forms", laid_caliper_forms_forms)] }
def ShortWholesSaid : Prop := shortWholesRow.holds Tryd.pinned (OpenSpec.ofChange shortWholesSpec)

/-- ITS FALSE NEIGHBOUR: 'it returns false'. Refute it at one input. -/
def shortWholesWrong : ChangeSpec := { name := "shortWholes", fn := fun _ => fun
  | [d1, d2] => { results := [.lit (.bool false)], args := [d1, d2] }
  | _ => none }
def ShortWholesWrongFalsely : Prop := shortWholesRow.holds Tryd.pinned (OpenSpec.ofChange shortWholesWrong)

/-- 'caliperlaw11.ShortPowers': WHATEVER THE INPUT: true; the input reads as it did. -/
def shortPowersSpec : ChangeSpec := { name := "shortPowers", fn := fun _ => fun
  | [d1, d2] => { results := [.lit (.bool true)], args := [d1, d2] }
  | _ => none }
def shortPowersRow : OpenClaim := { program := "ytogdiobbjlpmoaadoor", sum := "9cb22ffb1585430ed40594794c43f1564097897944911267da710ce4e9cbf614", func := "caliper/caliperlaw11.ShortPowers", spec := "shortPowers", inPlace := ["math/bits.Add64", "math/bits.Sub64"], unfollowed := true, recurses := true, named := ["caliper/forms.forms", "math/bits.deBruijn64tab", "math/bits.divideError", "math/bits.overflowError"], apart := false, laid := [("math/bits.deBruijn64tab", laid_math_bits_deBruijn64tab), ("caliper/forms.forms", laid_caliper_forms_forms)] }
def ShortPowersSaid : Prop := shortPowersRow.holds Tryd.pinned (OpenSpec.ofChange shortPowersSpec)

/-- ITS FALSE NEIGHBOUR: 'it returns false'. Refute it at one input. -/
def shortPowersWrong : ChangeSpec := { name := "shortPowers", fn := fun _ => fun
  | [d1, d2] => { results := [.lit (.bool false)], args := [d1, d2] }
  | _ => none }
def ShortPowersWrongFalsely : Prop := shortPowersRow.holds Tryd.pinned (OpenSpec.ofChange shortPowersWrong)

/-- 'caliperlaw15.QuireRounds': WHATEVER THE INPUT: true; the input reads as it did. -/
def quireRoundsSpec : ChangeSpec := { name := "quireRounds", fn := fun _ => fun
  | [d1, d2] => { results := [.lit (.bool true)], args := [d1, d2] }
  | _ => none }
def quireRoundsRow : OpenClaim := { program := "ytogdiobbjlpmoaadoor", sum := "9cb22ffb1585430ed40594794c43f1564097897944911267da710ce4e9cbf614", func := "caliper/caliperlaw15.QuireRounds", spec := "quireRounds", inPlace := ["math/bits.Add64", "math/bits.Sub64"], unfollowed := true, recurses := true, named := ["caliper/forms.forms", "math/bits.deBruijn64tab", "math/bits.divideError", "math/bits.overflowError"], apart := false, laid := [("math/bits.deBruijn64tab", laid_math_bits_deBruijn64tab), ("caliper/forms.forms", laid_caliper_forms_forms)] }
def QuireRoundsSaid : Prop := quireRoundsRow.holds Tryd.pinned (OpenSpec.ofChange quireRoundsSpec)

/-- ITS FALSE NEIGHBOUR: 'it returns false'. Refute it at one input. -/
def quireRoundsWrong : ChangeSpec := { name := "quireRounds", fn := fun _ => fun
  | [d1, d2] => { results := [.lit (.bool false)], args := [d1, d2] }
  | _ => none }
def QuireRoundsWrongFalsely : Prop := quireRoundsRow.holds Tryd.pinned (OpenSpec.ofChange quireRoundsWrong)

/-- 'caliperlaw11.ShortNearest': WHATEVER THE INPUT: true; the input reads as it did. -/
def shortNearestSpec : ChangeSpec := { name := "shortNearest", fn := fun _ => fun
  | [d1, d2, d3] => { results := [.lit (.bool true)], args := [d1, d2, d3] }
  | _ => none }
def shortNearestRow : OpenClaim := { program := "ytogdiobbjlpmoaadoor", sum := "9cb22ffb1585430ed40594794c43f1564097897944911267da710ce4e9cbf614", func := "caliper/caliperlaw11.ShortNearest", spec := "shortNearest", inPlace := ["math/bits.Add64", "math/bits.Sub64"], unfollowed := true, recurses := true, named := ["caliper/forms.forms", "math/bits.deBruijn64tab", "math/bits.divideError", "math/bits.overflowError"], apart := false, laid := [("math/bits.deBruijn64tab", laid_math_bits_deBruijn64tab), ("caliper/forms.forms", laid_caliper_forms_forms)] }
def ShortNearestSaid : Prop := shortNearestRow.holds Tryd.pinned (OpenSpec.ofChange shortNearestSpec)

/-- ITS FALSE NEIGHBOUR: 'it returns false'. Refute it at one input. -/
def shortNearestWrong : ChangeSpec := { name := "shortNearest", fn := fun _ => fun
  | [d1, d2, d3] => { results := [.lit (.bool false)], args := [d1, d2, d3] }
  | _ => none }
def ShortNearestWrongFalsely : Prop := shortNearestRow.holds Tryd.pinned (OpenSpec.ofChange shortNearestWrong)

/-- 'caliperlaw15.QuireLoads': WHATEVER THE INPUT: true; the input reads as it did. -/
def quireLoadsSpec : ChangeSpec := { name := "quireLoads", fn := fun _ => fun
  | [d1, d2] => { results := [.lit (.bool true)], args := [d1, d2] }
  | _ => none }
def quireLoadsRow : OpenClaim := { program := "ytogdiobbjlpmoaadoor", sum := "9cb22ffb1585430ed40594794c43f1564097897944911267da710ce4e9cbf614", func := "caliper/caliperlaw15.QuireLoads", spec := "quireLoads", inPlace := ["math/bits.Add64", "math/bits.Sub64"], unfollowed := true, recurses := true, named := ["caliper/forms.forms", "math/bits.deBruijn64tab", "math/bits.divideError", "math/bits.overflowError"], apart := false, laid := [("math/bits.deBruijn64tab", laid_math_bits_deBruijn64tab), ("caliper/forms.forms", laid_caliper_forms_forms)] }
def QuireLoadsSaid : Prop := quireLoadsRow.holds Tryd.pinned (OpenSpec.ofChange quireLoadsSpec)

/-- ITS FALSE NEIGHBOUR: 'it returns false'. Refute it at one input. -/
def quireLoadsWrong : ChangeSpec := { name := "quireLoads", fn := fun _ => fun
  | [d1, d2] => { results := [.lit (.bool false)], args := [d1, d2] }
  | _ => none }
def QuireLoadsWrongFalsely : Prop := quireLoadsRow.holds Tryd.pinned (OpenSpec.ofChange quireLoadsWrong)

/- THE SECOND FORM. 'bulk': how many values and letters a reading holds, each counted each time it is reached (what is shared counts as often as it is met; a slice's spare places count too). A statement '..UptoSaid' is the law's where the arguments, and the package variables that the reading takes, are together of bulk at most 1048576: NARROWER than '..Said'. Prove '..Said' where nothing that the law and all that it calls make is longer than what came in: it says more and counts as full. Else prove '..UptoSaid'. A law counts once. -/
mutual
def uptoBulk {H : Type} : DataW H → Nat
  | .lit (.string bytes) => bytes.length + 1
  | .lit _ => 1
  | .nil => 1
  | .ptr d => uptoBulk d + 1
  | .slice elems spare => uptoBulkAll elems + uptoBulkAll spare + 1
  | .agg parts => uptoBulkAll parts + 1
  | .iface _ d => uptoBulk d + 1
  | .map entries => uptoBulkEntries entries + 1
  | .held _ => 1
def uptoBulkAll {H : Type} : List (DataW H) → Nat
  | [] => 0
  | d :: r => uptoBulk d + uptoBulkAll r
def uptoBulkEntries {H : Type} : List (Lit × DataW H) → Nat
  | [] => 0
  | x :: r => uptoBulkEntry x + uptoBulkEntries r
def uptoBulkEntry {H : Type} : Lit × DataW H → Nat
  | (.string bytes, d) => bytes.length + uptoBulk d + 1
  | (_, d) => uptoBulk d + 1
 end
def uptoSmall : (H : Type) → List (DataW H) → Bool := fun _ ds => decide (uptoBulkAll ds ≤ 1048576)
def OpenSpec.upto (s : _root_.Go.ChangeSpec) : _root_.Go.OpenSpec := { _root_.Go.OpenSpec.ofChange s with cond := some uptoSmall }

/-- 'caliperlaw07.ValueDecodes', WHERE WHAT IT READS IS OF BULK AT MOST 1048576: true; the input reads as it did. -/
def valueDecodesUptoRow : OpenClaim := { program := "ytogdiobbjlpmoaadoor", sum := "9cb22ffb1585430ed40594794c43f1564097897944911267da710ce4e9cbf614", func := "caliper/caliperlaw07.ValueDecodes", spec := "valueDecodes", unfollowed := true, recurses := true, named := ["caliper/forms.forms", "math/bits.deBruijn64tab"], apart := false, laid := [("math/bits.deBruijn64tab", laid_math_bits_deBruijn64tab), ("caliper/forms.forms", laid_caliper_forms_forms)], narrowed := true }
def ValueDecodesUptoSaid : Prop := valueDecodesUptoRow.holds Tryd.pinned (OpenSpec.upto valueDecodesSpec)

/-- 'caliperlaw07.ValueBetween', WHERE WHAT IT READS IS OF BULK AT MOST 1048576: true; the input reads as it did. -/
def valueBetweenUptoRow : OpenClaim := { program := "ytogdiobbjlpmoaadoor", sum := "9cb22ffb1585430ed40594794c43f1564097897944911267da710ce4e9cbf614", func := "caliper/caliperlaw07.ValueBetween", spec := "valueBetween", unfollowed := true, recurses := true, named := ["caliper/forms.forms", "math/bits.deBruijn64tab"], apart := false, laid := [("math/bits.deBruijn64tab", laid_math_bits_deBruijn64tab), ("caliper/forms.forms", laid_caliper_forms_forms)], narrowed := true }
def ValueBetweenUptoSaid : Prop := valueBetweenUptoRow.holds Tryd.pinned (OpenSpec.upto valueBetweenSpec)

/-- 'caliperlaw07.ValueOrder', WHERE WHAT IT READS IS OF BULK AT MOST 1048576: true; the input reads as it did. -/
def valueOrderUptoRow : OpenClaim := { program := "ytogdiobbjlpmoaadoor", sum := "9cb22ffb1585430ed40594794c43f1564097897944911267da710ce4e9cbf614", func := "caliper/caliperlaw07.ValueOrder", spec := "valueOrder", unfollowed := true, recurses := true, named := ["caliper/forms.forms", "math/bits.deBruijn64tab"], apart := false, laid := [("math/bits.deBruijn64tab", laid_math_bits_deBruijn64tab), ("caliper/forms.forms", laid_caliper_forms_forms)], narrowed := true }
def ValueOrderUptoSaid : Prop := valueOrderUptoRow.holds Tryd.pinned (OpenSpec.upto valueOrderSpec)

/-- 'caliperlaw07.ValueKeys', WHERE WHAT IT READS IS OF BULK AT MOST 1048576: true; the input reads as it did. -/
def valueKeysUptoRow : OpenClaim := { program := "ytogdiobbjlpmoaadoor", sum := "9cb22ffb1585430ed40594794c43f1564097897944911267da710ce4e9cbf614", func := "caliper/caliperlaw07.ValueKeys", spec := "valueKeys", unfollowed := true, recurses := true, named := ["caliper/forms.forms", "math/bits.deBruijn64tab"], apart := false, laid := [("math/bits.deBruijn64tab", laid_math_bits_deBruijn64tab), ("caliper/forms.forms", laid_caliper_forms_forms)], narrowed := true }
def ValueKeysUptoSaid : Prop := valueKeysUptoRow.holds Tryd.pinned (OpenSpec.upto valueKeysSpec)

/-- 'caliperlaw07.ValueTurned', WHERE WHAT IT READS IS OF BULK AT MOST 1048576: true; the input reads as it did. -/
def valueTurnedUptoRow : OpenClaim := { program := "ytogdiobbjlpmoaadoor", sum := "9cb22ffb1585430ed40594794c43f1564097897944911267da710ce4e9cbf614", func := "caliper/caliperlaw07.ValueTurned", spec := "valueTurned", unfollowed := true, recurses := true, named := ["caliper/forms.forms", "math/bits.deBruijn64tab"], apart := false, laid := [("math/bits.deBruijn64tab", laid_math_bits_deBruijn64tab), ("caliper/forms.forms", laid_caliper_forms_forms)], narrowed := true }
def ValueTurnedUptoSaid : Prop := valueTurnedUptoRow.holds Tryd.pinned (OpenSpec.upto valueTurnedSpec)

/-- 'caliperlaw07.ValueOrders', WHERE WHAT IT READS IS OF BULK AT MOST 1048576: true; the input reads as it did. -/
def valueOrdersUptoRow : OpenClaim := { program := "ytogdiobbjlpmoaadoor", sum := "9cb22ffb1585430ed40594794c43f1564097897944911267da710ce4e9cbf614", func := "caliper/caliperlaw07.ValueOrders", spec := "valueOrders", unfollowed := true, recurses := true, named := ["caliper/forms.forms", "math/bits.deBruijn64tab"], apart := false, laid := [("math/bits.deBruijn64tab", laid_math_bits_deBruijn64tab), ("caliper/forms.forms", laid_caliper_forms_forms)], narrowed := true }
def ValueOrdersUptoSaid : Prop := valueOrdersUptoRow.holds Tryd.pinned (OpenSpec.upto valueOrdersSpec)

/-- 'caliperlaw07.ValueSpecials', WHERE WHAT IT READS IS OF BULK AT MOST 1048576: true; the input reads as it did. -/
def valueSpecialsUptoRow : OpenClaim := { program := "ytogdiobbjlpmoaadoor", sum := "9cb22ffb1585430ed40594794c43f1564097897944911267da710ce4e9cbf614", func := "caliper/caliperlaw07.ValueSpecials", spec := "valueSpecials", unfollowed := true, recurses := true, named := ["caliper/forms.forms", "math/bits.deBruijn64tab"], apart := false, laid := [("math/bits.deBruijn64tab", laid_math_bits_deBruijn64tab), ("caliper/forms.forms", laid_caliper_forms_forms)], narrowed := true }
def ValueSpecialsUptoSaid : Prop := valueSpecialsUptoRow.holds Tryd.pinned (OpenSpec.upto valueSpecialsSpec)

/-- 'caliperlaw07.ValueBack', WHERE WHAT IT READS IS OF BULK AT MOST 1048576: true; the input reads as it did. -/
def valueBackUptoRow : OpenClaim := { program := "ytogdiobbjlpmoaadoor", sum := "9cb22ffb1585430ed40594794c43f1564097897944911267da710ce4e9cbf614", func := "caliper/caliperlaw07.ValueBack", spec := "valueBack", unfollowed := true, recurses := true, named := ["caliper/forms.forms", "math/bits.deBruijn64tab"], apart := false, laid := [("math/bits.deBruijn64tab", laid_math_bits_deBruijn64tab), ("caliper/forms.forms", laid_caliper_forms_forms)], narrowed := true }
def ValueBackUptoSaid : Prop := valueBackUptoRow.holds Tryd.pinned (OpenSpec.upto valueBackSpec)

/-- 'caliperlaw11.ShortFull', WHERE WHAT IT READS IS OF BULK AT MOST 1048576: true; the input reads as it did. -/
def shortFullUptoRow : OpenClaim := { program := "ytogdiobbjlpmoaadoor", sum := "9cb22ffb1585430ed40594794c43f1564097897944911267da710ce4e9cbf614", func := "caliper/caliperlaw11.ShortFull", spec := "shortFull", inPlace := ["math/bits.Add64", "math/bits.Sub64"], unfollowed := true, recurses := true, named := ["caliper/forms.forms", "math/bits.deBruijn64tab", "math/bits.divideError", "math/bits.overflowError"], apart := false, laid := [("math/bits.deBruijn64tab", laid_math_bits_deBruijn64tab), ("caliper/forms.forms", laid_caliper_forms_forms)], narrowed := true }
def ShortFullUptoSaid : Prop := shortFullUptoRow.holds Tryd.pinned (OpenSpec.upto shortFullSpec)

/-- 'caliperlaw11.ShortSigns', WHERE WHAT IT READS IS OF BULK AT MOST 1048576: true; the input reads as it did. -/
def shortSignsUptoRow : OpenClaim := { program := "ytogdiobbjlpmoaadoor", sum := "9cb22ffb1585430ed40594794c43f1564097897944911267da710ce4e9cbf614", func := "caliper/caliperlaw11.ShortSigns", spec := "shortSigns", inPlace := ["math/bits.Add64", "math/bits.Sub64"], unfollowed := true, recurses := true, named := ["caliper/forms.forms", "math/bits.deBruijn64tab", "math/bits.divideError", "math/bits.overflowError"], apart := false, laid := [("math/bits.deBruijn64tab", laid_math_bits_deBruijn64tab), ("caliper/forms.forms", laid_caliper_forms_forms)], narrowed := true }
def ShortSignsUptoSaid : Prop := shortSignsUptoRow.holds Tryd.pinned (OpenSpec.upto shortSignsSpec)

/-- 'caliperlaw15.QuireOrder', WHERE WHAT IT READS IS OF BULK AT MOST 1048576: true; the input reads as it did. -/
def quireOrderUptoRow : OpenClaim := { program := "ytogdiobbjlpmoaadoor", sum := "9cb22ffb1585430ed40594794c43f1564097897944911267da710ce4e9cbf614", func := "caliper/caliperlaw15.QuireOrder", spec := "quireOrder", inPlace := ["math/bits.Add64", "math/bits.Sub64"], unfollowed := true, recurses := true, named := ["caliper/forms.forms", "math/bits.deBruijn64tab", "math/bits.divideError", "math/bits.overflowError"], apart := false, laid := [("math/bits.deBruijn64tab", laid_math_bits_deBruijn64tab), ("caliper/forms.forms", laid_caliper_forms_forms)], narrowed := true }
def QuireOrderUptoSaid : Prop := quireOrderUptoRow.holds Tryd.pinned (OpenSpec.upto quireOrderSpec)

/-- 'caliperlaw15.QuireOne', WHERE WHAT IT READS IS OF BULK AT MOST 1048576: true; the input reads as it did. -/
def quireOneUptoRow : OpenClaim := { program := "ytogdiobbjlpmoaadoor", sum := "9cb22ffb1585430ed40594794c43f1564097897944911267da710ce4e9cbf614", func := "caliper/caliperlaw15.QuireOne", spec := "quireOne", inPlace := ["math/bits.Add64", "math/bits.Sub64"], unfollowed := true, recurses := true, named := ["caliper/forms.forms", "math/bits.deBruijn64tab", "math/bits.divideError", "math/bits.overflowError"], apart := false, laid := [("math/bits.deBruijn64tab", laid_math_bits_deBruijn64tab), ("caliper/forms.forms", laid_caliper_forms_forms)], narrowed := true }
def QuireOneUptoSaid : Prop := quireOneUptoRow.holds Tryd.pinned (OpenSpec.upto quireOneSpec)

/-- 'caliperlaw15.QuireNaR', WHERE WHAT IT READS IS OF BULK AT MOST 1048576: true; the input reads as it did. -/
def quireNaRUptoRow : OpenClaim := { program := "ytogdiobbjlpmoaadoor", sum := "9cb22ffb1585430ed40594794c43f1564097897944911267da710ce4e9cbf614", func := "caliper/caliperlaw15.QuireNaR", spec := "quireNaR", inPlace := ["math/bits.Add64", "math/bits.Sub64"], unfollowed := true, recurses := true, named := ["caliper/forms.forms", "math/bits.deBruijn64tab", "math/bits.divideError", "math/bits.overflowError"], apart := false, laid := [("math/bits.deBruijn64tab", laid_math_bits_deBruijn64tab), ("caliper/forms.forms", laid_caliper_forms_forms)], narrowed := true }
def QuireNaRUptoSaid : Prop := quireNaRUptoRow.holds Tryd.pinned (OpenSpec.upto quireNaRSpec)

/-- 'caliperlaw15.QuireWide', WHERE WHAT IT READS IS OF BULK AT MOST 1048576: true; the input reads as it did. -/
def quireWideUptoRow : OpenClaim := { program := "ytogdiobbjlpmoaadoor", sum := "9cb22ffb1585430ed40594794c43f1564097897944911267da710ce4e9cbf614", func := "caliper/caliperlaw15.QuireWide", spec := "quireWide", inPlace := ["math/bits.Add64", "math/bits.Sub64"], unfollowed := true, recurses := true, named := ["caliper/forms.forms", "math/bits.deBruijn64tab", "math/bits.divideError", "math/bits.overflowError"], apart := false, laid := [("math/bits.deBruijn64tab", laid_math_bits_deBruijn64tab), ("caliper/forms.forms", laid_caliper_forms_forms)], narrowed := true }
def QuireWideUptoSaid : Prop := quireWideUptoRow.holds Tryd.pinned (OpenSpec.upto quireWideSpec)

/-- 'caliperlaw15.QuireTaken', WHERE WHAT IT READS IS OF BULK AT MOST 1048576: true; the input reads as it did. -/
def quireTakenUptoRow : OpenClaim := { program := "ytogdiobbjlpmoaadoor", sum := "9cb22ffb1585430ed40594794c43f1564097897944911267da710ce4e9cbf614", func := "caliper/caliperlaw15.QuireTaken", spec := "quireTaken", inPlace := ["math/bits.Add64", "math/bits.Sub64"], unfollowed := true, recurses := true, named := ["caliper/forms.forms", "math/bits.deBruijn64tab", "math/bits.divideError", "math/bits.overflowError"], apart := false, laid := [("math/bits.deBruijn64tab", laid_math_bits_deBruijn64tab), ("caliper/forms.forms", laid_caliper_forms_forms)], narrowed := true }
def QuireTakenUptoSaid : Prop := quireTakenUptoRow.holds Tryd.pinned (OpenSpec.upto quireTakenSpec)

/-- 'caliperlaw15.QuireSwaps', WHERE WHAT IT READS IS OF BULK AT MOST 1048576: true; the input reads as it did. -/
def quireSwapsUptoRow : OpenClaim := { program := "ytogdiobbjlpmoaadoor", sum := "9cb22ffb1585430ed40594794c43f1564097897944911267da710ce4e9cbf614", func := "caliper/caliperlaw15.QuireSwaps", spec := "quireSwaps", inPlace := ["math/bits.Add64", "math/bits.Sub64"], unfollowed := true, recurses := true, named := ["caliper/forms.forms", "math/bits.deBruijn64tab", "math/bits.divideError", "math/bits.overflowError"], apart := false, laid := [("math/bits.deBruijn64tab", laid_math_bits_deBruijn64tab), ("caliper/forms.forms", laid_caliper_forms_forms)], narrowed := true }
def QuireSwapsUptoSaid : Prop := quireSwapsUptoRow.holds Tryd.pinned (OpenSpec.upto quireSwapsSpec)

/-- 'caliperlaw11.ShortBack', WHERE WHAT IT READS IS OF BULK AT MOST 1048576: true; the input reads as it did. -/
def shortBackUptoRow : OpenClaim := { program := "ytogdiobbjlpmoaadoor", sum := "9cb22ffb1585430ed40594794c43f1564097897944911267da710ce4e9cbf614", func := "caliper/caliperlaw11.ShortBack", spec := "shortBack", inPlace := ["math/bits.Add64", "math/bits.Sub64"], unfollowed := true, recurses := true, named := ["caliper/forms.forms", "math/bits.deBruijn64tab", "math/bits.divideError", "math/bits.overflowError"], apart := false, laid := [("math/bits.deBruijn64tab", laid_math_bits_deBruijn64tab), ("caliper/forms.forms", laid_caliper_forms_forms)], narrowed := true }
def ShortBackUptoSaid : Prop := shortBackUptoRow.holds Tryd.pinned (OpenSpec.upto shortBackSpec)

/-- 'caliperlaw11.ShortWholes', WHERE WHAT IT READS IS OF BULK AT MOST 1048576: true; the input reads as it did. -/
def shortWholesUptoRow : OpenClaim := { program := "ytogdiobbjlpmoaadoor", sum := "9cb22ffb1585430ed40594794c43f1564097897944911267da710ce4e9cbf614", func := "caliper/caliperlaw11.ShortWholes", spec := "shortWholes", inPlace := ["math/bits.Add64", "math/bits.Sub64"], unfollowed := true, recurses := true, named := ["caliper/forms.forms", "math/bits.deBruijn64tab", "math/bits.divideError", "math/bits.overflowError"], apart := false, laid := [("math/bits.deBruijn64tab", laid_math_bits_deBruijn64tab), ("caliper/forms.forms", laid_caliper_forms_forms)], narrowed := true }
def ShortWholesUptoSaid : Prop := shortWholesUptoRow.holds Tryd.pinned (OpenSpec.upto shortWholesSpec)

/-- 'caliperlaw11.ShortPowers', WHERE WHAT IT READS IS OF BULK AT MOST 1048576: true; the input reads as it did. -/
def shortPowersUptoRow : OpenClaim := { program := "ytogdiobbjlpmoaadoor", sum := "9cb22ffb1585430ed40594794c43f1564097897944911267da710ce4e9cbf614", func := "caliper/caliperlaw11.ShortPowers", spec := "shortPowers", inPlace := ["math/bits.Add64", "math/bits.Sub64"], unfollowed := true, recurses := true, named := ["caliper/forms.forms", "math/bits.deBruijn64tab", "math/bits.divideError", "math/bits.overflowError"], apart := false, laid := [("math/bits.deBruijn64tab", laid_math_bits_deBruijn64tab), ("caliper/forms.forms", laid_caliper_forms_forms)], narrowed := true }
def ShortPowersUptoSaid : Prop := shortPowersUptoRow.holds Tryd.pinned (OpenSpec.upto shortPowersSpec)

/-- 'caliperlaw15.QuireRounds', WHERE WHAT IT READS IS OF BULK AT MOST 1048576: true; the input reads as it did. -/
def quireRoundsUptoRow : OpenClaim := { program := "ytogdiobbjlpmoaadoor", sum := "9cb22ffb1585430ed40594794c43f1564097897944911267da710ce4e9cbf614", func := "caliper/caliperlaw15.QuireRounds", spec := "quireRounds", inPlace := ["math/bits.Add64", "math/bits.Sub64"], unfollowed := true, recurses := true, named := ["caliper/forms.forms", "math/bits.deBruijn64tab", "math/bits.divideError", "math/bits.overflowError"], apart := false, laid := [("math/bits.deBruijn64tab", laid_math_bits_deBruijn64tab), ("caliper/forms.forms", laid_caliper_forms_forms)], narrowed := true }
def QuireRoundsUptoSaid : Prop := quireRoundsUptoRow.holds Tryd.pinned (OpenSpec.upto quireRoundsSpec)

/-- 'caliperlaw11.ShortNearest', WHERE WHAT IT READS IS OF BULK AT MOST 1048576: true; the input reads as it did. -/
def shortNearestUptoRow : OpenClaim := { program := "ytogdiobbjlpmoaadoor", sum := "9cb22ffb1585430ed40594794c43f1564097897944911267da710ce4e9cbf614", func := "caliper/caliperlaw11.ShortNearest", spec := "shortNearest", inPlace := ["math/bits.Add64", "math/bits.Sub64"], unfollowed := true, recurses := true, named := ["caliper/forms.forms", "math/bits.deBruijn64tab", "math/bits.divideError", "math/bits.overflowError"], apart := false, laid := [("math/bits.deBruijn64tab", laid_math_bits_deBruijn64tab), ("caliper/forms.forms", laid_caliper_forms_forms)], narrowed := true }
def ShortNearestUptoSaid : Prop := shortNearestUptoRow.holds Tryd.pinned (OpenSpec.upto shortNearestSpec)

/-- 'caliperlaw15.QuireLoads', WHERE WHAT IT READS IS OF BULK AT MOST 1048576: true; the input reads as it did. -/
def quireLoadsUptoRow : OpenClaim := { program := "ytogdiobbjlpmoaadoor", sum := "9cb22ffb1585430ed40594794c43f1564097897944911267da710ce4e9cbf614", func := "caliper/caliperlaw15.QuireLoads", spec := "quireLoads", inPlace := ["math/bits.Add64", "math/bits.Sub64"], unfollowed := true, recurses := true, named := ["caliper/forms.forms", "math/bits.deBruijn64tab", "math/bits.divideError", "math/bits.overflowError"], apart := false, laid := [("math/bits.deBruijn64tab", laid_math_bits_deBruijn64tab), ("caliper/forms.forms", laid_caliper_forms_forms)], narrowed := true }
def QuireLoadsUptoSaid : Prop := quireLoadsUptoRow.holds Tryd.pinned (OpenSpec.upto quireLoadsSpec)

end Rows
end Go.Proofs.YtogdiobbjlpmoaaDoor
