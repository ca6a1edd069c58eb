/-
  NARROWER THAN 'FOR EVERY INPUT', by the rows' own cells (each row's printed sentence says how): RoundTells: laid · RoundRises: laid · RoundTies: laid · RoundSigns: laid · RoundHas: laid · RoundFinite: laid · RoundLimits: laid · RoundWithin: laid.
  DERIVED. THE GIVEN ROWS OF THIS SEAT. 8 by the template 'for every input the law returns true; each argument reads behind the call as it read before'; 0 by the template 'total and deterministic' (their statements: YtmcodbgbjjldnaaDoorTotals.lean).
  GIVEN WITH THE SEED: the statements are not yours to turn. If you find one false, say at which input.
  Laid BY PROGRAM, IN A SANDBOX (cutbox-rows.mjs): the forced cells as the released guide's own fill.sh prints them over the translation 133909cebd13f2f7… (all of the seat's roots in one cut). By AI agents, Wed Nov 11 2026. No macro, syntax, notation, axiom, sorry.
-/
import Derived.Test.YtmcodbgbjjldnaaDoorChecked
import GoSem.Claim
import GoSem.ClaimJoined
import GoSem.ClaimMapViews
import Derived.JoinedTies
import Derived.KernelRfl
namespace Go.Proofs.YtmcodbgbjjldnaaDoor
/- THE CELL 'sum', in the pinned program and in every row, IS THE sha256 OF THE DUMP (.gsa) THAT YtmcodbgbjjldnaaDoorProg.lean LOADS. Nothing in Lean hashes anything: it is a label: what it is worth is what the hold of that sum in a sandbox is worth. -/
noncomputable def Tryd.pinned : Pinned := { name := "ytmcodbgbjjldnaadoor", sum := "133909cebd13f2f79934cd3812c5d9131bc9fc11bdb52b3aabcd41a6391066d6", checked := Tryd.checked }
namespace Rows
def none {H : Type} : Left H := { results := [], args := [] }

/- WHAT THE LISTED PACKAGE-LEVEL VARIABLES READ AS WHEN THE CALL BEGINS. Each datum BY PROGRAM (the guide's laid-datum.mjs) off the statement by which the dump's own 'gosem.cut.vars' lays the variable. In a bare row this is a premise. The card (YtmcodbgbjjldnaaDoorCards.lean) ties it to the program's text. -/
def laid_math_bits_deBruijn64tab {H : Type} : DataW H := .agg [.lit (.int .u8 0), .lit (.int .u8 1), .lit (.int .u8 56), .lit (.int .u8 2), .lit (.int .u8 57), .lit (.int .u8 49), .lit (.int .u8 28), .lit (.int .u8 3), .lit (.int .u8 61), .lit (.int .u8 58), .lit (.int .u8 42), .lit (.int .u8 50), .lit (.int .u8 38), .lit (.int .u8 29), .lit (.int .u8 17), .lit (.int .u8 4), .lit (.int .u8 62), .lit (.int .u8 47), .lit (.int .u8 59), .lit (.int .u8 36), .lit (.int .u8 45), .lit (.int .u8 43), .lit (.int .u8 51), .lit (.int .u8 22), .lit (.int .u8 53), .lit (.int .u8 39), .lit (.int .u8 33), .lit (.int .u8 30), .lit (.int .u8 24), .lit (.int .u8 18), .lit (.int .u8 12), .lit (.int .u8 5), .lit (.int .u8 63), .lit (.int .u8 55), .lit (.int .u8 48), .lit (.int .u8 27), .lit (.int .u8 60), .lit (.int .u8 41), .lit (.int .u8 37), .lit (.int .u8 16), .lit (.int .u8 46), .lit (.int .u8 35), .lit (.int .u8 44), .lit (.int .u8 21), .lit (.int .u8 52), .lit (.int .u8 32), .lit (.int .u8 23), .lit (.int .u8 11), .lit (.int .u8 54), .lit (.int .u8 26), .lit (.int .u8 40), .lit (.int .u8 15), .lit (.int .u8 34), .lit (.int .u8 20), .lit (.int .u8 31), .lit (.int .u8 10), .lit (.int .u8 25), .lit (.int .u8 14), .lit (.int .u8 19), .lit (.int .u8 9), .lit (.int .u8 13), .lit (.int .u8 8), .lit (.int .u8 7), .lit (.int .u8 6)]
def laid_caliper_forms_forms {H : Type} : DataW H := .agg [.agg [.lit (.int .i64 0), .lit (.int .i64 0), .lit (.int .i64 0), .lit (.int .i64 0), .lit (.int .u64 0), .lit (.int .u64 0), .lit (.int .u64 0)], .agg [.lit (.int .i64 1), .lit (.int .i64 8), .lit (.int .i64 0), .lit (.int .i64 0), .lit (.int .u64 127), .lit (.int .u64 0), .lit (.int .u64 128)], .agg [.lit (.int .i64 1), .lit (.int .i64 16), .lit (.int .i64 0), .lit (.int .i64 0), .lit (.int .u64 32767), .lit (.int .u64 0), .lit (.int .u64 32768)], .agg [.lit (.int .i64 1), .lit (.int .i64 32), .lit (.int .i64 0), .lit (.int .i64 0), .lit (.int .u64 2147483647), .lit (.int .u64 0), .lit (.int .u64 2147483648)], .agg [.lit (.int .i64 1), .lit (.int .i64 64), .lit (.int .i64 0), .lit (.int .i64 0), .lit (.int .u64 9223372036854775807), .lit (.int .u64 0), .lit (.int .u64 9223372036854775808)], .agg [.lit (.int .i64 2), .lit (.int .i64 8), .lit (.int .i64 3), .lit (.int .i64 7), .lit (.int .u64 126), .lit (.int .u64 0), .lit (.int .u64 127)], .agg [.lit (.int .i64 2), .lit (.int .i64 8), .lit (.int .i64 2), .lit (.int .i64 15), .lit (.int .u64 123), .lit (.int .u64 124), .lit (.int .u64 126)], .agg [.lit (.int .i64 2), .lit (.int .i64 6), .lit (.int .i64 2), .lit (.int .i64 3), .lit (.int .u64 31), .lit (.int .u64 0), .lit (.int .u64 0)], .agg [.lit (.int .i64 2), .lit (.int .i64 6), .lit (.int .i64 3), .lit (.int .i64 1), .lit (.int .u64 31), .lit (.int .u64 0), .lit (.int .u64 0)], .agg [.lit (.int .i64 2), .lit (.int .i64 4), .lit (.int .i64 1), .lit (.int .i64 1), .lit (.int .u64 7), .lit (.int .u64 0), .lit (.int .u64 0)], .agg [.lit (.int .i64 3), .lit (.int .i64 8), .lit (.int .i64 6), .lit (.int .i64 0), .lit (.int .u64 127), .lit (.int .u64 0), .lit (.int .u64 0)], .agg [.lit (.int .i64 4), .lit (.int .i64 8), .lit (.int .i64 0), .lit (.int .i64 127), .lit (.int .u64 254), .lit (.int .u64 0), .lit (.int .u64 255)], .agg [.lit (.int .i64 2), .lit (.int .i64 16), .lit (.int .i64 10), .lit (.int .i64 15), .lit (.int .u64 31743), .lit (.int .u64 31744), .lit (.int .u64 32256)], .agg [.lit (.int .i64 2), .lit (.int .i64 32), .lit (.int .i64 23), .lit (.int .i64 127), .lit (.int .u64 2139095039), .lit (.int .u64 2139095040), .lit (.int .u64 2143289344)], .agg [.lit (.int .i64 2), .lit (.int .i64 64), .lit (.int .i64 52), .lit (.int .i64 1023), .lit (.int .u64 9218868437227405311), .lit (.int .u64 9218868437227405312), .lit (.int .u64 9221120237041090560)]]

/-- 'caliperlaw08.RoundTells': WHATEVER THE INPUT: true; the input reads as it did. -/
def roundTellsSpec : ChangeSpec := { name := "roundTells", fn := fun _ => fun
  | [d1, d2, d3, d4] => { results := [.lit (.bool true)], args := [d1, d2, d3, d4] }
  | _ => none }
def roundTellsRow : OpenClaim := { program := "ytmcodbgbjjldnaadoor", sum := "133909cebd13f2f79934cd3812c5d9131bc9fc11bdb52b3aabcd41a6391066d6", func := "caliper/caliperlaw08.RoundTells", spec := "roundTells", inPlace := ["math/bits.Add64"], unfollowed := true, recurses := true, named := ["caliper/forms.forms", "math/bits.deBruijn64tab"], apart := false, laid := [("math/bits.deBruijn64tab", laid_math_bits_deBruijn64tab), ("caliper/forms.forms", laid_caliper_forms_forms)] }
def RoundTellsSaid : Prop := roundTellsRow.holds Tryd.pinned (OpenSpec.ofChange roundTellsSpec)

/-- ITS FALSE NEIGHBOUR: 'it returns false'. Refute it at one input. -/
def roundTellsWrong : ChangeSpec := { name := "roundTells", fn := fun _ => fun
  | [d1, d2, d3, d4] => { results := [.lit (.bool false)], args := [d1, d2, d3, d4] }
  | _ => none }
def RoundTellsWrongFalsely : Prop := roundTellsRow.holds Tryd.pinned (OpenSpec.ofChange roundTellsWrong)

/-- 'caliperlaw08.RoundRises': WHATEVER THE INPUT: true; the input reads as it did. -/
def roundRisesSpec : ChangeSpec := { name := "roundRises", fn := fun _ => fun
  | [d1, d2, d3, d4] => { results := [.lit (.bool true)], args := [d1, d2, d3, d4] }
  | _ => none }
def roundRisesRow : OpenClaim := { program := "ytmcodbgbjjldnaadoor", sum := "133909cebd13f2f79934cd3812c5d9131bc9fc11bdb52b3aabcd41a6391066d6", func := "caliper/caliperlaw08.RoundRises", spec := "roundRises", inPlace := ["math/bits.Add64"], unfollowed := true, recurses := true, named := ["caliper/forms.forms", "math/bits.deBruijn64tab"], apart := false, laid := [("math/bits.deBruijn64tab", laid_math_bits_deBruijn64tab), ("caliper/forms.forms", laid_caliper_forms_forms)] }
def RoundRisesSaid : Prop := roundRisesRow.holds Tryd.pinned (OpenSpec.ofChange roundRisesSpec)

/-- ITS FALSE NEIGHBOUR: 'it returns false'. Refute it at one input. -/
def roundRisesWrong : ChangeSpec := { name := "roundRises", fn := fun _ => fun
  | [d1, d2, d3, d4] => { results := [.lit (.bool false)], args := [d1, d2, d3, d4] }
  | _ => none }
def RoundRisesWrongFalsely : Prop := roundRisesRow.holds Tryd.pinned (OpenSpec.ofChange roundRisesWrong)

/-- 'caliperlaw08.RoundTies': WHATEVER THE INPUT: true; the input reads as it did. -/
def roundTiesSpec : ChangeSpec := { name := "roundTies", fn := fun _ => fun
  | [d1, d2] => { results := [.lit (.bool true)], args := [d1, d2] }
  | _ => none }
def roundTiesRow : OpenClaim := { program := "ytmcodbgbjjldnaadoor", sum := "133909cebd13f2f79934cd3812c5d9131bc9fc11bdb52b3aabcd41a6391066d6", func := "caliper/caliperlaw08.RoundTies", spec := "roundTies", inPlace := ["math/bits.Add64"], unfollowed := true, recurses := true, named := ["caliper/forms.forms", "math/bits.deBruijn64tab"], apart := false, laid := [("math/bits.deBruijn64tab", laid_math_bits_deBruijn64tab), ("caliper/forms.forms", laid_caliper_forms_forms)] }
def RoundTiesSaid : Prop := roundTiesRow.holds Tryd.pinned (OpenSpec.ofChange roundTiesSpec)

/-- ITS FALSE NEIGHBOUR: 'it returns false'. Refute it at one input. -/
def roundTiesWrong : ChangeSpec := { name := "roundTies", fn := fun _ => fun
  | [d1, d2] => { results := [.lit (.bool false)], args := [d1, d2] }
  | _ => none }
def RoundTiesWrongFalsely : Prop := roundTiesRow.holds Tryd.pinned (OpenSpec.ofChange roundTiesWrong)

/-- 'caliperlaw08.RoundSigns': WHATEVER THE INPUT: true; the input reads as it did. -/
def roundSignsSpec : ChangeSpec := { name := "roundSigns", fn := fun _ => fun
  | [d1, d2, d3] => { results := [.lit (.bool true)], args := [d1, d2, d3] }
  | _ => none }
def roundSignsRow : OpenClaim := { program := "ytmcodbgbjjldnaadoor", sum := "133909cebd13f2f79934cd3812c5d9131bc9fc11bdb52b3aabcd41a6391066d6", func := "caliper/caliperlaw08.RoundSigns", spec := "roundSigns", inPlace := ["math/bits.Add64"], unfollowed := true, recurses := true, named := ["caliper/forms.forms", "math/bits.deBruijn64tab"], apart := false, laid := [("math/bits.deBruijn64tab", laid_math_bits_deBruijn64tab), ("caliper/forms.forms", laid_caliper_forms_forms)] }
def RoundSignsSaid : Prop := roundSignsRow.holds Tryd.pinned (OpenSpec.ofChange roundSignsSpec)

/-- ITS FALSE NEIGHBOUR: 'it returns false'. Refute it at one input. -/
def roundSignsWrong : ChangeSpec := { name := "roundSigns", fn := fun _ => fun
  | [d1, d2, d3] => { results := [.lit (.bool false)], args := [d1, d2, d3] }
  | _ => none }
def RoundSignsWrongFalsely : Prop := roundSignsRow.holds Tryd.pinned (OpenSpec.ofChange roundSignsWrong)

/-- 'caliperlaw08.RoundHas': WHATEVER THE INPUT: true; the input reads as it did. -/
def roundHasSpec : ChangeSpec := { name := "roundHas", fn := fun _ => fun
  | [d1, d2, d3] => { results := [.lit (.bool true)], args := [d1, d2, d3] }
  | _ => none }
def roundHasRow : OpenClaim := { program := "ytmcodbgbjjldnaadoor", sum := "133909cebd13f2f79934cd3812c5d9131bc9fc11bdb52b3aabcd41a6391066d6", func := "caliper/caliperlaw08.RoundHas", spec := "roundHas", inPlace := ["math/bits.Add64"], unfollowed := true, recurses := true, named := ["caliper/forms.forms", "math/bits.deBruijn64tab"], apart := false, laid := [("math/bits.deBruijn64tab", laid_math_bits_deBruijn64tab), ("caliper/forms.forms", laid_caliper_forms_forms)] }
def RoundHasSaid : Prop := roundHasRow.holds Tryd.pinned (OpenSpec.ofChange roundHasSpec)

/-- ITS FALSE NEIGHBOUR: 'it returns false'. Refute it at one input. -/
def roundHasWrong : ChangeSpec := { name := "roundHas", fn := fun _ => fun
  | [d1, d2, d3] => { results := [.lit (.bool false)], args := [d1, d2, d3] }
  | _ => none }
def RoundHasWrongFalsely : Prop := roundHasRow.holds Tryd.pinned (OpenSpec.ofChange roundHasWrong)

/-- 'caliperlaw08.RoundFinite': WHATEVER THE INPUT: true; the input reads as it did. -/
def roundFiniteSpec : ChangeSpec := { name := "roundFinite", fn := fun _ => fun
  | [d1, d2] => { results := [.lit (.bool true)], args := [d1, d2] }
  | _ => none }
def roundFiniteRow : OpenClaim := { program := "ytmcodbgbjjldnaadoor", sum := "133909cebd13f2f79934cd3812c5d9131bc9fc11bdb52b3aabcd41a6391066d6", func := "caliper/caliperlaw08.RoundFinite", spec := "roundFinite", inPlace := ["math/bits.Add64"], unfollowed := true, recurses := true, named := ["caliper/forms.forms", "math/bits.deBruijn64tab"], apart := false, laid := [("math/bits.deBruijn64tab", laid_math_bits_deBruijn64tab), ("caliper/forms.forms", laid_caliper_forms_forms)] }
def RoundFiniteSaid : Prop := roundFiniteRow.holds Tryd.pinned (OpenSpec.ofChange roundFiniteSpec)

/-- ITS FALSE NEIGHBOUR: 'it returns false'. Refute it at one input. -/
def roundFiniteWrong : ChangeSpec := { name := "roundFinite", fn := fun _ => fun
  | [d1, d2] => { results := [.lit (.bool false)], args := [d1, d2] }
  | _ => none }
def RoundFiniteWrongFalsely : Prop := roundFiniteRow.holds Tryd.pinned (OpenSpec.ofChange roundFiniteWrong)

/-- 'caliperlaw08.RoundLimits': WHATEVER THE INPUT: true; the input reads as it did. -/
def roundLimitsSpec : ChangeSpec := { name := "roundLimits", fn := fun _ => fun
  | [d1, d2] => { results := [.lit (.bool true)], args := [d1, d2] }
  | _ => none }
def roundLimitsRow : OpenClaim := { program := "ytmcodbgbjjldnaadoor", sum := "133909cebd13f2f79934cd3812c5d9131bc9fc11bdb52b3aabcd41a6391066d6", func := "caliper/caliperlaw08.RoundLimits", spec := "roundLimits", inPlace := ["math/bits.Add64"], unfollowed := true, recurses := true, named := ["caliper/forms.forms", "math/bits.deBruijn64tab"], apart := false, laid := [("math/bits.deBruijn64tab", laid_math_bits_deBruijn64tab), ("caliper/forms.forms", laid_caliper_forms_forms)] }
def RoundLimitsSaid : Prop := roundLimitsRow.holds Tryd.pinned (OpenSpec.ofChange roundLimitsSpec)

/-- ITS FALSE NEIGHBOUR: 'it returns false'. Refute it at one input. -/
def roundLimitsWrong : ChangeSpec := { name := "roundLimits", fn := fun _ => fun
  | [d1, d2] => { results := [.lit (.bool false)], args := [d1, d2] }
  | _ => none }
def RoundLimitsWrongFalsely : Prop := roundLimitsRow.holds Tryd.pinned (OpenSpec.ofChange roundLimitsWrong)

/-- 'caliperlaw08.RoundWithin': WHATEVER THE INPUT: true; the input reads as it did. -/
def roundWithinSpec : ChangeSpec := { name := "roundWithin", fn := fun _ => fun
  | [d1, d2] => { results := [.lit (.bool true)], args := [d1, d2] }
  | _ => none }
def roundWithinRow : OpenClaim := { program := "ytmcodbgbjjldnaadoor", sum := "133909cebd13f2f79934cd3812c5d9131bc9fc11bdb52b3aabcd41a6391066d6", func := "caliper/caliperlaw08.RoundWithin", spec := "roundWithin", inPlace := ["math/bits.Add64"], unfollowed := true, recurses := true, named := ["caliper/forms.forms", "math/bits.deBruijn64tab"], apart := false, laid := [("math/bits.deBruijn64tab", laid_math_bits_deBruijn64tab), ("caliper/forms.forms", laid_caliper_forms_forms)] }
def RoundWithinSaid : Prop := roundWithinRow.holds Tryd.pinned (OpenSpec.ofChange roundWithinSpec)

/-- ITS FALSE NEIGHBOUR: 'it returns false'. Refute it at one input. -/
def roundWithinWrong : ChangeSpec := { name := "roundWithin", fn := fun _ => fun
  | [d1, d2] => { results := [.lit (.bool false)], args := [d1, d2] }
  | _ => none }
def RoundWithinWrongFalsely : Prop := roundWithinRow.holds Tryd.pinned (OpenSpec.ofChange roundWithinWrong)

/- THE SECOND FORM. 'bulk': how many values and letters a reading holds, each counted each time it is reached (what is shared counts as often as it is met; a slice's spare places count too). A statement '..UptoSaid' is the law's where the arguments, and the package variables that the reading takes, are together of bulk at most 1048576: NARROWER than '..Said'. Prove '..Said' where nothing that the law and all that it calls make is longer than what came in: it says more and counts as full. Else prove '..UptoSaid'. A law counts once. -/
mutual
def uptoBulk {H : Type} : DataW H → Nat
  | .lit (.string bytes) => bytes.length + 1
  | .lit _ => 1
  | .nil => 1
  | .ptr d => uptoBulk d + 1
  | .slice elems spare => uptoBulkAll elems + uptoBulkAll spare + 1
  | .agg parts => uptoBulkAll parts + 1
  | .iface _ d => uptoBulk d + 1
  | .map entries => uptoBulkEntries entries + 1
  | .held _ => 1
def uptoBulkAll {H : Type} : List (DataW H) → Nat
  | [] => 0
  | d :: r => uptoBulk d + uptoBulkAll r
def uptoBulkEntries {H : Type} : List (Lit × DataW H) → Nat
  | [] => 0
  | x :: r => uptoBulkEntry x + uptoBulkEntries r
def uptoBulkEntry {H : Type} : Lit × DataW H → Nat
  | (.string bytes, d) => bytes.length + uptoBulk d + 1
  | (_, d) => uptoBulk d + 1
 end
def uptoSmall : (H : Type) → List (DataW H) → Bool := fun _ ds => decide (uptoBulkAll ds ≤ 1048576)
def OpenSpec.upto (s : _root_.Go.ChangeSpec) : _root_.Go.OpenSpec := { _root_.Go.OpenSpec.ofChange s with cond := some uptoSmall }

/-- 'caliperlaw08.RoundTells', WHERE WHAT IT READS IS OF BULK AT MOST 1048576: true; the input reads as it did. -/
def roundTellsUptoRow : OpenClaim := { program := "ytmcodbgbjjldnaadoor", sum := "133909cebd13f2f79934cd3812c5d9131bc9fc11bdb52b3aabcd41a6391066d6", func := "caliper/caliperlaw08.RoundTells", spec := "roundTells", inPlace := ["math/bits.Add64"], unfollowed := true, recurses := true, named := ["caliper/forms.forms", "math/bits.deBruijn64tab"], apart := false, laid := [("math/bits.deBruijn64tab", laid_math_bits_deBruijn64tab), ("caliper/forms.forms", laid_caliper_forms_forms)], narrowed := true }
def RoundTellsUptoSaid : Prop := roundTellsUptoRow.holds Tryd.pinned (OpenSpec.upto roundTellsSpec)

/-- 'caliperlaw08.RoundRises', WHERE WHAT IT READS IS OF BULK AT MOST 1048576: true; the input reads as it did. -/
def roundRisesUptoRow : OpenClaim := { program := "ytmcodbgbjjldnaadoor", sum := "133909cebd13f2f79934cd3812c5d9131bc9fc11bdb52b3aabcd41a6391066d6", func := "caliper/caliperlaw08.RoundRises", spec := "roundRises", inPlace := ["math/bits.Add64"], unfollowed := true, recurses := true, named := ["caliper/forms.forms", "math/bits.deBruijn64tab"], apart := false, laid := [("math/bits.deBruijn64tab", laid_math_bits_deBruijn64tab), ("caliper/forms.forms", laid_caliper_forms_forms)], narrowed := true }
def RoundRisesUptoSaid : Prop := roundRisesUptoRow.holds Tryd.pinned (OpenSpec.upto roundRisesSpec)

/-- 'caliperlaw08.RoundTies', WHERE WHAT IT READS IS OF BULK AT MOST 1048576: true; the input reads as it did. -/
def roundTiesUptoRow : OpenClaim := { program := "ytmcodbgbjjldnaadoor", sum := "133909cebd13f2f79934cd3812c5d9131bc9fc11bdb52b3aabcd41a6391066d6", func := "caliper/caliperlaw08.RoundTies", spec := "roundTies", inPlace := ["math/bits.Add64"], unfollowed := true, recurses := true, named := ["caliper/forms.forms", "math/bits.deBruijn64tab"], apart := false, laid := [("math/bits.deBruijn64tab", laid_math_bits_deBruijn64tab), ("caliper/forms.forms", laid_caliper_forms_forms)], narrowed := true }
def RoundTiesUptoSaid : Prop := roundTiesUptoRow.holds Tryd.pinned (OpenSpec.upto roundTiesSpec)

/-- 'caliperlaw08.RoundSigns', WHERE WHAT IT READS IS OF BULK AT MOST 1048576: true; the input reads as it did. -/
def roundSignsUptoRow : OpenClaim := { program := "ytmcodbgbjjldnaadoor", sum := "133909cebd13f2f79934cd3812c5d9131bc9fc11bdb52b3aabcd41a6391066d6", func := "caliper/caliperlaw08.RoundSigns", spec := "roundSigns", inPlace := ["math/bits.Add64"], unfollowed := true, recurses := true, named := ["caliper/forms.forms", "math/bits.deBruijn64tab"], apart := false, laid := [("math/bits.deBruijn64tab", laid_math_bits_deBruijn64tab), ("caliper/forms.forms", laid_caliper_forms_forms)], narrowed := true }
def RoundSignsUptoSaid : Prop := roundSignsUptoRow.holds Tryd.pinned (OpenSpec.upto roundSignsSpec)

/-- 'caliperlaw08.RoundHas', WHERE WHAT IT READS IS OF BULK AT MOST 1048576: true; the input reads as it did. -/
def roundHasUptoRow : OpenClaim := { program := "ytmcodbgbjjldnaadoor", sum := "133909cebd13f2f79934cd3812c5d9131bc9fc11bdb52b3aabcd41a6391066d6", func := "caliper/caliperlaw08.RoundHas", spec := "roundHas", inPlace := ["math/bits.Add64"], unfollowed := true, recurses := true, named := ["caliper/forms.forms", "math/bits.deBruijn64tab"], apart := false, laid := [("math/bits.deBruijn64tab", laid_math_bits_deBruijn64tab), ("caliper/forms.forms", laid_caliper_forms_forms)], narrowed := true }
def RoundHasUptoSaid : Prop := roundHasUptoRow.holds Tryd.pinned (OpenSpec.upto roundHasSpec)

/-- 'caliperlaw08.RoundFinite', WHERE WHAT IT READS IS OF BULK AT MOST 1048576: true; the input reads as it did. -/
def roundFiniteUptoRow : OpenClaim := { program := "ytmcodbgbjjldnaadoor", sum := "133909cebd13f2f79934cd3812c5d9131bc9fc11bdb52b3aabcd41a6391066d6", func := "caliper/caliperlaw08.RoundFinite", spec := "roundFinite", inPlace := ["math/bits.Add64"], unfollowed := true, recurses := true, named := ["caliper/forms.forms", "math/bits.deBruijn64tab"], apart := false, laid := [("math/bits.deBruijn64tab", laid_math_bits_deBruijn64tab), ("caliper/forms.forms", laid_caliper_forms_forms)], narrowed := true }
def RoundFiniteUptoSaid : Prop := roundFiniteUptoRow.holds Tryd.pinned (OpenSpec.upto roundFiniteSpec)

/-- 'caliperlaw08.RoundLimits', WHERE WHAT IT READS IS OF BULK AT MOST 1048576: true; the input reads as it did. -/
def roundLimitsUptoRow : OpenClaim := { program := "ytmcodbgbjjldnaadoor", sum := "133909cebd13f2f79934cd3812c5d9131bc9fc11bdb52b3aabcd41a6391066d6", func := "caliper/caliperlaw08.RoundLimits", spec := "roundLimits", inPlace := ["math/bits.Add64"], unfollowed := true, recurses := true, named := ["caliper/forms.forms", "math/bits.deBruijn64tab"], apart := false, laid := [("math/bits.deBruijn64tab", laid_math_bits_deBruijn64tab), ("caliper/forms.forms", laid_caliper_forms_forms)], narrowed := true }
def RoundLimitsUptoSaid : Prop := roundLimitsUptoRow.holds Tryd.pinned (OpenSpec.upto roundLimitsSpec)

/-- 'caliperlaw08.RoundWithin', WHERE WHAT IT READS IS OF BULK AT MOST 1048576: true; the input reads as it did. -/
def roundWithinUptoRow : OpenClaim := { program := "ytmcodbgbjjldnaadoor", sum := "133909cebd13f2f79934cd3812c5d9131bc9fc11bdb52b3aabcd41a6391066d6", func := "caliper/caliperlaw08.RoundWithin", spec := "roundWithin", inPlace := ["math/bits.Add64"], unfollowed := true, recurses := true, named := ["caliper/forms.forms", "math/bits.deBruijn64tab"], apart := false, laid := [("math/bits.deBruijn64tab", laid_math_bits_deBruijn64tab), ("caliper/forms.forms", laid_caliper_forms_forms)], narrowed := true }
def RoundWithinUptoSaid : Prop := roundWithinUptoRow.holds Tryd.pinned (OpenSpec.upto roundWithinSpec)

end Rows
end Go.Proofs.YtmcodbgbjjldnaaDoor
