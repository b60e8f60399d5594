/-
  NARROWER THAN 'FOR EVERY INPUT', by the rows' own cells (each row's printed sentence says how): RulesParses: laid · RulesFormats: loops, laid · RulesBack: loops, laid · RulesMany: laid · RulesDeep: laid · RulesSpaces: loops, laid · RulesSets: laid.
  DERIVED. THE GIVEN ROWS OF THIS SEAT. 7 by the template 'for every input the law returns true; each argument reads behind the call as it read before'; 0 by the template 'total and deterministic' (their statements: YtbnhphmcogfnpaaGreatDoorTotals.lean).
  GIVEN WITH THE SEED: the statements are not yours to turn. If you find one false, say at which input.
  Laid BY PROGRAM, IN A SANDBOX (cutbox-rows.mjs): the forced cells as the released guide's own fill.sh prints them over the translation 55e4bcb26428b9e0… (all of the seat's roots in one cut). By AI agents, Wed Nov 11 2026. No macro, syntax, notation, axiom, sorry.
-/
import Derived.Test.YtbnhphmcogfnpaaGreatDoorChecked
import GoSem.PinnedTables
import GoSem.Claim
import GoSem.ClaimJoined
import GoSem.ClaimMapViews
import Derived.JoinedTies
import Derived.KernelRfl
namespace Go.Proofs.YtbnhphmcogfnpaaGreatDoor
/- THE CELL 'sum', in the pinned program and in every row, IS THE sha256 OF THE DUMP (.gsa) THAT YtbnhphmcogfnpaaGreatDoorProg.lean LOADS. Nothing in Lean hashes anything: it is a label: what it is worth is what the hold of that sum in a sandbox is worth. -/
noncomputable def Tryz.pinned : Pinned := { name := "ytbnhphmcogfnpaagreatdoor", sum := "55e4bcb26428b9e0163eed9ba57cad1a495be9008a5044161d7d08f1d946459c", checked := Tryz.checked }
namespace Rows
def none {H : Type} : Left H := { results := [], args := [] }

/- WHAT THE LISTED PACKAGE-LEVEL VARIABLES READ AS WHEN THE CALL BEGINS. Each datum BY PROGRAM (the guide's laid-datum.mjs) off the statement by which the dump's own 'gosem.cut.vars' lays the variable. In a bare row this is a premise. The card (YtbnhphmcogfnpaaGreatDoorCards.lean) ties it to the program's text. -/
def laid_unicode_utf8_acceptRanges {H : Type} : DataW H := .agg [.agg [.lit (.int .u8 128), .lit (.int .u8 191)], .agg [.lit (.int .u8 160), .lit (.int .u8 191)], .agg [.lit (.int .u8 128), .lit (.int .u8 159)], .agg [.lit (.int .u8 144), .lit (.int .u8 191)], .agg [.lit (.int .u8 128), .lit (.int .u8 143)], .agg [.lit (.int .u8 0), .lit (.int .u8 0)], .agg [.lit (.int .u8 0), .lit (.int .u8 0)], .agg [.lit (.int .u8 0), .lit (.int .u8 0)], .agg [.lit (.int .u8 0), .lit (.int .u8 0)], .agg [.lit (.int .u8 0), .lit (.int .u8 0)], .agg [.lit (.int .u8 0), .lit (.int .u8 0)], .agg [.lit (.int .u8 0), .lit (.int .u8 0)], .agg [.lit (.int .u8 0), .lit (.int .u8 0)], .agg [.lit (.int .u8 0), .lit (.int .u8 0)], .agg [.lit (.int .u8 0), .lit (.int .u8 0)], .agg [.lit (.int .u8 0), .lit (.int .u8 0)]]
def laid_errors_errorType {H : Type} : DataW H := .iface "internal/reflectlite.rtype" (.agg [.ptr (.lit (.string [101, 114, 114, 111, 114]))])
/-- One of Go's own tables, pinned by name: the form's constant. -/
def laid_unicode_utf8_first : DataW Unit := Go.Pinned.utf8First

/-- 'foolscaplaw05.RulesParses': WHATEVER THE INPUT: true; the input reads as it did. -/
def rulesParsesSpec : ChangeSpec := { name := "rulesParses", fn := fun _ => fun
  | [d1, d2] => { results := [.lit (.bool true)], args := [d1, d2] }
  | _ => none }
def rulesParsesRow : OpenClaim := { program := "ytbnhphmcogfnpaagreatdoor", sum := "55e4bcb26428b9e0163eed9ba57cad1a495be9008a5044161d7d08f1d946459c", func := "foolscap/foolscaplaw05.RulesParses", spec := "rulesParses", inPlace := ["internal/bytealg.IndexByteString", "internal/bytealg.IndexString", "internal/reflectlite.ValueOf", "(internal/reflectlite.Value).Type", "(internal/reflectlite.Value).IsNil", "internal/reflectlite.TypeOf", "(internal/reflectlite.Value).Elem", "(internal/reflectlite.Value).Set", "internal/abi.NoEscape", "internal/bytealg.MakeNoZero"], unfollowed := true, recurses := true, named := ["internal/bytealg.MaxLen", "unicode/utf8.first", "unicode/utf8.acceptRanges", "errors.errorType"], apart := false, laid := [("unicode/utf8.acceptRanges", laid_unicode_utf8_acceptRanges), ("errors.errorType", laid_errors_errorType), ("unicode/utf8.first", laid_unicode_utf8_first)] }
def RulesParsesSaid : Prop := rulesParsesRow.holds Tryz.pinned (OpenSpec.ofChange rulesParsesSpec)

/-- ITS FALSE NEIGHBOUR: 'it returns false'. Refute it at one input. -/
def rulesParsesWrong : ChangeSpec := { name := "rulesParses", fn := fun _ => fun
  | [d1, d2] => { results := [.lit (.bool false)], args := [d1, d2] }
  | _ => none }
def RulesParsesWrongFalsely : Prop := rulesParsesRow.holds Tryz.pinned (OpenSpec.ofChange rulesParsesWrong)

/-- 'foolscaplaw05.RulesFormats': WHATEVER THE INPUT: true; the input reads as it did. -/
def rulesFormatsSpec : ChangeSpec := { name := "rulesFormats", fn := fun _ => fun
  | [d1, d2, d3] => { results := [.lit (.bool true)], args := [d1, d2, d3] }
  | _ => none }
def rulesFormatsRow : OpenClaim := { program := "ytbnhphmcogfnpaagreatdoor", sum := "55e4bcb26428b9e0163eed9ba57cad1a495be9008a5044161d7d08f1d946459c", func := "foolscap/foolscaplaw05.RulesFormats", spec := "rulesFormats", inPlace := ["internal/bytealg.IndexByteString", "internal/bytealg.IndexString", "internal/reflectlite.ValueOf", "(internal/reflectlite.Value).Type", "(internal/reflectlite.Value).IsNil", "internal/reflectlite.TypeOf", "(internal/reflectlite.Value).Elem", "(internal/reflectlite.Value).Set", "internal/abi.NoEscape", "internal/bytealg.MakeNoZero"], unfollowed := true, recurses := true, named := ["internal/bytealg.MaxLen", "unicode/utf8.first", "unicode/utf8.acceptRanges", "errors.errorType"], loops := true, apart := false, laid := [("unicode/utf8.acceptRanges", laid_unicode_utf8_acceptRanges), ("errors.errorType", laid_errors_errorType), ("unicode/utf8.first", laid_unicode_utf8_first)] }
def RulesFormatsSaid : Prop := rulesFormatsRow.holds Tryz.pinned (OpenSpec.ofChange rulesFormatsSpec)

/-- ITS FALSE NEIGHBOUR: 'it returns false'. Refute it at one input. -/
def rulesFormatsWrong : ChangeSpec := { name := "rulesFormats", fn := fun _ => fun
  | [d1, d2, d3] => { results := [.lit (.bool false)], args := [d1, d2, d3] }
  | _ => none }
def RulesFormatsWrongFalsely : Prop := rulesFormatsRow.holds Tryz.pinned (OpenSpec.ofChange rulesFormatsWrong)

/-- 'foolscaplaw05.RulesBack': WHATEVER THE INPUT: true; the input reads as it did. -/
def rulesBackSpec : ChangeSpec := { name := "rulesBack", fn := fun _ => fun
  | [d1, d2, d3] => { results := [.lit (.bool true)], args := [d1, d2, d3] }
  | _ => none }
def rulesBackRow : OpenClaim := { program := "ytbnhphmcogfnpaagreatdoor", sum := "55e4bcb26428b9e0163eed9ba57cad1a495be9008a5044161d7d08f1d946459c", func := "foolscap/foolscaplaw05.RulesBack", spec := "rulesBack", inPlace := ["internal/bytealg.IndexByteString", "internal/bytealg.IndexString", "internal/reflectlite.ValueOf", "(internal/reflectlite.Value).Type", "(internal/reflectlite.Value).IsNil", "internal/reflectlite.TypeOf", "(internal/reflectlite.Value).Elem", "(internal/reflectlite.Value).Set", "internal/abi.NoEscape", "internal/bytealg.MakeNoZero"], unfollowed := true, recurses := true, named := ["internal/bytealg.MaxLen", "unicode/utf8.first", "unicode/utf8.acceptRanges", "errors.errorType"], loops := true, apart := false, laid := [("unicode/utf8.acceptRanges", laid_unicode_utf8_acceptRanges), ("errors.errorType", laid_errors_errorType), ("unicode/utf8.first", laid_unicode_utf8_first)] }
def RulesBackSaid : Prop := rulesBackRow.holds Tryz.pinned (OpenSpec.ofChange rulesBackSpec)

/-- ITS FALSE NEIGHBOUR: 'it returns false'. Refute it at one input. -/
def rulesBackWrong : ChangeSpec := { name := "rulesBack", fn := fun _ => fun
  | [d1, d2, d3] => { results := [.lit (.bool false)], args := [d1, d2, d3] }
  | _ => none }
def RulesBackWrongFalsely : Prop := rulesBackRow.holds Tryz.pinned (OpenSpec.ofChange rulesBackWrong)

/-- 'foolscaplaw05.RulesMany': WHATEVER THE INPUT: true; the input reads as it did. -/
def rulesManySpec : ChangeSpec := { name := "rulesMany", fn := fun _ => fun
  | [d1, d2] => { results := [.lit (.bool true)], args := [d1, d2] }
  | _ => none }
def rulesManyRow : OpenClaim := { program := "ytbnhphmcogfnpaagreatdoor", sum := "55e4bcb26428b9e0163eed9ba57cad1a495be9008a5044161d7d08f1d946459c", func := "foolscap/foolscaplaw05.RulesMany", spec := "rulesMany", inPlace := ["internal/bytealg.IndexByteString", "internal/bytealg.IndexString", "internal/reflectlite.ValueOf", "(internal/reflectlite.Value).Type", "(internal/reflectlite.Value).IsNil", "internal/reflectlite.TypeOf", "(internal/reflectlite.Value).Elem", "(internal/reflectlite.Value).Set", "internal/abi.NoEscape", "internal/bytealg.MakeNoZero"], unfollowed := true, recurses := true, named := ["internal/bytealg.MaxLen", "unicode/utf8.first", "unicode/utf8.acceptRanges", "errors.errorType"], apart := false, laid := [("unicode/utf8.acceptRanges", laid_unicode_utf8_acceptRanges), ("errors.errorType", laid_errors_errorType), ("unicode/utf8.first", laid_unicode_utf8_first)] }
def RulesManySaid : Prop := rulesManyRow.holds Tryz.pinned (OpenSpec.ofChange rulesManySpec)

/-- ITS FALSE NEIGHBOUR: 'it returns false'. Refute it at one input. -/
def rulesManyWrong : ChangeSpec := { name := "rulesMany", fn := fun _ => fun
  | [d1, d2] => { results := [.lit (.bool false)], args := [d1, d2] }
  | _ => none }
def RulesManyWrongFalsely : Prop := rulesManyRow.holds Tryz.pinned (OpenSpec.ofChange rulesManyWrong)

/-- 'foolscaplaw05.RulesDeep': WHATEVER THE INPUT: true; the input reads as it did. -/
def rulesDeepSpec : ChangeSpec := { name := "rulesDeep", fn := fun _ => fun
  | [d1, d2] => { results := [.lit (.bool true)], args := [d1, d2] }
  | _ => none }
def rulesDeepRow : OpenClaim := { program := "ytbnhphmcogfnpaagreatdoor", sum := "55e4bcb26428b9e0163eed9ba57cad1a495be9008a5044161d7d08f1d946459c", func := "foolscap/foolscaplaw05.RulesDeep", spec := "rulesDeep", inPlace := ["internal/bytealg.IndexByteString", "internal/bytealg.IndexString", "internal/reflectlite.ValueOf", "(internal/reflectlite.Value).Type", "(internal/reflectlite.Value).IsNil", "internal/reflectlite.TypeOf", "(internal/reflectlite.Value).Elem", "(internal/reflectlite.Value).Set", "internal/abi.NoEscape", "internal/bytealg.MakeNoZero"], unfollowed := true, recurses := true, named := ["internal/bytealg.MaxLen", "unicode/utf8.first", "unicode/utf8.acceptRanges", "errors.errorType"], apart := false, laid := [("unicode/utf8.acceptRanges", laid_unicode_utf8_acceptRanges), ("errors.errorType", laid_errors_errorType), ("unicode/utf8.first", laid_unicode_utf8_first)] }
def RulesDeepSaid : Prop := rulesDeepRow.holds Tryz.pinned (OpenSpec.ofChange rulesDeepSpec)

/-- ITS FALSE NEIGHBOUR: 'it returns false'. Refute it at one input. -/
def rulesDeepWrong : ChangeSpec := { name := "rulesDeep", fn := fun _ => fun
  | [d1, d2] => { results := [.lit (.bool false)], args := [d1, d2] }
  | _ => none }
def RulesDeepWrongFalsely : Prop := rulesDeepRow.holds Tryz.pinned (OpenSpec.ofChange rulesDeepWrong)

/-- 'foolscaplaw05.RulesSpaces': WHATEVER THE INPUT: true; the input reads as it did. -/
def rulesSpacesSpec : ChangeSpec := { name := "rulesSpaces", fn := fun _ => fun
  | [d1, d2] => { results := [.lit (.bool true)], args := [d1, d2] }
  | _ => none }
def rulesSpacesRow : OpenClaim := { program := "ytbnhphmcogfnpaagreatdoor", sum := "55e4bcb26428b9e0163eed9ba57cad1a495be9008a5044161d7d08f1d946459c", func := "foolscap/foolscaplaw05.RulesSpaces", spec := "rulesSpaces", inPlace := ["internal/bytealg.IndexByteString", "internal/bytealg.IndexString", "internal/reflectlite.ValueOf", "(internal/reflectlite.Value).Type", "(internal/reflectlite.Value).IsNil", "internal/reflectlite.TypeOf", "(internal/reflectlite.Value).Elem", "(internal/reflectlite.Value).Set", "internal/abi.NoEscape", "internal/bytealg.MakeNoZero"], unfollowed := true, recurses := true, named := ["internal/bytealg.MaxLen", "unicode/utf8.first", "unicode/utf8.acceptRanges", "errors.errorType"], loops := true, apart := false, laid := [("unicode/utf8.acceptRanges", laid_unicode_utf8_acceptRanges), ("errors.errorType", laid_errors_errorType), ("unicode/utf8.first", laid_unicode_utf8_first)] }
def RulesSpacesSaid : Prop := rulesSpacesRow.holds Tryz.pinned (OpenSpec.ofChange rulesSpacesSpec)

/-- ITS FALSE NEIGHBOUR: 'it returns false'. Refute it at one input. -/
def rulesSpacesWrong : ChangeSpec := { name := "rulesSpaces", fn := fun _ => fun
  | [d1, d2] => { results := [.lit (.bool false)], args := [d1, d2] }
  | _ => none }
def RulesSpacesWrongFalsely : Prop := rulesSpacesRow.holds Tryz.pinned (OpenSpec.ofChange rulesSpacesWrong)

/-- 'foolscaplaw05.RulesSets': WHATEVER THE INPUT: true; the input reads as it did. -/
def rulesSetsSpec : ChangeSpec := { name := "rulesSets", fn := fun _ => fun
  | [d] => { results := [.lit (.bool true)], args := [d] }
  | _ => none }
def rulesSetsRow : OpenClaim := { program := "ytbnhphmcogfnpaagreatdoor", sum := "55e4bcb26428b9e0163eed9ba57cad1a495be9008a5044161d7d08f1d946459c", func := "foolscap/foolscaplaw05.RulesSets", spec := "rulesSets", inPlace := ["internal/bytealg.IndexByteString", "internal/bytealg.IndexString", "internal/reflectlite.ValueOf", "(internal/reflectlite.Value).Type", "(internal/reflectlite.Value).IsNil", "internal/reflectlite.TypeOf", "(internal/reflectlite.Value).Elem", "(internal/reflectlite.Value).Set", "internal/abi.NoEscape", "internal/bytealg.MakeNoZero"], unfollowed := true, recurses := true, named := ["internal/bytealg.MaxLen", "unicode/utf8.first", "unicode/utf8.acceptRanges", "errors.errorType"], apart := false, laid := [("unicode/utf8.acceptRanges", laid_unicode_utf8_acceptRanges), ("errors.errorType", laid_errors_errorType), ("unicode/utf8.first", laid_unicode_utf8_first)] }
def RulesSetsSaid : Prop := rulesSetsRow.holds Tryz.pinned (OpenSpec.ofChange rulesSetsSpec)

/-- ITS FALSE NEIGHBOUR: 'it returns false'. Refute it at one input. -/
def rulesSetsWrong : ChangeSpec := { name := "rulesSets", fn := fun _ => fun
  | [d] => { results := [.lit (.bool false)], args := [d] }
  | _ => none }
def RulesSetsWrongFalsely : Prop := rulesSetsRow.holds Tryz.pinned (OpenSpec.ofChange rulesSetsWrong)

/- THE SECOND FORM. 'bulk': how many values and letters a reading holds, each counted each time it is reached (what is shared counts as often as it is met; a slice's spare places count too). A statement '..UptoSaid' is the law's where the arguments, and the package variables that the reading takes, are together of bulk at most 1048576: NARROWER than '..Said'. Prove '..Said' where nothing that the law and all that it calls make is longer than what came in: it says more and counts as full. Else prove '..UptoSaid'. A law counts once. -/
mutual
def uptoBulk {H : Type} : DataW H → Nat
  | .lit (.string bytes) => bytes.length + 1
  | .lit _ => 1
  | .nil => 1
  | .ptr d => uptoBulk d + 1
  | .slice elems spare => uptoBulkAll elems + uptoBulkAll spare + 1
  | .agg parts => uptoBulkAll parts + 1
  | .iface _ d => uptoBulk d + 1
  | .map entries => uptoBulkEntries entries + 1
  | .held _ => 1
def uptoBulkAll {H : Type} : List (DataW H) → Nat
  | [] => 0
  | d :: r => uptoBulk d + uptoBulkAll r
def uptoBulkEntries {H : Type} : List (Lit × DataW H) → Nat
  | [] => 0
  | x :: r => uptoBulkEntry x + uptoBulkEntries r
def uptoBulkEntry {H : Type} : Lit × DataW H → Nat
  | (.string bytes, d) => bytes.length + uptoBulk d + 1
  | (_, d) => uptoBulk d + 1
 end
def uptoSmall : (H : Type) → List (DataW H) → Bool := fun _ ds => decide (uptoBulkAll ds ≤ 1048576)
def OpenSpec.upto (s : _root_.Go.ChangeSpec) : _root_.Go.OpenSpec := { _root_.Go.OpenSpec.ofChange s with cond := some uptoSmall }

/-- 'foolscaplaw05.RulesParses', WHERE WHAT IT READS IS OF BULK AT MOST 1048576: true; the input reads as it did. -/
def rulesParsesUptoRow : OpenClaim := { program := "ytbnhphmcogfnpaagreatdoor", sum := "55e4bcb26428b9e0163eed9ba57cad1a495be9008a5044161d7d08f1d946459c", func := "foolscap/foolscaplaw05.RulesParses", spec := "rulesParses", inPlace := ["internal/bytealg.IndexByteString", "internal/bytealg.IndexString", "internal/reflectlite.ValueOf", "(internal/reflectlite.Value).Type", "(internal/reflectlite.Value).IsNil", "internal/reflectlite.TypeOf", "(internal/reflectlite.Value).Elem", "(internal/reflectlite.Value).Set", "internal/abi.NoEscape", "internal/bytealg.MakeNoZero"], unfollowed := true, recurses := true, named := ["internal/bytealg.MaxLen", "unicode/utf8.first", "unicode/utf8.acceptRanges", "errors.errorType"], apart := false, laid := [("unicode/utf8.acceptRanges", laid_unicode_utf8_acceptRanges), ("errors.errorType", laid_errors_errorType), ("unicode/utf8.first", laid_unicode_utf8_first)], narrowed := true }
def RulesParsesUptoSaid : Prop := rulesParsesUptoRow.holds Tryz.pinned (OpenSpec.upto rulesParsesSpec)

/-- 'foolscaplaw05.RulesFormats', WHERE WHAT IT READS IS OF BULK AT MOST 1048576: true; the input reads as it did. -/
def rulesFormatsUptoRow : OpenClaim := { program := "ytbnhphmcogfnpaagreatdoor", sum := "55e4bcb26428b9e0163eed9ba57cad1a495be9008a5044161d7d08f1d946459c", func := "foolscap/foolscaplaw05.RulesFormats", spec := "rulesFormats", inPlace := ["internal/bytealg.IndexByteString", "internal/bytealg.IndexString", "internal/reflectlite.ValueOf", "(internal/reflectlite.Value).Type", "(internal/reflectlite.Value).IsNil", "internal/reflectlite.TypeOf", "(internal/reflectlite.Value).Elem", "(internal/reflectlite.Value).Set", "internal/abi.NoEscape", "internal/bytealg.MakeNoZero"], unfollowed := true, recurses := true, named := ["internal/bytealg.MaxLen", "unicode/utf8.first", "unicode/utf8.acceptRanges", "errors.errorType"], loops := true, apart := false, laid := [("unicode/utf8.acceptRanges", laid_unicode_utf8_acceptRanges), ("errors.errorType", laid_errors_errorType), ("unicode/utf8.first", laid_unicode_utf8_first)], narrowed := true }
def RulesFormatsUptoSaid : Prop := rulesFormatsUptoRow.holds Tryz.pinned (OpenSpec.upto rulesFormatsSpec)

/-- 'foolscaplaw05.RulesBack', WHERE WHAT IT READS IS OF BULK AT MOST 1048576: true; the input reads as it did. -/
def rulesBackUptoRow : OpenClaim := { program := "ytbnhphmcogfnpaagreatdoor", sum := "55e4bcb26428b9e0163eed9ba57cad1a495be9008a5044161d7d08f1d946459c", func := "foolscap/foolscaplaw05.RulesBack", spec := "rulesBack", inPlace := ["internal/bytealg.IndexByteString", "internal/bytealg.IndexString", "internal/reflectlite.ValueOf", "(internal/reflectlite.Value).Type", "(internal/reflectlite.Value).IsNil", "internal/reflectlite.TypeOf", "(internal/reflectlite.Value).Elem", "(internal/reflectlite.Value).Set", "internal/abi.NoEscape", "internal/bytealg.MakeNoZero"], unfollowed := true, recurses := true, named := ["internal/bytealg.MaxLen", "unicode/utf8.first", "unicode/utf8.acceptRanges", "errors.errorType"], loops := true, apart := false, laid := [("unicode/utf8.acceptRanges", laid_unicode_utf8_acceptRanges), ("errors.errorType", laid_errors_errorType), ("unicode/utf8.first", laid_unicode_utf8_first)], narrowed := true }
def RulesBackUptoSaid : Prop := rulesBackUptoRow.holds Tryz.pinned (OpenSpec.upto rulesBackSpec)

/-- 'foolscaplaw05.RulesMany', WHERE WHAT IT READS IS OF BULK AT MOST 1048576: true; the input reads as it did. -/
def rulesManyUptoRow : OpenClaim := { program := "ytbnhphmcogfnpaagreatdoor", sum := "55e4bcb26428b9e0163eed9ba57cad1a495be9008a5044161d7d08f1d946459c", func := "foolscap/foolscaplaw05.RulesMany", spec := "rulesMany", inPlace := ["internal/bytealg.IndexByteString", "internal/bytealg.IndexString", "internal/reflectlite.ValueOf", "(internal/reflectlite.Value).Type", "(internal/reflectlite.Value).IsNil", "internal/reflectlite.TypeOf", "(internal/reflectlite.Value).Elem", "(internal/reflectlite.Value).Set", "internal/abi.NoEscape", "internal/bytealg.MakeNoZero"], unfollowed := true, recurses := true, named := ["internal/bytealg.MaxLen", "unicode/utf8.first", "unicode/utf8.acceptRanges", "errors.errorType"], apart := false, laid := [("unicode/utf8.acceptRanges", laid_unicode_utf8_acceptRanges), ("errors.errorType", laid_errors_errorType), ("unicode/utf8.first", laid_unicode_utf8_first)], narrowed := true }
def RulesManyUptoSaid : Prop := rulesManyUptoRow.holds Tryz.pinned (OpenSpec.upto rulesManySpec)

/-- 'foolscaplaw05.RulesDeep', WHERE WHAT IT READS IS OF BULK AT MOST 1048576: true; the input reads as it did. -/
def rulesDeepUptoRow : OpenClaim := { program := "ytbnhphmcogfnpaagreatdoor", sum := "55e4bcb26428b9e0163eed9ba57cad1a495be9008a5044161d7d08f1d946459c", func := "foolscap/foolscaplaw05.RulesDeep", spec := "rulesDeep", inPlace := ["internal/bytealg.IndexByteString", "internal/bytealg.IndexString", "internal/reflectlite.ValueOf", "(internal/reflectlite.Value).Type", "(internal/reflectlite.Value).IsNil", "internal/reflectlite.TypeOf", "(internal/reflectlite.Value).Elem", "(internal/reflectlite.Value).Set", "internal/abi.NoEscape", "internal/bytealg.MakeNoZero"], unfollowed := true, recurses := true, named := ["internal/bytealg.MaxLen", "unicode/utf8.first", "unicode/utf8.acceptRanges", "errors.errorType"], apart := false, laid := [("unicode/utf8.acceptRanges", laid_unicode_utf8_acceptRanges), ("errors.errorType", laid_errors_errorType), ("unicode/utf8.first", laid_unicode_utf8_first)], narrowed := true }
def RulesDeepUptoSaid : Prop := rulesDeepUptoRow.holds Tryz.pinned (OpenSpec.upto rulesDeepSpec)

/-- 'foolscaplaw05.RulesSpaces', WHERE WHAT IT READS IS OF BULK AT MOST 1048576: true; the input reads as it did. -/
def rulesSpacesUptoRow : OpenClaim := { program := "ytbnhphmcogfnpaagreatdoor", sum := "55e4bcb26428b9e0163eed9ba57cad1a495be9008a5044161d7d08f1d946459c", func := "foolscap/foolscaplaw05.RulesSpaces", spec := "rulesSpaces", inPlace := ["internal/bytealg.IndexByteString", "internal/bytealg.IndexString", "internal/reflectlite.ValueOf", "(internal/reflectlite.Value).Type", "(internal/reflectlite.Value).IsNil", "internal/reflectlite.TypeOf", "(internal/reflectlite.Value).Elem", "(internal/reflectlite.Value).Set", "internal/abi.NoEscape", "internal/bytealg.MakeNoZero"], unfollowed := true, recurses := true, named := ["internal/bytealg.MaxLen", "unicode/utf8.first", "unicode/utf8.acceptRanges", "errors.errorType"], loops := true, apart := false, laid := [("unicode/utf8.acceptRanges", laid_unicode_utf8_acceptRanges), ("errors.errorType", laid_errors_errorType), ("unicode/utf8.first", laid_unicode_utf8_first)], narrowed := true }
def RulesSpacesUptoSaid : Prop := rulesSpacesUptoRow.holds Tryz.pinned (OpenSpec.upto rulesSpacesSpec)

/-- 'foolscaplaw05.RulesSets', WHERE WHAT IT READS IS OF BULK AT MOST 1048576: true; the input reads as it did. -/
def rulesSetsUptoRow : OpenClaim := { program := "ytbnhphmcogfnpaagreatdoor", sum := "55e4bcb26428b9e0163eed9ba57cad1a495be9008a5044161d7d08f1d946459c", func := "foolscap/foolscaplaw05.RulesSets", spec := "rulesSets", inPlace := ["internal/bytealg.IndexByteString", "internal/bytealg.IndexString", "internal/reflectlite.ValueOf", "(internal/reflectlite.Value).Type", "(internal/reflectlite.Value).IsNil", "internal/reflectlite.TypeOf", "(internal/reflectlite.Value).Elem", "(internal/reflectlite.Value).Set", "internal/abi.NoEscape", "internal/bytealg.MakeNoZero"], unfollowed := true, recurses := true, named := ["internal/bytealg.MaxLen", "unicode/utf8.first", "unicode/utf8.acceptRanges", "errors.errorType"], apart := false, laid := [("unicode/utf8.acceptRanges", laid_unicode_utf8_acceptRanges), ("errors.errorType", laid_errors_errorType), ("unicode/utf8.first", laid_unicode_utf8_first)], narrowed := true }
def RulesSetsUptoSaid : Prop := rulesSetsUptoRow.holds Tryz.pinned (OpenSpec.upto rulesSetsSpec)

end Rows
end Go.Proofs.YtbnhphmcogfnpaaGreatDoor
