/-
  No cell of these rows narrows 'for every input' (looked for: loops, veiled, ifaces, maps, wideKeys, modest, calm, conditions, laid).
  DERIVED. THE GIVEN ROWS OF THIS SEAT. 6 by the template 'for every input the law returns true; each argument reads behind the call as it read before'; 0 by the template 'total and deterministic' (their statements: YtemdcphnhlgbeaaTotals.lean).
  GIVEN WITH THE SEED: the statements are not yours to turn. If you find one false, say at which input.
  Laid BY PROGRAM, IN A SANDBOX (cutbox-rows.mjs): the forced cells as the released guide's own fill.sh prints them over the translation 0cf0c572522c27b7… (all of the seat's roots in one cut). By AI agents, Wed Nov 11 2026. No macro, syntax, notation, axiom, sorry.
-/
import Derived.Test.YtemdcphnhlgbeaaChecked
import GoSem.Claim
import GoSem.ClaimJoined
import GoSem.ClaimMapViews
import Derived.JoinedTies
import Derived.KernelRfl
namespace Go.Proofs.Ytemdcphnhlgbeaa
/- THE CELL 'sum', in the pinned program and in every row, IS THE sha256 OF THE DUMP (.gsa) THAT YtemdcphnhlgbeaaProg.lean LOADS. Nothing in Lean hashes anything: it is a label: what it is worth is what the hold of that sum in a sandbox is worth. -/
noncomputable def Try.pinned : Pinned := { name := "ytemdcphnhlgbeaa", sum := "0cf0c572522c27b7a2bb873d9c1975833835db3f4d3967c3868664a20ef1176c", checked := Try.checked }
namespace Rows
def none {H : Type} : Left H := { results := [], args := [] }

/-- 'foolscaplaw03.CrcSums': WHATEVER THE INPUT: true; the input reads as it did. -/
def crcSumsSpec : ChangeSpec := { name := "crcSums", fn := fun _ => fun
  | [d1, d2] => { results := [.lit (.bool true)], args := [d1, d2] }
  | _ => none }
def crcSumsRow : OpenClaim := { program := "ytemdcphnhlgbeaa", sum := "0cf0c572522c27b7a2bb873d9c1975833835db3f4d3967c3868664a20ef1176c", func := "foolscap/foolscaplaw03.CrcSums", spec := "crcSums", apart := false }
def CrcSumsSaid : Prop := crcSumsRow.holds Try.pinned (OpenSpec.ofChange crcSumsSpec)

/-- ITS FALSE NEIGHBOUR: 'it returns false'. Refute it at one input. -/
def crcSumsWrong : ChangeSpec := { name := "crcSums", fn := fun _ => fun
  | [d1, d2] => { results := [.lit (.bool false)], args := [d1, d2] }
  | _ => none }
def CrcSumsWrongFalsely : Prop := crcSumsRow.holds Try.pinned (OpenSpec.ofChange crcSumsWrong)

/-- 'foolscaplaw03.CrcJoins': WHATEVER THE INPUT: true; the input reads as it did. -/
def crcJoinsSpec : ChangeSpec := { name := "crcJoins", fn := fun _ => fun
  | [d1, d2] => { results := [.lit (.bool true)], args := [d1, d2] }
  | _ => none }
def crcJoinsRow : OpenClaim := { program := "ytemdcphnhlgbeaa", sum := "0cf0c572522c27b7a2bb873d9c1975833835db3f4d3967c3868664a20ef1176c", func := "foolscap/foolscaplaw03.CrcJoins", spec := "crcJoins", apart := false }
def CrcJoinsSaid : Prop := crcJoinsRow.holds Try.pinned (OpenSpec.ofChange crcJoinsSpec)

/-- ITS FALSE NEIGHBOUR: 'it returns false'. Refute it at one input. -/
def crcJoinsWrong : ChangeSpec := { name := "crcJoins", fn := fun _ => fun
  | [d1, d2] => { results := [.lit (.bool false)], args := [d1, d2] }
  | _ => none }
def CrcJoinsWrongFalsely : Prop := crcJoinsRow.holds Try.pinned (OpenSpec.ofChange crcJoinsWrong)

/-- 'foolscaplaw03.CrcNear': WHATEVER THE INPUT: true; the input reads as it did. -/
def crcNearSpec : ChangeSpec := { name := "crcNear", fn := fun _ => fun
  | [d1, d2, d3] => { results := [.lit (.bool true)], args := [d1, d2, d3] }
  | _ => none }
def crcNearRow : OpenClaim := { program := "ytemdcphnhlgbeaa", sum := "0cf0c572522c27b7a2bb873d9c1975833835db3f4d3967c3868664a20ef1176c", func := "foolscap/foolscaplaw03.CrcNear", spec := "crcNear", apart := false }
def CrcNearSaid : Prop := crcNearRow.holds Try.pinned (OpenSpec.ofChange crcNearSpec)

/-- ITS FALSE NEIGHBOUR: 'it returns false'. Refute it at one input. -/
def crcNearWrong : ChangeSpec := { name := "crcNear", fn := fun _ => fun
  | [d1, d2, d3] => { results := [.lit (.bool false)], args := [d1, d2, d3] }
  | _ => none }
def CrcNearWrongFalsely : Prop := crcNearRow.holds Try.pinned (OpenSpec.ofChange crcNearWrong)

/-- 'foolscaplaw03.CrcLinear': WHATEVER THE INPUT: true; the input reads as it did. -/
def crcLinearSpec : ChangeSpec := { name := "crcLinear", fn := fun _ => fun
  | [d1, d2, d3] => { results := [.lit (.bool true)], args := [d1, d2, d3] }
  | _ => none }
def crcLinearRow : OpenClaim := { program := "ytemdcphnhlgbeaa", sum := "0cf0c572522c27b7a2bb873d9c1975833835db3f4d3967c3868664a20ef1176c", func := "foolscap/foolscaplaw03.CrcLinear", spec := "crcLinear", apart := false }
def CrcLinearSaid : Prop := crcLinearRow.holds Try.pinned (OpenSpec.ofChange crcLinearSpec)

/-- ITS FALSE NEIGHBOUR: 'it returns false'. Refute it at one input. -/
def crcLinearWrong : ChangeSpec := { name := "crcLinear", fn := fun _ => fun
  | [d1, d2, d3] => { results := [.lit (.bool false)], args := [d1, d2, d3] }
  | _ => none }
def CrcLinearWrongFalsely : Prop := crcLinearRow.holds Try.pinned (OpenSpec.ofChange crcLinearWrong)

/-- 'foolscaplaw03.CrcRests': WHATEVER THE INPUT: true; the input reads as it did. -/
def crcRestsSpec : ChangeSpec := { name := "crcRests", fn := fun _ => fun
  | [d] => { results := [.lit (.bool true)], args := [d] }
  | _ => none }
def crcRestsRow : OpenClaim := { program := "ytemdcphnhlgbeaa", sum := "0cf0c572522c27b7a2bb873d9c1975833835db3f4d3967c3868664a20ef1176c", func := "foolscap/foolscaplaw03.CrcRests", spec := "crcRests", apart := false }
def CrcRestsSaid : Prop := crcRestsRow.holds Try.pinned (OpenSpec.ofChange crcRestsSpec)

/-- ITS FALSE NEIGHBOUR: 'it returns false'. Refute it at one input. -/
def crcRestsWrong : ChangeSpec := { name := "crcRests", fn := fun _ => fun
  | [d] => { results := [.lit (.bool false)], args := [d] }
  | _ => none }
def CrcRestsWrongFalsely : Prop := crcRestsRow.holds Try.pinned (OpenSpec.ofChange crcRestsWrong)

/-- 'foolscaplaw03.CrcApart': WHATEVER THE INPUT: true; the input reads as it did. -/
def crcApartSpec : ChangeSpec := { name := "crcApart", fn := fun _ => fun
  | [d1, d2, d3, d4, d5] => { results := [.lit (.bool true)], args := [d1, d2, d3, d4, d5] }
  | _ => none }
def crcApartRow : OpenClaim := { program := "ytemdcphnhlgbeaa", sum := "0cf0c572522c27b7a2bb873d9c1975833835db3f4d3967c3868664a20ef1176c", func := "foolscap/foolscaplaw03.CrcApart", spec := "crcApart", apart := false }
def CrcApartSaid : Prop := crcApartRow.holds Try.pinned (OpenSpec.ofChange crcApartSpec)

/-- ITS FALSE NEIGHBOUR: 'it returns false'. Refute it at one input. -/
def crcApartWrong : ChangeSpec := { name := "crcApart", fn := fun _ => fun
  | [d1, d2, d3, d4, d5] => { results := [.lit (.bool false)], args := [d1, d2, d3, d4, d5] }
  | _ => none }
def CrcApartWrongFalsely : Prop := crcApartRow.holds Try.pinned (OpenSpec.ofChange crcApartWrong)

/- THE SECOND FORM. 'bulk': how many values and letters a reading holds, each counted each time it is reached (what is shared counts as often as it is met; a slice's spare places count too). A statement '..UptoSaid' is the law's where the arguments, and the package variables that the reading takes, are together of bulk at most 1048576: NARROWER than '..Said'. Prove '..Said' where nothing that the law and all that it calls make is longer than what came in: it says more and counts as full. Else prove '..UptoSaid'. A law counts once. -/
mutual
def uptoBulk {H : Type} : DataW H → Nat
  | .lit (.string bytes) => bytes.length + 1
  | .lit _ => 1
  | .nil => 1
  | .ptr d => uptoBulk d + 1
  | .slice elems spare => uptoBulkAll elems + uptoBulkAll spare + 1
  | .agg parts => uptoBulkAll parts + 1
  | .iface _ d => uptoBulk d + 1
  | .map entries => uptoBulkEntries entries + 1
  | .held _ => 1
def uptoBulkAll {H : Type} : List (DataW H) → Nat
  | [] => 0
  | d :: r => uptoBulk d + uptoBulkAll r
def uptoBulkEntries {H : Type} : List (Lit × DataW H) → Nat
  | [] => 0
  | x :: r => uptoBulkEntry x + uptoBulkEntries r
def uptoBulkEntry {H : Type} : Lit × DataW H → Nat
  | (.string bytes, d) => bytes.length + uptoBulk d + 1
  | (_, d) => uptoBulk d + 1
 end
def uptoSmall : (H : Type) → List (DataW H) → Bool := fun _ ds => decide (uptoBulkAll ds ≤ 1048576)
def OpenSpec.upto (s : _root_.Go.ChangeSpec) : _root_.Go.OpenSpec := { _root_.Go.OpenSpec.ofChange s with cond := some uptoSmall }

/-- 'foolscaplaw03.CrcSums', WHERE WHAT IT READS IS OF BULK AT MOST 1048576: true; the input reads as it did. -/
def crcSumsUptoRow : OpenClaim := { program := "ytemdcphnhlgbeaa", sum := "0cf0c572522c27b7a2bb873d9c1975833835db3f4d3967c3868664a20ef1176c", func := "foolscap/foolscaplaw03.CrcSums", spec := "crcSums", apart := false, narrowed := true }
def CrcSumsUptoSaid : Prop := crcSumsUptoRow.holds Try.pinned (OpenSpec.upto crcSumsSpec)

/-- 'foolscaplaw03.CrcJoins', WHERE WHAT IT READS IS OF BULK AT MOST 1048576: true; the input reads as it did. -/
def crcJoinsUptoRow : OpenClaim := { program := "ytemdcphnhlgbeaa", sum := "0cf0c572522c27b7a2bb873d9c1975833835db3f4d3967c3868664a20ef1176c", func := "foolscap/foolscaplaw03.CrcJoins", spec := "crcJoins", apart := false, narrowed := true }
def CrcJoinsUptoSaid : Prop := crcJoinsUptoRow.holds Try.pinned (OpenSpec.upto crcJoinsSpec)

/-- 'foolscaplaw03.CrcNear', WHERE WHAT IT READS IS OF BULK AT MOST 1048576: true; the input reads as it did. -/
def crcNearUptoRow : OpenClaim := { program := "ytemdcphnhlgbeaa", sum := "0cf0c572522c27b7a2bb873d9c1975833835db3f4d3967c3868664a20ef1176c", func := "foolscap/foolscaplaw03.CrcNear", spec := "crcNear", apart := false, narrowed := true }
def CrcNearUptoSaid : Prop := crcNearUptoRow.holds Try.pinned (OpenSpec.upto crcNearSpec)

/-- 'foolscaplaw03.CrcLinear', WHERE WHAT IT READS IS OF BULK AT MOST 1048576: true; the input reads as it did. -/
def crcLinearUptoRow : OpenClaim := { program := "ytemdcphnhlgbeaa", sum := "0cf0c572522c27b7a2bb873d9c1975833835db3f4d3967c3868664a20ef1176c", func := "foolscap/foolscaplaw03.CrcLinear", spec := "crcLinear", apart := false, narrowed := true }
def CrcLinearUptoSaid : Prop := crcLinearUptoRow.holds Try.pinned (OpenSpec.upto crcLinearSpec)

/-- 'foolscaplaw03.CrcRests', WHERE WHAT IT READS IS OF BULK AT MOST 1048576: true; the input reads as it did. -/
def crcRestsUptoRow : OpenClaim := { program := "ytemdcphnhlgbeaa", sum := "0cf0c572522c27b7a2bb873d9c1975833835db3f4d3967c3868664a20ef1176c", func := "foolscap/foolscaplaw03.CrcRests", spec := "crcRests", apart := false, narrowed := true }
def CrcRestsUptoSaid : Prop := crcRestsUptoRow.holds Try.pinned (OpenSpec.upto crcRestsSpec)

/-- 'foolscaplaw03.CrcApart', WHERE WHAT IT READS IS OF BULK AT MOST 1048576: true; the input reads as it did. -/
def crcApartUptoRow : OpenClaim := { program := "ytemdcphnhlgbeaa", sum := "0cf0c572522c27b7a2bb873d9c1975833835db3f4d3967c3868664a20ef1176c", func := "foolscap/foolscaplaw03.CrcApart", spec := "crcApart", apart := false, narrowed := true }
def CrcApartUptoSaid : Prop := crcApartUptoRow.holds Try.pinned (OpenSpec.upto crcApartSpec)

end Rows
end Go.Proofs.Ytemdcphnhlgbeaa
