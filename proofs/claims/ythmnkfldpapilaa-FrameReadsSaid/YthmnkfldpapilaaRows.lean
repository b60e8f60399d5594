/-
  No cell of these rows narrows 'for every input' (looked for: loops, veiled, ifaces, maps, wideKeys, modest, calm, conditions, laid).
  DERIVED. THE GIVEN ROWS OF THIS SEAT. 8 by the template 'for every input the law returns true; each argument reads behind the call as it read before'; 0 by the template 'total and deterministic' (their statements: YthmnkfldpapilaaTotals.lean).
  GIVEN WITH THE SEED: the statements are not yours to turn. If you find one false, say at which input.
  Laid BY PROGRAM, IN A SANDBOX (cutbox-rows.mjs): the forced cells as the released guide's own fill.sh prints them over the translation 25193c79fc9c8412… (all of the seat's roots in one cut). By AI agents, Wed Nov 11 2026. No macro, syntax, notation, axiom, sorry.
-/
import Derived.Test.YthmnkfldpapilaaChecked
import GoSem.Claim
import GoSem.ClaimJoined
import GoSem.ClaimMapViews
import Derived.JoinedTies
import Derived.KernelRfl
namespace Go.Proofs.Ythmnkfldpapilaa
/- THE CELL 'sum', in the pinned program and in every row, IS THE sha256 OF THE DUMP (.gsa) THAT YthmnkfldpapilaaProg.lean LOADS. Nothing in Lean hashes anything: it is a label: what it is worth is what the hold of that sum in a sandbox is worth. -/
noncomputable def Try.pinned : Pinned := { name := "ythmnkfldpapilaa", sum := "25193c79fc9c84129d301214736c7a3498f2dc5fad92378e4e98821045fb0558", checked := Try.checked }
namespace Rows
def none {H : Type} : Left H := { results := [], args := [] }

/-- 'foolscaplaw15.FrameBytes': WHATEVER THE INPUT: true; the input reads as it did. -/
def frameBytesSpec : ChangeSpec := { name := "frameBytes", fn := fun _ => fun
  | [d] => { results := [.lit (.bool true)], args := [d] }
  | _ => none }
def frameBytesRow : OpenClaim := { program := "ythmnkfldpapilaa", sum := "25193c79fc9c84129d301214736c7a3498f2dc5fad92378e4e98821045fb0558", func := "foolscap/foolscaplaw15.FrameBytes", spec := "frameBytes", unfollowed := true, recurses := true, apart := false }
def FrameBytesSaid : Prop := frameBytesRow.holds Try.pinned (OpenSpec.ofChange frameBytesSpec)

/-- ITS FALSE NEIGHBOUR: 'it returns false'. Refute it at one input. -/
def frameBytesWrong : ChangeSpec := { name := "frameBytes", fn := fun _ => fun
  | [d] => { results := [.lit (.bool false)], args := [d] }
  | _ => none }
def FrameBytesWrongFalsely : Prop := frameBytesRow.holds Try.pinned (OpenSpec.ofChange frameBytesWrong)

/-- 'foolscaplaw15.FrameReads': WHATEVER THE INPUT: true; the input reads as it did. -/
def frameReadsSpec : ChangeSpec := { name := "frameReads", fn := fun _ => fun
  | [d1, d2] => { results := [.lit (.bool true)], args := [d1, d2] }
  | _ => none }
def frameReadsRow : OpenClaim := { program := "ythmnkfldpapilaa", sum := "25193c79fc9c84129d301214736c7a3498f2dc5fad92378e4e98821045fb0558", func := "foolscap/foolscaplaw15.FrameReads", spec := "frameReads", unfollowed := true, recurses := true, apart := false }
def FrameReadsSaid : Prop := frameReadsRow.holds Try.pinned (OpenSpec.ofChange frameReadsSpec)

/-- ITS FALSE NEIGHBOUR: 'it returns false'. Refute it at one input. -/
def frameReadsWrong : ChangeSpec := { name := "frameReads", fn := fun _ => fun
  | [d1, d2] => { results := [.lit (.bool false)], args := [d1, d2] }
  | _ => none }
def FrameReadsWrongFalsely : Prop := frameReadsRow.holds Try.pinned (OpenSpec.ofChange frameReadsWrong)

/-- 'foolscaplaw15.FrameBack': WHATEVER THE INPUT: true; the input reads as it did. -/
def frameBackSpec : ChangeSpec := { name := "frameBack", fn := fun _ => fun
  | [d1, d2, d3] => { results := [.lit (.bool true)], args := [d1, d2, d3] }
  | _ => none }
def frameBackRow : OpenClaim := { program := "ythmnkfldpapilaa", sum := "25193c79fc9c84129d301214736c7a3498f2dc5fad92378e4e98821045fb0558", func := "foolscap/foolscaplaw15.FrameBack", spec := "frameBack", unfollowed := true, recurses := true, apart := false }
def FrameBackSaid : Prop := frameBackRow.holds Try.pinned (OpenSpec.ofChange frameBackSpec)

/-- ITS FALSE NEIGHBOUR: 'it returns false'. Refute it at one input. -/
def frameBackWrong : ChangeSpec := { name := "frameBack", fn := fun _ => fun
  | [d1, d2, d3] => { results := [.lit (.bool false)], args := [d1, d2, d3] }
  | _ => none }
def FrameBackWrongFalsely : Prop := frameBackRow.holds Try.pinned (OpenSpec.ofChange frameBackWrong)

/-- 'foolscaplaw15.FrameCuts': WHATEVER THE INPUT: true; the input reads as it did. -/
def frameCutsSpec : ChangeSpec := { name := "frameCuts", fn := fun _ => fun
  | [d1, d2, d3] => { results := [.lit (.bool true)], args := [d1, d2, d3] }
  | _ => none }
def frameCutsRow : OpenClaim := { program := "ythmnkfldpapilaa", sum := "25193c79fc9c84129d301214736c7a3498f2dc5fad92378e4e98821045fb0558", func := "foolscap/foolscaplaw15.FrameCuts", spec := "frameCuts", unfollowed := true, recurses := true, apart := false }
def FrameCutsSaid : Prop := frameCutsRow.holds Try.pinned (OpenSpec.ofChange frameCutsSpec)

/-- ITS FALSE NEIGHBOUR: 'it returns false'. Refute it at one input. -/
def frameCutsWrong : ChangeSpec := { name := "frameCuts", fn := fun _ => fun
  | [d1, d2, d3] => { results := [.lit (.bool false)], args := [d1, d2, d3] }
  | _ => none }
def FrameCutsWrongFalsely : Prop := frameCutsRow.holds Try.pinned (OpenSpec.ofChange frameCutsWrong)

/-- 'foolscaplaw15.FrameLimits': WHATEVER THE INPUT: true; the input reads as it did. -/
def frameLimitsSpec : ChangeSpec := { name := "frameLimits", fn := fun _ => fun
  | [d1, d2, d3, d4, d5] => { results := [.lit (.bool true)], args := [d1, d2, d3, d4, d5] }
  | _ => none }
def frameLimitsRow : OpenClaim := { program := "ythmnkfldpapilaa", sum := "25193c79fc9c84129d301214736c7a3498f2dc5fad92378e4e98821045fb0558", func := "foolscap/foolscaplaw15.FrameLimits", spec := "frameLimits", unfollowed := true, recurses := true, apart := false }
def FrameLimitsSaid : Prop := frameLimitsRow.holds Try.pinned (OpenSpec.ofChange frameLimitsSpec)

/-- ITS FALSE NEIGHBOUR: 'it returns false'. Refute it at one input. -/
def frameLimitsWrong : ChangeSpec := { name := "frameLimits", fn := fun _ => fun
  | [d1, d2, d3, d4, d5] => { results := [.lit (.bool false)], args := [d1, d2, d3, d4, d5] }
  | _ => none }
def FrameLimitsWrongFalsely : Prop := frameLimitsRow.holds Try.pinned (OpenSpec.ofChange frameLimitsWrong)

/-- 'foolscaplaw15.FrameOnce': WHATEVER THE INPUT: true; the input reads as it did. -/
def frameOnceSpec : ChangeSpec := { name := "frameOnce", fn := fun _ => fun
  | [d1, d2, d3] => { results := [.lit (.bool true)], args := [d1, d2, d3] }
  | _ => none }
def frameOnceRow : OpenClaim := { program := "ythmnkfldpapilaa", sum := "25193c79fc9c84129d301214736c7a3498f2dc5fad92378e4e98821045fb0558", func := "foolscap/foolscaplaw15.FrameOnce", spec := "frameOnce", unfollowed := true, recurses := true, apart := false }
def FrameOnceSaid : Prop := frameOnceRow.holds Try.pinned (OpenSpec.ofChange frameOnceSpec)

/-- ITS FALSE NEIGHBOUR: 'it returns false'. Refute it at one input. -/
def frameOnceWrong : ChangeSpec := { name := "frameOnce", fn := fun _ => fun
  | [d1, d2, d3] => { results := [.lit (.bool false)], args := [d1, d2, d3] }
  | _ => none }
def FrameOnceWrongFalsely : Prop := frameOnceRow.holds Try.pinned (OpenSpec.ofChange frameOnceWrong)

/-- 'foolscaplaw15.FrameSpan': WHATEVER THE INPUT: true; the input reads as it did. -/
def frameSpanSpec : ChangeSpec := { name := "frameSpan", fn := fun _ => fun
  | [d1, d2] => { results := [.lit (.bool true)], args := [d1, d2] }
  | _ => none }
def frameSpanRow : OpenClaim := { program := "ythmnkfldpapilaa", sum := "25193c79fc9c84129d301214736c7a3498f2dc5fad92378e4e98821045fb0558", func := "foolscap/foolscaplaw15.FrameSpan", spec := "frameSpan", unfollowed := true, recurses := true, apart := false }
def FrameSpanSaid : Prop := frameSpanRow.holds Try.pinned (OpenSpec.ofChange frameSpanSpec)

/-- ITS FALSE NEIGHBOUR: 'it returns false'. Refute it at one input. -/
def frameSpanWrong : ChangeSpec := { name := "frameSpan", fn := fun _ => fun
  | [d1, d2] => { results := [.lit (.bool false)], args := [d1, d2] }
  | _ => none }
def FrameSpanWrongFalsely : Prop := frameSpanRow.holds Try.pinned (OpenSpec.ofChange frameSpanWrong)

/-- 'foolscaplaw15.FrameLonger': WHATEVER THE INPUT: true; the input reads as it did. -/
def frameLongerSpec : ChangeSpec := { name := "frameLonger", fn := fun _ => fun
  | [d1, d2] => { results := [.lit (.bool true)], args := [d1, d2] }
  | _ => none }
def frameLongerRow : OpenClaim := { program := "ythmnkfldpapilaa", sum := "25193c79fc9c84129d301214736c7a3498f2dc5fad92378e4e98821045fb0558", func := "foolscap/foolscaplaw15.FrameLonger", spec := "frameLonger", unfollowed := true, recurses := true, apart := false }
def FrameLongerSaid : Prop := frameLongerRow.holds Try.pinned (OpenSpec.ofChange frameLongerSpec)

/-- ITS FALSE NEIGHBOUR: 'it returns false'. Refute it at one input. -/
def frameLongerWrong : ChangeSpec := { name := "frameLonger", fn := fun _ => fun
  | [d1, d2] => { results := [.lit (.bool false)], args := [d1, d2] }
  | _ => none }
def FrameLongerWrongFalsely : Prop := frameLongerRow.holds Try.pinned (OpenSpec.ofChange frameLongerWrong)

/- THE SECOND FORM. 'bulk': how many values and letters a reading holds, each counted each time it is reached (what is shared counts as often as it is met; a slice's spare places count too). A statement '..UptoSaid' is the law's where the arguments, and the package variables that the reading takes, are together of bulk at most 1048576: NARROWER than '..Said'. Prove '..Said' where nothing that the law and all that it calls make is longer than what came in: it says more and counts as full. Else prove '..UptoSaid'. A law counts once. -/
mutual
def uptoBulk {H : Type} : DataW H → Nat
  | .lit (.string bytes) => bytes.length + 1
  | .lit _ => 1
  | .nil => 1
  | .ptr d => uptoBulk d + 1
  | .slice elems spare => uptoBulkAll elems + uptoBulkAll spare + 1
  | .agg parts => uptoBulkAll parts + 1
  | .iface _ d => uptoBulk d + 1
  | .map entries => uptoBulkEntries entries + 1
  | .held _ => 1
def uptoBulkAll {H : Type} : List (DataW H) → Nat
  | [] => 0
  | d :: r => uptoBulk d + uptoBulkAll r
def uptoBulkEntries {H : Type} : List (Lit × DataW H) → Nat
  | [] => 0
  | x :: r => uptoBulkEntry x + uptoBulkEntries r
def uptoBulkEntry {H : Type} : Lit × DataW H → Nat
  | (.string bytes, d) => bytes.length + uptoBulk d + 1
  | (_, d) => uptoBulk d + 1
 end
def uptoSmall : (H : Type) → List (DataW H) → Bool := fun _ ds => decide (uptoBulkAll ds ≤ 1048576)
def OpenSpec.upto (s : _root_.Go.ChangeSpec) : _root_.Go.OpenSpec := { _root_.Go.OpenSpec.ofChange s with cond := some uptoSmall }

/-- 'foolscaplaw15.FrameBytes', WHERE WHAT IT READS IS OF BULK AT MOST 1048576: true; the input reads as it did. -/
def frameBytesUptoRow : OpenClaim := { program := "ythmnkfldpapilaa", sum := "25193c79fc9c84129d301214736c7a3498f2dc5fad92378e4e98821045fb0558", func := "foolscap/foolscaplaw15.FrameBytes", spec := "frameBytes", unfollowed := true, recurses := true, apart := false, narrowed := true }
def FrameBytesUptoSaid : Prop := frameBytesUptoRow.holds Try.pinned (OpenSpec.upto frameBytesSpec)

/-- 'foolscaplaw15.FrameReads', WHERE WHAT IT READS IS OF BULK AT MOST 1048576: true; the input reads as it did. -/
def frameReadsUptoRow : OpenClaim := { program := "ythmnkfldpapilaa", sum := "25193c79fc9c84129d301214736c7a3498f2dc5fad92378e4e98821045fb0558", func := "foolscap/foolscaplaw15.FrameReads", spec := "frameReads", unfollowed := true, recurses := true, apart := false, narrowed := true }
def FrameReadsUptoSaid : Prop := frameReadsUptoRow.holds Try.pinned (OpenSpec.upto frameReadsSpec)

/-- 'foolscaplaw15.FrameBack', WHERE WHAT IT READS IS OF BULK AT MOST 1048576: true; the input reads as it did. -/
def frameBackUptoRow : OpenClaim := { program := "ythmnkfldpapilaa", sum := "25193c79fc9c84129d301214736c7a3498f2dc5fad92378e4e98821045fb0558", func := "foolscap/foolscaplaw15.FrameBack", spec := "frameBack", unfollowed := true, recurses := true, apart := false, narrowed := true }
def FrameBackUptoSaid : Prop := frameBackUptoRow.holds Try.pinned (OpenSpec.upto frameBackSpec)

/-- 'foolscaplaw15.FrameCuts', WHERE WHAT IT READS IS OF BULK AT MOST 1048576: true; the input reads as it did. -/
def frameCutsUptoRow : OpenClaim := { program := "ythmnkfldpapilaa", sum := "25193c79fc9c84129d301214736c7a3498f2dc5fad92378e4e98821045fb0558", func := "foolscap/foolscaplaw15.FrameCuts", spec := "frameCuts", unfollowed := true, recurses := true, apart := false, narrowed := true }
def FrameCutsUptoSaid : Prop := frameCutsUptoRow.holds Try.pinned (OpenSpec.upto frameCutsSpec)

/-- 'foolscaplaw15.FrameLimits', WHERE WHAT IT READS IS OF BULK AT MOST 1048576: true; the input reads as it did. -/
def frameLimitsUptoRow : OpenClaim := { program := "ythmnkfldpapilaa", sum := "25193c79fc9c84129d301214736c7a3498f2dc5fad92378e4e98821045fb0558", func := "foolscap/foolscaplaw15.FrameLimits", spec := "frameLimits", unfollowed := true, recurses := true, apart := false, narrowed := true }
def FrameLimitsUptoSaid : Prop := frameLimitsUptoRow.holds Try.pinned (OpenSpec.upto frameLimitsSpec)

/-- 'foolscaplaw15.FrameOnce', WHERE WHAT IT READS IS OF BULK AT MOST 1048576: true; the input reads as it did. -/
def frameOnceUptoRow : OpenClaim := { program := "ythmnkfldpapilaa", sum := "25193c79fc9c84129d301214736c7a3498f2dc5fad92378e4e98821045fb0558", func := "foolscap/foolscaplaw15.FrameOnce", spec := "frameOnce", unfollowed := true, recurses := true, apart := false, narrowed := true }
def FrameOnceUptoSaid : Prop := frameOnceUptoRow.holds Try.pinned (OpenSpec.upto frameOnceSpec)

/-- 'foolscaplaw15.FrameSpan', WHERE WHAT IT READS IS OF BULK AT MOST 1048576: true; the input reads as it did. -/
def frameSpanUptoRow : OpenClaim := { program := "ythmnkfldpapilaa", sum := "25193c79fc9c84129d301214736c7a3498f2dc5fad92378e4e98821045fb0558", func := "foolscap/foolscaplaw15.FrameSpan", spec := "frameSpan", unfollowed := true, recurses := true, apart := false, narrowed := true }
def FrameSpanUptoSaid : Prop := frameSpanUptoRow.holds Try.pinned (OpenSpec.upto frameSpanSpec)

/-- 'foolscaplaw15.FrameLonger', WHERE WHAT IT READS IS OF BULK AT MOST 1048576: true; the input reads as it did. -/
def frameLongerUptoRow : OpenClaim := { program := "ythmnkfldpapilaa", sum := "25193c79fc9c84129d301214736c7a3498f2dc5fad92378e4e98821045fb0558", func := "foolscap/foolscaplaw15.FrameLonger", spec := "frameLonger", unfollowed := true, recurses := true, apart := false, narrowed := true }
def FrameLongerUptoSaid : Prop := frameLongerUptoRow.holds Try.pinned (OpenSpec.upto frameLongerSpec)

end Rows
end Go.Proofs.Ythmnkfldpapilaa
