/- What the statement CrcNear reaches, as Lean functions, each with a proof that the Go function's call comes to just its answers; no condition but those of each theorem. Written by a program of this session over the kit's print. -/
import Derived.Test.YtemdcphnhlgbeaaProg
import Derived.Below
import Derived.Deep.Draws
import Derived.Deep.AppendLies
import Derived.Maps.AppendAt
import Derived.OwnWalk
import Derived.Laws.BytesArg
import Derived.Laws.MakeOwn
import Derived.Laws.OwnMore
import Derived.Deep.OwnRows
import Derived.Tactics
import Derived.Lib.ConvBytes
import Derived.Laws.Slices
import Derived.WalkKit
import Derived.KernelRfl
import Derived.RowKit3
import Derived.Deep.LoopGhost
import Derived.Deep.QuietTactic
import Derived.BigQuiet
import Derived.WideLaws
import Derived.Deep.DeepCutAuto
import Derived.Deep.CutBlock
import Derived.Deep.RegionHeld3
import Derived.Laws.Rows
import Derived.Lib.AppendStr
import Derived.ArgAppend
import Derived.Laws.IdiomCopy
import Derived.OrdersHeld
import Derived.Laws.BitsLemmas
import Derived.RowKit
import Derived.Test.YtemdcphnhlgbeaaXWords
import Derived.Lib.SlBytesConst
import Derived.Test.YtemdcphnhlgbeaaXCrc
import Derived.Lib.Hide
import Derived.Laws.NewBlocks
import Derived.Test.YtemdcphnhlgbeaaWWords
import Derived.Test.YtemdcphnhlgbeaaWLast
import Derived.Test.YtemdcphnhlgbeaaWTab
import Derived.Test.YtemdcphnhlgbeaaWFour
import Derived.Test.YtemdcphnhlgbeaaWQPut
import Derived.Test.YtemdcphnhlgbeaaWApart
import Derived.Test.YtemdcphnhlgbeaaWArr
import Derived.Test.YtemdcphnhlgbeaaWZeros
import Derived.Test.YtemdcphnhlgbeaaWFoot
import Derived.Test.YtemdcphnhlgbeaaWKept
import Derived.Test.YtemdcphnhlgbeaaWShare
import Derived.Test.YtemdcphnhlgbeaaWN
import Derived.Test.YtemdcphnhlgbeaaWFootNe
import Derived.Test.YtemdcphnhlgbeaaWAt
import Derived.Test.YtemdcphnhlgbeaaWEqStruct
import Derived.Test.YtemdcphnhlgbeaaWRepsOne
import Derived.Test.YtemdcphnhlgbeaaWInv
import Derived.Test.YtemdcphnhlgbeaaWInvWords
import Derived.Test.YtemdcphnhlgbeaaWGuard
import Derived.Test.YtemdcphnhlgbeaaWNEv
import Derived.Test.YtemdcphnhlgbeaaWMore
namespace Go.Proofs.Ytemdcphnhlgbeaa.XCrcNear
open Go.Proofs.YtemdcphnhlgbeaaX Go.RowKit Go.Proofs.YtemdcphnhlgbeaaW.PrintWords Go.Proofs.YtemdcphnhlgbeaaW.PrintLast Go.Proofs.YtemdcphnhlgbeaaW.PrintMore
attribute [local go_sem] max2_int min2_int max_two min_two max_three min_three max_four min_four   -- for this text's walks alone
set_option linter.unusedVariables false
set_option linter.unusedSimpArgs false



def errW : Option Int → Value
  | none => .nilIface
  | some c => .iface 0 (.int .i64 c)
theorem errW_none : errW none = .nilIface := rfl
theorem errW_some (c : Int) : errW (some c) = .iface 0 (.int .i64 c) := rfl

theorem info5 : (Try.prog.info? 5).map (fun i => (i.zero, i.size, i.bytes)) = some (some (.int .u8 0), 1, 1) := by kernel_rfl
-- the values' own types

end Go.Proofs.Ytemdcphnhlgbeaa.XCrcNear
