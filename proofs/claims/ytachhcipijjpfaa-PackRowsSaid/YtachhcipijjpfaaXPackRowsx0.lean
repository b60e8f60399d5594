/- What the statement PackRows reaches, as Lean functions, each with a proof that the Go function's call comes to just its answers; no condition but those of each theorem. Written by a program of this session over the kit's print. -/
import Derived.Test.YtachhcipijjpfaaProg
import Derived.Below
import Derived.Deep.Draws
import Derived.Deep.AppendLies
import Derived.Maps.AppendAt
import Derived.OwnWalk
import Derived.Laws.BytesArg
import Derived.Laws.MakeOwn
import Derived.Laws.OwnMore
import Derived.Deep.OwnRows
import Derived.Tactics
import Derived.Lib.ConvBytes
import Derived.Laws.Slices
import Derived.WalkKit
import Derived.KernelRfl
import Derived.RowKit3
import Derived.Deep.LoopGhost
import Derived.Deep.QuietTactic
import Derived.BigQuiet
import Derived.WideLaws
import Derived.Deep.DeepCutAuto
import Derived.Deep.CutBlock
import Derived.Deep.RegionHeld3
import Derived.Laws.Rows
import Derived.Lib.AppendStr
import Derived.ArgAppend
import Derived.Laws.IdiomCopy
import Derived.OrdersHeld
import Derived.Laws.BitsLemmas
import Derived.RowKit
import Derived.Test.YtachhcipijjpfaaXWords
import Derived.Test.YtachhcipijjpfaaWWords
import Derived.Test.YtachhcipijjpfaaWLast
import Derived.Test.YtachhcipijjpfaaWTab
import Derived.Test.YtachhcipijjpfaaWFour
import Derived.Test.YtachhcipijjpfaaWQPut
import Derived.Test.YtachhcipijjpfaaWApart
import Derived.Test.YtachhcipijjpfaaWArr
import Derived.Test.YtachhcipijjpfaaWZeros
import Derived.Test.YtachhcipijjpfaaWFoot
import Derived.Test.YtachhcipijjpfaaWKept
import Derived.Test.YtachhcipijjpfaaWShare
import Derived.Test.YtachhcipijjpfaaWN
import Derived.Test.YtachhcipijjpfaaWFootNe
import Derived.Test.YtachhcipijjpfaaWAt
import Derived.Test.YtachhcipijjpfaaWEqStruct
import Derived.Test.YtachhcipijjpfaaWRepsOne
import Derived.Test.YtachhcipijjpfaaWInv
import Derived.Test.YtachhcipijjpfaaWInvWords
import Derived.Test.YtachhcipijjpfaaWGuard
import Derived.Test.YtachhcipijjpfaaWNEv
import Derived.Test.YtachhcipijjpfaaWMore
namespace Go.Proofs.Ytachhcipijjpfaa.XPackRows
open Go.Proofs.YtachhcipijjpfaaX Go.RowKit Go.Proofs.YtachhcipijjpfaaW.PrintWords Go.Proofs.YtachhcipijjpfaaW.PrintLast Go.Proofs.YtachhcipijjpfaaW.PrintMore
attribute [local go_sem] max2_int min2_int max_two min_two max_three min_three max_four min_four   -- for this text's walks alone
set_option linter.unusedVariables false
set_option linter.unusedSimpArgs false



def errW : Option Int → Value
  | none => .nilIface
  | some c => .iface 0 (.int .i64 c)
theorem errW_none : errW none = .nilIface := rfl
theorem errW_some (c : Int) : errW (some c) = .iface 0 (.int .i64 c) := rfl

theorem info5 : (Try.prog.info? 5).map (fun i => (i.zero, i.size, i.bytes)) = some (some (.int .u8 0), 1, 1) := by kernel_rfl
-- the values' own types

end Go.Proofs.Ytachhcipijjpfaa.XPackRows
