-- Laid by wip/tools/gprint.py (a changed run of the kit's print) for this claim; not trusted: Lean checks it.
import Derived.Test.YtgjhabeoaejcdaaProg
import Derived.Below
import Derived.Deep.Draws
import Derived.Deep.AppendLies
import Derived.Maps.AppendAt
import Derived.OwnWalk
import Derived.Laws.BytesArg
import Derived.Laws.MakeOwn
import Derived.Laws.OwnMore
import Derived.Deep.OwnRows
import Derived.Tactics
import Derived.Lib.ConvBytes
import Derived.Laws.Slices
import Derived.WalkKit
import Derived.KernelRfl
import Derived.RowKit3
import Derived.Deep.LoopGhost
import Derived.Deep.QuietTactic
import Derived.BigQuiet
import Derived.WideLaws
import Derived.Deep.DeepCutAuto
import Derived.Deep.CutBlock
import Derived.Deep.RegionHeld3
import Derived.Laws.Rows
import Derived.Lib.AppendStr
import Derived.ArgAppend
import Derived.Laws.IdiomCopy
import Derived.OrdersHeld
import Derived.Laws.BitsLemmas
import Derived.RowKit
import Derived.Test.YtgjhabeoaejcdaaWWords
import Derived.Test.YtgjhabeoaejcdaaWLast
import Derived.Test.YtgjhabeoaejcdaaWTab
import Derived.Test.YtgjhabeoaejcdaaWFour
import Derived.Test.YtgjhabeoaejcdaaWQPut
import Derived.Test.YtgjhabeoaejcdaaWApart
import Derived.Test.YtgjhabeoaejcdaaWArr
import Derived.Test.YtgjhabeoaejcdaaWZeros
import Derived.Test.YtgjhabeoaejcdaaWFoot
import Derived.Test.YtgjhabeoaejcdaaWKept
import Derived.Test.YtgjhabeoaejcdaaWShare
import Derived.Test.YtgjhabeoaejcdaaWN
import Derived.Test.YtgjhabeoaejcdaaWFootNe
import Derived.Test.YtgjhabeoaejcdaaWAt
import Derived.Test.YtgjhabeoaejcdaaWEqStruct
import Derived.Test.YtgjhabeoaejcdaaWRepsOne
import Derived.Test.YtgjhabeoaejcdaaWInv
import Derived.Test.YtgjhabeoaejcdaaWInvWords
import Derived.Test.YtgjhabeoaejcdaaWGuard
import Derived.Test.YtgjhabeoaejcdaaWNEv
import Derived.Test.YtgjhabeoaejcdaaWMore
import Derived.Test.YtgjhabeoaejcdaaGv
namespace Go.Proofs.Ytgjhabeoaejcdaa.PA
open Go.RowKit Go.Proofs.YtgjhabeoaejcdaaW.PrintWords Go.Proofs.YtgjhabeoaejcdaaW.PrintLast Go.Proofs.YtgjhabeoaejcdaaW.PrintMore
attribute [local go_sem] max2_int min2_int max_two min_two max_three min_three max_four min_four   -- for this text's walks alone
set_option linter.unusedVariables false
set_option linter.unusedSimpArgs false



def errW : Option Int → Value
  | none => .nilIface
  | some c => .iface 0 (.int .i64 c)
theorem errW_none : errW none = .nilIface := rfl
theorem errW_some (c : Int) : errW (some c) = .iface 0 (.int .i64 c) := rfl

theorem info5 : (Try.prog.info? 5).map (fun i => (i.zero, i.size, i.bytes)) = some (some (.int .u8 0), 1, 1) := by kernel_rfl
-- the values' own types

end Go.Proofs.Ytgjhabeoaejcdaa.PA
