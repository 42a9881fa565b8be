-- PRINTED BY print.sh 35421559b90ae4d0a3588c463048766b98c2df88dd9212a6774a882060cdf62d: not written by this session
import Derived.Test.YtolhfpboieimcaaProg
import Derived.Below
import Derived.Deep.Draws
import Derived.Deep.AppendLies
import Derived.Maps.AppendAt
import Derived.OwnWalk
import Derived.Laws.BytesArg
import Derived.Laws.MakeOwn
import Derived.Laws.OwnMore
import Derived.Deep.OwnRows
import Derived.Tactics
import Derived.Lib.ConvBytes
import Derived.Laws.Slices
import Derived.WalkKit
import Derived.KernelRfl
import Derived.RowKit3
import Derived.Deep.LoopGhost
import Derived.Deep.QuietTactic
import Derived.BigQuiet
import Derived.WideLaws
import Derived.Deep.DeepCutAuto
import Derived.Deep.CutBlock
import Derived.Deep.RegionHeld3
import Derived.Laws.Rows
import Derived.Lib.AppendStr
import Derived.ArgAppend
import Derived.Laws.IdiomCopy
import Derived.OrdersHeld
import Derived.Laws.BitsLemmas
import Derived.RowKit
import Derived.Test.YtolhfpboieimcaaWWords
import Derived.Test.YtolhfpboieimcaaWLast
import Derived.Test.YtolhfpboieimcaaWTab
import Derived.Test.YtolhfpboieimcaaWFour
import Derived.Test.YtolhfpboieimcaaWQPut
import Derived.Test.YtolhfpboieimcaaWApart
import Derived.Test.YtolhfpboieimcaaWArr
import Derived.Test.YtolhfpboieimcaaWZeros
import Derived.Test.YtolhfpboieimcaaWFoot
import Derived.Test.YtolhfpboieimcaaWKept
import Derived.Test.YtolhfpboieimcaaWShare
import Derived.Test.YtolhfpboieimcaaWN
import Derived.Test.YtolhfpboieimcaaWFootNe
import Derived.Test.YtolhfpboieimcaaWAt
import Derived.Test.YtolhfpboieimcaaWEqStruct
import Derived.Test.YtolhfpboieimcaaWRepsOne
import Derived.Test.YtolhfpboieimcaaWInv
import Derived.Test.YtolhfpboieimcaaWInvWords
import Derived.Test.YtolhfpboieimcaaWGuard
import Derived.Test.YtolhfpboieimcaaWNEv
import Derived.Test.YtolhfpboieimcaaWMore
namespace Go.Proofs.Ytolhfpboieimcaa.PMod8Writes
open Go.RowKit Go.Proofs.YtolhfpboieimcaaW.PrintWords Go.Proofs.YtolhfpboieimcaaW.PrintLast Go.Proofs.YtolhfpboieimcaaW.PrintMore
attribute [local go_sem] max2_int min2_int max_two min_two max_three min_three max_four min_four   -- for this text's walks alone
set_option linter.unusedVariables false
set_option linter.unusedSimpArgs false



def errW : Option Int → Value
  | none => .nilIface
  | some c => .iface 0 (.int .i64 c)
theorem errW_none : errW none = .nilIface := rfl
theorem errW_some (c : Int) : errW (some c) = .iface 0 (.int .i64 c) := rfl

theorem info5 : (Try.prog.info? 5).map (fun i => (i.zero, i.size, i.bytes)) = some (some (.int .u8 0), 1, 1) := by kernel_rfl
-- the values' own types

end Go.Proofs.Ytolhfpboieimcaa.PMod8Writes
