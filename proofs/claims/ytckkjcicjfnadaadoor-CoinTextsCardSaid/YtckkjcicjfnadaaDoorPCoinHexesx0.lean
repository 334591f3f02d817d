-- PRINTED BY print.sh 35421559b90ae4d0a3588c463048766b98c2df88dd9212a6774a882060cdf62d: not written by this session
import Derived.Test.YtckkjcicjfnadaaDoorProg
import Derived.Below
import Derived.Deep.Draws
import Derived.Deep.AppendLies
import Derived.Maps.AppendAt
import Derived.OwnWalk
import Derived.Laws.BytesArg
import Derived.Laws.MakeOwn
import Derived.Laws.OwnMore
import Derived.Deep.OwnRows
import Derived.Tactics
import Derived.Lib.ConvBytes
import Derived.Laws.Slices
import Derived.WalkKit
import Derived.KernelRfl
import Derived.RowKit3
import Derived.Deep.LoopGhost
import Derived.Deep.QuietTactic
import Derived.BigQuiet
import Derived.WideLaws
import Derived.Deep.DeepCutAuto
import Derived.Deep.CutBlock
import Derived.Deep.RegionHeld3
import Derived.Laws.Rows
import Derived.Lib.AppendStr
import Derived.ArgAppend
import Derived.Laws.IdiomCopy
import Derived.OrdersHeld
import Derived.Laws.BitsLemmas
import Derived.RowKit
import Derived.Test.YtckkjcicjfnadaaDoorWWords
import Derived.Test.YtckkjcicjfnadaaDoorWLast
import Derived.Test.YtckkjcicjfnadaaDoorWTab
import Derived.Test.YtckkjcicjfnadaaDoorWFour
import Derived.Test.YtckkjcicjfnadaaDoorWQPut
import Derived.Test.YtckkjcicjfnadaaDoorWApart
import Derived.Test.YtckkjcicjfnadaaDoorWArr
import Derived.Test.YtckkjcicjfnadaaDoorWZeros
import Derived.Test.YtckkjcicjfnadaaDoorWFoot
import Derived.Test.YtckkjcicjfnadaaDoorWKept
import Derived.Test.YtckkjcicjfnadaaDoorWShare
import Derived.Test.YtckkjcicjfnadaaDoorWN
import Derived.Test.YtckkjcicjfnadaaDoorWFootNe
import Derived.Test.YtckkjcicjfnadaaDoorWAt
import Derived.Test.YtckkjcicjfnadaaDoorWEqStruct
import Derived.Test.YtckkjcicjfnadaaDoorWRepsOne
import Derived.Test.YtckkjcicjfnadaaDoorWInv
import Derived.Test.YtckkjcicjfnadaaDoorWInvWords
import Derived.Test.YtckkjcicjfnadaaDoorWGuard
import Derived.Test.YtckkjcicjfnadaaDoorWNEv
import Derived.Test.YtckkjcicjfnadaaDoorWMore
namespace Go.Proofs.YtckkjcicjfnadaaDoor.PCoinHexes
open Go.RowKit Go.Proofs.YtckkjcicjfnadaaDoorW.PrintWords Go.Proofs.YtckkjcicjfnadaaDoorW.PrintLast Go.Proofs.YtckkjcicjfnadaaDoorW.PrintMore
attribute [local go_sem] max2_int min2_int max_two min_two max_three min_three max_four min_four   -- for this text's walks alone
set_option linter.unusedVariables false
set_option linter.unusedSimpArgs false



def errW : Option Int → Value
  | none => .nilIface
  | some c => .iface 0 (.int .i64 c)
theorem errW_none : errW none = .nilIface := rfl
theorem errW_some (c : Int) : errW (some c) = .iface 0 (.int .i64 c) := rfl

theorem info5 : (Tryd.prog.info? 5).map (fun i => (i.zero, i.size, i.bytes)) = some (some (.int .u8 0), 1, 1) := by kernel_rfl
-- the values' own types

end Go.Proofs.YtckkjcicjfnadaaDoor.PCoinHexes
