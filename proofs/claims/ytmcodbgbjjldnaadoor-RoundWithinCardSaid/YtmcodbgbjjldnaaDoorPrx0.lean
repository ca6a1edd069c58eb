import Derived.Test.YtmcodbgbjjldnaaDoorProg
import Derived.Below
import Derived.Deep.Draws
import Derived.Deep.AppendLies
import Derived.Maps.AppendAt
import Derived.OwnWalk
import Derived.Laws.BytesArg
import Derived.Laws.MakeOwn
import Derived.Laws.OwnMore
import Derived.Deep.OwnRows
import Derived.Tactics
import Derived.Lib.ConvBytes
import Derived.Laws.Slices
import Derived.WalkKit
import Derived.KernelRfl
import Derived.RowKit3
import Derived.Deep.LoopGhost
import Derived.Deep.QuietTactic
import Derived.BigQuiet
import Derived.WideLaws
import Derived.Deep.DeepCutAuto
import Derived.Deep.CutBlock
import Derived.Deep.RegionHeld3
import Derived.Laws.Rows
import Derived.Lib.AppendStr
import Derived.ArgAppend
import Derived.Laws.IdiomCopy
import Derived.OrdersHeld
import Derived.Laws.BitsLemmas
import Derived.RowKit
import Derived.Test.YtmcodbgbjjldnaaDoorWWords
import Derived.Test.YtmcodbgbjjldnaaDoorWLast
import Derived.Test.YtmcodbgbjjldnaaDoorWTab
import Derived.Test.YtmcodbgbjjldnaaDoorWApart
import Derived.Test.YtmcodbgbjjldnaaDoorWFoot
import Derived.Test.YtmcodbgbjjldnaaDoorWKept
import Derived.Test.YtmcodbgbjjldnaaDoorWShare
import Derived.Test.YtmcodbgbjjldnaaDoorWN
import Derived.Laws.StructEq
import Derived.Test.YtmcodbgbjjldnaaDoorWRepsOne
import Derived.Test.YtmcodbgbjjldnaaDoorWGuard
import Derived.Test.YtmcodbgbjjldnaaDoorWMore
namespace Go.Proofs.YtmcodbgbjjldnaaDoor.Pr
open Go.RowKit Go.Proofs.YtmcodbgbjjldnaaDoorW.PrintWords Go.Proofs.YtmcodbgbjjldnaaDoorW.PrintLast Go.Proofs.YtmcodbgbjjldnaaDoorW.PrintMore
attribute [local go_sem] max2_int min2_int max_two min_two max_three min_three max_four min_four   -- for this text's walks alone
set_option linter.unusedVariables false
set_option linter.unusedSimpArgs false

def errW : Option Int → Value
  | none => .nilIface
  | some c => .iface 0 (.int .i64 c)
theorem errW_none : errW none = .nilIface := rfl
theorem errW_some (c : Int) : errW (some c) = .iface 0 (.int .i64 c) := rfl

theorem info28 : (Tryd.prog.info? 28).map (fun i => (i.zero, i.size, i.bytes)) = some (some (.int .u64 0), 1, 8) := by kernel_rfl

end Go.Proofs.YtmcodbgbjjldnaaDoor.Pr
