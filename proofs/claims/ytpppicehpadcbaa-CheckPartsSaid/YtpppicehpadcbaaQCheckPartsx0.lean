/- Written by a program of this session (wip/tools/mp.sh): functions as Lean functions, with proofs that the calls come to what they say. Lean checks it. -/
import Derived.Test.YtpppicehpadcbaaProg
import Derived.Below
import Derived.Deep.Draws
import Derived.Deep.AppendLies
import Derived.Maps.AppendAt
import Derived.OwnWalk
import Derived.Laws.BytesArg
import Derived.Laws.MakeOwn
import Derived.Laws.OwnMore
import Derived.Deep.OwnRows
import Derived.Tactics
import Derived.Lib.ConvBytes
import Derived.Laws.Slices
import Derived.WalkKit
import Derived.KernelRfl
import Derived.RowKit3
import Derived.Deep.LoopGhost
import Derived.Deep.QuietTactic
import Derived.BigQuiet
import Derived.WideLaws
import Derived.Deep.DeepCutAuto
import Derived.Deep.CutBlock
import Derived.Deep.RegionHeld3
import Derived.Laws.Rows
import Derived.Lib.AppendStr
import Derived.ArgAppend
import Derived.Laws.IdiomCopy
import Derived.OrdersHeld
import Derived.Laws.BitsLemmas
import Derived.RowKit
import Derived.Test.YtpppicehpadcbaaXCheck
import Derived.Test.YtpppicehpadcbaaWWords
import Derived.Test.YtpppicehpadcbaaWLast
import Derived.Test.YtpppicehpadcbaaWTab
import Derived.Test.YtpppicehpadcbaaWFour
import Derived.Test.YtpppicehpadcbaaWQPut
import Derived.Test.YtpppicehpadcbaaWApart
import Derived.Test.YtpppicehpadcbaaWArr
import Derived.Test.YtpppicehpadcbaaWZeros
import Derived.Test.YtpppicehpadcbaaWFoot
import Derived.Test.YtpppicehpadcbaaWKept
import Derived.Test.YtpppicehpadcbaaWShare
import Derived.Test.YtpppicehpadcbaaWN
import Derived.Test.YtpppicehpadcbaaWFootNe
import Derived.Test.YtpppicehpadcbaaWAt
import Derived.Test.YtpppicehpadcbaaWEqStruct
import Derived.Test.YtpppicehpadcbaaWRepsOne
import Derived.Test.YtpppicehpadcbaaWInv
import Derived.Test.YtpppicehpadcbaaWInvWords
import Derived.Test.YtpppicehpadcbaaWGuard
import Derived.Test.YtpppicehpadcbaaWNEv
import Derived.Test.YtpppicehpadcbaaWMore
namespace Go.Proofs.Ytpppicehpadcbaa.QCheckParts
open Go.RowKit Go.Proofs.YtpppicehpadcbaaW.PrintWords Go.Proofs.YtpppicehpadcbaaW.PrintLast Go.Proofs.YtpppicehpadcbaaW.PrintMore
attribute [local go_sem] max2_int min2_int max_two min_two max_three min_three max_four min_four   -- for this text's walks alone
set_option linter.unusedVariables false
set_option linter.unusedSimpArgs false



def errW : Option Int → Value
  | none => .nilIface
  | some c => .iface 0 (.int .i64 c)
theorem errW_none : errW none = .nilIface := rfl
theorem errW_some (c : Int) : errW (some c) = .iface 0 (.int .i64 c) := rfl

theorem info5 : (Try.prog.info? 5).map (fun i => (i.zero, i.size, i.bytes)) = some (some (.int .u8 0), 1, 1) := by kernel_rfl
-- the values' own types

end Go.Proofs.Ytpppicehpadcbaa.QCheckParts
