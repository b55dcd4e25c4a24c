/-
  A line of quoted words, plain: its words come back.
-/
import Derived.Laws.CopyOwn
import Derived.ArgAppend
import Derived.Below
import Derived.BigQuiet
import Derived.Deep.AppendLies
import Derived.Deep.CutBlock
import Derived.Deep.DeepCutAuto
import Derived.Deep.Draws
import Derived.Deep.LoopGhost
import Derived.Deep.OwnRows
import Derived.Deep.QuietTactic
import Derived.Deep.RegionHeld3
import Derived.Deep.WholeRow
import Derived.KernelRfl
import Derived.Laws.BitsLemmas
import Derived.Laws.BytesArg
import Derived.Laws.IdiomCopy
import Derived.Laws.MakeOwn
import Derived.Laws.OwnMore
import Derived.Laws.Rows
import Derived.Laws.Slices
import Derived.Lib.AppendStr
import Derived.Lib.ConvBytes
import Derived.Lib.Hide
import Derived.Maps.AppendAt
import Derived.OrdersHeld
import Derived.Outline
import Derived.OwnWalk
import Derived.RowKit
import Derived.RowKit3
import Derived.Tactics
import Derived.WalkKit
import Derived.WideLaws
import Derived.Test.YtkenihkjdbdlkaaDoorProg
import Derived.Test.YtkenihkjdbdlkaaDoorWApart
import Derived.Test.YtkenihkjdbdlkaaDoorWArr
import Derived.Test.YtkenihkjdbdlkaaDoorWAt
import Derived.Test.YtkenihkjdbdlkaaDoorWEqStruct
import Derived.Test.YtkenihkjdbdlkaaDoorWFoot
import Derived.Test.YtkenihkjdbdlkaaDoorWFootNe
import Derived.Test.YtkenihkjdbdlkaaDoorWFour
import Derived.Test.YtkenihkjdbdlkaaDoorWGuard
import Derived.Test.YtkenihkjdbdlkaaDoorWInv
import Derived.Test.YtkenihkjdbdlkaaDoorWInvWords
import Derived.Test.YtkenihkjdbdlkaaDoorWKept
import Derived.Test.YtkenihkjdbdlkaaDoorWLast
import Derived.Test.YtkenihkjdbdlkaaDoorWMore
import Derived.Test.YtkenihkjdbdlkaaDoorWN
import Derived.Test.YtkenihkjdbdlkaaDoorWNEv
import Derived.Test.YtkenihkjdbdlkaaDoorWQPut
import Derived.Test.YtkenihkjdbdlkaaDoorWRepsOne
import Derived.Test.YtkenihkjdbdlkaaDoorWShare
import Derived.Test.YtkenihkjdbdlkaaDoorWTab
import Derived.Test.YtkenihkjdbdlkaaDoorWWords
import Derived.Test.YtkenihkjdbdlkaaDoorWZeros
import Derived.Test.YtkenihkjdbdlkaaDoorShelf
import Derived.Test.YtkenihkjdbdlkaaDoorXCut
namespace Go.Proofs.YtkenihkjdbdlkaaDoor.XBack
open Go.RowKit Go.Proofs.YtkenihkjdbdlkaaDoorW.PrintWords Go.Proofs.YtkenihkjdbdlkaaDoorW.PrintLast XEsc XWordsP XQuote XPlain XCut
set_option linter.unusedVariables false
def lineOf (m : Nat) : List ByteArray → List Int
  | [] => []
  | w :: t => List.replicate m 32 ++ (quoteL (bl w) ++ lineOf m t)
theorem lineOf_append (m : Nat) : ∀ (a b : List ByteArray), lineOf m (a ++ b) = lineOf m a ++ lineOf m b
  | [], b => rfl
  | w :: a, b => by rw [List.cons_append, lineOf, lineOf, lineOf_append m a b, List.append_assoc, List.append_assoc]
end Go.Proofs.YtkenihkjdbdlkaaDoor.XBack
