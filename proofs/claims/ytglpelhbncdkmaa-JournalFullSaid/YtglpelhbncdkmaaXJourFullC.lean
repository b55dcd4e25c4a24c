/-
  JournalFull: how it begins, on each of the forty disks.
-/
import Derived.Laws.CopyOwn
import Derived.ArgAppend
import Derived.Below
import Derived.BigQuiet
import Derived.Deep.AppendLies
import Derived.Deep.CutBlock
import Derived.Deep.DeepCutAuto
import Derived.Deep.Draws
import Derived.Deep.LoopGhost
import Derived.Deep.OwnRows
import Derived.Deep.QuietTactic
import Derived.Deep.RegionHeld3
import Derived.Deep.WholeRow
import Derived.KernelRfl
import Derived.Laws.BitsLemmas
import Derived.Laws.BytesArg
import Derived.Laws.IdiomCopy
import Derived.Laws.MakeOwn
import Derived.Laws.OwnMore
import Derived.Laws.Rows
import Derived.Laws.Slices
import Derived.Lib.AppendStr
import Derived.Lib.ConvBytes
import Derived.Lib.Hide
import Derived.Maps.AppendAt
import Derived.OrdersHeld
import Derived.Outline
import Derived.OwnWalk
import Derived.RowKit
import Derived.RowKit3
import Derived.Tactics
import Derived.WalkKit
import Derived.WideLaws
import Derived.Test.YtglpelhbncdkmaaProg
import Derived.Test.YtglpelhbncdkmaaWApart
import Derived.Test.YtglpelhbncdkmaaWArr
import Derived.Test.YtglpelhbncdkmaaWAt
import Derived.Test.YtglpelhbncdkmaaWEqStruct
import Derived.Test.YtglpelhbncdkmaaWFoot
import Derived.Test.YtglpelhbncdkmaaWFootNe
import Derived.Test.YtglpelhbncdkmaaWFour
import Derived.Test.YtglpelhbncdkmaaWGuard
import Derived.Test.YtglpelhbncdkmaaWInv
import Derived.Test.YtglpelhbncdkmaaWInvWords
import Derived.Test.YtglpelhbncdkmaaWKept
import Derived.Test.YtglpelhbncdkmaaWLast
import Derived.Test.YtglpelhbncdkmaaWMore
import Derived.Test.YtglpelhbncdkmaaWN
import Derived.Test.YtglpelhbncdkmaaWNEv
import Derived.Test.YtglpelhbncdkmaaWQPut
import Derived.Test.YtglpelhbncdkmaaWRepsOne
import Derived.Test.YtglpelhbncdkmaaWShare
import Derived.Test.YtglpelhbncdkmaaWTab
import Derived.Test.YtglpelhbncdkmaaWWords
import Derived.Test.YtglpelhbncdkmaaWZeros
import Derived.Test.YtglpelhbncdkmaaXSlices

import Derived.Test.YtglpelhbncdkmaaXJourFullP
namespace Go.Proofs.Ytglpelhbncdkmaa.XJour
open Go.RowKit XDisk XChunk XUnpack XData
set_option linter.unusedVariables false
/-! ### how it begins -/
def g1 (n : Nat) : St := (formatF (fresh n) 2 []).2
def gj (n : Nat) : Jr := (checkpointF (openJ (g1 n) 2) (g1 n) []).2.1
def g2 (n : Nat) : St := (checkpointF (openJ (g1 n) 2) (g1 n) []).2.2
def chk (n : Nat) : Bool := decide ((formatF (fresh n) 2 []).1 = 0) && decide (0 ≤ (openCk (g1 n) 2).1) && mayF (g1 n) 2 && decide ((checkpointF (openJ (g1 n) 2) (g1 n) []).1 = 0) && decide ((gj n).next = 4) && (gj n).op && !(gj n).down && decide ((gj n).seq = 0) && decide ((gj n).slot = 2) && decide ((gj n).epoch = 2) && decide ((g2 n).fuse = -1) && decide ((g2 n).good.length = n) && (g2 n).good.all (fun x => decide (epochOf x ≤ 2)) && (g2 n).cache.all (fun x => decide (epochOf x.2 ≤ 2))
theorem chk_all : (List.range 40).all (fun k => chk (5 + k)) = true := by decide +kernel
end Go.Proofs.Ytglpelhbncdkmaa.XJour
