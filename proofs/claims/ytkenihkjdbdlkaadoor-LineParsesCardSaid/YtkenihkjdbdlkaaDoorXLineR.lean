/-
  The reference's words of kinds.
-/
import Derived.Laws.CopyOwn
import Derived.ArgAppend
import Derived.Below
import Derived.BigQuiet
import Derived.Deep.AppendLies
import Derived.Deep.CutBlock
import Derived.Deep.DeepCutAuto
import Derived.Deep.Draws
import Derived.Deep.LoopGhost
import Derived.Deep.OwnRows
import Derived.Deep.QuietTactic
import Derived.Deep.RegionHeld3
import Derived.Deep.WholeRow
import Derived.KernelRfl
import Derived.Laws.BitsLemmas
import Derived.Laws.BytesArg
import Derived.Laws.IdiomCopy
import Derived.Laws.MakeOwn
import Derived.Laws.OwnMore
import Derived.Laws.Rows
import Derived.Laws.Slices
import Derived.Lib.AppendStr
import Derived.Lib.ConvBytes
import Derived.Lib.Hide
import Derived.Maps.AppendAt
import Derived.OrdersHeld
import Derived.Outline
import Derived.OwnWalk
import Derived.RowKit
import Derived.RowKit3
import Derived.Tactics
import Derived.WalkKit
import Derived.WideLaws
import Derived.Test.YtkenihkjdbdlkaaDoorProg
import Derived.Test.YtkenihkjdbdlkaaDoorWApart
import Derived.Test.YtkenihkjdbdlkaaDoorWArr
import Derived.Test.YtkenihkjdbdlkaaDoorWAt
import Derived.Test.YtkenihkjdbdlkaaDoorWEqStruct
import Derived.Test.YtkenihkjdbdlkaaDoorWFoot
import Derived.Test.YtkenihkjdbdlkaaDoorWFootNe
import Derived.Test.YtkenihkjdbdlkaaDoorWFour
import Derived.Test.YtkenihkjdbdlkaaDoorWGuard
import Derived.Test.YtkenihkjdbdlkaaDoorWInv
import Derived.Test.YtkenihkjdbdlkaaDoorWInvWords
import Derived.Test.YtkenihkjdbdlkaaDoorWKept
import Derived.Test.YtkenihkjdbdlkaaDoorWLast
import Derived.Test.YtkenihkjdbdlkaaDoorWMore
import Derived.Test.YtkenihkjdbdlkaaDoorWN
import Derived.Test.YtkenihkjdbdlkaaDoorWNEv
import Derived.Test.YtkenihkjdbdlkaaDoorWQPut
import Derived.Test.YtkenihkjdbdlkaaDoorWRepsOne
import Derived.Test.YtkenihkjdbdlkaaDoorWShare
import Derived.Test.YtkenihkjdbdlkaaDoorWTab
import Derived.Test.YtkenihkjdbdlkaaDoorWWords
import Derived.Test.YtkenihkjdbdlkaaDoorWZeros
import Derived.Test.YtkenihkjdbdlkaaDoorShelf
import Derived.Test.YtkenihkjdbdlkaaDoorXLine
namespace Go.Proofs.YtkenihkjdbdlkaaDoor.XLineR
open Go.RowKit Go.Proofs.YtkenihkjdbdlkaaDoorW.PrintWords Go.Proofs.YtkenihkjdbdlkaaDoorW.PrintLast XLine
def kwz (n : Int) : ByteArray := if 0 ≤ n ∧ n < 29 then kw n else ⟨#[]⟩
theorem kwz_valid {n : Int} (h : Valid n) : kwz n = kw n := by unfold kwz; rw [if_pos ⟨h.1, h.2.1⟩]
theorem kwz_no {n : Int} (h : ¬ Valid n) : kwz n = ⟨#[]⟩ := by
  unfold kwz
  split
  · rename_i hn
    by_cases h2 : (kw n).toList = []
    · exact empty_of h2
    · exact absurd ⟨hn.1, hn.2, h2⟩ h
  · rfl
end Go.Proofs.YtkenihkjdbdlkaaDoor.XLineR
