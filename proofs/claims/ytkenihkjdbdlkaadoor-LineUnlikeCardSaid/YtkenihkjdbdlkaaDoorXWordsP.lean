/-
  The words of a line, plain: what text.Words does, state by state.
-/
import Derived.Laws.CopyOwn
import Derived.ArgAppend
import Derived.Below
import Derived.BigQuiet
import Derived.Deep.AppendLies
import Derived.Deep.CutBlock
import Derived.Deep.DeepCutAuto
import Derived.Deep.Draws
import Derived.Deep.LoopGhost
import Derived.Deep.OwnRows
import Derived.Deep.QuietTactic
import Derived.Deep.RegionHeld3
import Derived.Deep.WholeRow
import Derived.KernelRfl
import Derived.Laws.BitsLemmas
import Derived.Laws.BytesArg
import Derived.Laws.IdiomCopy
import Derived.Laws.MakeOwn
import Derived.Laws.OwnMore
import Derived.Laws.Rows
import Derived.Laws.Slices
import Derived.Lib.AppendStr
import Derived.Lib.ConvBytes
import Derived.Lib.Hide
import Derived.Maps.AppendAt
import Derived.OrdersHeld
import Derived.Outline
import Derived.OwnWalk
import Derived.RowKit
import Derived.RowKit3
import Derived.Tactics
import Derived.WalkKit
import Derived.WideLaws
import Derived.Test.YtkenihkjdbdlkaaDoorProg
import Derived.Test.YtkenihkjdbdlkaaDoorWApart
import Derived.Test.YtkenihkjdbdlkaaDoorWArr
import Derived.Test.YtkenihkjdbdlkaaDoorWAt
import Derived.Test.YtkenihkjdbdlkaaDoorWEqStruct
import Derived.Test.YtkenihkjdbdlkaaDoorWFoot
import Derived.Test.YtkenihkjdbdlkaaDoorWFootNe
import Derived.Test.YtkenihkjdbdlkaaDoorWFour
import Derived.Test.YtkenihkjdbdlkaaDoorWGuard
import Derived.Test.YtkenihkjdbdlkaaDoorWInv
import Derived.Test.YtkenihkjdbdlkaaDoorWInvWords
import Derived.Test.YtkenihkjdbdlkaaDoorWKept
import Derived.Test.YtkenihkjdbdlkaaDoorWLast
import Derived.Test.YtkenihkjdbdlkaaDoorWMore
import Derived.Test.YtkenihkjdbdlkaaDoorWN
import Derived.Test.YtkenihkjdbdlkaaDoorWNEv
import Derived.Test.YtkenihkjdbdlkaaDoorWQPut
import Derived.Test.YtkenihkjdbdlkaaDoorWRepsOne
import Derived.Test.YtkenihkjdbdlkaaDoorWShare
import Derived.Test.YtkenihkjdbdlkaaDoorWTab
import Derived.Test.YtkenihkjdbdlkaaDoorWWords
import Derived.Test.YtkenihkjdbdlkaaDoorWZeros
import Derived.Test.YtkenihkjdbdlkaaDoorShelf
import Derived.Test.YtkenihkjdbdlkaaDoorXEsc
namespace Go.Proofs.YtkenihkjdbdlkaaDoor.XWordsP
open Go.RowKit Go.Proofs.YtkenihkjdbdlkaaDoorW.PrintWords Go.Proofs.YtkenihkjdbdlkaaDoorW.PrintLast Go.Proofs.YtkenihkjdbdlkaaDoorW.PrintMore XEsc
set_option linter.unusedVariables false
mutual
/-- Between words. -/
def bw : Nat → List ByteArray → List Int → Option (List ByteArray × Int)
  | 0, _, _ => none
  | k + 1, out, l => match l with
    | [] => some (out, 0)
    | c :: r => if c = 32 then bw k out r else if c = 35 then some (out, 0) else if c = 34 then qt k out [] r else
      if (c :: r).takeWhile bareI = [] then some ([], 11) else ed k out ((c :: r).takeWhile bareI) ((c :: r).dropWhile bareI)
/-- In quotes. -/
def qt : Nat → List ByteArray → List Int → List Int → Option (List ByteArray × Int)
  | 0, _, _, _ => none
  | k + 1, out, w, l => match l with
    | [] => some ([], 11)
    | c :: r => if c < 32 ∨ 126 < c then some ([], 11) else if c = 34 then ed k out w r else
      if c = 92 then (if (esc r).2 = 0 then some ([], 11) else qt k out (w ++ [(esc r).1]) (r.drop (esc r).2.toNat)) else qt k out (w ++ [c]) r
/-- Behind a word. -/
def ed : Nat → List ByteArray → List Int → List Int → Option (List ByteArray × Int)
  | 0, _, _, _ => none
  | k + 1, out, w, l => match l with
    | [] => bw k (out ++ [strOfNums w]) []
    | c :: r => if c = 32 then bw k (out ++ [strOfNums w]) (c :: r) else some ([], 11)
end
/-- The words; a line that is not too long. -/
def words (s : ByteArray) : Option (List ByteArray × Int) := if s.size ≤ 1099511627776 then bw (4 * s.size + 4) [] (bl s) else none
theorem esc_len (l : List Int) : 0 ≤ (esc l).2 ∧ (esc l).2 ≤ l.length := by
  match l with
  | [] => exact ⟨by decide, by decide⟩
  | c :: r =>
    by_cases h : c = 34 ∨ c = 92
    · rw [esc_q h]; simp; omega
    · match r with
      | [] => rw [esc_short h (by simp)]; simp
      | [a] => rw [esc_short h (by simp)]; simp
      | a :: b :: r =>
        rw [esc_long h]
        split <;> simp <;> omega
theorem esc_byte (l : List Int) (h : ∀ c ∈ l, 0 ≤ c ∧ c ≤ 255) : 0 ≤ (esc l).1 ∧ (esc l).1 ≤ 255 := by
  match l, h with
  | [], _ => exact ⟨by decide, by decide⟩
  | c :: r, hh =>
    have hc := hh c (by simp)
    by_cases h : c = 34 ∨ c = 92
    · rw [esc_q h]; exact hc
    · match r with
      | [] => rw [esc_short h (by simp)]; simp
      | [a] => rw [esc_short h (by simp)]; simp
      | a :: b :: r =>
        rw [esc_long h]
        have h1 := hexv_range a
        have h2 := hexv_range b
        split <;> simp
        omega
end Go.Proofs.YtkenihkjdbdlkaaDoor.XWordsP
