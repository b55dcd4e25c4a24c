/-
  Words, plain: what a quoted word comes back as.
-/
import Derived.Laws.CopyOwn
import Derived.ArgAppend
import Derived.Below
import Derived.BigQuiet
import Derived.Deep.AppendLies
import Derived.Deep.CutBlock
import Derived.Deep.DeepCutAuto
import Derived.Deep.Draws
import Derived.Deep.LoopGhost
import Derived.Deep.OwnRows
import Derived.Deep.QuietTactic
import Derived.Deep.RegionHeld3
import Derived.Deep.WholeRow
import Derived.KernelRfl
import Derived.Laws.BitsLemmas
import Derived.Laws.BytesArg
import Derived.Laws.IdiomCopy
import Derived.Laws.MakeOwn
import Derived.Laws.OwnMore
import Derived.Laws.Rows
import Derived.Laws.Slices
import Derived.Lib.AppendStr
import Derived.Lib.ConvBytes
import Derived.Lib.Hide
import Derived.Maps.AppendAt
import Derived.OrdersHeld
import Derived.Outline
import Derived.OwnWalk
import Derived.RowKit
import Derived.RowKit3
import Derived.Tactics
import Derived.WalkKit
import Derived.WideLaws
import Derived.Test.YtkenihkjdbdlkaaDoorProg
import Derived.Test.YtkenihkjdbdlkaaDoorWApart
import Derived.Test.YtkenihkjdbdlkaaDoorWArr
import Derived.Test.YtkenihkjdbdlkaaDoorWAt
import Derived.Test.YtkenihkjdbdlkaaDoorWEqStruct
import Derived.Test.YtkenihkjdbdlkaaDoorWFoot
import Derived.Test.YtkenihkjdbdlkaaDoorWFootNe
import Derived.Test.YtkenihkjdbdlkaaDoorWFour
import Derived.Test.YtkenihkjdbdlkaaDoorWGuard
import Derived.Test.YtkenihkjdbdlkaaDoorWInv
import Derived.Test.YtkenihkjdbdlkaaDoorWInvWords
import Derived.Test.YtkenihkjdbdlkaaDoorWKept
import Derived.Test.YtkenihkjdbdlkaaDoorWLast
import Derived.Test.YtkenihkjdbdlkaaDoorWMore
import Derived.Test.YtkenihkjdbdlkaaDoorWN
import Derived.Test.YtkenihkjdbdlkaaDoorWNEv
import Derived.Test.YtkenihkjdbdlkaaDoorWQPut
import Derived.Test.YtkenihkjdbdlkaaDoorWRepsOne
import Derived.Test.YtkenihkjdbdlkaaDoorWShare
import Derived.Test.YtkenihkjdbdlkaaDoorWTab
import Derived.Test.YtkenihkjdbdlkaaDoorWWords
import Derived.Test.YtkenihkjdbdlkaaDoorWZeros
import Derived.Test.YtkenihkjdbdlkaaDoorShelf
import Derived.Test.YtkenihkjdbdlkaaDoorXQuote
import Derived.Test.YtkenihkjdbdlkaaDoorXWordsP
namespace Go.Proofs.YtkenihkjdbdlkaaDoor.XPlain
open Go.RowKit Go.Proofs.YtkenihkjdbdlkaaDoorW.PrintWords Go.Proofs.YtkenihkjdbdlkaaDoorW.PrintLast XEsc XWordsP XQuote
set_option linter.unusedVariables false
theorem hexv_hexd (n : Int) (h : 0 ≤ n ∧ n ≤ 15) : hexv (hexd n) = n := by
  unfold hexv hexd
  split
  · rw [if_pos (by omega)]; omega
  · rw [if_neg (by omega), if_pos (by omega)]; omega
theorem hexd_range (n : Int) (h : 0 ≤ n ∧ n ≤ 15) : 48 ≤ hexd n ∧ hexd n ≤ 102 := by unfold hexd; split <;> omega
def Byte (c : Int) : Prop := 0 ≤ c ∧ c ≤ 255
theorem q1_range (c : Int) (h : Byte c) : ∀ d ∈ q1 c, 32 ≤ d ∧ d ≤ 126 := by
  have h1 := hexd_range (c / 16) (by unfold Byte at h; omega)
  have h2 := hexd_range (c % 16) (by omega)
  intro d hd
  unfold q1 at hd
  split at hd
  · simp at hd; omega
  · split at hd
    · simp at hd; omega
    · simp at hd; omega
theorem bareI_iff (c : Int) : bareI c = true ↔ 32 < c ∧ c ≤ 126 ∧ c ≠ 34 ∧ c ≠ 92 ∧ c ≠ 35 := by
  unfold bareI
  simp
  constructor <;> intro h <;> omega
theorem quoteL_range (l : List Int) (h : ∀ c ∈ l, Byte c) : ∀ d ∈ quoteL l, 32 ≤ d ∧ d ≤ 126 := by
  intro d hd
  unfold quoteL at hd
  split at hd
  · rename_i hb
    have := (bareI_iff d).1 (List.all_eq_true.1 hb.2 d hd)
    omega
  · simp only [List.cons_append, List.mem_cons, List.mem_append, List.mem_flatMap, List.not_mem_nil, or_false] at hd
    rcases hd with rfl | ⟨c, hc, hd⟩ | rfl
    · omega
    · exact q1_range c (h c hc) d hd
    · omega
theorem qt_step (k : Nat) (out : List ByteArray) (w : List Int) (c : Int) (r : List Int) : qt (k + 1) out w (c :: r) = (if c < 32 ∨ 126 < c then some ([], 11) else if c = 34 then ed k out w r else
      if c = 92 then (if (esc r).2 = 0 then some ([], 11) else qt k out (w ++ [(esc r).1]) (r.drop (esc r).2.toNat)) else qt k out (w ++ [c]) r) := by simp only [qt]
theorem wrap_nat (i : Nat) (h : i ≤ 4611686018427387904) : wrap64 ((i : Int) + 1) = ((i + 1 : Nat) : Int) := by unfold wrap64; omega
theorem lift {α : Type} {f : Nat → Option α} (h : ∀ k, LeO (f k) (f (k + 1))) {r : α} {n : Nat} (h0 : f n = some r) : ∀ d, f (n + d) = some r
  | 0 => h0
  | d + 1 => h (n + d) r (lift h h0 d)
theorem lift_le {α : Type} {f : Nat → Option α} (h : ∀ k, LeO (f k) (f (k + 1))) {r : α} {n m : Nat} (h0 : f n = some r) (hm : n ≤ m) : f m = some r := by
  rw [show m = n + (m - n) by omega]; exact lift h h0 _
theorem quote_some (s : ByteArray) (h : s.size ≤ 1099511627776) : quote s = some (strOfNums (quoteL (bl s))) := by unfold quote; rw [if_pos h]
theorem byte_bl (s : ByteArray) : ∀ c ∈ bl s, Byte c := bl_range s
theorem quoteL_byte (l : List Int) (h : ∀ c ∈ l, Byte c) : ∀ d ∈ quoteL l, Byte d := fun d hd => by
  have := quoteL_range l h d hd
  unfold Byte; omega
theorem bl_quote (s : ByteArray) : bl (strOfNums (quoteL (bl s))) = quoteL (bl s) := bl_strOfNums _ (quoteL_byte _ (byte_bl s))
theorem toList_inj {s t : ByteArray} (h : s.toList = t.toList) : s = t := ByteArray.ext (Array.toList_inj.1 (by rw [← Go.ByteArray.toList_eq, ← Go.ByteArray.toList_eq, h]))
end Go.Proofs.YtkenihkjdbdlkaaDoor.XPlain
