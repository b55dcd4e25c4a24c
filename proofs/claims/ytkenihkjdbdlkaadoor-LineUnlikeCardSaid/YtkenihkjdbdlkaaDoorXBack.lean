/-
  A line of quoted words, plain: its words come back.
-/
import Derived.Laws.CopyOwn
import Derived.ArgAppend
import Derived.Below
import Derived.BigQuiet
import Derived.Deep.AppendLies
import Derived.Deep.CutBlock
import Derived.Deep.DeepCutAuto
import Derived.Deep.Draws
import Derived.Deep.LoopGhost
import Derived.Deep.OwnRows
import Derived.Deep.QuietTactic
import Derived.Deep.RegionHeld3
import Derived.Deep.WholeRow
import Derived.KernelRfl
import Derived.Laws.BitsLemmas
import Derived.Laws.BytesArg
import Derived.Laws.IdiomCopy
import Derived.Laws.MakeOwn
import Derived.Laws.OwnMore
import Derived.Laws.Rows
import Derived.Laws.Slices
import Derived.Lib.AppendStr
import Derived.Lib.ConvBytes
import Derived.Lib.Hide
import Derived.Maps.AppendAt
import Derived.OrdersHeld
import Derived.Outline
import Derived.OwnWalk
import Derived.RowKit
import Derived.RowKit3
import Derived.Tactics
import Derived.WalkKit
import Derived.WideLaws
import Derived.Test.YtkenihkjdbdlkaaDoorProg
import Derived.Test.YtkenihkjdbdlkaaDoorWApart
import Derived.Test.YtkenihkjdbdlkaaDoorWArr
import Derived.Test.YtkenihkjdbdlkaaDoorWAt
import Derived.Test.YtkenihkjdbdlkaaDoorWEqStruct
import Derived.Test.YtkenihkjdbdlkaaDoorWFoot
import Derived.Test.YtkenihkjdbdlkaaDoorWFootNe
import Derived.Test.YtkenihkjdbdlkaaDoorWFour
import Derived.Test.YtkenihkjdbdlkaaDoorWGuard
import Derived.Test.YtkenihkjdbdlkaaDoorWInv
import Derived.Test.YtkenihkjdbdlkaaDoorWInvWords
import Derived.Test.YtkenihkjdbdlkaaDoorWKept
import Derived.Test.YtkenihkjdbdlkaaDoorWLast
import Derived.Test.YtkenihkjdbdlkaaDoorWMore
import Derived.Test.YtkenihkjdbdlkaaDoorWN
import Derived.Test.YtkenihkjdbdlkaaDoorWNEv
import Derived.Test.YtkenihkjdbdlkaaDoorWQPut
import Derived.Test.YtkenihkjdbdlkaaDoorWRepsOne
import Derived.Test.YtkenihkjdbdlkaaDoorWShare
import Derived.Test.YtkenihkjdbdlkaaDoorWTab
import Derived.Test.YtkenihkjdbdlkaaDoorWWords
import Derived.Test.YtkenihkjdbdlkaaDoorWZeros
import Derived.Test.YtkenihkjdbdlkaaDoorShelf
import Derived.Test.YtkenihkjdbdlkaaDoorXCut
namespace Go.Proofs.YtkenihkjdbdlkaaDoor.XBack
open Go.RowKit Go.Proofs.YtkenihkjdbdlkaaDoorW.PrintWords Go.Proofs.YtkenihkjdbdlkaaDoorW.PrintLast XEsc XWordsP XQuote XPlain XCut
set_option linter.unusedVariables false
def lineOf (m : Nat) : List ByteArray → List Int
  | [] => []
  | w :: t => List.replicate m 32 ++ (quoteL (bl w) ++ lineOf m t)
theorem lineOf_append (m : Nat) : ∀ (a b : List ByteArray), lineOf m (a ++ b) = lineOf m a ++ lineOf m b
  | [], b => rfl
  | w :: a, b => by rw [List.cons_append, lineOf, lineOf, lineOf_append m a b, List.append_assoc, List.append_assoc]
theorem lineOf_one (m : Nat) (w : ByteArray) : lineOf m [w] = List.replicate m 32 ++ quoteL (bl w) := by rw [lineOf, lineOf, List.append_nil]
/-- Behind a word: the end, or a space. -/
def Ends (l : List Int) : Prop := l = [] ∨ ∃ r, l = 32 :: r
theorem bw_spaces (z : List Int) : ∀ (m K : Nat) (out : List ByteArray), bw (K + m) out (List.replicate m 32 ++ z) = bw K out z
  | 0, K, out => rfl
  | m + 1, K, out => by
    rw [List.replicate_succ, List.cons_append, show K + (m + 1) = (K + m) + 1 from rfl, bw]
    try simp only
    rw [if_pos trivial]
    exact bw_spaces z m K out
theorem ed_ends (K : Nat) (out : List ByteArray) (w l : List Int) (h : Ends l) : ed (K + 1) out w l = bw K (out ++ [strOfNums w]) l := by
  rcases h with rfl | ⟨r, rfl⟩
  · simp only [ed]
  · simp only [ed]
    rw [if_pos trivial]
theorem tw_stop (l t : List Int) (h : ∀ c ∈ l, bareI c = true) (ht : Ends t) : (l ++ t).takeWhile bareI = l ∧ (l ++ t).dropWhile bareI = t := by
  induction l with
  | nil =>
    rcases ht with rfl | ⟨r, rfl⟩
    · exact ⟨rfl, rfl⟩
    · have : bareI 32 = false := by decide
      constructor
      · rw [List.nil_append, List.takeWhile_cons, this]; rfl
      · rw [List.nil_append, List.dropWhile_cons, this]; rfl
  | cons c l ih =>
    have hc := h c (by simp)
    have := ih (fun d hd => h d (by simp [hd]))
    constructor
    · rw [List.cons_append, List.takeWhile_cons, if_pos hc, this.1]
    · rw [List.cons_append, List.dropWhile_cons, if_pos hc, this.2]
theorem bw_quote (l t : List Int) (hb : ∀ c ∈ l, Byte c) (ht : Ends t) (K : Nat) (out : List ByteArray) : bw (K + l.length + 3) out (quoteL l ++ t) = bw (K + (if l ≠ [] ∧ l.all bareI = true then l.length + 1 else 0)) (out ++ [strOfNums l]) t := by
  unfold quoteL
  by_cases h : l ≠ [] ∧ l.all bareI = true
  · rw [if_pos h, if_pos h]
    match l, h with
    | c :: r, h =>
      have hall : ∀ d ∈ c :: r, bareI d = true := fun d hd => List.all_eq_true.1 h.2 d hd
      have hc := (bareI_iff c).1 (hall c (by simp))
      obtain ⟨h1, h2⟩ := tw_stop (c :: r) t hall ht
      rw [List.cons_append] at h1 h2 ⊢
      rw [bw]
      try simp only
      rw [if_neg (by omega), if_neg (by omega), if_neg (by omega), h1, h2, if_neg (by simp), ed_ends _ _ _ _ ht]
      congr 1
  · rw [if_neg h, if_neg h, show K + l.length + 3 = ((K + 1) + l.length + 1) + 1 by omega]
    rw [show 34 :: l.flatMap q1 ++ [34] ++ t = 34 :: (l.flatMap q1 ++ 34 :: t) by simp, bw]
    try simp only
    rw [if_neg (by decide), if_neg (by decide), if_pos trivial, qt_quoted t l hb (K + 1) out [], List.nil_append, ed_ends _ _ _ _ ht]
    rfl
theorem ends_line (m : Nat) (hm : 0 < m) (ws : List ByteArray) (t : List Int) (ht : Ends t) : Ends (lineOf m ws ++ t) := by
  match ws with
  | [] => exact ht
  | w :: ws =>
    match m with
    | m + 1 => exact .inr ⟨_, by rw [lineOf, List.replicate_succ, List.cons_append, List.cons_append]⟩
theorem bw_line (m : Nat) (hm : 0 < m) (t : List Int) (ht : Ends t) (K0 : Nat) (h0 : ∀ out, bw K0 out t = some (out, 0)) : ∀ (ws out : List ByteArray), ∃ K, bw K out (lineOf m ws ++ t) = some (out ++ ws, 0)
  | [], out => ⟨K0, by rw [List.append_nil]; exact h0 out⟩
  | w :: ws, out => by
    obtain ⟨K, e⟩ := bw_line m hm t ht K0 h0 ws (out ++ [w])
    refine ⟨K + (bl w).length + 3 + m, ?_⟩
    rw [lineOf, List.append_assoc, bw_spaces, List.append_assoc, bw_quote _ _ (byte_bl w) (ends_line m hm ws t ht), strOfNums_bl]
    rw [show out ++ w :: ws = out ++ [w] ++ ws by simp]
    exact lift_le (f := fun k => bw k (out ++ [w]) (lineOf m ws ++ t)) (fun k => (more k).1 _ _) e (Nat.le_add_right _ _)
/-- The words of a line of quoted words. -/
theorem words_line (m : Nat) (hm : 0 < m) (ws : List ByteArray) (s : ByteArray) (hs : s.size ≤ 1099511627776) (h : bl s = lineOf m ws) : words s = some (ws, 0) := by
  obtain ⟨K, e⟩ := bw_line m hm [] (.inl rfl) 1 (fun out => by simp only [bw]) ws []
  rw [List.append_nil, List.nil_append] at e
  exact words_of s hs K _ (by rw [h]; exact e)
/-- .. with a remark behind them. -/
theorem words_note (m : Nat) (hm : 0 < m) (ws : List ByteArray) (s : ByteArray) (n : List Int) (hs : s.size ≤ 1099511627776) (h : bl s = lineOf m ws ++ 32 :: 35 :: n) : words s = some (ws, 0) := by
  obtain ⟨K, e⟩ := bw_line m hm (32 :: 35 :: n) (.inr ⟨_, rfl⟩) 2 (fun out => by
    rw [bw]
    try simp only
    rw [if_pos trivial, bw]
    try simp only
    rw [if_neg (by decide), if_pos trivial]) ws []
  rw [List.nil_append] at e
  exact words_of s hs K _ (by rw [h]; exact e)
end Go.Proofs.YtkenihkjdbdlkaaDoor.XBack
