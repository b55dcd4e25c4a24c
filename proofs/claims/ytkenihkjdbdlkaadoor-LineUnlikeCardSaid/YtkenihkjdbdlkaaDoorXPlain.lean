/-
  Words, plain: what a quoted word comes back as.
-/
import Derived.Laws.CopyOwn
import Derived.ArgAppend
import Derived.Below
import Derived.BigQuiet
import Derived.Deep.AppendLies
import Derived.Deep.CutBlock
import Derived.Deep.DeepCutAuto
import Derived.Deep.Draws
import Derived.Deep.LoopGhost
import Derived.Deep.OwnRows
import Derived.Deep.QuietTactic
import Derived.Deep.RegionHeld3
import Derived.Deep.WholeRow
import Derived.KernelRfl
import Derived.Laws.BitsLemmas
import Derived.Laws.BytesArg
import Derived.Laws.IdiomCopy
import Derived.Laws.MakeOwn
import Derived.Laws.OwnMore
import Derived.Laws.Rows
import Derived.Laws.Slices
import Derived.Lib.AppendStr
import Derived.Lib.ConvBytes
import Derived.Lib.Hide
import Derived.Maps.AppendAt
import Derived.OrdersHeld
import Derived.Outline
import Derived.OwnWalk
import Derived.RowKit
import Derived.RowKit3
import Derived.Tactics
import Derived.WalkKit
import Derived.WideLaws
import Derived.Test.YtkenihkjdbdlkaaDoorProg
import Derived.Test.YtkenihkjdbdlkaaDoorWApart
import Derived.Test.YtkenihkjdbdlkaaDoorWArr
import Derived.Test.YtkenihkjdbdlkaaDoorWAt
import Derived.Test.YtkenihkjdbdlkaaDoorWEqStruct
import Derived.Test.YtkenihkjdbdlkaaDoorWFoot
import Derived.Test.YtkenihkjdbdlkaaDoorWFootNe
import Derived.Test.YtkenihkjdbdlkaaDoorWFour
import Derived.Test.YtkenihkjdbdlkaaDoorWGuard
import Derived.Test.YtkenihkjdbdlkaaDoorWInv
import Derived.Test.YtkenihkjdbdlkaaDoorWInvWords
import Derived.Test.YtkenihkjdbdlkaaDoorWKept
import Derived.Test.YtkenihkjdbdlkaaDoorWLast
import Derived.Test.YtkenihkjdbdlkaaDoorWMore
import Derived.Test.YtkenihkjdbdlkaaDoorWN
import Derived.Test.YtkenihkjdbdlkaaDoorWNEv
import Derived.Test.YtkenihkjdbdlkaaDoorWQPut
import Derived.Test.YtkenihkjdbdlkaaDoorWRepsOne
import Derived.Test.YtkenihkjdbdlkaaDoorWShare
import Derived.Test.YtkenihkjdbdlkaaDoorWTab
import Derived.Test.YtkenihkjdbdlkaaDoorWWords
import Derived.Test.YtkenihkjdbdlkaaDoorWZeros
import Derived.Test.YtkenihkjdbdlkaaDoorShelf
import Derived.Test.YtkenihkjdbdlkaaDoorXQuote
import Derived.Test.YtkenihkjdbdlkaaDoorXWordsP
namespace Go.Proofs.YtkenihkjdbdlkaaDoor.XPlain
open Go.RowKit Go.Proofs.YtkenihkjdbdlkaaDoorW.PrintWords Go.Proofs.YtkenihkjdbdlkaaDoorW.PrintLast XEsc XWordsP XQuote
set_option linter.unusedVariables false
theorem hexv_hexd (n : Int) (h : 0 ≤ n ∧ n ≤ 15) : hexv (hexd n) = n := by
  unfold hexv hexd
  split
  · rw [if_pos (by omega)]; omega
  · rw [if_neg (by omega), if_pos (by omega)]; omega
theorem hexd_range (n : Int) (h : 0 ≤ n ∧ n ≤ 15) : 48 ≤ hexd n ∧ hexd n ≤ 102 := by unfold hexd; split <;> omega
def Byte (c : Int) : Prop := 0 ≤ c ∧ c ≤ 255
theorem q1_range (c : Int) (h : Byte c) : ∀ d ∈ q1 c, 32 ≤ d ∧ d ≤ 126 := by
  have h1 := hexd_range (c / 16) (by unfold Byte at h; omega)
  have h2 := hexd_range (c % 16) (by omega)
  intro d hd
  unfold q1 at hd
  split at hd
  · simp at hd; omega
  · split at hd
    · simp at hd; omega
    · simp at hd; omega
theorem bareI_iff (c : Int) : bareI c = true ↔ 32 < c ∧ c ≤ 126 ∧ c ≠ 34 ∧ c ≠ 92 ∧ c ≠ 35 := by
  unfold bareI
  simp
  constructor <;> intro h <;> omega
theorem quoteL_range (l : List Int) (h : ∀ c ∈ l, Byte c) : ∀ d ∈ quoteL l, 32 ≤ d ∧ d ≤ 126 := by
  intro d hd
  unfold quoteL at hd
  split at hd
  · rename_i hb
    have := (bareI_iff d).1 (List.all_eq_true.1 hb.2 d hd)
    omega
  · simp only [List.cons_append, List.mem_cons, List.mem_append, List.mem_flatMap, List.not_mem_nil, or_false] at hd
    rcases hd with rfl | ⟨c, hc, hd⟩ | rfl
    · omega
    · exact q1_range c (h c hc) d hd
    · omega
theorem quoteL_pos (l : List Int) : 0 < (quoteL l).length := by
  unfold quoteL
  split
  · rename_i hb; exact List.length_pos_iff.2 hb.1
  · simp
theorem qt_step (k : Nat) (out : List ByteArray) (w : List Int) (c : Int) (r : List Int) : qt (k + 1) out w (c :: r) = (if c < 32 ∨ 126 < c then some ([], 11) else if c = 34 then ed k out w r else
      if c = 92 then (if (esc r).2 = 0 then some ([], 11) else qt k out (w ++ [(esc r).1]) (r.drop (esc r).2.toNat)) else qt k out (w ++ [c]) r) := by simp only [qt]
/-- What was quoted comes back. -/
theorem qt_quoted (rest : List Int) : ∀ (l : List Int), (∀ c ∈ l, Byte c) → ∀ (k : Nat) (out : List ByteArray) (w : List Int), qt (k + l.length + 1) out w (l.flatMap q1 ++ 34 :: rest) = ed k out (w ++ l) rest
  | [], _, k, out, w => by
    rw [List.flatMap_nil, List.nil_append, List.append_nil, List.length_nil, qt_step, if_neg (by omega), if_pos rfl]
  | c :: l, h, k, out, w => by
    have hc : Byte c := h c (by simp)
    unfold Byte at hc
    have ih := qt_quoted rest l (fun d hd => h d (by simp [hd])) k out (w ++ [c])
    rw [List.append_assoc, List.singleton_append] at ih
    rw [← ih, List.flatMap_cons, List.append_assoc, List.length_cons, show k + (l.length + 1) + 1 = (k + l.length + 1) + 1 by omega]
    by_cases h1 : c = 34 ∨ c = 92
    · rw [show q1 c = [92, c] by unfold q1; rw [if_pos h1], List.cons_append, List.singleton_append, qt_step, if_neg (by omega), if_neg (by omega), if_pos rfl, esc_q h1]
      simp
    · by_cases h2 : 32 ≤ c ∧ c ≤ 126
      · rw [show q1 c = [c] by unfold q1; rw [if_neg h1, if_pos h2], List.singleton_append, qt_step, if_neg (by omega), if_neg (by omega), if_neg (by omega)]
      · rw [show q1 c = [92, 120, hexd (c / 16), hexd (c % 16)] by unfold q1; rw [if_neg h1, if_neg h2]]
        have e1 := hexv_hexd (c / 16) (by omega)
        have e2 := hexv_hexd (c % 16) (by omega)
        have e3 : ∀ t, esc (120 :: hexd (c / 16) :: hexd (c % 16) :: t) = (c, 3) := fun t => by
          rw [esc_long (by omega), e1, e2, if_pos (by omega)]
          rw [show 16 * (c / 16) + c % 16 = c by omega]
        simp only [List.cons_append, List.nil_append]
        rw [qt_step, if_neg (by omega), if_neg (by omega), if_pos rfl, e3, if_neg (show ¬ ((c, (3 : Int)).2 = 0) by show ¬ ((3:Int) = 0); decide)]
        rfl
theorem ed_nil (k : Nat) (out : List ByteArray) (w : List Int) : ed (k + 2) out w [] = some (out ++ [strOfNums w], 0) := by simp only [ed, bw]
theorem strOfNums_inj {a b : List Int} (ha : ∀ c ∈ a, Byte c) (hb : ∀ c ∈ b, Byte c) (h : strOfNums a = strOfNums b) : a = b := by
  rw [← bl_strOfNums a ha, ← bl_strOfNums b hb, h]
theorem flat_inj {a b : List Int} (ha : ∀ c ∈ a, Byte c) (hb : ∀ c ∈ b, Byte c) (h : a.flatMap q1 ++ [34] = b.flatMap q1 ++ [34]) : a = b := by
  have h1 := qt_quoted [] a ha (b.length + 2) [] []
  have h2 := qt_quoted [] b hb (a.length + 2) [] []
  rw [h, show b.length + 2 + a.length + 1 = a.length + 2 + b.length + 1 by omega, h2, ed_nil, ed_nil] at h1
  simp only [List.nil_append, Option.some.injEq, Prod.mk.injEq, List.cons.injEq, and_true] at h1
  exact (strOfNums_inj hb ha h1).symm
theorem quoteL_inj {a b : List Int} (ha : ∀ c ∈ a, Byte c) (hb : ∀ c ∈ b, Byte c) (h : quoteL a = quoteL b) : a = b := by
  unfold quoteL at h
  by_cases h1 : a ≠ [] ∧ a.all bareI = true
  · by_cases h2 : b ≠ [] ∧ b.all bareI = true
    · rw [if_pos h1, if_pos h2] at h; exact h
    · rw [if_pos h1, if_neg h2] at h
      have : bareI 34 = true := List.all_eq_true.1 h1.2 34 (by rw [h]; simp)
      exact absurd this (by decide)
  · by_cases h2 : b ≠ [] ∧ b.all bareI = true
    · rw [if_neg h1, if_pos h2] at h
      have : bareI 34 = true := List.all_eq_true.1 h2.2 34 (by rw [← h]; simp)
      exact absurd this (by decide)
    · rw [if_neg h1, if_neg h2] at h
      simp only [List.cons_append, List.cons.injEq, true_and] at h
      exact flat_inj ha hb h
theorem wrap_nat (i : Nat) (h : i ≤ 4611686018427387904) : wrap64 ((i : Int) + 1) = ((i + 1 : Nat) : Int) := by unfold wrap64; omega
theorem lift {α : Type} {f : Nat → Option α} (h : ∀ k, LeO (f k) (f (k + 1))) {r : α} {n : Nat} (h0 : f n = some r) : ∀ d, f (n + d) = some r
  | 0 => h0
  | d + 1 => h (n + d) r (lift h h0 d)
theorem lift_le {α : Type} {f : Nat → Option α} (h : ∀ k, LeO (f k) (f (k + 1))) {r : α} {n m : Nat} (h0 : f n = some r) (hm : n ≤ m) : f m = some r := by
  rw [show m = n + (m - n) by omega]; exact lift h h0 _
theorem quote_some (s : ByteArray) (h : s.size ≤ 1099511627776) : quote s = some (strOfNums (quoteL (bl s))) := by unfold quote; rw [if_pos h]
theorem byte_bl (s : ByteArray) : ∀ c ∈ bl s, Byte c := bl_range s
theorem quoteL_byte (l : List Int) (h : ∀ c ∈ l, Byte c) : ∀ d ∈ quoteL l, Byte d := fun d hd => by
  have := quoteL_range l h d hd
  unfold Byte; omega
theorem bl_quote (s : ByteArray) : bl (strOfNums (quoteL (bl s))) = quoteL (bl s) := bl_strOfNums _ (quoteL_byte _ (byte_bl s))
theorem quoteL_len (l : List Int) : (quoteL l).length ≤ 4 * l.length + 2 := by
  have := flat_len l
  unfold quoteL
  split
  · omega
  · simp only [List.length_append, List.length_cons, List.length_nil]; omega
theorem quote_size (s : ByteArray) : (strOfNums (quoteL (bl s))).size ≤ 4 * s.size + 2 := by
  have := quoteL_len (bl s)
  rw [← bl_length, bl_quote, ← bl_length s]; exact this
theorem quote_pos (s : ByteArray) : 0 < (strOfNums (quoteL (bl s))).size := by
  rw [← bl_length, bl_quote]; exact quoteL_pos _
theorem quote_bt (s : ByteArray) (i : Nat) (h : i < (strOfNums (quoteL (bl s))).size) : 32 ≤ bt (strOfNums (quoteL (bl s))) (i : Int) ∧ bt (strOfNums (quoteL (bl s))) (i : Int) ≤ 126 := by
  rw [← bl_length, bl_quote] at h
  rw [bt_bl, bl_quote, List.getD_eq_getElem?_getD, List.getElem?_eq_getElem h]
  exact quoteL_range _ (byte_bl s) _ (List.getElem_mem h)
theorem quote_inj {s t : ByteArray} (h : strOfNums (quoteL (bl s)) = strOfNums (quoteL (bl t))) : s = t :=
  bl_inj (quoteL_inj (byte_bl s) (byte_bl t) (strOfNums_inj (quoteL_byte _ (byte_bl s)) (quoteL_byte _ (byte_bl t)) h))
theorem toList_inj {s t : ByteArray} (h : s.toList = t.toList) : s = t := ByteArray.ext (Array.toList_inj.1 (by rw [← Go.ByteArray.toList_eq, ← Go.ByteArray.toList_eq, h]))
theorem toList_beq (s t : ByteArray) : (s.toList == t.toList) = decide (s = t) := by
  by_cases h : s = t
  · subst h; simp
  · rw [decide_eq_false h]
    simp only [beq_eq_false_iff_ne, ne_eq]
    exact fun hc => h (toList_inj hc)
theorem quote_beq (s t : ByteArray) : ((strOfNums (quoteL (bl s))).toList == (strOfNums (quoteL (bl t))).toList) = (s.toList == t.toList) := by
  rw [toList_beq, toList_beq]
  by_cases h : s = t
  · subst h; simp
  · rw [decide_eq_false h, decide_eq_false (fun hc => h (quote_inj hc))]
end Go.Proofs.YtkenihkjdbdlkaaDoor.XPlain
