/-
  text.escape and text.bare in plain words.
-/
import Derived.Laws.CopyOwn
import Derived.ArgAppend
import Derived.Below
import Derived.BigQuiet
import Derived.Deep.AppendLies
import Derived.Deep.CutBlock
import Derived.Deep.DeepCutAuto
import Derived.Deep.Draws
import Derived.Deep.LoopGhost
import Derived.Deep.OwnRows
import Derived.Deep.QuietTactic
import Derived.Deep.RegionHeld3
import Derived.Deep.WholeRow
import Derived.KernelRfl
import Derived.Laws.BitsLemmas
import Derived.Laws.BytesArg
import Derived.Laws.IdiomCopy
import Derived.Laws.MakeOwn
import Derived.Laws.OwnMore
import Derived.Laws.Rows
import Derived.Laws.Slices
import Derived.Lib.AppendStr
import Derived.Lib.ConvBytes
import Derived.Lib.Hide
import Derived.Maps.AppendAt
import Derived.OrdersHeld
import Derived.Outline
import Derived.OwnWalk
import Derived.RowKit
import Derived.RowKit3
import Derived.Tactics
import Derived.WalkKit
import Derived.WideLaws
import Derived.Test.YtkenihkjdbdlkaaDoorProg
import Derived.Test.YtkenihkjdbdlkaaDoorWApart
import Derived.Test.YtkenihkjdbdlkaaDoorWArr
import Derived.Test.YtkenihkjdbdlkaaDoorWAt
import Derived.Test.YtkenihkjdbdlkaaDoorWEqStruct
import Derived.Test.YtkenihkjdbdlkaaDoorWFoot
import Derived.Test.YtkenihkjdbdlkaaDoorWFootNe
import Derived.Test.YtkenihkjdbdlkaaDoorWFour
import Derived.Test.YtkenihkjdbdlkaaDoorWGuard
import Derived.Test.YtkenihkjdbdlkaaDoorWInv
import Derived.Test.YtkenihkjdbdlkaaDoorWInvWords
import Derived.Test.YtkenihkjdbdlkaaDoorWKept
import Derived.Test.YtkenihkjdbdlkaaDoorWLast
import Derived.Test.YtkenihkjdbdlkaaDoorWMore
import Derived.Test.YtkenihkjdbdlkaaDoorWN
import Derived.Test.YtkenihkjdbdlkaaDoorWNEv
import Derived.Test.YtkenihkjdbdlkaaDoorWQPut
import Derived.Test.YtkenihkjdbdlkaaDoorWRepsOne
import Derived.Test.YtkenihkjdbdlkaaDoorWShare
import Derived.Test.YtkenihkjdbdlkaaDoorWTab
import Derived.Test.YtkenihkjdbdlkaaDoorWWords
import Derived.Test.YtkenihkjdbdlkaaDoorWZeros
import Derived.Test.YtkenihkjdbdlkaaDoorShelf
import Derived.Test.YtkenihkjdbdlkaaDoorXBare
namespace Go.Proofs.YtkenihkjdbdlkaaDoor.XEsc
open Go.RowKit Go.Proofs.YtkenihkjdbdlkaaDoorW.PrintWords Go.Proofs.YtkenihkjdbdlkaaDoorW.PrintLast Go.Proofs.YtkenihkjdbdlkaaDoorW.PrintMore XBare
set_option linter.unusedVariables false
set_option linter.unusedSimpArgs false
/-- A text's bytes, as numbers. -/
def bl (s : ByteArray) : List Int := s.data.toList.map fun b => (b.toNat : Int)
theorem bl_length (s : ByteArray) : (bl s).length = s.size := by unfold bl; rw [List.length_map]; rfl
theorem bl_range (s : ByteArray) : ∀ c ∈ bl s, 0 ≤ c ∧ c ≤ 255 := by
  intro c hc
  unfold bl at hc
  obtain ⟨b, -, rfl⟩ := List.mem_map.1 hc
  have := b.toNat_lt
  omega
theorem bt_bl (s : ByteArray) (i : Nat) : bt s (i : Int) = (bl s).getD i 0 := by
  unfold bt bl
  rw [Int.toNat_natCast]
  split
  · rename_i h
    rw [List.getD_eq_getElem?_getD, List.getElem?_map]
    have : s.data.toList[i]? = some s[i] := by rw [List.getElem?_eq_getElem (by simpa using h)]; rfl
    rw [this]
    rfl
  · rename_i h
    rw [List.getD_eq_getElem?_getD, List.getElem?_map, List.getElem?_eq_none (by simpa using Nat.le_of_not_lt h)]
    rfl
theorem strOfNums_bl (s : ByteArray) : strOfNums (bl s) = s := by
  obtain ⟨⟨l⟩⟩ := s
  unfold strOfNums bl
  simp only [List.map_map]
  rw [List.map_congr_left (g := id), List.map_id]
  intro b hb
  simp
theorem bl_strOfNums (l : List Int) (h : ∀ c ∈ l, 0 ≤ c ∧ c ≤ 255) : bl (strOfNums l) = l := by
  unfold bl strOfNums
  simp only [List.map_map]
  rw [List.map_congr_left (g := id), List.map_id]
  intro c hc
  have := h c hc
  simp only [Function.comp_apply, id]
  rw [UInt8.toNat_ofNat']
  omega
theorem bl_extract (s : ByteArray) (i j : Nat) : bl (s.extract i j) = ((bl s).take j).drop i := by
  unfold bl
  rw [ByteArray.data_extract, Array.toList_extract, List.extract_eq_take_drop, List.map_take, List.map_drop]
  rw [List.drop_take]
theorem bl_append (s t : ByteArray) : bl (s ++ t) = bl s ++ bl t := by
  unfold bl
  rw [ByteArray.data_append]
  simp
theorem bl_inj {s t : ByteArray} (h : bl s = bl t) : s = t := by rw [← strOfNums_bl s, ← strOfNums_bl t, h]
/-- May a byte stand in a bare word? -/
def bareI (c : Int) : Bool := decide (32 < c) && decide (c ≤ 126) && !(c == 34) && !(c == 92) && !(c == 35)
theorem bare_f (c : Int) : text_bare.f c = some (bareI c) := by
  unfold text_bare.f bareI
  by_cases h1 : 32 < c <;> by_cases h2 : c ≤ 126 <;> by_cases h3 : c = 34 <;> by_cases h4 : c = 92 <;> simp [h1, h2, h3, h4, bne]
def hexv (c : Int) : Int := if 48 ≤ c ∧ c ≤ 57 then c - 48 else if 97 ≤ c ∧ c ≤ 102 then c - 87 else -1
theorem hexv_range (c : Int) : -1 ≤ hexv c ∧ hexv c ≤ 15 := by unfold hexv; split <;> (try split) <;> omega
theorem digit_all : ∀ c : Fin 256, text_digit.f ((c.val : Nat) : Int) = some (hexv ((c.val : Nat) : Int)) := by decide +kernel
theorem digit_f (c : Int) (h : 0 ≤ c ∧ c ≤ 255) : text_digit.f c = some (hexv c) := by
  have := digit_all ⟨c.toNat, by omega⟩
  rwa [show ((c.toNat : Nat) : Int) = c from by omega] at this
/-- What stands behind a \. -/
def esc (l : List Int) : Int × Int :=
  match l with
  | [] => (0, 0)
  | c :: r => if c = 34 ∨ c = 92 then (c, 1) else
    match r with
    | a :: b :: _ => if c = 120 ∧ 0 ≤ hexv a ∧ 0 ≤ hexv b ∧ ¬ (32 ≤ 16 * hexv a + hexv b ∧ 16 * hexv a + hexv b ≤ 126) then (16 * hexv a + hexv b, 3) else (0, 0)
    | _ => (0, 0)
theorem esc_q {c : Int} {r : List Int} (h : c = 34 ∨ c = 92) : esc (c :: r) = (c, 1) := by simp only [esc]; rw [if_pos h]
theorem esc_short {c : Int} {r : List Int} (h : ¬ (c = 34 ∨ c = 92)) (hr : r.length < 2) : esc (c :: r) = (0, 0) := by
  simp only [esc]
  rw [if_neg h]
  match r, hr with
  | [], _ => rfl
  | [a], _ => rfl
  | a :: b :: r, hr => simp at hr; omega
theorem esc_long {c a b : Int} {r : List Int} (h : ¬ (c = 34 ∨ c = 92)) : esc (c :: a :: b :: r) = if c = 120 ∧ 0 ≤ hexv a ∧ 0 ≤ hexv b ∧ ¬ (32 ≤ 16 * hexv a + hexv b ∧ 16 * hexv a + hexv b ≤ 126) then (16 * hexv a + hexv b, 3) else (0, 0) := by
  simp only [esc]
  rw [if_neg h]
theorem bits_or : ∀ a b : Fin 16, (Go.bits .or .i64 (wrap64 (((a.val : Nat) : Int) * 16)) ((b.val : Nat) : Int)) = 16 * ((a.val : Nat) : Int) + ((b.val : Nat) : Int) := by decide +kernel
theorem bits_or' (a b : Int) (ha : 0 ≤ a ∧ a ≤ 15) (hb : 0 ≤ b ∧ b ≤ 15) : (Go.bits .or .i64 (wrap64 (a * 16)) b) % 256 = 16 * a + b := by
  have := bits_or ⟨a.toNat, by omega⟩ ⟨b.toNat, by omega⟩
  simp only at this
  rw [show ((a.toNat : Nat) : Int) = a from by omega, show ((b.toNat : Nat) : Int) = b from by omega] at this
  rw [this]
  omega
theorem escape_f (s : ByteArray) : text_escape.f 4 s = some ((esc (bl s)).1, (esc (bl s)).2) := by
  have hl := bl_length s
  have hr := bl_range s
  have hb0 : bt s 0 = (bl s).getD 0 0 := bt_bl s 0
  have hb1 : bt s 1 = (bl s).getD 1 0 := bt_bl s 1
  have hb2 : bt s 2 = (bl s).getD 2 0 := bt_bl s 2
  have ht : s.toList = [] ↔ bl s = [] := by
    rw [XTabs.toList_eq]
    unfold bl
    simp
  unfold text_escape.f
  generalize bl s = l at *
  match l, hl, hr with
  | [], hl, hr => rw [if_pos (ht.2 rfl)]; rfl
  | c :: r, hl, hr =>
    have hsz : (s.size : Int) = (r.length : Int) + 1 := by rw [← hl]; simp
    rw [if_neg (by rw [ht]; simp), if_pos (by omega), hb0]
    have hc := hr c (by simp)
    simp only [List.getD_cons_zero]
    by_cases h34 : c = 34
    · rw [if_pos h34, esc_q (.inl h34)]
      simp only [text_escape.j0, if_true]
      rw [if_pos (by omega), hb0]
      simp
    · by_cases h92 : c = 92
      · rw [if_neg h34, esc_q (.inr h92)]
        simp only [text_escape.j0]
        rw [if_pos (by rw [h92]; rfl), if_pos (by omega), hb0]
        simp
      · rw [if_neg h34]
        have hne : (c == 92) = false := beq_eq_false_iff_ne.2 h92
        rw [hne]
        simp only [text_escape.j0]
        rw [if_neg (by decide)]
        match r with
        | [] => simp at hsz; rw [if_pos (by omega), esc_short (by omega) (by simp)]
        | [a] => simp at hsz; rw [if_pos (by omega), esc_short (by omega) (by simp)]
        | a :: b :: r' =>
          have ha := hr a (by simp)
          have hb := hr b (by simp)
          simp at hsz
          rw [if_neg (by omega), if_pos (by omega), hb0, esc_long (by omega)]
          simp only [List.getD_cons_zero]
          by_cases h120 : c = 120
          · rw [if_pos h120, if_pos (by omega), hb1]
            simp only [List.getD_cons_succ, List.getD_cons_zero]
            rw [digit_f a ha]
            simp only [Option.bind_some]
            rw [if_pos (by omega), hb2]
            simp only [List.getD_cons_succ, List.getD_cons_zero]
            rw [digit_f b hb]
            simp only [Option.bind_some]
            have r1 := hexv_range a
            have r2 := hexv_range b
            by_cases ha0 : hexv a < 0
            · rw [if_pos ha0]
              simp only [text_escape.j1, if_true]
              rw [if_neg (by omega)]
            · rw [if_neg ha0]
              simp only [text_escape.j1]
              by_cases hb0 : hexv b < 0
              · rw [if_pos (decide_eq_true hb0), if_neg (by omega)]
              · rw [if_neg (by simpa using hb0), bits_or' _ _ (by omega) (by omega)]
                by_cases h1 : 16 * hexv a + hexv b ≥ 32
                · by_cases h2 : 16 * hexv a + hexv b ≤ 126
                  · rw [if_pos h1, if_pos h2, if_neg (by omega)]
                  · rw [if_pos h1, if_neg h2, if_pos (by omega)]
                · rw [if_neg h1, if_pos (by omega)]
          · rw [if_neg h120, if_neg (by omega)]
end Go.Proofs.YtkenihkjdbdlkaaDoor.XEsc
