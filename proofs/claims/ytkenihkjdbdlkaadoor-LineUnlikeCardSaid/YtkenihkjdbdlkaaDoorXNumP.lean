/-
  Numbers, plain: a numeral's digits, what they spell, what strconv.Itoa and Atoi say of each other.
-/
import Derived.Laws.CopyOwn
import Derived.ArgAppend
import Derived.Below
import Derived.BigQuiet
import Derived.Deep.AppendLies
import Derived.Deep.CutBlock
import Derived.Deep.DeepCutAuto
import Derived.Deep.Draws
import Derived.Deep.LoopGhost
import Derived.Deep.OwnRows
import Derived.Deep.QuietTactic
import Derived.Deep.RegionHeld3
import Derived.Deep.WholeRow
import Derived.KernelRfl
import Derived.Laws.BitsLemmas
import Derived.Laws.BytesArg
import Derived.Laws.IdiomCopy
import Derived.Laws.MakeOwn
import Derived.Laws.OwnMore
import Derived.Laws.Rows
import Derived.Laws.Slices
import Derived.Lib.AppendStr
import Derived.Lib.ConvBytes
import Derived.Lib.Hide
import Derived.Maps.AppendAt
import Derived.OrdersHeld
import Derived.Outline
import Derived.OwnWalk
import Derived.RowKit
import Derived.RowKit3
import Derived.Tactics
import Derived.WalkKit
import Derived.WideLaws
import Derived.Test.YtkenihkjdbdlkaaDoorProg
import Derived.Test.YtkenihkjdbdlkaaDoorWApart
import Derived.Test.YtkenihkjdbdlkaaDoorWArr
import Derived.Test.YtkenihkjdbdlkaaDoorWAt
import Derived.Test.YtkenihkjdbdlkaaDoorWEqStruct
import Derived.Test.YtkenihkjdbdlkaaDoorWFoot
import Derived.Test.YtkenihkjdbdlkaaDoorWFootNe
import Derived.Test.YtkenihkjdbdlkaaDoorWFour
import Derived.Test.YtkenihkjdbdlkaaDoorWGuard
import Derived.Test.YtkenihkjdbdlkaaDoorWInv
import Derived.Test.YtkenihkjdbdlkaaDoorWInvWords
import Derived.Test.YtkenihkjdbdlkaaDoorWKept
import Derived.Test.YtkenihkjdbdlkaaDoorWLast
import Derived.Test.YtkenihkjdbdlkaaDoorWMore
import Derived.Test.YtkenihkjdbdlkaaDoorWN
import Derived.Test.YtkenihkjdbdlkaaDoorWNEv
import Derived.Test.YtkenihkjdbdlkaaDoorWQPut
import Derived.Test.YtkenihkjdbdlkaaDoorWRepsOne
import Derived.Test.YtkenihkjdbdlkaaDoorWShare
import Derived.Test.YtkenihkjdbdlkaaDoorWTab
import Derived.Test.YtkenihkjdbdlkaaDoorWWords
import Derived.Test.YtkenihkjdbdlkaaDoorWZeros
import Derived.Test.YtkenihkjdbdlkaaDoorShelf
import Derived.Test.YtkenihkjdbdlkaaDoorXCut
import Derived.Test.YtkenihkjdbdlkaaDoorXNumber
import Derived.Lib.AtoiAllCases
import Derived.Lib.ItoaLen
namespace Go.Proofs.YtkenihkjdbdlkaaDoor.XNumP
open Go.RowKit Go.Proofs.YtkenihkjdbdlkaaDoorW.PrintWords Go.Proofs.YtkenihkjdbdlkaaDoorW.PrintLast XEsc XPlain XNumber
set_option linter.unusedVariables false
/-- A numeral, as a string. -/
def numeral (v : Int) : ByteArray := ⟨(Lib.itoa v).toArray⟩
def dI (u : Nat) : List Int := (Lib.decDigits u).map fun b => (b.toNat : Int)
theorem dI_small {u : Nat} (h : u < 10) : dI u = [48 + (u : Int)] := by
  unfold dI
  rw [Lib.decDigits_one h, List.map_cons, List.map_nil, UInt8.toNat_ofNat']
  congr 1; omega
theorem dI_step {u : Nat} (h : ¬ u < 10) : dI u = dI (u / 10) ++ [48 + (u : Int) % 10] := by
  unfold dI
  conv => lhs; rw [Lib.decDigits, dif_neg h]
  rw [List.map_append, List.map_cons, List.map_nil, UInt8.toNat_ofNat']
  congr 2; omega
theorem dI_range (u : Nat) : ∀ c ∈ dI u, 48 ≤ c ∧ c ≤ 57 := by
  induction u using Nat.strongRecOn with
  | _ u ih =>
    by_cases h : u < 10
    · rw [dI_small h]; intro c hc; rw [List.mem_singleton] at hc; omega
    · rw [dI_step h]; intro c hc
      rcases List.mem_append.1 hc with hc | hc
      · exact ih (u / 10) (by omega) c hc
      · rw [List.mem_singleton] at hc; omega
def fv : Int → List Int → Int
  | n, [] => n
  | n, c :: r => fv (n * 10 + (c - 48)) r
theorem fv_append : ∀ (a b : List Int) (n : Int), fv n (a ++ b) = fv (fv n a) b
  | [], b, n => rfl
  | c :: a, b, n => by rw [List.cons_append, fv, fv, fv_append a b]
theorem fv_dI (u : Nat) : fv 0 (dI u) = u := by
  induction u using Nat.strongRecOn with
  | _ u ih =>
    by_cases h : u < 10
    · rw [dI_small h, fv, fv]; omega
    · rw [dI_step h, fv_append, ih (u / 10) (by omega), fv, fv]; omega
theorem fv_ge : ∀ (l : List Int) (n : Int), (∀ c ∈ l, 48 ≤ c ∧ c ≤ 57) → 0 ≤ n → n ≤ fv n l
  | [], n, _, _ => Int.le_refl _
  | c :: l, n, h, hn => by
    have h1 := h c (by simp)
    have := fv_ge l (n * 10 + (c - 48)) (fun d hd => h d (by simp [hd])) (by omega)
    rw [fv]; omega
theorem dI_pos (u : Nat) : 0 < (dI u).length := by
  unfold dI
  rw [List.length_map, Lib.decDigits_length]
  have := Lib.nDigits_pos u; omega
theorem nDigits_le : ∀ (n u : Nat), u < 10 ^ (n + 1) → Lib.nDigits u ≤ n + 1
  | 0, u, h => by rw [Lib.nDigits_small (by simpa using h)]; exact Nat.le_refl _
  | n + 1, u, h => by
    by_cases h1 : u < 10
    · rw [Lib.nDigits_small h1]; omega
    · rw [Lib.nDigits_big h1]
      have := nDigits_le n (u / 10) (by rw [Nat.pow_succ] at h; omega)
      omega
theorem dI_len (u : Nat) (h : u ≤ 9223372036854775808) : (dI u).length ≤ 19 := by
  unfold dI
  rw [List.length_map, Lib.decDigits_length]
  exact nDigits_le 18 u (by omega)
theorem bl_numeral (v : Int) : bl (numeral v) = if v < 0 then 45 :: dI v.natAbs else dI v.toNat := by
  unfold bl numeral Lib.itoa dI
  split <;> rfl
theorem numeral_size (v : Int) (h : -9223372036854775808 ≤ v ∧ v ≤ 9223372036854775807) : 0 < (numeral v).size ∧ (numeral v).size ≤ 20 := by
  rw [← bl_length, bl_numeral]
  split
  · have := dI_len v.natAbs (by omega)
    rw [List.length_cons]; omega
  · have := dI_len v.toNat (by omega)
    have := dI_pos v.toNat
    omega
theorem parse_append : ∀ (l m : List UInt8) (acc a : Nat), Lib.parseUint10 acc l = .ok a → Lib.parseUint10 acc (l ++ m) = Lib.parseUint10 a m
  | [], m, acc, a, h => by
    simp only [Lib.parseUint10] at h
    injection h with h
    rw [h]; rfl
  | c :: l, m, acc, a, h => by
    rw [List.cons_append]
    simp only [Lib.parseUint10] at h ⊢
    split at h
    · rename_i h1
      rw [if_pos h1]
      split at h
      · cases h
      · rename_i h2
        rw [if_neg h2]
        split at h
        · cases h
        · rename_i h3
          rw [if_neg h3]
          exact parse_append l m _ a h
    · cases h
theorem parse_dec (u : Nat) : u < 18446744073709551616 → Lib.parseUint10 0 (Lib.decDigits u) = .ok u := by
  induction u using Nat.strongRecOn with
  | _ u ih =>
    intro hu
    by_cases h : u < 10
    · rw [Lib.decDigits_one h]
      simp only [Lib.parseUint10, UInt8.toNat_ofNat']
      rw [if_pos (by omega), if_neg (by omega), if_neg (by omega)]
      congr 1; omega
    · rw [Lib.decDigits, dif_neg h, parse_append _ _ _ _ (ih (u / 10) (by omega) (by omega))]
      simp only [Lib.parseUint10, UInt8.toNat_ofNat']
      rw [if_pos (by omega), if_neg (by omega), if_neg (by omega)]
      congr 1; omega
theorem parse_mag (u : Nat) (hu : u < 18446744073709551616) : Lib.parseMag (Lib.decDigits u) = .ok u := by
  unfold Lib.parseMag
  rw [if_neg, parse_dec u hu]
  intro hc
  have := Lib.decDigits_length u
  rw [hc] at this
  have := Lib.nDigits_pos u
  simp at *; omega
theorem atoi_itoa (v : Int) (h : -9223372036854775808 ≤ v ∧ v ≤ 9223372036854775807) : Lib.atoiAll (Lib.itoa v) = .ok v := by
  unfold Lib.itoa
  split
  · rw [Lib.atoiAll_minus, parse_mag _ (by omega)]
    simp only [Lib.signed]
    rw [if_neg (by omega)]
    congr 1; omega
  · have hr := dI_range v.toNat
    have hp := parse_mag v.toNat (by omega)
    have hl := dI_pos v.toNat
    unfold dI at hr hl
    match hd : Lib.decDigits v.toNat with
    | [] => rw [hd] at hl; simp at hl
    | c :: r =>
      rw [hd] at hr hp
      have := hr (c.toNat : Int) (by simp)
      rw [Lib.atoiAll_plain c r (by omega) (by omega), hp]
      simp only [Lib.signless]
      rw [if_neg (by omega)]
      congr 1; omega
theorem numeral_inj {a b : Int} (ha : -9223372036854775808 ≤ a ∧ a ≤ 9223372036854775807) (hb : -9223372036854775808 ≤ b ∧ b ≤ 9223372036854775807) (h : numeral a = numeral b) : a = b := by
  have h1 := atoi_itoa a ha
  have h2 := atoi_itoa b hb
  have : Lib.itoa a = Lib.itoa b := by
    unfold numeral at h
    injection h with h
    injection h
  rw [this, h2] at h1
  injection h1 with h1
  exact h1.symm
theorem number_of (v : Int) (h : -9223372036854775808 ≤ v ∧ v ≤ 9223372036854775807) : numberP (numeral v) = (v, true) := by
  unfold numberP
  rw [show (numeral v).data.toList = Lib.itoa v from rfl, atoi_itoa v h]
  exact if_pos rfl
theorem number_no (s : ByteArray) (h : ∀ v : Int, -9223372036854775808 ≤ v ∧ v ≤ 9223372036854775807 → s ≠ numeral v) : numberP s = (0, false) := by
  unfold numberP
  rcases hh : Lib.atoiAll s.data.toList with v | _ | _
  · simp only
    rw [if_neg]
    intro hc
    refine h v (Lib.atoiAll_bounds hh) ?_
    unfold numeral
    rw [hc]
  · rfl
  · rfl
end Go.Proofs.YtkenihkjdbdlkaaDoor.XNumP
