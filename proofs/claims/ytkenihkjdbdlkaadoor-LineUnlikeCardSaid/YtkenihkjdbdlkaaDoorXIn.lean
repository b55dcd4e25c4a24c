/-
  prebendref26.In: a word in quotes (its walk).
-/
import Derived.Laws.CopyOwn
import Derived.ArgAppend
import Derived.Below
import Derived.BigQuiet
import Derived.Deep.AppendLies
import Derived.Deep.CutBlock
import Derived.Deep.DeepCutAuto
import Derived.Deep.Draws
import Derived.Deep.LoopGhost
import Derived.Deep.OwnRows
import Derived.Deep.QuietTactic
import Derived.Deep.RegionHeld3
import Derived.Deep.WholeRow
import Derived.KernelRfl
import Derived.Laws.BitsLemmas
import Derived.Laws.BytesArg
import Derived.Laws.IdiomCopy
import Derived.Laws.MakeOwn
import Derived.Laws.OwnMore
import Derived.Laws.Rows
import Derived.Laws.Slices
import Derived.Lib.AppendStr
import Derived.Lib.ConvBytes
import Derived.Lib.Hide
import Derived.Maps.AppendAt
import Derived.OrdersHeld
import Derived.Outline
import Derived.OwnWalk
import Derived.RowKit
import Derived.RowKit3
import Derived.Tactics
import Derived.WalkKit
import Derived.WideLaws
import Derived.Test.YtkenihkjdbdlkaaDoorProg
import Derived.Test.YtkenihkjdbdlkaaDoorWApart
import Derived.Test.YtkenihkjdbdlkaaDoorWArr
import Derived.Test.YtkenihkjdbdlkaaDoorWAt
import Derived.Test.YtkenihkjdbdlkaaDoorWEqStruct
import Derived.Test.YtkenihkjdbdlkaaDoorWFoot
import Derived.Test.YtkenihkjdbdlkaaDoorWFootNe
import Derived.Test.YtkenihkjdbdlkaaDoorWFour
import Derived.Test.YtkenihkjdbdlkaaDoorWGuard
import Derived.Test.YtkenihkjdbdlkaaDoorWInv
import Derived.Test.YtkenihkjdbdlkaaDoorWInvWords
import Derived.Test.YtkenihkjdbdlkaaDoorWKept
import Derived.Test.YtkenihkjdbdlkaaDoorWLast
import Derived.Test.YtkenihkjdbdlkaaDoorWMore
import Derived.Test.YtkenihkjdbdlkaaDoorWN
import Derived.Test.YtkenihkjdbdlkaaDoorWNEv
import Derived.Test.YtkenihkjdbdlkaaDoorWQPut
import Derived.Test.YtkenihkjdbdlkaaDoorWRepsOne
import Derived.Test.YtkenihkjdbdlkaaDoorWShare
import Derived.Test.YtkenihkjdbdlkaaDoorWTab
import Derived.Test.YtkenihkjdbdlkaaDoorWWords
import Derived.Test.YtkenihkjdbdlkaaDoorWZeros
import Derived.Test.YtkenihkjdbdlkaaDoorShelf
import Derived.Test.YtkenihkjdbdlkaaDoorXQuote
import Derived.Laws.DeepStrings4
namespace Go.Proofs.YtkenihkjdbdlkaaDoor.XIn
open Go.RowKit Go.Proofs.YtkenihkjdbdlkaaDoorW.PrintWords Go.Proofs.YtkenihkjdbdlkaaDoorW.PrintLast Go.Proofs.YtkenihkjdbdlkaaDoorW.PrintMore XEsc XQuote
set_option linter.unusedVariables false
set_option linter.unusedSimpArgs false
def inS (s : ByteArray) : Option ByteArray := if s.size ≤ 1099511627776 then some (strOfNums (34 :: (bl s).flatMap q1 ++ [34])) else none
theorem nums_append (a b : List Int) : strOfNums (a ++ b) = strOfNums a ++ strOfNums b := by
  unfold strOfNums
  rw [List.map_append]
  apply ByteArray.ext
  rw [ByteArray.data_append]
  simp
theorem s92 : (⟨#[92]⟩ : ByteArray).size = 1 := rfl
theorem s9220 : (⟨#[92, 120]⟩ : ByteArray).size = 2 := rfl
theorem hex_cut : ∀ n : Fin 16, HEX.extract n.val (n.val + 1) = strOfNums [hexd ((n.val : Nat) : Int)] := by decide +kernel
theorem run_hex (n : Int) (h : 0 ≤ n ∧ n < 16) (W : World) : (Instr.slice 9 (.string (⟨#[48, 49, 50, 51, 52, 53, 54, 55, 56, 57, 97, 98, 99, 100, 101, 102]⟩ : ByteArray)) (some (.int .u8 n)) (some (.int .u8 (n + 1))) none).run Tryd.prog W = .ok (.string (strOfNums [hexd n])) W := by
  have h1 := run_slice_string_if (P := Tryd.prog) W 9 HEX .u8 .u8 n (n + 1) Tryd.underlying9
  have hs : (HEX.size : Int) = 16 := rfl
  rw [hs, if_pos ⟨by omega, by omega⟩, if_pos ⟨by omega, by omega⟩] at h1
  have h2 := hex_cut ⟨n.toNat, by omega⟩
  simp only at h2
  rw [show ((n.toNat : Nat) : Int) = n from by omega] at h2
  rw [show (n + 1).toNat = n.toNat + 1 by omega, h2] at h1
  exact h1
theorem extract_one (s : ByteArray) (k : Nat) (h : k < s.size) : s.extract k (k + 1) = strOfNums [(bl s).getD k 0] := by
  rw [← strOfNums_bl (s.extract k (k + 1)), bl_extract]
  congr 1
  rw [← bl_length] at h
  rw [List.drop_take, show k + 1 - k = 1 by omega, List.drop_eq_getElem_cons h, List.getD_eq_getElem?_getD, List.getElem?_eq_getElem h]
  rfl
theorem byte_at (s : ByteArray) (i : Nat) (h : i < s.size) : ((s[i]'h).toNat : Int) = (bl s).getD i 0 := by
  have := bt_at s (i : Int) (by rw [Int.toNat_natCast]; exact h)
  rw [bt_bl] at this
  exact this
set_option maxRecDepth 1000000 in
set_option maxHeartbeats 8000000 in
theorem calls (a0 : ByteArray) (r : ByteArray) (w : World) (h : inS a0 = some r) :
    Calls Tryd.prog 45 #[.string a0] w fun e w' => e = .returned (.string r) ∧ Drawn0 w w' := by
  by_cases hs : a0.size ≤ 1099511627776
  rotate_left
  · rw [inS, if_neg hs] at h; cases h
  rw [inS, if_pos hs] at h
  obtain rfl := Option.some.inj h
  clear h
  have HS := Aside0.mk hs
  go_enter Tryd.func45, Tryd.ntmps45
  go_wp2
  go_loopw [3, 4] (fun v3 v4 wr => ∃ (k nd : Nat) (O : ByteArray), k ≤ a0.size ∧ v4 = .int .i64 k ∧ v3 = .string O ∧ Aside0 (O = strOfNums (34 :: ((bl a0).take k).flatMap q1)) ∧ O.size ≤ 4 * k + 1 ∧ wr = w.drewN nd) (fun _ v4 _ => a0.size - (intOf v4).toNat)
  case atStart => exact ⟨0, 0, _, Nat.zero_le _, rfl, rfl, ⟨by rfl⟩, by decide, rfl⟩
  case round =>
    obtain ⟨k, nd, O, hk, rfl, rfl, HO, hO, rfl⟩ := hrel
    by_cases hlt : k < a0.size
    · have hx := byte_at a0 k hlt
      have hcr : 0 ≤ (bl a0).getD k 0 ∧ (bl a0).getD k 0 ≤ 255 := bl_range a0 _ (by rw [List.getD_eq_getElem?_getD, List.getElem?_eq_getElem (by rw [bl_length]; exact hlt)]; exact List.getElem_mem _)
      have hsn := flat_snoc (bl a0) k (by rw [bl_length]; exact hlt)
      have he := extract_one a0 k hlt
      generalize (bl a0).getD k 0 = c at *
      have HSN := Aside0.mk (show ∀ q, q1 c = q → O ++ strOfNums q = strOfNums (34 :: ((bl a0).take (k + 1)).flatMap q1) from fun q hq => by rw [hsn, nums_append, ← HO.out, hq])
      have HE := Aside0.mk he
      have hk1 : (k : Int) + 1 ≤ (a0.size : Int) := by omega
      have hk2 : (k : Int) ≤ (k : Int) + 1 := by omega
      have hk3 : (0 : Int) ≤ (k : Int) := by omega
      have hk4 : k + 1 ≤ a0.size := by omega
      have hk5 : k ≤ k + 1 := by omega
      clear hsn he
      by_cases h34 : c = 34 ∨ c = 92
      · have HQ := Aside0.mk (show O ++ ((⟨#[92]⟩ : ByteArray) ++ a0.extract k (k + 1)) = strOfNums (34 :: ((bl a0).take (k + 1)).flatMap q1) from by
          rw [HE.out]; exact HSN.out [92, c] (by unfold q1; rw [if_pos h34]))
        rcases h34 with h34 | h92
        · have hb1 : (c == 34) = true := beq_iff_eq.2 h34
          clear h34
          go_wp2
          go_roundw
          case rel => exact ⟨k + 1, _, _, by omega, by go_num, rfl, ⟨HQ.out⟩, by simp only [ByteArray.size_append, ByteArray.size_extract, s92, s9220]; omega, rfl⟩
          case measure => simp [intOf]; omega
        · have hb1 : (c == 34) = false := beq_eq_false_iff_ne.2 (by omega)
          have hb2 : (c == 92) = true := beq_iff_eq.2 h92
          clear h92
          go_wp2
          go_roundw
          case rel => exact ⟨k + 1, _, _, by omega, by go_num, rfl, ⟨HQ.out⟩, by simp only [ByteArray.size_append, ByteArray.size_extract, s92, s9220]; omega, rfl⟩
          case measure => simp [intOf]; omega
      · have hb1 : (c == 34) = false := beq_eq_false_iff_ne.2 (by omega)
        have hb2 : (c == 92) = false := beq_eq_false_iff_ne.2 (by omega)
        by_cases h32 : 32 ≤ c ∧ c ≤ 126
        · have HQ := Aside0.mk (show O ++ a0.extract k (k + 1) = strOfNums (34 :: ((bl a0).take (k + 1)).flatMap q1) from by
            rw [HE.out]; exact HSN.out [c] (by unfold q1; rw [if_neg h34, if_pos h32]))
          have hb3 : decide (32 ≤ c) = true := decide_eq_true h32.1
          have hb4 : decide (c ≤ 126) = true := decide_eq_true h32.2
          clear h34 h32
          go_wp2
          go_roundw
          case rel => exact ⟨k + 1, _, _, by omega, by go_num, rfl, ⟨HQ.out⟩, by simp only [ByteArray.size_append, ByteArray.size_extract, s92, s9220]; omega, rfl⟩
          case measure => simp [intOf]; omega
        · have hex : (decide (32 ≤ c) = false) ∨ (decide (32 ≤ c) = true ∧ decide (c ≤ 126) = false) := by
            by_cases h : 32 ≤ c
            · exact .inr ⟨decide_eq_true h, decide_eq_false (by omega)⟩
            · exact .inl (decide_eq_false h)
          have HQ0 := Aside0.mk (HSN.out [92, 120, hexd (c / 16), hexd (c % 16)] (by unfold q1; rw [if_neg h34, if_neg h32]))
          clear h34 h32
          rcases hex with hb3 | ⟨hb3, hb4⟩
          all_goals
            have hr1 := run_hex (c / 16) (by omega)
            have hr2 := run_hex (c % 16) (by omega)
            have hs1 : ∀ n, (strOfNums [n]).size = 1 := fun n => rfl
            have hso : O.size + 4 ≤ 9223372036854775807 := by have := HS.out; omega
            have HQ := Aside0.mk (show O ++ ((⟨#[92, 120]⟩ : ByteArray) ++ strOfNums [hexd (c / 16)] ++ strOfNums [hexd (c % 16)]) = strOfNums (34 :: ((bl a0).take (k + 1)).flatMap q1) from by
              rw [← HQ0.out, show [92, 120, hexd (c / 16), hexd (c % 16)] = [92, 120] ++ [hexd (c / 16)] ++ [hexd (c % 16)] from rfl, nums_append, nums_append]; rfl)
            generalize hexd (c / 16) = d1 at *
            generalize hexd (c % 16) = d2 at *
            go_wp2
            go_quiet (fail)
            go_wp2
            go_roundw
            case rel => exact ⟨k + 1, _, _, by omega, by go_num, rfl, ⟨HQ.out⟩, by simp only [ByteArray.size_append, hs1, s9220]; omega, rfl⟩
            case measure => simp [intOf]; omega
    · obtain rfl : k = a0.size := by omega
      have HFIN := Aside0.mk (show O ++ (⟨#[34]⟩ : ByteArray) = strOfNums (34 :: (bl a0).flatMap q1 ++ [34]) by
        rw [show 34 :: (bl a0).flatMap q1 ++ [34] = (34 :: (bl a0).flatMap q1) ++ [34] from rfl, nums_append, HO.out, show (bl a0).take a0.size = bl a0 from by rw [← bl_length]; exact List.take_length]; rfl)
      have hsz2 : O.size + 1 ≤ 9223372036854775807 := by have := HS.out; omega
      go_wp2
      go_ret
      exact ⟨congrArg (fun x => Ending.returned (Value.string x)) HFIN.out, _, rfl⟩
end Go.Proofs.YtkenihkjdbdlkaaDoor.XIn
