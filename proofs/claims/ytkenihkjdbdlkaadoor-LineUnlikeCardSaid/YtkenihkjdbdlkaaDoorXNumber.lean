/-
  text.Number: a numeral, if it is written so (its walk).
-/
import Derived.Laws.CopyOwn
import Derived.ArgAppend
import Derived.Below
import Derived.BigQuiet
import Derived.Deep.AppendLies
import Derived.Deep.CutBlock
import Derived.Deep.DeepCutAuto
import Derived.Deep.Draws
import Derived.Deep.LoopGhost
import Derived.Deep.OwnRows
import Derived.Deep.QuietTactic
import Derived.Deep.RegionHeld3
import Derived.Deep.WholeRow
import Derived.KernelRfl
import Derived.Laws.BitsLemmas
import Derived.Laws.BytesArg
import Derived.Laws.IdiomCopy
import Derived.Laws.MakeOwn
import Derived.Laws.OwnMore
import Derived.Laws.Rows
import Derived.Laws.Slices
import Derived.Lib.AppendStr
import Derived.Lib.ConvBytes
import Derived.Lib.Hide
import Derived.Maps.AppendAt
import Derived.OrdersHeld
import Derived.Outline
import Derived.OwnWalk
import Derived.RowKit
import Derived.RowKit3
import Derived.Tactics
import Derived.WalkKit
import Derived.WideLaws
import Derived.Test.YtkenihkjdbdlkaaDoorProg
import Derived.Test.YtkenihkjdbdlkaaDoorWApart
import Derived.Test.YtkenihkjdbdlkaaDoorWArr
import Derived.Test.YtkenihkjdbdlkaaDoorWAt
import Derived.Test.YtkenihkjdbdlkaaDoorWEqStruct
import Derived.Test.YtkenihkjdbdlkaaDoorWFoot
import Derived.Test.YtkenihkjdbdlkaaDoorWFootNe
import Derived.Test.YtkenihkjdbdlkaaDoorWFour
import Derived.Test.YtkenihkjdbdlkaaDoorWGuard
import Derived.Test.YtkenihkjdbdlkaaDoorWInv
import Derived.Test.YtkenihkjdbdlkaaDoorWInvWords
import Derived.Test.YtkenihkjdbdlkaaDoorWKept
import Derived.Test.YtkenihkjdbdlkaaDoorWLast
import Derived.Test.YtkenihkjdbdlkaaDoorWMore
import Derived.Test.YtkenihkjdbdlkaaDoorWN
import Derived.Test.YtkenihkjdbdlkaaDoorWNEv
import Derived.Test.YtkenihkjdbdlkaaDoorWQPut
import Derived.Test.YtkenihkjdbdlkaaDoorWRepsOne
import Derived.Test.YtkenihkjdbdlkaaDoorWShare
import Derived.Test.YtkenihkjdbdlkaaDoorWTab
import Derived.Test.YtkenihkjdbdlkaaDoorWWords
import Derived.Test.YtkenihkjdbdlkaaDoorWZeros
import Derived.Test.YtkenihkjdbdlkaaDoorShelf
import Derived.Test.YtkenihkjdbdlkaaDoorXTabs
namespace Go.Proofs.YtkenihkjdbdlkaaDoor.XNumber
open Go.RowKit Go.Proofs.YtkenihkjdbdlkaaDoorW.PrintWords Go.Proofs.YtkenihkjdbdlkaaDoorW.PrintLast Go.Proofs.YtkenihkjdbdlkaaDoorW.PrintMore XTabs
set_option linter.unusedVariables false
set_option linter.unusedSimpArgs false
def numberP (s : ByteArray) : Int × Bool :=
  match Lib.atoiAll s.data.toList with
  | .ok v => if Lib.itoa v = s.data.toList then (v, true) else (0, false)
  | _ => (0, false)
def number (s : ByteArray) : Option (Int × Bool) := if s.size ≤ 140737488351232 then some (numberP s) else none
theorem atoi_ok (s : ByteArray) (hs : s.size ≤ 140737488351232) (v : Int) (h : Lib.atoiAll s.data.toList = .ok v) (w : World) :
    Calls Tryd.prog 50 #[.string s] w fun e w' => e = .returned (.tuple #[.int .i64 v, .nilIface]) ∧ Below w.heap.size w w' :=
  (Tryd.strconv_Atoi_ok s (by omega) v h w).mono fun e w' ⟨he, hw⟩ => ⟨he, by
    rcases hw with rfl | ⟨t, rfl⟩
    · exact Below.refl _ _
    · exact Lib.bytesWorld_below _ _ _⟩
theorem atoi_bad (s : ByteArray) (hs : s.size ≤ 140737488351232) (h : ∀ v, Lib.atoiAll s.data.toList ≠ .ok v) (w : World) (hT : Tabs w) :
    Calls Tryd.prog 50 #[.string s] w fun e w' => ∃ (n : Int) (p : Addr), e = .returned (.tuple #[.int .i64 n, .iface 93 (.pointer (some p))]) ∧ Below w.heap.size w w' := by
  obtain ⟨tp, p, hv⟩ := hT.syn
  obtain ⟨tp', p', hv'⟩ := hT.rng
  rcases hh : Lib.atoiAll s.data.toList with v | _ | _
  · exact absurd hh (h v)
  · exact (Tryd.strconv_Atoi_syntax_var s (by omega) hh tp p w hv).mono fun e w' ⟨N, he, _, _, hb⟩ => ⟨_, _, he, hb⟩
  · exact (Tryd.strconv_Atoi_range_var s (by omega) hh tp' p' w hv').mono fun e w' ⟨N, he, _, _, hb⟩ => ⟨_, _, he, hb⟩
theorem ret_pair {a b : Int} {c d : Bool} (h : (a, c) = (b, d)) : Ending.returned (.tuple #[.int .i64 a, .bool c]) = .returned (.tuple #[.int .i64 b, .bool d]) := by
  injection h with h1 h2; rw [h1, h2]
theorem calls (a0 : ByteArray) (r1 : Int) (r2 : Bool) (w : World) (h : number a0 = some (r1, r2)) (hT : Tabs w) :
    Calls Tryd.prog 28 #[.string a0] w fun e w' => e = .returned (.tuple #[.int .i64 r1, .bool r2]) ∧ Below w.heap.size w w' := by
  by_cases hs : a0.size ≤ 140737488351232
  rotate_left
  · rw [number, if_neg hs] at h; cases h
  rw [number, if_pos hs] at h
  have h := Option.some.inj h
  by_cases hok : ∃ v, Lib.atoiAll a0.data.toList = .ok v
  · obtain ⟨v, hv⟩ := hok
    obtain ⟨hb0, hb1⟩ := Lib.atoiAll_bounds hv
    have hA := atoi_ok a0 hs v hv
    have hI := fun w hT => itoa_any v hb0 hb1 w hT
    unfold numberP at h
    rw [hv] at h
    simp only at h
    have H := Aside0.mk h
    have HT := Aside0.mk hT
    clear h hT hv hs
    have hlist := toList_eq a0
    by_cases he : Lib.itoa v = a0.data.toList
    · have H2 := Aside0.mk (show (v, true) = (r1, r2) by have := H.out; rwa [if_pos he] at this)
      have heq : (Lib.itoa v == a0.toList) = true := by rw [he, hlist, beq_self_eq_true]
      clear H he hlist h
      go_enter Tryd.func28, Tryd.ntmps28
      go_wp2_with fail
      refine (hA _).mono ?_
      rintro e w1 ⟨rfl, hb1'⟩
      have HT1 := Aside0.mk (HT.out.below hb1')
      have HB1 := Aside0.mk hb1'
      clear hb1'
      go_wp2_with fail
      refine (hI _ HT1.out).mono ?_
      rintro e w2 ⟨rfl, hb2⟩
      have HB2 := Aside0.mk (below_step HB1.out hb2)
      clear hb2 hA hI
      go_wp2
      go_ret2
      exact ⟨ret_pair H2.out, HB2.out⟩
    · have H2 := Aside0.mk (show (0, false) = (r1, r2) by have := H.out; rwa [if_neg he] at this)
      have heq : (Lib.itoa v == a0.toList) = false := by rw [hlist]; exact beq_eq_false_iff_ne.2 he
      clear H he hlist h
      go_enter Tryd.func28, Tryd.ntmps28
      go_wp2_with fail
      refine (hA _).mono ?_
      rintro e w1 ⟨rfl, hb1'⟩
      have HT1 := Aside0.mk (HT.out.below hb1')
      have HB1 := Aside0.mk hb1'
      clear hb1'
      go_wp2_with fail
      refine (hI _ HT1.out).mono ?_
      rintro e w2 ⟨rfl, hb2⟩
      have HB2 := Aside0.mk (below_step HB1.out hb2)
      clear hb2 hA hI
      go_wp2
      go_ret2
      exact ⟨ret_pair H2.out, HB2.out⟩
  · have hA := atoi_bad a0 hs (fun v hv => hok ⟨v, hv⟩)
    have H := Aside0.mk (show (0, false) = (r1, r2) by
      rw [← h]
      unfold numberP
      cases hv : Lib.atoiAll a0.data.toList with
      | ok v => exact absurd ⟨v, hv⟩ hok
      | _ => rfl)
    have HT := Aside0.mk hT
    clear h hT hs hok
    go_enter Tryd.func28, Tryd.ntmps28
    go_wp2_with fail
    refine (hA _ HT.out).mono ?_
    rintro e w1 ⟨n, p, rfl, hb1'⟩
    have HB1 := Aside0.mk hb1'
    clear hb1'
    go_wp2
    go_ret2
    exact ⟨ret_pair H.out, HB1.out⟩
end Go.Proofs.YtkenihkjdbdlkaaDoor.XNumber
