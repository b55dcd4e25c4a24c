/-
  prebendlaw27.small: a command that is not too long (its walk).
-/
import Derived.Laws.CopyOwn
import Derived.ArgAppend
import Derived.Below
import Derived.BigQuiet
import Derived.Deep.AppendLies
import Derived.Deep.CutBlock
import Derived.Deep.DeepCutAuto
import Derived.Deep.Draws
import Derived.Deep.LoopGhost
import Derived.Deep.OwnRows
import Derived.Deep.QuietTactic
import Derived.Deep.RegionHeld3
import Derived.Deep.WholeRow
import Derived.KernelRfl
import Derived.Laws.BitsLemmas
import Derived.Laws.BytesArg
import Derived.Laws.IdiomCopy
import Derived.Laws.MakeOwn
import Derived.Laws.OwnMore
import Derived.Laws.Rows
import Derived.Laws.Slices
import Derived.Lib.AppendStr
import Derived.Lib.ConvBytes
import Derived.Lib.Hide
import Derived.Maps.AppendAt
import Derived.OrdersHeld
import Derived.Outline
import Derived.OwnWalk
import Derived.RowKit
import Derived.RowKit3
import Derived.Tactics
import Derived.WalkKit
import Derived.WideLaws
import Derived.Test.YtkenihkjdbdlkaaDoorProg
import Derived.Test.YtkenihkjdbdlkaaDoorWApart
import Derived.Test.YtkenihkjdbdlkaaDoorWArr
import Derived.Test.YtkenihkjdbdlkaaDoorWAt
import Derived.Test.YtkenihkjdbdlkaaDoorWEqStruct
import Derived.Test.YtkenihkjdbdlkaaDoorWFoot
import Derived.Test.YtkenihkjdbdlkaaDoorWFootNe
import Derived.Test.YtkenihkjdbdlkaaDoorWFour
import Derived.Test.YtkenihkjdbdlkaaDoorWGuard
import Derived.Test.YtkenihkjdbdlkaaDoorWInv
import Derived.Test.YtkenihkjdbdlkaaDoorWInvWords
import Derived.Test.YtkenihkjdbdlkaaDoorWKept
import Derived.Test.YtkenihkjdbdlkaaDoorWLast
import Derived.Test.YtkenihkjdbdlkaaDoorWMore
import Derived.Test.YtkenihkjdbdlkaaDoorWN
import Derived.Test.YtkenihkjdbdlkaaDoorWNEv
import Derived.Test.YtkenihkjdbdlkaaDoorWQPut
import Derived.Test.YtkenihkjdbdlkaaDoorWRepsOne
import Derived.Test.YtkenihkjdbdlkaaDoorWShare
import Derived.Test.YtkenihkjdbdlkaaDoorWTab
import Derived.Test.YtkenihkjdbdlkaaDoorWWords
import Derived.Test.YtkenihkjdbdlkaaDoorWZeros
import Derived.Test.YtkenihkjdbdlkaaDoorShelf
import Derived.Test.YtkenihkjdbdlkaaDoorXEsc
namespace Go.Proofs.YtkenihkjdbdlkaaDoor.XSmall
open Go.RowKit Go.Proofs.YtkenihkjdbdlkaaDoorW.PrintWords Go.Proofs.YtkenihkjdbdlkaaDoorW.PrintLast Go.Proofs.YtkenihkjdbdlkaaDoorW.PrintMore XEsc
set_option linter.unusedVariables false
set_option linter.unusedSimpArgs false
def cut (s : ByteArray) : ByteArray := if 60 < s.size then s.extract 0 60 else s
def cutA (l : List Int) : List Int := if 20 < l.length then l.take 20 else l
def small (a : Int) (b c : ByteArray) (l : List Int) : Option (Int × ByteArray × ByteArray × List Int) := some (a, cut b, cut c, cutA l)
theorem info3 : (Tryd.prog.info? 3).map (fun i => (i.zero, i.size, i.bytes)) = some (some (.int .i64 0), 1, 8) := by kernel_rfl
theorem cut_yes {s : ByteArray} (h : 60 < s.size) : cut s = s.extract 0 60 := by unfold cut; rw [if_pos h]
theorem cut_no {s : ByteArray} (h : ¬ 60 < s.size) : cut s = s := by unfold cut; rw [if_neg h]
def Out (P : Nat → Prop) (a : Int) (b c : ByteArray) (l : List Int) (w : World) (e : Ending) (w' : World) : Prop :=
  ∃ v3_ : Value, e = .returned (.agg #[.int .i64 a, .string b, .string c, v3_]) ∧ Kd.V (Kd.int .i64) 3 w' w.heap.size (fun k_ => (P k_ ∨ w.heap.size ≤ k_)) v3_ l ∧ Below w.heap.size w w'
set_option maxRecDepth 100000 in
set_option maxHeartbeats 4000000 in
theorem calls' (P0_3 : Nat → Prop) (a : Int) (b c : ByteArray) (A : Option Addr) (n c0 : Nat) (l : List Int) (w : World) (hn : n = l.length) (hc : n ≤ c0) (hl : n ≤ 9223372036854775807) (hF : Kd.F (Kd.int .i64) w (fun k_ => P0_3 k_) A n l) :
    Calls Tryd.prog 13 #[.agg #[.int .i64 a, .string b, .string c, .slice A n c0]] w (Out P0_3 a (cut b) (cut c) (cutA l) w) := by
  obtain ⟨i, hi, _, hsz, _⟩ := info_parts info3
  have hcut : 20 < n → ∀ W : World, (Instr.slice 22 (.slice A n c0) none (some (.int .i64 20)) none).run Tryd.prog W = .ok (.slice A 20 c0) W := fun h => by
    have := cut_to (P := Tryd.prog) 22 3 .i64 Tryd.underlying22 hi A n c0 20 (by decide) (by omega) hc
    exact this
  have HF := Aside0.mk hF
  have HN := Aside0.mk hn
  clear hF hn
  by_cases h1 : 20 < n
  all_goals
    by_cases h2 : 60 < b.size
    all_goals
      by_cases h3 : 60 < c.size
      all_goals
        first | have hcc := hcut h1 | skip
        clear hcut
        go_enter Tryd.func13, Tryd.ntmps13
        go_wp2
        first | rw [cut_yes h2] | rw [cut_no h2]
        first | rw [cut_yes h3] | rw [cut_no h3]
        have HB := fun o1 o2 => (((Below.refl w.heap.size w).alloc (Nat.le_refl _) o1).alloc (by simp) o2)
        first
          | (refine bodyPost_ret (v := .agg #[.int .i64 a, .string _, .string _, .slice A 20 c0]) (by simp [results, Tryd.results13, go_sem]; done) rfl ⟨_, rfl, ?_, HB _ _⟩
             have hct : cutA l = l.take 20 := by unfold cutA; rw [if_pos (by rw [← HN.out]; exact h1)]
             rw [hct]
             have hlt : (l.take 20).length = 20 := by rw [List.length_take, ← HN.out]; omega
             have hF20 := Kd.F_take (m := 20) (by rw [← HN.out]; exact HF.out) (by rw [← HN.out]; omega)
             rw [hlt] at hF20
             have hV : Kd.V (Kd.int .i64) 3 w w.heap.size (fun k_ => (P0_3 k_ ∨ w.heap.size ≤ k_)) (.slice A 20 c0) (l.take 20) := by
               have := Kd.V_mk (d := Kd.int .i64) (e := 3) (base := w.heap.size) (W := w) (ok := P0_3) (A := A) (c := c0) (xs := l.take 20) (by rw [hlt]; omega) (by rw [hlt]; exact hF20)
               rw [hlt] at this
               exact Kd.V_mono this (fun k hk => .inl hk)
             exact Kd.V_below hV (HB _ _))
          | (refine bodyPost_ret (v := .agg #[.int .i64 a, .string _, .string _, .slice A n c0]) (by simp [results, Tryd.results13, go_sem]; done) rfl ⟨_, rfl, ?_, HB _ _⟩
             have hct : cutA l = l := by unfold cutA; rw [if_neg (by rw [← HN.out]; exact h1)]
             rw [hct]
             have hV : Kd.V (Kd.int .i64) 3 w w.heap.size (fun k_ => (P0_3 k_ ∨ w.heap.size ≤ k_)) (.slice A n c0) l := by
               have := Kd.V_mk (d := Kd.int .i64) (e := 3) (base := w.heap.size) (W := w) (ok := P0_3) (A := A) (c := c0) (xs := l) (by rw [← HN.out]; exact hc) (by rw [← HN.out]; exact HF.out)
               rw [← HN.out] at this
               exact Kd.V_mono this (fun k hk => .inl hk)
             exact Kd.V_below hV (HB _ _))
theorem calls (P0_3 : Nat → Prop) (a0_0 : Int) (a0_1 : ByteArray) (a0_2 : ByteArray) (A0_3 : Option Addr) (c0_3 : Nat) (l0_3 : List Int) (r1 : Int) (r2 : ByteArray) (r3 : ByteArray) (r4 : List Int) (w : World) (hs0_3 : Kd.V (Kd.int .i64) 3 w w.heap.size (fun k_ => P0_3 k_) (.slice A0_3 l0_3.length c0_3) l0_3) (h : small a0_0 a0_1 a0_2 l0_3 = some (r1, r2, r3, r4)) :
    Calls Tryd.prog 13 #[.agg #[.int .i64 a0_0, .string a0_1, .string a0_2, .slice A0_3 l0_3.length c0_3]] w fun e w' => ∃ v3_ : Value, e = .returned (.agg #[.int .i64 r1, .string r2, .string r3, v3_]) ∧ Kd.V (Kd.int .i64) 3 w' w.heap.size (fun k_ => (P0_3 k_ ∨ w.heap.size ≤ k_)) v3_ r4 ∧ Below w.heap.size w w' := by
  unfold small at h
  have h := Option.some.inj h
  simp only [Prod.mk.injEq] at h
  obtain ⟨rfl, rfl, rfl, rfl⟩ := h
  obtain ⟨_, hc, hF⟩ := Kd.V_at hs0_3
  exact calls' P0_3 a0_0 a0_1 a0_2 A0_3 l0_3.length c0_3 l0_3 w rfl hc (Kd.F_now hF).2.1 hF
end Go.Proofs.YtkenihkjdbdlkaaDoor.XSmall
