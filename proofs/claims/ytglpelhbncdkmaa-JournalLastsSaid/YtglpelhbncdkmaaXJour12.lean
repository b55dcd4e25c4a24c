/-
  the fixed fact of chapter 7, by its walk.
-/
import Derived.Laws.CopyOwn
import Derived.ArgAppend
import Derived.Below
import Derived.BigQuiet
import Derived.Deep.AppendLies
import Derived.Deep.CutBlock
import Derived.Deep.DeepCutAuto
import Derived.Deep.Draws
import Derived.Deep.LoopGhost
import Derived.Deep.OwnRows
import Derived.Deep.QuietTactic
import Derived.Deep.RegionHeld3
import Derived.Deep.WholeRow
import Derived.KernelRfl
import Derived.Laws.BitsLemmas
import Derived.Laws.BytesArg
import Derived.Laws.IdiomCopy
import Derived.Laws.MakeOwn
import Derived.Laws.OwnMore
import Derived.Laws.Rows
import Derived.Laws.Slices
import Derived.Lib.AppendStr
import Derived.Lib.ConvBytes
import Derived.Lib.Hide
import Derived.Maps.AppendAt
import Derived.OrdersHeld
import Derived.Outline
import Derived.OwnWalk
import Derived.RowKit
import Derived.RowKit3
import Derived.Tactics
import Derived.WalkKit
import Derived.WideLaws
import Derived.Test.YtglpelhbncdkmaaProg
import Derived.Test.YtglpelhbncdkmaaWApart
import Derived.Test.YtglpelhbncdkmaaWArr
import Derived.Test.YtglpelhbncdkmaaWAt
import Derived.Test.YtglpelhbncdkmaaWEqStruct
import Derived.Test.YtglpelhbncdkmaaWFoot
import Derived.Test.YtglpelhbncdkmaaWFootNe
import Derived.Test.YtglpelhbncdkmaaWFour
import Derived.Test.YtglpelhbncdkmaaWGuard
import Derived.Test.YtglpelhbncdkmaaWInv
import Derived.Test.YtglpelhbncdkmaaWInvWords
import Derived.Test.YtglpelhbncdkmaaWKept
import Derived.Test.YtglpelhbncdkmaaWLast
import Derived.Test.YtglpelhbncdkmaaWMore
import Derived.Test.YtglpelhbncdkmaaWN
import Derived.Test.YtglpelhbncdkmaaWNEv
import Derived.Test.YtglpelhbncdkmaaWQPut
import Derived.Test.YtglpelhbncdkmaaWRepsOne
import Derived.Test.YtglpelhbncdkmaaWShare
import Derived.Test.YtglpelhbncdkmaaWTab
import Derived.Test.YtglpelhbncdkmaaWWords
import Derived.Test.YtglpelhbncdkmaaWZeros
import Derived.Test.YtglpelhbncdkmaaXSlices

import Derived.Test.YtglpelhbncdkmaaXJour11
namespace Go.Proofs.Ytglpelhbncdkmaa.XJour
open Go.RowKit Go.Proofs.YtglpelhbncdkmaaW.PrintWords Go.Proofs.YtglpelhbncdkmaaW.PrintLast Go.Proofs.YtglpelhbncdkmaaW.PrintMore XDisk XChunk XUnpack XData
set_option linter.unusedVariables false
set_option linter.unusedSimpArgs false
def kFirst : List Int := [102, 105, 114, 115, 116]
def kSecond : List Int := [115, 101, 99, 111, 110, 100]
def a1 : St := (formatF (fresh 20) 2 kFirst).2
def a2 : St := (checkpointF (openJ a1 2) a1 kSecond).2.2
def j2 : Jr := (checkpointF (openJ a1 2) a1 kSecond).2.1
def a3 : St := (appendF j2 a2 [97]).2.2
def j3 : Jr := (appendF j2 a2 [97]).2.1
def a4 : St := (appendF j3 a3 [98]).2.2
def j4 : Jr := (appendF j3 a3 [98]).2.1
def a5 : St := (commitF j4 a4).2.2
def j5 : Jr := (commitF j4 a4).2.1
def a6 : St := (appendF j5 a5 [99]).2.2
def j6 : Jr := (appendF j5 a5 [99]).2.1
def a7 : St := Crash a6 0 (-1) 0
theorem awake_facts : (formatF (fresh 20) 2 kFirst).1 = 0 ∧ 0 ≤ (openCk a1 2).1 ∧ (openCk a1 2).2.2.2 = kFirst ∧ (openRec a1 2).1 = [] ∧ (checkpointF (openJ a1 2) a1 kSecond).1 = 0 ∧ (appendF j2 a2 [97]).1 = 0 ∧ (appendF j3 a3 [98]).1 = 0 ∧ (commitF j4 a4).1 = 0 ∧ (appendF j5 a5 [99]).1 = 0 ∧
    0 ≤ (openCk a7 2).1 ∧ (openCk a7 2).2.2.2 = kSecond ∧ (openRec a7 2).1 = [[97], [98]] ∧ (openJ a7 2).seq = 2 ∧ (openJ a7 2).epoch = 2 ∧ mayF a1 2 = true ∧ mayF a7 2 = true := by decide +kernel
theorem a1_e : (formatF (fresh 20) 2 kFirst).2 = a1 := rfl
theorem a2_e : (checkpointF (openJ a1 2) a1 kSecond).2.2 = a2 := rfl
theorem j2_e : (checkpointF (openJ a1 2) a1 kSecond).2.1 = j2 := rfl
theorem a3_e : (appendF j2 a2 [97]).2.2 = a3 := rfl
theorem j3_e : (appendF j2 a2 [97]).2.1 = j3 := rfl
theorem a4_e : (appendF j3 a3 [98]).2.2 = a4 := rfl
theorem j4_e : (appendF j3 a3 [98]).2.1 = j4 := rfl
theorem a5_e : (commitF j4 a4).2.2 = a5 := rfl
theorem j5_e : (commitF j4 a4).2.1 = j5 := rfl
theorem a6_e : (appendF j5 a5 [99]).2.2 = a6 := rfl
theorem j6_e : (appendF j5 a5 [99]).2.1 = j6 := rfl
theorem a7_e : Crash a6 0 (-1) 0 = a7 := rfl
attribute [local irreducible] a1 a2 a3 a4 a5 a6 a7 j2 j3 j4 j5 j6 openJ openCk openRec formatF checkpointF appendF commitF
theorem format_fine {s : St} {slot : Int} {l : List Int} (hS : Fine s) (hb : Bytes l) : Fine (formatF s slot l).2 ∧ (formatF s slot l).2.good.length = s.good.length ∧ (formatF s slot l).2.fuse ≤ s.fuse := by
  unfold formatF
  split
  · exact ⟨hS, rfl, Int.le_refl _⟩
  · split
    · exact ⟨hS, rfl, Int.le_refl _⟩
    · have hp := putAll_fine ((packF 1 0 slot l).2.length / 32) s 0 (packF 1 0 slot l).2 hS (packF_len ..).1 (packF_bytes _ _ _ _ hb)
      split
      · exact ⟨hp.1, by rw [hp.2.1], hp.2.2.2⟩
      · have hf := flush_fine hp.1
        exact ⟨hf.1, by rw [hf.2.1, hp.2.1], Int.le_trans hf.2.2 hp.2.2.2⟩
theorem bytes_dec {l : List Int} (h : l.all (fun c => decide (0 ≤ c ∧ c < 256)) = true) : Bytes l := fun c hc => of_decide_eq_true (List.all_eq_true.1 h c hc)
theorem a1_ok : Fine a1 ∧ a1.good.length = 20 ∧ a1.fuse ≤ 9223372036854775807 := by
  have := format_fine (slot := 2) (l := kFirst) (fresh_fine 20) (bytes_dec (by decide))
  rw [a1_e] at this
  exact ⟨this.1, this.2.1, Int.le_trans this.2.2 (by decide)⟩
theorem ok1 : JOk (openJ a1 2) a1 := open_ok a1_ok.1 (by rw [a1_ok.2.1]; decide) a1_ok.2.2 awake_facts.2.2.2.2.2.2.2.2.2.2.2.2.2.2.1 awake_facts.2.1
theorem ok2 : JOk j2 a2 := by have := checkpoint_ok (l := kSecond) ok1 (bytes_dec (by decide)); rw [j2_e, a2_e] at this; exact this
theorem ok3 : JOk j3 a3 := by have := append_ok (l := [97]) ok2 (bytes_dec (by decide)); rw [j3_e, a3_e] at this; exact this
theorem ok4 : JOk j4 a4 := by have := append_ok (l := [98]) ok3 (bytes_dec (by decide)); rw [j4_e, a4_e] at this; exact this
theorem ok5 : JOk j5 a5 := by have := commit_ok ok4; rw [j5_e, a5_e] at this; exact this
theorem ok6 : JOk j6 a6 := by have := append_ok (l := [99]) ok5 (bytes_dec (by decide)); rw [j6_e, a6_e] at this; exact this
theorem a7_ok : Fine a7 ∧ a7.good.length ≤ 1024 := by
  have := crash_fine ok6.fine 0 (-1) 0
  rw [a7_e] at this
  exact ⟨this.1, by rw [this.2]; exact ok6.size⟩
theorem closed (l : List Int) : appendF (openJ a1 2) a1 l = (9, openJ a1 2, a1) := by
  have h1 : stateF (openJ a1 2) = 9 := by with_unfolding_all rfl
  unfold appendF; rw [if_pos (by rw [h1]; decide), h1]
/-- A row out of rows. -/
theorem row_at {w : World} {base : Nat} {ok : Nat → Prop} {v : Value} {ls : List (List Int)} (h : Kd.R (Kd.slice 5 (Kd.int .u8)) 23 w base ok v ls) (i : Nat) (hi : i < ls.length) :
    ∃ g c, v = .slice (some ⟨g, 0, none⟩) ls.length c ∧ ∃ Ai ci, w.cell? ⟨g, i, none⟩ = some (.slice Ai ls[i].length ci) ∧ ls[i].length ≤ ci ∧ (Kd.int .u8).C w Ai ls[i].length ls[i] := by
  obtain ⟨g, c, rfl, -, -, hc⟩ := R_front h (by omega)
  obtain ⟨cs, -, ⟨Ai, ci, rfl, hl, hC⟩, hcell⟩ := hc i hi
  refine ⟨g, c, rfl, Ai, ci, ?_, hl, hC⟩
  have := hcell 0 _ rfl
  simpa [Kd.slice] using this
set_option maxHeartbeats 8000000 in
set_option maxRecDepth 10000000 in
theorem awake_walk (w : World) : Calls Try.prog 15 #[] w fun e w' => e = .returned (.bool true) ∧ Below w.heap.size w w' := by
  obtain ⟨f1, f2, f3, f4, f5, f6, f7, f8, f9, f10, f11, f12, f13, f14, f15, f16⟩ := awake_facts
  have F13 := Aside0.mk f13
  have F14 := Aside0.mk f14
  have kc := fun (w : World) (C : Array Value) (n c : Nat) => Lib.run_convert_bytes_const (P := Try.prog) w 23 5 C n c Try.underlying23 Try.underlying5
  clear f13 f14
  go_enter Try.func15, Try.ntmps15
  go_wp2_with fail
  refine (new_in 20 20 (by decide) w).mono ?_
  rintro e w1 ⟨g, rfl, hD1, hB1⟩
  go_wp2_with fail
  have hC1 := XCheck.C_of_marked w1 [102, 105, 114, 115, 116] 5 5 6 (by decide)
  have hD1a := disk_alloc hD1 (.cells ([102, 105, 114, 115, 116].map (Value.int .u8)).toArray 5 (5, 6))
  have hB1a := Below.alloc hB1 hB1.size (.cells ([102, 105, 114, 115, 116].map (Value.int .u8)).toArray 5 (5, 6))
  refine (format_walk w.heap.size g 5 (fresh 20) 2 (some ⟨w1.heap.size, 0, none⟩) [102, 105, 114, 115, 116] _ hD1a (fresh_fine 20) hC1 (Nat.le_refl _) (bytes_dec (by decide)) (by decide) (by decide) hB1a.size).mono ?_
  rintro e w2 ⟨rfl, hD2, hK2⟩
  rw [show (formatF (fresh 20) 2 [102, 105, 114, 115, 116]).1 = 0 from f1]
  have hB2 := below_keep hB1a hB1a.size hK2
  rw [show (formatF (fresh 20) 2 [102, 105, 114, 115, 116]).2 = a1 from a1_e] at hD2
  clear hD1 hB1 hC1 hD1a hB1a hK2
  go_wp2_with fail
  refine (open_walk w.heap.size g a1 2 w2 hD2 a1_ok.1 (by rw [a1_ok.2.1]; decide) f15 hB2.size).mono ?_
  rintro e w3 ⟨hD3, hK3, (⟨hbad, -⟩ | ⟨-, gj, v2, v3, rfl, -, hS3, hL3, hJ3⟩)⟩
  · omega
  rw [f3] at hS3
  rw [f4] at hL3
  have hB3 := below_keepJ hB2 hB2.size hK3
  have hL3' := hL3
  obtain ⟨A2, c2, rfl⟩ := Kd.R_slice hS3
  obtain ⟨A3, c3, rfl⟩ := Kd.R_slice hL3
  have hz3 := hB2.size
  clear hD2 hB2 hK3 hL3 hL3'
  go_wp2_with fail
  have hC3 := XCheck.C_of_marked w3 [120] 5 1 2 (by decide)
  have hD3a := disk_alloc hD3 (.cells ([120].map (Value.int .u8)).toArray 5 (1, 2))
  have hB3a := Below.alloc hB3 hB3.size (.cells ([120].map (Value.int .u8)).toArray 5 (1, 2))
  have hJ3a := jr_below hJ3 ((Below.refl _ _).alloc (Nat.le_refl _) (.cells ([120].map (Value.int .u8)).toArray 5 (1, 2)))
  refine (append_walk w.heap.size gj g 1 (openJ a1 2) a1 (some ⟨w3.heap.size, 0, none⟩) [120] _ hJ3a hD3a ok1 hC3 (Nat.le_refl _) (bytes_dec (by decide)) hB3a.size).mono ?_
  rintro e w4 ⟨rfl, hJ4, hD4, hK4⟩
  rw [closed] at hJ4 hD4 ⊢
  have hS4 := R_keepJ (Kd.R_alloc hS3 (.cells ([120].map (Value.int .u8)).toArray 5 (1, 2))) u8_jT hK4
  have hB4 := below_keepJ hB3a hB3a.size hK4
  clear hD3 hJ3 hB3 hC3 hD3a hB3a hJ3a hK4 hS3
  go_wp2_with fail
  have hC4 := XCheck.C_of_marked w4 [115, 101, 99, 111, 110, 100] 5 6 7 (by decide)
  have hD4a := disk_alloc hD4 (.cells ([115, 101, 99, 111, 110, 100].map (Value.int .u8)).toArray 5 (6, 7))
  have hB4a := Below.alloc hB4 hB4.size (.cells ([115, 101, 99, 111, 110, 100].map (Value.int .u8)).toArray 5 (6, 7))
  have hJ4a := jr_below hJ4 ((Below.refl _ _).alloc (Nat.le_refl _) (.cells ([115, 101, 99, 111, 110, 100].map (Value.int .u8)).toArray 5 (6, 7)))
  refine (checkpoint_walk w.heap.size gj g 6 (openJ a1 2) a1 (some ⟨w4.heap.size, 0, none⟩) [115, 101, 99, 111, 110, 100] _ hJ4a hD4a ok1 hC4 (Nat.le_refl _) (bytes_dec (by decide)) hB4a.size).mono ?_
  rintro e w5 ⟨rfl, hJ5, hD5, hK5⟩
  rw [show (checkpointF (openJ a1 2) a1 [115, 101, 99, 111, 110, 100]).1 = 0 from f5]
  rw [show (checkpointF (openJ a1 2) a1 [115, 101, 99, 111, 110, 100]).2.1 = j2 from j2_e] at hJ5
  rw [show (checkpointF (openJ a1 2) a1 [115, 101, 99, 111, 110, 100]).2.2 = a2 from a2_e] at hD5
  have hS5 := R_keepJ (Kd.R_alloc hS4 (.cells ([115, 101, 99, 111, 110, 100].map (Value.int .u8)).toArray 5 (6, 7))) u8_jT hK5
  have hB5 := below_keepJ hB4a hB4a.size hK5
  clear hD4 hJ4 hB4 hC4 hD4a hB4a hJ4a hK5 hS4
  go_wp2_with fail
  have hC5 := XCheck.C_of_marked w5 [97] 5 1 2 (by decide)
  have hD5a := disk_alloc hD5 (.cells ([97].map (Value.int .u8)).toArray 5 (1, 2))
  have hB5a := Below.alloc hB5 hB5.size (.cells ([97].map (Value.int .u8)).toArray 5 (1, 2))
  have hJ5a := jr_below hJ5 ((Below.refl _ _).alloc (Nat.le_refl _) (.cells ([97].map (Value.int .u8)).toArray 5 (1, 2)))
  refine (append_walk w.heap.size gj g 1 j2 a2 (some ⟨w5.heap.size, 0, none⟩) [97] _ hJ5a hD5a ok2 hC5 (Nat.le_refl _) (bytes_dec (by decide)) hB5a.size).mono ?_
  rintro e w6 ⟨rfl, hJ6, hD6, hK6⟩
  rw [f6]
  rw [j3_e] at hJ6
  rw [a3_e] at hD6
  have hS6 := R_keepJ (Kd.R_alloc hS5 (.cells ([97].map (Value.int .u8)).toArray 5 (1, 2))) u8_jT hK6
  have hB6 := below_keepJ hB5a hB5a.size hK6
  clear hD5 hJ5 hB5 hC5 hD5a hB5a hJ5a hK6 hS5
  go_wp2_with fail
  have hC6 := XCheck.C_of_marked w6 [98] 5 1 2 (by decide)
  have hD6a := disk_alloc hD6 (.cells ([98].map (Value.int .u8)).toArray 5 (1, 2))
  have hB6a := Below.alloc hB6 hB6.size (.cells ([98].map (Value.int .u8)).toArray 5 (1, 2))
  have hJ6a := jr_below hJ6 ((Below.refl _ _).alloc (Nat.le_refl _) (.cells ([98].map (Value.int .u8)).toArray 5 (1, 2)))
  refine (append_walk w.heap.size gj g 1 j3 a3 (some ⟨w6.heap.size, 0, none⟩) [98] _ hJ6a hD6a ok3 hC6 (Nat.le_refl _) (bytes_dec (by decide)) hB6a.size).mono ?_
  rintro e w7 ⟨rfl, hJ7, hD7, hK7⟩
  rw [f7]
  rw [j4_e] at hJ7
  rw [a4_e] at hD7
  have hS7 := R_keepJ (Kd.R_alloc hS6 (.cells ([98].map (Value.int .u8)).toArray 5 (1, 2))) u8_jT hK7
  have hB7 := below_keepJ hB6a hB6a.size hK7
  clear hD6 hJ6 hB6 hC6 hD6a hB6a hJ6a hK7 hS6
  go_wp2_with fail
  refine (commit_walk w.heap.size gj g j4 a4 w7 hJ7 hD7 ok4.fuse ok4.fine.inr).mono ?_
  rintro e w8 ⟨rfl, hJ8, hD8, hK8⟩
  rw [f8]
  rw [j5_e] at hJ8
  rw [a5_e] at hD8
  have hS8 := R_keepJ hS7 u8_jT hK8
  have hB8 := below_keepJ hB7 hB7.size hK8
  clear hD7 hJ7 hB7 hK8 hS7
  go_wp2_with fail
  have hC8 := XCheck.C_of_marked w8 [99] 5 1 2 (by decide)
  have hD8a := disk_alloc hD8 (.cells ([99].map (Value.int .u8)).toArray 5 (1, 2))
  have hB8a := Below.alloc hB8 hB8.size (.cells ([99].map (Value.int .u8)).toArray 5 (1, 2))
  have hJ8a := jr_below hJ8 ((Below.refl _ _).alloc (Nat.le_refl _) (.cells ([99].map (Value.int .u8)).toArray 5 (1, 2)))
  refine (append_walk w.heap.size gj g 1 j5 a5 (some ⟨w8.heap.size, 0, none⟩) [99] _ hJ8a hD8a ok5 hC8 (Nat.le_refl _) (bytes_dec (by decide)) hB8a.size).mono ?_
  rintro e w9 ⟨rfl, hJ9, hD9, hK9⟩
  rw [f9]
  rw [j6_e] at hJ9
  rw [a6_e] at hD9
  have hS9 := R_keepJ (Kd.R_alloc hS8 (.cells ([99].map (Value.int .u8)).toArray 5 (1, 2))) u8_jT hK9
  have hB9 := below_keepJ hB8a hB8a.size hK9
  clear hD8 hJ8 hB8 hC8 hD8a hB8a hJ8a hK9 hS8
  go_wp2_with fail
  refine (crash_walk w.heap.size g a6 0 (-1) 0 w9 hD9 ok6.fine.inr).mono ?_
  rintro e w10 ⟨rfl, hD10, hK10⟩
  have hD10 : DiskAt w.heap.size w10 g a7 := a7_e ▸ hD10
  have hS10 := R_keepJ hS9 u8_jT (KeepJ.of_keep hK10)
  have hB10 := below_keep hB9 hB9.size hK10
  clear hD9 hJ9 hB9 hK10 hS9
  go_wp2_with fail
  refine (open_walk w.heap.size g a7 2 w10 hD10 a7_ok.1 a7_ok.2 f16 hB10.size).mono ?_
  rintro e w11 ⟨hD11, hK11, (⟨hbad, -⟩ | ⟨-, gk, v5, v6, rfl, -, hT11, hM11, hJ11⟩)⟩
  · omega
  rw [f11] at hT11
  rw [f12] at hM11
  have hS11 := R_keepJ hS10 u8_jT hK11
  have hB11 := below_keepJ hB10 hB10.size hK11
  obtain ⟨_, _, e1, -, hS12⟩ := Kd.R_reads hS11
  cases e1
  obtain ⟨A5, c5, rfl, -, hT12⟩ := Kd.R_reads hT11
  obtain ⟨gm, c6, rfl, Ai, ci, hcell, -, hrow⟩ := row_at hM11 1 (by decide)
  have v1 := Kd.C_string (P := Try.prog) (A := A2) (c := c2) Try.underlying23 Try.underlying5 Try.underlying9 hS12
  have v2 := Kd.C_string (P := Try.prog) (A := A5) (c := c5) Try.underlying23 Try.underlying5 Try.underlying9 hT12
  have v3 := Kd.C_string (P := Try.prog) (A := Ai) (c := ci) Try.underlying23 Try.underlying5 Try.underlying9 hrow
  rw [show strOfNums kFirst = (⟨#[102, 105, 114, 115, 116]⟩ : ByteArray) from by decide +kernel] at v1
  rw [show strOfNums kSecond = (⟨#[115, 101, 99, 111, 110, 100]⟩ : ByteArray) from by decide +kernel] at v2
  rw [show strOfNums (([[97], [98]] : List (List Int))[1]'(by decide)) = (⟨#[98]⟩ : ByteArray) from by decide +kernel] at v3
  simp only [List.length_cons, List.length_nil, Nat.zero_add, Nat.reduceAdd, List.getElem_cons_succ, List.getElem_cons_zero] at v3 hcell
  have SEQ := Aside0.mk (fun n => seq_walk w.heap.size gk g (openJ a7 2) _ (jr_drewN hJ11 n))
  have EPO := Aside0.mk (fun n => epoch_walk w.heap.size gk g (openJ a7 2) _ (jr_drewN hJ11 n))
  clear hD10 hB10 hK11 hS10 hS11 hS12 hT11 hT12 hM11 hrow hJ11 f1 f2 f3 f4 f5 f6 f7 f8 f9 f10 f11 f12 f15 f16 kc
  go_wp2_with (first
    | (go_at_call 17; refine (SEQ.out 0).mono ?_; rintro e w12 ⟨rfl, rfl⟩; rw [F13.out])
    | (go_at_call 18; refine (EPO.out 0).mono ?_; rintro e w12 ⟨rfl, rfl⟩; rw [F14.out]))
  go_ret
  exact ⟨rfl, hB11⟩
end Go.Proofs.Ytglpelhbncdkmaa.XJour
