/-
  package journal by walks, sixth part: Append.
-/
import Derived.Laws.CopyOwn
import Derived.ArgAppend
import Derived.Below
import Derived.BigQuiet
import Derived.Deep.AppendLies
import Derived.Deep.CutBlock
import Derived.Deep.DeepCutAuto
import Derived.Deep.Draws
import Derived.Deep.LoopGhost
import Derived.Deep.OwnRows
import Derived.Deep.QuietTactic
import Derived.Deep.RegionHeld3
import Derived.Deep.WholeRow
import Derived.KernelRfl
import Derived.Laws.BitsLemmas
import Derived.Laws.BytesArg
import Derived.Laws.IdiomCopy
import Derived.Laws.MakeOwn
import Derived.Laws.OwnMore
import Derived.Laws.Rows
import Derived.Laws.Slices
import Derived.Lib.AppendStr
import Derived.Lib.ConvBytes
import Derived.Lib.Hide
import Derived.Maps.AppendAt
import Derived.OrdersHeld
import Derived.Outline
import Derived.OwnWalk
import Derived.RowKit
import Derived.RowKit3
import Derived.Tactics
import Derived.WalkKit
import Derived.WideLaws
import Derived.Test.YtglpelhbncdkmaaProg
import Derived.Test.YtglpelhbncdkmaaWApart
import Derived.Test.YtglpelhbncdkmaaWArr
import Derived.Test.YtglpelhbncdkmaaWAt
import Derived.Test.YtglpelhbncdkmaaWEqStruct
import Derived.Test.YtglpelhbncdkmaaWFoot
import Derived.Test.YtglpelhbncdkmaaWFootNe
import Derived.Test.YtglpelhbncdkmaaWFour
import Derived.Test.YtglpelhbncdkmaaWGuard
import Derived.Test.YtglpelhbncdkmaaWInv
import Derived.Test.YtglpelhbncdkmaaWInvWords
import Derived.Test.YtglpelhbncdkmaaWKept
import Derived.Test.YtglpelhbncdkmaaWLast
import Derived.Test.YtglpelhbncdkmaaWMore
import Derived.Test.YtglpelhbncdkmaaWN
import Derived.Test.YtglpelhbncdkmaaWNEv
import Derived.Test.YtglpelhbncdkmaaWQPut
import Derived.Test.YtglpelhbncdkmaaWRepsOne
import Derived.Test.YtglpelhbncdkmaaWShare
import Derived.Test.YtglpelhbncdkmaaWTab
import Derived.Test.YtglpelhbncdkmaaWWords
import Derived.Test.YtglpelhbncdkmaaWZeros
import Derived.Test.YtglpelhbncdkmaaXSlices

import Derived.StillTailTactics
import Derived.BigRegion
import Derived.Test.YtglpelhbncdkmaaXJour5
namespace Go.Proofs.Ytglpelhbncdkmaa.XJour
open Go.RowKit Go.Proofs.YtglpelhbncdkmaaW.PrintWords Go.Proofs.YtglpelhbncdkmaaW.PrintLast Go.Proofs.YtglpelhbncdkmaaW.PrintMore XDisk XChunk
set_option linter.unusedVariables false
set_option linter.unusedSimpArgs false
theorem once_len : ∀ (n : Nat) (l : List (Int × List Int)), (∀ x ∈ l, 0 ≤ x.1 ∧ x.1 < (n : Nat)) → Once l → l.length ≤ n
  | 0, [], _, _ => Nat.le_refl _
  | 0, x :: l, h, _ => by have := h x (List.mem_cons_self ..); omega
  | n + 1, l, h, ho => by
    have key : ∀ l : List (Int × List Int), Once l → ∃ l', Once l' ∧ l.length ≤ l'.length + 1 ∧ ∀ x ∈ l', x ∈ l ∧ x.1 ≠ (n : Int) := by
      intro l
      induction l with
      | nil => intro _; exact ⟨[], trivial, by simp, fun x hx => by cases hx⟩
      | cons x l ih =>
        intro ho
        by_cases hx : x.1 = (n : Int)
        · exact ⟨l, ho.2, Nat.le_refl _, fun y hy => ⟨List.mem_cons_of_mem _ hy, fun e => ho.1 y hy (e.trans hx.symm)⟩⟩
        · obtain ⟨l', h1, h2, h3⟩ := ih ho.2
          refine ⟨x :: l', ⟨fun y hy => ho.1 y (h3 y hy).1, h1⟩, by simp; omega, fun y hy => ?_⟩
          rcases List.mem_cons.1 hy with rfl | hy
          · exact ⟨List.mem_cons_self .., hx⟩
          · exact ⟨List.mem_cons_of_mem _ (h3 y hy).1, (h3 y hy).2⟩
    obtain ⟨l', h1, h2, h3⟩ := key l ho
    have := once_len n l' (fun x hx => by have := h x (h3 x hx).1; have := (h3 x hx).2; omega) h1
    omega
structure JOk (j : Jr) (s : St) : Prop where
  fine : Fine s
  size : s.good.length ≤ 1024
  fuse : s.fuse ≤ 9223372036854775807
  slot : 1 ≤ j.slot ∧ 2 * j.slot < (s.good.length : Nat)
  place : j.place = 0 ∨ j.place = 1
  epoch : 0 ≤ j.epoch ∧ j.epoch ≤ 4294967295
  seq : 0 ≤ j.seq ∧ j.seq ≤ 4294967295
  next : 2 * j.slot ≤ j.next ∧ j.next ≤ (s.good.length : Nat)
theorem JOk.cache {j : Jr} {s : St} (h : JOk j s) : s.cache.length ≤ 1024 := Nat.le_trans (once_len s.good.length s.cache h.fine.inr h.fine.once) h.size
def appendF (j : Jr) (s : St) (l : List Int) : Int × Jr × St :=
  if stateF j ≠ 0 then (stateF j, j, s) else if 65535 < l.length ∨ j.seq = 4294967295 then (2, j, s)
  else if (s.good.length : Nat) - j.next < ((sectors l.length : Nat) : Int) then (5, j, s)
  else if (putAll (sectors l.length) s j.next (packed j.epoch (j.seq + 1) l)).1 = 0 then (0, { j with seq := j.seq + 1, next := j.next + (sectors l.length : Nat), down := false }, (putAll (sectors l.length) s j.next (packed j.epoch (j.seq + 1) l)).2)
  else ((putAll (sectors l.length) s j.next (packed j.epoch (j.seq + 1) l)).1, { j with down := true }, (putAll (sectors l.length) s j.next (packed j.epoch (j.seq + 1) l)).2)
theorem KeepJ.drewN {base : Nat} {w w' : World} (h : KeepJ base w w') (n : Nat) : KeepJ base w (w'.drewN n) := ⟨h.os, h.tape, h.output, h.size, h.block⟩
theorem wr64 (n : Int) (h1 : -9223372036854775808 ≤ n) (h2 : n ≤ 9223372036854775807) : IntKind.i64.wrap n = n := by rw [i64_w]; unfold wrap64; omega
attribute [local irreducible] packed putAll sectors
set_option maxHeartbeats 2000000 in
theorem append_walk (base gj g c : Nat) (j : Jr) (s : St) (A : Option Addr) (l : List Int) (w : World) (hj : JrAt base w gj g j) (h : DiskAt base w g s) (hO : JOk j s) (hr : Kd.C (Kd.int .u8) w A l.length l) (hc : l.length ≤ c) (hb : Bytes l) (hbase : base ≤ w.heap.size) :
    Calls Try.prog 12 #[.pointer (some ⟨gj, 0, none⟩), .slice A l.length c] w fun e w' => e = .returned (.int .i64 (appendF j s l).1) ∧ JrAt base w' gj g (appendF j s l).2.1 ∧ DiskAt base w' g (appendF j s l).2.2 ∧ KeepJ base w w' := by
  have SW := Aside0.mk (fun w1 h1 => state_walk base gj g j w1 h1)
  have HJ := Aside0.mk hj
  have HD := Aside0.mk h
  have hm := hr.2.1
  unfold appendF
  by_cases hst : stateF j = 0
  rotate_left
  · rw [if_pos hst]
    obtain ⟨e1, he1⟩ : ∃ r, stateF j = r := ⟨_, rfl⟩
    rw [he1] at SW hst ⊢
    have hz' : (e1 == 0) = false := by simpa using hst
    clear hj h hO hr
    go_enter Try.func12, Try.ntmps12
    go_wp2_with (go_at_call 29; refine (SW.out _ HJ.out).mono ?_; rintro e w1 ⟨rfl, rfl⟩)
    go_ret
    exact ⟨rfl, HJ.out, HD.out, KeepJ.refl _ _⟩
  rw [if_neg (fun h => h hst)]
  rw [hst] at SW
  obtain ⟨hc0, hc1, hc2, hc3, hc4, hc5, -, -⟩ := jr_cells hj
  by_cases h1 : (65535 : Int) < (l.length : Int)
  · rw [if_pos (.inl (by omega))]
    have b1 : decide ((65535 : Int) < (l.length : Int)) = true := decide_eq_true h1
    clear hj h hO hr
    go_enter Try.func12, Try.ntmps12
    go_wp2_with (go_at_call 29; refine (SW.out _ HJ.out).mono ?_; rintro e w1 ⟨rfl, rfl⟩)
    go_ret
    exact ⟨rfl, HJ.out, HD.out, KeepJ.refl _ _⟩
  have b1 : decide ((65535 : Int) < (l.length : Int)) = false := decide_eq_false h1
  by_cases h2 : j.seq = 4294967295
  · rw [if_pos (.inr h2)]
    rw [h2] at hc4
    clear hj h hO hr
    go_enter Try.func12, Try.ntmps12
    go_wp2_with (go_at_call 29; refine (SW.out _ HJ.out).mono ?_; rintro e w1 ⟨rfl, rfl⟩)
    go_ret
    exact ⟨rfl, HJ.out, HD.out, KeepJ.refl _ _⟩
  rw [if_neg (by omega)]
  have b2 : (j.seq == 4294967295) = false := by simpa using h2
  have hl6 : l.length ≤ 65535 := by omega
  have hsl : sectors l.length ≤ 3000 := by unfold sectors; omega
  have hnx := hO.next
  have hzs := hO.size
  have hslot := hO.slot
  have SEC := Aside0.mk (fun w1 => XPack.frame_Sectors.calls (l.length : Int) ((sectors l.length : Nat) : Int) w1 (XPack.Sectors_f l.length hl6))
  have ROOM := Aside0.mk (fun (w1 : World) (h1 : JrAt base w1 gj g j) (h2 : DiskAt base w1 g s) => room_walk base gj g j s w1 h1 h2 ⟨by omega, hnx.2⟩ hzs)
  obtain ⟨rm, hrm⟩ : ∃ rm, ((s.good.length : Nat) : Int) - j.next = rm := ⟨_, rfl⟩
  rw [hrm] at ROOM ⊢
  obtain ⟨sc, hsc⟩ : ∃ sc, sectors l.length = sc := ⟨_, rfl⟩
  have hplen := packed_len j.epoch (j.seq + 1) l
  rw [hsc] at SEC hsl hplen ⊢
  by_cases h3 : rm < ((sc : Nat) : Int)
  · rw [if_pos h3]
    have b3 : decide (rm < ((sc : Nat) : Int)) = true := decide_eq_true h3
    clear hj h hO hr hplen
    go_enter Try.func12, Try.ntmps12
    go_wp2_with (first | (go_at_call 29; refine (SW.out _ HJ.out).mono ?_; rintro e w1 ⟨rfl, rfl⟩) | (go_at_call 33; refine (SEC.out _).mono ?_; rintro e w1 ⟨rfl, m1, rfl⟩) | (go_at_call 19; refine (ROOM.out _ (jr_drewN HJ.out _) (disk_drewN HD.out _)).mono ?_; rintro e w1 ⟨rfl, m2, rfl⟩))
    go_ret
    exact ⟨rfl, jr_drewN HJ.out _, disk_drewN HD.out _, KeepJ.of_below (pw_below_drewN (Below.refl _ _) _)⟩
  rw [if_neg h3]
  have b3 : decide (rm < ((sc : Nat) : Int)) = false := decide_eq_false h3
  have hep := hO.epoch
  have hsq := hO.seq
  have hfu := hO.fuse
  have hca := hO.cache
  have PW := Aside0.mk (fun (w1 : World) (h1 : Kd.C (Kd.int .u8) w1 A l.length l) => XPack.pack_walk j.epoch (j.seq + 1) A c l w1 h1 hc ⟨hep.1, by omega, by omega, by omega⟩ hl6 hb)
  have PUT := Aside0.mk (fun (w1 : World) (A' : Option Addr) (c' : Nat) (h1 : JrAt base w1 gj g j) (h2 : DiskAt base w1 g s) (h3 : base ≤ w1.heap.size) (h4 : (packed j.epoch (j.seq + 1) l).length ≤ c') (h5 : ∀ w', KeepD base w1 w' → Kd.C (Kd.int .u8) w' A' (packed j.epoch (j.seq + 1) l).length (packed j.epoch (j.seq + 1) l)) => put_walk base gj g sc c' j s j.next A' (packed j.epoch (j.seq + 1) l) w1 h1 h2 (by omega) (by omega) hplen h4 hfu (by omega) h3 h5)
  have HR := Aside0.mk hr
  have g1 : j.seq + 1 ≤ 4294967295 := by omega
  have hnx1 : 0 ≤ j.next ∧ j.next ≤ 1024 := by omega
  clear hj h hO hr
  generalize packed j.epoch (j.seq + 1) l = p at *
  obtain ⟨r, hrr⟩ : ∃ r, putAll sc s j.next p = r := ⟨_, rfl⟩
  rw [hrr] at PUT ⊢
  obtain ⟨er, sr⟩ := r
  have HPL := Aside0.mk hplen
  clear hrr hrm hsc hc hb hca hfu hslot hnx hzs hep hplen
  by_cases hz : er = 0
  · subst hz
    rw [if_pos rfl]
    go_enter Try.func12, Try.ntmps12
    go_wp2_with (first | (go_at_call 29; refine (SW.out _ HJ.out).mono ?_; rintro e w1 ⟨rfl, rfl⟩) | (go_at_call 33; refine (SEC.out _).mono ?_; rintro e w1 ⟨rfl, m1, rfl⟩) | (go_at_call 19; refine (ROOM.out _ (jr_drewN HJ.out _) (disk_drewN HD.out _)).mono ?_; rintro e w1 ⟨rfl, m2, rfl⟩))
    clear SW SEC ROOM
    have HJ1 := Aside0.mk (jr_drewN HJ.out (m1 + m2))
    have HD1 := Aside0.mk (disk_drewN HD.out (m1 + m2))
    have HB1 := Aside0.mk (show Below w.heap.size w (w.drewN (m1 + m2)) from pw_below_drewN (Below.refl _ _) (m1 + m2))
    have PW2 := Aside0.mk (PW.out _ (Kd.C_drew (Kd.C_drewN HR.out (m1 + m2))))
    clear HJ HD HR hc0 hc1 hc2 hc3 hc4 hc5 PW
    generalize w.drewN (m1 + m2) = w1 at *
    obtain ⟨hc0, hc1, hc2, hc3, hc4, hc5, -, -⟩ := jr_cells HJ1.out
    have HC3 := hc3
    have HC4 := hc4
    have hwr : IntKind.i64.wrap (j.seq + 1) = j.seq + 1 := wr64 _ (by omega) (by omega)
    go_region_held3 (fun w' => w'.cell? ⟨gj, 3, none⟩ = some (.int .i64 j.epoch) ∧ w'.cell? ⟨gj, 4, none⟩ = some (.int .i64 j.seq)) (first | exact ⟨hc3, hc4⟩ | exact ⟨HC3, HC4⟩)
      (first | (go_at_call 34; refine PW2.out.mono ?_; rintro e w3 ⟨v, rfl, hV, hB⟩; obtain ⟨Av, cv, rfl⟩ := Kd.V_slice hV; obtain ⟨-, hcv, hsrc⟩ := V_srcD (base := base) hV; have hJ3 := jr_below (jr_drewN HJ1.out 1) hB; clear hc0 hc1 hc2 hc3 hc4 hc5; obtain ⟨-, -, -, hc3, hc4, hc5, -, -⟩ := jr_cells hJ3; have PUT2 := Aside0.mk (PUT.out w3 Av cv hJ3 (disk_below (disk_drewN HD1.out 1) hB) (Nat.le_trans (Nat.le_trans hbase HB1.out.size) hB.size) hcv hsrc); clear hwr; have HB3 := Aside0.mk (below_step HB1.out.drew hB); clear hB hV hsrc hJ3 PUT PW2))
    go_wp2_with (go_at_call 31; refine PUT2.out.mono ?_; rintro e w4 ⟨rfl, hJ, hD, hK⟩; clear hc3 hc4 hc5; have HJ4 := Aside0.mk hJ; have HD4 := Aside0.mk hD; have HK4 := Aside0.mk ((KeepJ.of_below (base := base) HB3.out).trans hK); obtain ⟨-, -, -, -, hc4, hc5, -, -⟩ := jr_cells hJ; have hf4 := jr_frozen hJ 4; have hf5 := jr_frozen hJ 5; clear hJ hD hK PUT2 HB3)
    have hq : Int.tdiv ((p.length : Nat) : Int) 32 = ((sc : Nat) : Int) := by rw [HPL.out, Int.tdiv_eq_ediv_of_nonneg (by omega)]; omega
    have hwr1 : IntKind.i64.wrap (j.seq + 1) = j.seq + 1 := wr64 _ (by omega) (by omega)
    have hwr2 : IntKind.i64.wrap (j.next + (sc : Nat)) = j.next + (sc : Nat) := wr64 _ (by omega) (by omega)
    have hwr3 : IntKind.i64.wrap ((sc : Nat) : Int) = (sc : Nat) := wr64 _ (by omega) (by omega)
    go_region
    go_wp2
    go_ret
    have hj4 := HJ4.out
    rw [show ((0 : Int) != 0) = false from rfl] at hj4
    exact ⟨rfl, jr_drewN (jr_set5 (jr_set4 hj4 _) _) 1, disk_drewN (disk_setJ (jr_set4 hj4 (j.seq + 1)) (disk_setJ hj4 HD4.out 4 _) 5 _) 1, (HK4.out.trans ((keepJ_jr hj4 4 _).trans (keepJ_jr (jr_set4 hj4 (j.seq + 1)) 5 _))).drewN 1⟩
  · rw [if_neg hz]
    have hz' : (er == 0) = false := by simpa using hz
    go_enter Try.func12, Try.ntmps12
    go_wp2_with (first | (go_at_call 29; refine (SW.out _ HJ.out).mono ?_; rintro e w1 ⟨rfl, rfl⟩) | (go_at_call 33; refine (SEC.out _).mono ?_; rintro e w1 ⟨rfl, m1, rfl⟩) | (go_at_call 19; refine (ROOM.out _ (jr_drewN HJ.out _) (disk_drewN HD.out _)).mono ?_; rintro e w1 ⟨rfl, m2, rfl⟩))
    clear SW SEC ROOM
    have HJ1 := Aside0.mk (jr_drewN HJ.out (m1 + m2))
    have HD1 := Aside0.mk (disk_drewN HD.out (m1 + m2))
    have HB1 := Aside0.mk (show Below w.heap.size w (w.drewN (m1 + m2)) from pw_below_drewN (Below.refl _ _) (m1 + m2))
    have PW2 := Aside0.mk (PW.out _ (Kd.C_drew (Kd.C_drewN HR.out (m1 + m2))))
    clear HJ HD HR hc0 hc1 hc2 hc3 hc4 hc5 PW
    generalize w.drewN (m1 + m2) = w1 at *
    obtain ⟨hc0, hc1, hc2, hc3, hc4, hc5, -, -⟩ := jr_cells HJ1.out
    have HC3 := hc3
    have HC4 := hc4
    have hwr : IntKind.i64.wrap (j.seq + 1) = j.seq + 1 := wr64 _ (by omega) (by omega)
    go_region_held3 (fun w' => w'.cell? ⟨gj, 3, none⟩ = some (.int .i64 j.epoch) ∧ w'.cell? ⟨gj, 4, none⟩ = some (.int .i64 j.seq)) (first | exact ⟨hc3, hc4⟩ | exact ⟨HC3, HC4⟩)
      (first | (go_at_call 34; refine PW2.out.mono ?_; rintro e w3 ⟨v, rfl, hV, hB⟩; obtain ⟨Av, cv, rfl⟩ := Kd.V_slice hV; obtain ⟨-, hcv, hsrc⟩ := V_srcD (base := base) hV; have hJ3 := jr_below (jr_drewN HJ1.out 1) hB; clear hc0 hc1 hc2 hc3 hc4 hc5; obtain ⟨-, -, -, hc3, hc4, hc5, -, -⟩ := jr_cells hJ3; have PUT2 := Aside0.mk (PUT.out w3 Av cv hJ3 (disk_below (disk_drewN HD1.out 1) hB) (Nat.le_trans (Nat.le_trans hbase HB1.out.size) hB.size) hcv hsrc); clear hwr; have HB3 := Aside0.mk (below_step HB1.out.drew hB); clear hB hV hsrc hJ3 PUT PW2))
    go_wp2_with (go_at_call 31; refine PUT2.out.mono ?_; rintro e w4 ⟨rfl, hJ, hD, hK⟩; have HJ4 := Aside0.mk hJ; have HD4 := Aside0.mk hD; have HK4 := Aside0.mk ((KeepJ.of_below (base := base) HB3.out).trans hK); clear hJ hD hK PUT2 HB3)
    have hdn : (er != 0) = true := by simpa using hz
    rw [hdn] at HJ4
    go_ret
    exact ⟨rfl, HJ4.out, HD4.out, HK4.out⟩
end Go.Proofs.Ytglpelhbncdkmaa.XJour
