/-
  package journal by walks, seventh part: Checkpoint.
-/
import Derived.Laws.CopyOwn
import Derived.ArgAppend
import Derived.Below
import Derived.BigQuiet
import Derived.Deep.AppendLies
import Derived.Deep.CutBlock
import Derived.Deep.DeepCutAuto
import Derived.Deep.Draws
import Derived.Deep.LoopGhost
import Derived.Deep.OwnRows
import Derived.Deep.QuietTactic
import Derived.Deep.RegionHeld3
import Derived.Deep.WholeRow
import Derived.KernelRfl
import Derived.Laws.BitsLemmas
import Derived.Laws.BytesArg
import Derived.Laws.IdiomCopy
import Derived.Laws.MakeOwn
import Derived.Laws.OwnMore
import Derived.Laws.Rows
import Derived.Laws.Slices
import Derived.Lib.AppendStr
import Derived.Lib.ConvBytes
import Derived.Lib.Hide
import Derived.Maps.AppendAt
import Derived.OrdersHeld
import Derived.Outline
import Derived.OwnWalk
import Derived.RowKit
import Derived.RowKit3
import Derived.Tactics
import Derived.WalkKit
import Derived.WideLaws
import Derived.Test.YtglpelhbncdkmaaProg
import Derived.Test.YtglpelhbncdkmaaWApart
import Derived.Test.YtglpelhbncdkmaaWArr
import Derived.Test.YtglpelhbncdkmaaWAt
import Derived.Test.YtglpelhbncdkmaaWEqStruct
import Derived.Test.YtglpelhbncdkmaaWFoot
import Derived.Test.YtglpelhbncdkmaaWFootNe
import Derived.Test.YtglpelhbncdkmaaWFour
import Derived.Test.YtglpelhbncdkmaaWGuard
import Derived.Test.YtglpelhbncdkmaaWInv
import Derived.Test.YtglpelhbncdkmaaWInvWords
import Derived.Test.YtglpelhbncdkmaaWKept
import Derived.Test.YtglpelhbncdkmaaWLast
import Derived.Test.YtglpelhbncdkmaaWMore
import Derived.Test.YtglpelhbncdkmaaWN
import Derived.Test.YtglpelhbncdkmaaWNEv
import Derived.Test.YtglpelhbncdkmaaWQPut
import Derived.Test.YtglpelhbncdkmaaWRepsOne
import Derived.Test.YtglpelhbncdkmaaWShare
import Derived.Test.YtglpelhbncdkmaaWTab
import Derived.Test.YtglpelhbncdkmaaWWords
import Derived.Test.YtglpelhbncdkmaaWZeros
import Derived.Test.YtglpelhbncdkmaaXSlices

import Derived.BigRegion
import Derived.Test.YtglpelhbncdkmaaXJour6
namespace Go.Proofs.Ytglpelhbncdkmaa.XJour
open Go.RowKit Go.Proofs.YtglpelhbncdkmaaW.PrintWords Go.Proofs.YtglpelhbncdkmaaW.PrintLast Go.Proofs.YtglpelhbncdkmaaW.PrintMore XDisk XChunk
set_option linter.unusedVariables false
set_option linter.unusedSimpArgs false
def checkpointF (j : Jr) (s : St) (l : List Int) : Int × Jr × St :=
  if j.down = true then (10, j, s)
  else if (packF (lastF s s.good.length + 1) j.seq j.slot l).1 ≠ 0 then ((packF (lastF s s.good.length + 1) j.seq j.slot l).1, j, s)
  else if (putAll ((packF (lastF s s.good.length + 1) j.seq j.slot l).2.length / 32) s ((1 - j.place) * j.slot) (packF (lastF s s.good.length + 1) j.seq j.slot l).2).1 ≠ 0 then
    ((putAll ((packF (lastF s s.good.length + 1) j.seq j.slot l).2.length / 32) s ((1 - j.place) * j.slot) (packF (lastF s s.good.length + 1) j.seq j.slot l).2).1, { j with down := true }, (putAll ((packF (lastF s s.good.length + 1) j.seq j.slot l).2.length / 32) s ((1 - j.place) * j.slot) (packF (lastF s s.good.length + 1) j.seq j.slot l).2).2)
  else if (Flush (putAll ((packF (lastF s s.good.length + 1) j.seq j.slot l).2.length / 32) s ((1 - j.place) * j.slot) (packF (lastF s s.good.length + 1) j.seq j.slot l).2).2).1 ≠ 0 then
    ((Flush (putAll ((packF (lastF s s.good.length + 1) j.seq j.slot l).2.length / 32) s ((1 - j.place) * j.slot) (packF (lastF s s.good.length + 1) j.seq j.slot l).2).2).1, { j with down := true }, (Flush (putAll ((packF (lastF s s.good.length + 1) j.seq j.slot l).2.length / 32) s ((1 - j.place) * j.slot) (packF (lastF s s.good.length + 1) j.seq j.slot l).2).2).2)
  else (0, { j with place := 1 - j.place, epoch := lastF s s.good.length + 1, next := 2 * j.slot, op := true, down := false }, (Flush (putAll ((packF (lastF s s.good.length + 1) j.seq j.slot l).2.length / 32) s ((1 - j.place) * j.slot) (packF (lastF s s.good.length + 1) j.seq j.slot l).2).2).2)
attribute [local irreducible] packed packF putAll Flush lastF
theorem state_down {j : Jr} (h : j.down = true) : stateF j = 10 := by unfold stateF; rw [if_pos h]
theorem state_up {j : Jr} (h : ¬ j.down = true) : stateF j = 0 ∨ stateF j = 9 := by
  unfold stateF; rw [if_neg h]; split
  · exact .inl rfl
  · exact .inr rfl
set_option maxHeartbeats 4000000 in
theorem checkpoint_walk (base gj g c : Nat) (j : Jr) (s : St) (A : Option Addr) (l : List Int) (w : World) (hj : JrAt base w gj g j) (h : DiskAt base w g s) (hO : JOk j s) (hr : Kd.C (Kd.int .u8) w A l.length l) (hc : l.length ≤ c) (hb : Bytes l) (hbase : base ≤ w.heap.size) :
    Calls Try.prog 10 #[.pointer (some ⟨gj, 0, none⟩), .slice A l.length c] w fun e w' => e = .returned (.int .i64 (checkpointF j s l).1) ∧ JrAt base w' gj g (checkpointF j s l).2.1 ∧ DiskAt base w' g (checkpointF j s l).2.2 ∧ KeepJ base w w' := by
  have SW := Aside0.mk (fun w1 h1 => state_walk base gj g j w1 h1)
  have HJ := Aside0.mk hj
  have HD := Aside0.mk h
  have hm := hr.2.1
  by_cases hdn : j.down = true
  · have e0 : checkpointF j s l = (10, j, s) := by unfold checkpointF; rw [if_pos hdn]
    rw [e0]
    rw [state_down hdn] at SW
    clear hj h hO hr
    go_enter Try.func10, Try.ntmps10
    go_wp2_with (go_at_call 29; refine (SW.out _ HJ.out).mono ?_; rintro e w1 ⟨rfl, rfl⟩)
    go_ret
    exact ⟨rfl, HJ.out, HD.out, KeepJ.refl _ _⟩
  have hst := state_up hdn
  obtain ⟨st, hst'⟩ : ∃ st, stateF j = st := ⟨_, rfl⟩
  rw [hst'] at SW hst
  clear hst'
  have hlr := lastF_range s hO.fine s.good.length (Nat.le_refl _)
  have hsq := hO.seq
  have hslot := hO.slot
  have hzs := hO.size
  have hfu := hO.fuse
  have hca := hO.cache
  have LW := Aside0.mk (last_walk base gj g j s w hj h hO.fine (by omega))
  have hplc : 0 ≤ 1 - j.place ∧ 1 - j.place ≤ 1 := by have := hO.place; omega
  have hat : 0 ≤ (1 - j.place) * j.slot ∧ (1 - j.place) * j.slot ≤ 1024 := by
    rcases hO.place with hp | hp
    · rw [hp]; omega
    · rw [hp]; omega
  have e0 : checkpointF j s l = if (packF (lastF s s.good.length + 1) j.seq j.slot l).1 ≠ 0 then ((packF (lastF s s.good.length + 1) j.seq j.slot l).1, j, s)
      else if (putAll ((packF (lastF s s.good.length + 1) j.seq j.slot l).2.length / 32) s ((1 - j.place) * j.slot) (packF (lastF s s.good.length + 1) j.seq j.slot l).2).1 ≠ 0 then
        ((putAll ((packF (lastF s s.good.length + 1) j.seq j.slot l).2.length / 32) s ((1 - j.place) * j.slot) (packF (lastF s s.good.length + 1) j.seq j.slot l).2).1, { j with down := true }, (putAll ((packF (lastF s s.good.length + 1) j.seq j.slot l).2.length / 32) s ((1 - j.place) * j.slot) (packF (lastF s s.good.length + 1) j.seq j.slot l).2).2)
      else if (Flush (putAll ((packF (lastF s s.good.length + 1) j.seq j.slot l).2.length / 32) s ((1 - j.place) * j.slot) (packF (lastF s s.good.length + 1) j.seq j.slot l).2).2).1 ≠ 0 then
        ((Flush (putAll ((packF (lastF s s.good.length + 1) j.seq j.slot l).2.length / 32) s ((1 - j.place) * j.slot) (packF (lastF s s.good.length + 1) j.seq j.slot l).2).2).1, { j with down := true }, (Flush (putAll ((packF (lastF s s.good.length + 1) j.seq j.slot l).2.length / 32) s ((1 - j.place) * j.slot) (packF (lastF s s.good.length + 1) j.seq j.slot l).2).2).2)
      else (0, { j with place := 1 - j.place, epoch := lastF s s.good.length + 1, next := 2 * j.slot, op := true, down := false }, (Flush (putAll ((packF (lastF s s.good.length + 1) j.seq j.slot l).2.length / 32) s ((1 - j.place) * j.slot) (packF (lastF s s.good.length + 1) j.seq j.slot l).2).2).2) := by
    unfold checkpointF; rw [if_neg hdn]
  rw [e0]
  clear e0
  have hpl := packF_len (lastF s s.good.length + 1) j.seq j.slot l
  have hpb := packF_bytes (lastF s s.good.length + 1) j.seq j.slot l hb
  have PW := Aside0.mk (fun (w1 : World) (h1 : Kd.C (Kd.int .u8) w1 A l.length l) => pack_walk (lastF s s.good.length + 1) j.seq j.slot A c l w1 h1 hc (by omega) hsq (by omega) hb)
  obtain ⟨ls, hls⟩ : ∃ z, lastF s s.good.length = z := ⟨_, rfl⟩
  rw [hls] at hlr LW hpl hpb PW ⊢
  obtain ⟨p, hp⟩ : ∃ p, packF (ls + 1) j.seq j.slot l = p := ⟨_, rfl⟩
  rw [hp] at hpl hpb PW ⊢
  obtain ⟨ep, bp⟩ := p
  have hpl1 : bp.length = 32 * (bp.length / 32) := hpl.1
  have hpl2 : bp.length / 32 ≤ 4000 := hpl.2.1
  have hf2 := putAll_fine (bp.length / 32) s ((1 - j.place) * j.slot) bp hO.fine hpl1 hpb
  have PUT := Aside0.mk (fun (w1 : World) (A' : Option Addr) (c' : Nat) (h1 : JrAt base w1 gj g j) (h2 : DiskAt base w1 g s) (h3 : base ≤ w1.heap.size) (h4 : bp.length ≤ c') (h5 : ∀ w', KeepD base w1 w' → Kd.C (Kd.int .u8) w' A' bp.length bp) => put_walk base gj g (bp.length / 32) c' j s ((1 - j.place) * j.slot) A' bp w1 h1 h2 ⟨hat.1, by omega⟩ hpl2 hpl1 h4 hfu (by omega) h3 h5)
  obtain ⟨r, hrr⟩ : ∃ r, putAll (bp.length / 32) s ((1 - j.place) * j.slot) bp = r := ⟨_, rfl⟩
  rw [hrr] at PUT hf2
  simp only [hrr]
  obtain ⟨er, sr⟩ := r
  have FL := Aside0.mk (fun (w1 : World) (j1 : Jr) (h1 : JrAt base w1 gj g j1) (h2 : DiskAt base w1 g sr) => jflush_walk base gj g j1 sr w1 h1 h2 (Int.le_trans hf2.2.2.2 hfu) hf2.1.inr)
  obtain ⟨q, hqq⟩ : ∃ q, Flush sr = q := ⟨_, rfl⟩
  rw [hqq] at FL
  simp only [hqq]
  obtain ⟨eq, sq⟩ := q
  have HR := Aside0.mk hr
  have HHAT := Aside0.mk hat
  have g1 : ls + 1 ≤ 4294967296 := by omega
  have g2 : 1 ≤ j.slot ∧ j.slot ≤ 1024 := by omega
  have HA := Aside0.mk (⟨wr64 _ (by omega) (by omega), wr64 _ (by omega) (by omega)⟩ : IntKind.i64.wrap (1 - j.place) = 1 - j.place ∧ IntKind.i64.wrap ((1 - j.place) * j.slot) = (1 - j.place) * j.slot)
  clear hr hp hrr hqq hf2 hpl hpl1 hpl2 hpb hc hb hca hfu hslot hzs hls h hj hO
  by_cases hz : ep = 0
  rotate_left
  · rw [if_pos hz]
    have hz' : (ep == 0) = false := by simpa using hz
    clear PUT FL HA HHAT
    rcases hst with rfl | rfl
    · go_enter Try.func10, Try.ntmps10
      go_wp2_with (first | (go_at_call 29; refine (SW.out _ HJ.out).mono ?_; rintro e w1 ⟨rfl, rfl⟩) | (go_at_call 30; refine LW.out.mono ?_; rintro e w1 ⟨rfl, hB1⟩; have HJ1 := Aside0.mk (jr_below HJ.out hB1); have HD1 := Aside0.mk (disk_below HD.out hB1); have PW2 := Aside0.mk (PW.out _ (Kd.C_drew (Kd.C_below HR.out hB1))); have HB1 := Aside0.mk hB1; clear hB1 HJ HD PW HR LW SW))
      obtain ⟨-, hc1, -, -, hc4, -, -, -⟩ := jr_cells HJ1.out
      have HC1 := hc1
      have HC4 := hc4
      have hwr : IntKind.i64.wrap (ls + 1) = ls + 1 := wr64 _ (by omega) (by omega)
      go_region_held3 (fun w' => w'.cell? ⟨gj, 1, none⟩ = some (.int .i64 j.slot) ∧ w'.cell? ⟨gj, 4, none⟩ = some (.int .i64 j.seq)) (first | exact ⟨hc1, hc4⟩ | exact ⟨HC1, HC4⟩)
        (first | (go_at_call 24; refine PW2.out.mono ?_; rintro e w2 ⟨v, rfl, hV, hB⟩; obtain ⟨Av, cv, rfl⟩ := Kd.V_slice hV; obtain ⟨-, hcv, hsrc⟩ := V_srcD (base := base) hV; have hJ2 := jr_below (jr_drewN HJ1.out 1) hB; clear hc1 hc4; obtain ⟨-, hc1, hc2, -, hc4, -, -, -⟩ := jr_cells hJ2; have HB2 := Aside0.mk (below_step HB1.out.drew hB); have HJ2 := Aside0.mk hJ2; have HD2 := Aside0.mk (disk_below (disk_drewN HD1.out 1) hB); clear hB hV hJ2 PW2 HB1 HJ1 HD1))
      go_wp2
      go_ret
      exact ⟨rfl, HJ2.out, HD2.out, KeepJ.of_below HB2.out⟩
    · go_enter Try.func10, Try.ntmps10
      go_wp2_with (first | (go_at_call 29; refine (SW.out _ HJ.out).mono ?_; rintro e w1 ⟨rfl, rfl⟩) | (go_at_call 30; refine LW.out.mono ?_; rintro e w1 ⟨rfl, hB1⟩; have HJ1 := Aside0.mk (jr_below HJ.out hB1); have HD1 := Aside0.mk (disk_below HD.out hB1); have PW2 := Aside0.mk (PW.out _ (Kd.C_drew (Kd.C_below HR.out hB1))); have HB1 := Aside0.mk hB1; clear hB1 HJ HD PW HR LW SW))
      obtain ⟨-, hc1, -, -, hc4, -, -, -⟩ := jr_cells HJ1.out
      have HC1 := hc1
      have HC4 := hc4
      have hwr : IntKind.i64.wrap (ls + 1) = ls + 1 := wr64 _ (by omega) (by omega)
      go_region_held3 (fun w' => w'.cell? ⟨gj, 1, none⟩ = some (.int .i64 j.slot) ∧ w'.cell? ⟨gj, 4, none⟩ = some (.int .i64 j.seq)) (first | exact ⟨hc1, hc4⟩ | exact ⟨HC1, HC4⟩)
        (first | (go_at_call 24; refine PW2.out.mono ?_; rintro e w2 ⟨v, rfl, hV, hB⟩; obtain ⟨Av, cv, rfl⟩ := Kd.V_slice hV; obtain ⟨-, hcv, hsrc⟩ := V_srcD (base := base) hV; have hJ2 := jr_below (jr_drewN HJ1.out 1) hB; clear hc1 hc4; obtain ⟨-, hc1, hc2, -, hc4, -, -, -⟩ := jr_cells hJ2; have HB2 := Aside0.mk (below_step HB1.out.drew hB); have HJ2 := Aside0.mk hJ2; have HD2 := Aside0.mk (disk_below (disk_drewN HD1.out 1) hB); clear hB hV hJ2 PW2 HB1 HJ1 HD1))
      go_wp2
      go_ret
      exact ⟨rfl, HJ2.out, HD2.out, KeepJ.of_below HB2.out⟩
  subst hz
  rw [if_neg (by simp)]
  by_cases hz : er = 0
  rotate_left
  · rw [if_pos hz]
    have hz' : (er == 0) = false := by simpa using hz
    have hnz : (er != 0) = true := by simpa using hz
    rw [hnz] at PUT
    clear FL
    rcases hst with rfl | rfl
    · go_enter Try.func10, Try.ntmps10
      go_wp2_with (first | (go_at_call 29; refine (SW.out _ HJ.out).mono ?_; rintro e w1 ⟨rfl, rfl⟩) | (go_at_call 30; refine LW.out.mono ?_; rintro e w1 ⟨rfl, hB1⟩; have HJ1 := Aside0.mk (jr_below HJ.out hB1); have HD1 := Aside0.mk (disk_below HD.out hB1); have PW2 := Aside0.mk (PW.out _ (Kd.C_drew (Kd.C_below HR.out hB1))); have HB1 := Aside0.mk hB1; clear hB1 HJ HD PW HR LW SW))
      obtain ⟨-, hc1, -, -, hc4, -, -, -⟩ := jr_cells HJ1.out
      have HC1 := hc1
      have HC4 := hc4
      have hwr : IntKind.i64.wrap (ls + 1) = ls + 1 := wr64 _ (by omega) (by omega)
      go_region_held3 (fun w' => w'.cell? ⟨gj, 1, none⟩ = some (.int .i64 j.slot) ∧ w'.cell? ⟨gj, 4, none⟩ = some (.int .i64 j.seq)) (first | exact ⟨hc1, hc4⟩ | exact ⟨HC1, HC4⟩)
        (first | (go_at_call 24; refine PW2.out.mono ?_; rintro e w2 ⟨v, rfl, hV, hB⟩; obtain ⟨Av, cv, rfl⟩ := Kd.V_slice hV; obtain ⟨-, hcv, hsrc⟩ := V_srcD (base := base) hV; have hJ2 := jr_below (jr_drewN HJ1.out 1) hB; clear hc1 hc4; obtain ⟨-, hc1, hc2, -, hc4, -, -, -⟩ := jr_cells hJ2; have HB2 := Aside0.mk (below_step HB1.out.drew hB); have HJ2 := Aside0.mk hJ2; have HD2 := Aside0.mk (disk_below (disk_drewN HD1.out 1) hB); have PUT2 := Aside0.mk (PUT.out w2.drew Av cv (jr_drewN HJ2.out 1) (disk_drewN HD2.out 1) (Nat.le_trans hbase HB2.out.size) hcv (fun w' hk => hsrc w' ⟨hk.os, hk.tape, hk.output, hk.size, hk.block⟩)); clear hsrc PUT; clear hB hV hJ2 PW2 HB1 HJ1 HD1))
      go_wp2_with fail
      have HC1' := hc1
      have HC2' := hc2
      obtain ⟨hwa, hwb⟩ := HA.out
      go_region_held3 (fun w' => w'.cell? ⟨gj, 1, none⟩ = some (.int .i64 j.slot) ∧ w'.cell? ⟨gj, 2, none⟩ = some (.int .i64 j.place)) (first | exact ⟨hc1, hc2⟩ | exact ⟨HC1', HC2'⟩)
        (first | (go_at_call 31; refine PUT2.out.mono ?_; rintro e w3 ⟨rfl, hJ3, hD3, hK3⟩; clear hc1 hc2 hc4; obtain ⟨-, hc1, hc2, -, -, -, -, -⟩ := jr_cells hJ3; have HJ3 := Aside0.mk hJ3; have HD3 := Aside0.mk hD3; have HK3 := Aside0.mk ((KeepJ.of_below (base := base) HB2.out.drew).trans hK3); clear hJ3 hD3 hK3 PUT2 HJ2 HD2 HB2))
      go_wp2
      go_ret
      exact ⟨rfl, HJ3.out, HD3.out, HK3.out⟩
    · go_enter Try.func10, Try.ntmps10
      go_wp2_with (first | (go_at_call 29; refine (SW.out _ HJ.out).mono ?_; rintro e w1 ⟨rfl, rfl⟩) | (go_at_call 30; refine LW.out.mono ?_; rintro e w1 ⟨rfl, hB1⟩; have HJ1 := Aside0.mk (jr_below HJ.out hB1); have HD1 := Aside0.mk (disk_below HD.out hB1); have PW2 := Aside0.mk (PW.out _ (Kd.C_drew (Kd.C_below HR.out hB1))); have HB1 := Aside0.mk hB1; clear hB1 HJ HD PW HR LW SW))
      obtain ⟨-, hc1, -, -, hc4, -, -, -⟩ := jr_cells HJ1.out
      have HC1 := hc1
      have HC4 := hc4
      have hwr : IntKind.i64.wrap (ls + 1) = ls + 1 := wr64 _ (by omega) (by omega)
      go_region_held3 (fun w' => w'.cell? ⟨gj, 1, none⟩ = some (.int .i64 j.slot) ∧ w'.cell? ⟨gj, 4, none⟩ = some (.int .i64 j.seq)) (first | exact ⟨hc1, hc4⟩ | exact ⟨HC1, HC4⟩)
        (first | (go_at_call 24; refine PW2.out.mono ?_; rintro e w2 ⟨v, rfl, hV, hB⟩; obtain ⟨Av, cv, rfl⟩ := Kd.V_slice hV; obtain ⟨-, hcv, hsrc⟩ := V_srcD (base := base) hV; have hJ2 := jr_below (jr_drewN HJ1.out 1) hB; clear hc1 hc4; obtain ⟨-, hc1, hc2, -, hc4, -, -, -⟩ := jr_cells hJ2; have HB2 := Aside0.mk (below_step HB1.out.drew hB); have HJ2 := Aside0.mk hJ2; have HD2 := Aside0.mk (disk_below (disk_drewN HD1.out 1) hB); have PUT2 := Aside0.mk (PUT.out w2.drew Av cv (jr_drewN HJ2.out 1) (disk_drewN HD2.out 1) (Nat.le_trans hbase HB2.out.size) hcv (fun w' hk => hsrc w' ⟨hk.os, hk.tape, hk.output, hk.size, hk.block⟩)); clear hsrc PUT; clear hB hV hJ2 PW2 HB1 HJ1 HD1))
      go_wp2_with fail
      have HC1' := hc1
      have HC2' := hc2
      obtain ⟨hwa, hwb⟩ := HA.out
      go_region_held3 (fun w' => w'.cell? ⟨gj, 1, none⟩ = some (.int .i64 j.slot) ∧ w'.cell? ⟨gj, 2, none⟩ = some (.int .i64 j.place)) (first | exact ⟨hc1, hc2⟩ | exact ⟨HC1', HC2'⟩)
        (first | (go_at_call 31; refine PUT2.out.mono ?_; rintro e w3 ⟨rfl, hJ3, hD3, hK3⟩; clear hc1 hc2 hc4; obtain ⟨-, hc1, hc2, -, -, -, -, -⟩ := jr_cells hJ3; have HJ3 := Aside0.mk hJ3; have HD3 := Aside0.mk hD3; have HK3 := Aside0.mk ((KeepJ.of_below (base := base) HB2.out.drew).trans hK3); clear hJ3 hD3 hK3 PUT2 HJ2 HD2 HB2))
      go_wp2
      go_ret
      exact ⟨rfl, HJ3.out, HD3.out, HK3.out⟩
  subst hz
  rw [if_neg (by simp)]
  rw [show ((0 : Int) != 0) = false from rfl] at PUT
  by_cases hz : eq = 0
  rotate_left
  · rw [if_pos hz]
    have hz' : (eq == 0) = false := by simpa using hz
    have hnz : (eq != 0) = true := by simpa using hz
    rw [hnz] at FL
    rcases hst with rfl | rfl
    · go_enter Try.func10, Try.ntmps10
      go_wp2_with (first | (go_at_call 29; refine (SW.out _ HJ.out).mono ?_; rintro e w1 ⟨rfl, rfl⟩) | (go_at_call 30; refine LW.out.mono ?_; rintro e w1 ⟨rfl, hB1⟩; have HJ1 := Aside0.mk (jr_below HJ.out hB1); have HD1 := Aside0.mk (disk_below HD.out hB1); have PW2 := Aside0.mk (PW.out _ (Kd.C_drew (Kd.C_below HR.out hB1))); have HB1 := Aside0.mk hB1; clear hB1 HJ HD PW HR LW SW))
      obtain ⟨-, hc1, -, -, hc4, -, -, -⟩ := jr_cells HJ1.out
      have HC1 := hc1
      have HC4 := hc4
      have hwr : IntKind.i64.wrap (ls + 1) = ls + 1 := wr64 _ (by omega) (by omega)
      go_region_held3 (fun w' => w'.cell? ⟨gj, 1, none⟩ = some (.int .i64 j.slot) ∧ w'.cell? ⟨gj, 4, none⟩ = some (.int .i64 j.seq)) (first | exact ⟨hc1, hc4⟩ | exact ⟨HC1, HC4⟩)
        (first | (go_at_call 24; refine PW2.out.mono ?_; rintro e w2 ⟨v, rfl, hV, hB⟩; obtain ⟨Av, cv, rfl⟩ := Kd.V_slice hV; obtain ⟨-, hcv, hsrc⟩ := V_srcD (base := base) hV; have hJ2 := jr_below (jr_drewN HJ1.out 1) hB; clear hc1 hc4; obtain ⟨-, hc1, hc2, -, hc4, -, -, -⟩ := jr_cells hJ2; have HB2 := Aside0.mk (below_step HB1.out.drew hB); have HJ2 := Aside0.mk hJ2; have HD2 := Aside0.mk (disk_below (disk_drewN HD1.out 1) hB); have PUT2 := Aside0.mk (PUT.out w2.drew Av cv (jr_drewN HJ2.out 1) (disk_drewN HD2.out 1) (Nat.le_trans hbase HB2.out.size) hcv (fun w' hk => hsrc w' ⟨hk.os, hk.tape, hk.output, hk.size, hk.block⟩)); clear hsrc PUT; clear hB hV hJ2 PW2 HB1 HJ1 HD1))
      go_wp2_with fail
      have HC1' := hc1
      have HC2' := hc2
      obtain ⟨hwa, hwb⟩ := HA.out
      go_region_held3 (fun w' => w'.cell? ⟨gj, 1, none⟩ = some (.int .i64 j.slot) ∧ w'.cell? ⟨gj, 2, none⟩ = some (.int .i64 j.place)) (first | exact ⟨hc1, hc2⟩ | exact ⟨HC1', HC2'⟩)
        (first | (go_at_call 31; refine PUT2.out.mono ?_; rintro e w3 ⟨rfl, hJ3, hD3, hK3⟩; clear hc1 hc2 hc4; obtain ⟨-, hc1, hc2, -, -, -, -, -⟩ := jr_cells hJ3; have HJ3 := Aside0.mk hJ3; have HD3 := Aside0.mk hD3; have HK3 := Aside0.mk ((KeepJ.of_below (base := base) HB2.out.drew).trans hK3); clear hJ3 hD3 hK3 PUT2 HJ2 HD2 HB2))
      go_wp2_with (go_at_call 32; refine (FL.out _ _ HJ3.out HD3.out).mono ?_; rintro e w4 ⟨rfl, hJ4, hD4, hK4⟩; clear hc1 hc2; obtain ⟨-, hc1, hc2, hc3, hc4, hc5, hc6, -⟩ := jr_cells hJ4; have hfz := fun i => jr_frozen hJ4 i; have HJ4 := Aside0.mk hJ4; have HD4 := Aside0.mk hD4; have HK4 := Aside0.mk (HK3.out.trans hK4); clear hJ4 hD4 hK4 HJ3 HD3 HK3 FL)
      go_ret
      exact ⟨rfl, HJ4.out, HD4.out, HK4.out⟩
    · go_enter Try.func10, Try.ntmps10
      go_wp2_with (first | (go_at_call 29; refine (SW.out _ HJ.out).mono ?_; rintro e w1 ⟨rfl, rfl⟩) | (go_at_call 30; refine LW.out.mono ?_; rintro e w1 ⟨rfl, hB1⟩; have HJ1 := Aside0.mk (jr_below HJ.out hB1); have HD1 := Aside0.mk (disk_below HD.out hB1); have PW2 := Aside0.mk (PW.out _ (Kd.C_drew (Kd.C_below HR.out hB1))); have HB1 := Aside0.mk hB1; clear hB1 HJ HD PW HR LW SW))
      obtain ⟨-, hc1, -, -, hc4, -, -, -⟩ := jr_cells HJ1.out
      have HC1 := hc1
      have HC4 := hc4
      have hwr : IntKind.i64.wrap (ls + 1) = ls + 1 := wr64 _ (by omega) (by omega)
      go_region_held3 (fun w' => w'.cell? ⟨gj, 1, none⟩ = some (.int .i64 j.slot) ∧ w'.cell? ⟨gj, 4, none⟩ = some (.int .i64 j.seq)) (first | exact ⟨hc1, hc4⟩ | exact ⟨HC1, HC4⟩)
        (first | (go_at_call 24; refine PW2.out.mono ?_; rintro e w2 ⟨v, rfl, hV, hB⟩; obtain ⟨Av, cv, rfl⟩ := Kd.V_slice hV; obtain ⟨-, hcv, hsrc⟩ := V_srcD (base := base) hV; have hJ2 := jr_below (jr_drewN HJ1.out 1) hB; clear hc1 hc4; obtain ⟨-, hc1, hc2, -, hc4, -, -, -⟩ := jr_cells hJ2; have HB2 := Aside0.mk (below_step HB1.out.drew hB); have HJ2 := Aside0.mk hJ2; have HD2 := Aside0.mk (disk_below (disk_drewN HD1.out 1) hB); have PUT2 := Aside0.mk (PUT.out w2.drew Av cv (jr_drewN HJ2.out 1) (disk_drewN HD2.out 1) (Nat.le_trans hbase HB2.out.size) hcv (fun w' hk => hsrc w' ⟨hk.os, hk.tape, hk.output, hk.size, hk.block⟩)); clear hsrc PUT; clear hB hV hJ2 PW2 HB1 HJ1 HD1))
      go_wp2_with fail
      have HC1' := hc1
      have HC2' := hc2
      obtain ⟨hwa, hwb⟩ := HA.out
      go_region_held3 (fun w' => w'.cell? ⟨gj, 1, none⟩ = some (.int .i64 j.slot) ∧ w'.cell? ⟨gj, 2, none⟩ = some (.int .i64 j.place)) (first | exact ⟨hc1, hc2⟩ | exact ⟨HC1', HC2'⟩)
        (first | (go_at_call 31; refine PUT2.out.mono ?_; rintro e w3 ⟨rfl, hJ3, hD3, hK3⟩; clear hc1 hc2 hc4; obtain ⟨-, hc1, hc2, -, -, -, -, -⟩ := jr_cells hJ3; have HJ3 := Aside0.mk hJ3; have HD3 := Aside0.mk hD3; have HK3 := Aside0.mk ((KeepJ.of_below (base := base) HB2.out.drew).trans hK3); clear hJ3 hD3 hK3 PUT2 HJ2 HD2 HB2))
      go_wp2_with (go_at_call 32; refine (FL.out _ _ HJ3.out HD3.out).mono ?_; rintro e w4 ⟨rfl, hJ4, hD4, hK4⟩; clear hc1 hc2; obtain ⟨-, hc1, hc2, hc3, hc4, hc5, hc6, -⟩ := jr_cells hJ4; have hfz := fun i => jr_frozen hJ4 i; have HJ4 := Aside0.mk hJ4; have HD4 := Aside0.mk hD4; have HK4 := Aside0.mk (HK3.out.trans hK4); clear hJ4 hD4 hK4 HJ3 HD3 HK3 FL)
      go_ret
      exact ⟨rfl, HJ4.out, HD4.out, HK4.out⟩
  subst hz
  rw [if_neg (by simp)]
  rw [show ((0 : Int) != 0) = false from rfl] at FL
  have hws : IntKind.i64.wrap (2 * j.slot) = 2 * j.slot := wr64 _ (by omega) (by omega)
  have HWS := Aside0.mk hws
  clear hws
  rcases hst with rfl | rfl
  · go_enter Try.func10, Try.ntmps10
    go_wp2_with (first | (go_at_call 29; refine (SW.out _ HJ.out).mono ?_; rintro e w1 ⟨rfl, rfl⟩) | (go_at_call 30; refine LW.out.mono ?_; rintro e w1 ⟨rfl, hB1⟩; have HJ1 := Aside0.mk (jr_below HJ.out hB1); have HD1 := Aside0.mk (disk_below HD.out hB1); have PW2 := Aside0.mk (PW.out _ (Kd.C_drew (Kd.C_below HR.out hB1))); have HB1 := Aside0.mk hB1; clear hB1 HJ HD PW HR LW SW))
    obtain ⟨-, hc1, -, -, hc4, -, -, -⟩ := jr_cells HJ1.out
    have HC1 := hc1
    have HC4 := hc4
    have hwr : IntKind.i64.wrap (ls + 1) = ls + 1 := wr64 _ (by omega) (by omega)
    go_region_held3 (fun w' => w'.cell? ⟨gj, 1, none⟩ = some (.int .i64 j.slot) ∧ w'.cell? ⟨gj, 4, none⟩ = some (.int .i64 j.seq)) (first | exact ⟨hc1, hc4⟩ | exact ⟨HC1, HC4⟩)
      (first | (go_at_call 24; refine PW2.out.mono ?_; rintro e w2 ⟨v, rfl, hV, hB⟩; obtain ⟨Av, cv, rfl⟩ := Kd.V_slice hV; obtain ⟨-, hcv, hsrc⟩ := V_srcD (base := base) hV; have hJ2 := jr_below (jr_drewN HJ1.out 1) hB; clear hc1 hc4; obtain ⟨-, hc1, hc2, -, hc4, -, -, -⟩ := jr_cells hJ2; have HB2 := Aside0.mk (below_step HB1.out.drew hB); have HJ2 := Aside0.mk hJ2; have HD2 := Aside0.mk (disk_below (disk_drewN HD1.out 1) hB); have PUT2 := Aside0.mk (PUT.out w2.drew Av cv (jr_drewN HJ2.out 1) (disk_drewN HD2.out 1) (Nat.le_trans hbase HB2.out.size) hcv (fun w' hk => hsrc w' ⟨hk.os, hk.tape, hk.output, hk.size, hk.block⟩)); clear hsrc PUT; clear hB hV hJ2 PW2 HB1 HJ1 HD1))
    go_wp2_with fail
    have HC1' := hc1
    have HC2' := hc2
    obtain ⟨hwa, hwb⟩ := HA.out
    go_region_held3 (fun w' => w'.cell? ⟨gj, 1, none⟩ = some (.int .i64 j.slot) ∧ w'.cell? ⟨gj, 2, none⟩ = some (.int .i64 j.place)) (first | exact ⟨hc1, hc2⟩ | exact ⟨HC1', HC2'⟩)
      (first | (go_at_call 31; refine PUT2.out.mono ?_; rintro e w3 ⟨rfl, hJ3, hD3, hK3⟩; clear hc1 hc2 hc4; obtain ⟨-, hc1, hc2, -, -, -, -, -⟩ := jr_cells hJ3; have HJ3 := Aside0.mk hJ3; have HD3 := Aside0.mk hD3; have HK3 := Aside0.mk ((KeepJ.of_below (base := base) HB2.out.drew).trans hK3); clear hJ3 hD3 hK3 PUT2 HJ2 HD2 HB2))
    go_wp2_with (go_at_call 32; refine (FL.out _ _ HJ3.out HD3.out).mono ?_; rintro e w4 ⟨rfl, hJ4, hD4, hK4⟩; clear hc1 hc2; obtain ⟨-, hc1, hc2, hc3, hc4, hc5, hc6, -⟩ := jr_cells hJ4; have hfz := fun i => jr_frozen hJ4 i; have HJ4 := Aside0.mk hJ4; have HD4 := Aside0.mk hD4; have HK4 := Aside0.mk (HK3.out.trans hK4); clear hJ4 hD4 hK4 HJ3 HD3 HK3 FL)
    have hws := HWS.out
    have hf2 := hfz 2
    have hf3 := hfz 3
    have hf5 := hfz 5
    have hf6 := hfz 6
    clear hfz
    go_region
    go_wp2
    go_ret
    have a1 := jr_set2 HJ4.out (1 - j.place)
    have a2 := jr_set3 a1 (ls + 1)
    have a3 := jr_set5 a2 (2 * j.slot)
    have a4 := jr_set6 a3 true
    exact ⟨rfl, jr_drewN a4 1, disk_drewN (disk_setJ a3 (disk_setJ a2 (disk_setJ a1 (disk_setJ HJ4.out HD4.out 2 _) 3 _) 5 _) 6 _) 1, (HK4.out.trans ((keepJ_jr HJ4.out 2 _).trans ((keepJ_jr a1 3 _).trans ((keepJ_jr a2 5 _).trans (keepJ_jr a3 6 _))))).drewN 1⟩
  · go_enter Try.func10, Try.ntmps10
    go_wp2_with (first | (go_at_call 29; refine (SW.out _ HJ.out).mono ?_; rintro e w1 ⟨rfl, rfl⟩) | (go_at_call 30; refine LW.out.mono ?_; rintro e w1 ⟨rfl, hB1⟩; have HJ1 := Aside0.mk (jr_below HJ.out hB1); have HD1 := Aside0.mk (disk_below HD.out hB1); have PW2 := Aside0.mk (PW.out _ (Kd.C_drew (Kd.C_below HR.out hB1))); have HB1 := Aside0.mk hB1; clear hB1 HJ HD PW HR LW SW))
    obtain ⟨-, hc1, -, -, hc4, -, -, -⟩ := jr_cells HJ1.out
    have HC1 := hc1
    have HC4 := hc4
    have hwr : IntKind.i64.wrap (ls + 1) = ls + 1 := wr64 _ (by omega) (by omega)
    go_region_held3 (fun w' => w'.cell? ⟨gj, 1, none⟩ = some (.int .i64 j.slot) ∧ w'.cell? ⟨gj, 4, none⟩ = some (.int .i64 j.seq)) (first | exact ⟨hc1, hc4⟩ | exact ⟨HC1, HC4⟩)
      (first | (go_at_call 24; refine PW2.out.mono ?_; rintro e w2 ⟨v, rfl, hV, hB⟩; obtain ⟨Av, cv, rfl⟩ := Kd.V_slice hV; obtain ⟨-, hcv, hsrc⟩ := V_srcD (base := base) hV; have hJ2 := jr_below (jr_drewN HJ1.out 1) hB; clear hc1 hc4; obtain ⟨-, hc1, hc2, -, hc4, -, -, -⟩ := jr_cells hJ2; have HB2 := Aside0.mk (below_step HB1.out.drew hB); have HJ2 := Aside0.mk hJ2; have HD2 := Aside0.mk (disk_below (disk_drewN HD1.out 1) hB); have PUT2 := Aside0.mk (PUT.out w2.drew Av cv (jr_drewN HJ2.out 1) (disk_drewN HD2.out 1) (Nat.le_trans hbase HB2.out.size) hcv (fun w' hk => hsrc w' ⟨hk.os, hk.tape, hk.output, hk.size, hk.block⟩)); clear hsrc PUT; clear hB hV hJ2 PW2 HB1 HJ1 HD1))
    go_wp2_with fail
    have HC1' := hc1
    have HC2' := hc2
    obtain ⟨hwa, hwb⟩ := HA.out
    go_region_held3 (fun w' => w'.cell? ⟨gj, 1, none⟩ = some (.int .i64 j.slot) ∧ w'.cell? ⟨gj, 2, none⟩ = some (.int .i64 j.place)) (first | exact ⟨hc1, hc2⟩ | exact ⟨HC1', HC2'⟩)
      (first | (go_at_call 31; refine PUT2.out.mono ?_; rintro e w3 ⟨rfl, hJ3, hD3, hK3⟩; clear hc1 hc2 hc4; obtain ⟨-, hc1, hc2, -, -, -, -, -⟩ := jr_cells hJ3; have HJ3 := Aside0.mk hJ3; have HD3 := Aside0.mk hD3; have HK3 := Aside0.mk ((KeepJ.of_below (base := base) HB2.out.drew).trans hK3); clear hJ3 hD3 hK3 PUT2 HJ2 HD2 HB2))
    go_wp2_with (go_at_call 32; refine (FL.out _ _ HJ3.out HD3.out).mono ?_; rintro e w4 ⟨rfl, hJ4, hD4, hK4⟩; clear hc1 hc2; obtain ⟨-, hc1, hc2, hc3, hc4, hc5, hc6, -⟩ := jr_cells hJ4; have hfz := fun i => jr_frozen hJ4 i; have HJ4 := Aside0.mk hJ4; have HD4 := Aside0.mk hD4; have HK4 := Aside0.mk (HK3.out.trans hK4); clear hJ4 hD4 hK4 HJ3 HD3 HK3 FL)
    have hws := HWS.out
    have hf2 := hfz 2
    have hf3 := hfz 3
    have hf5 := hfz 5
    have hf6 := hfz 6
    clear hfz
    go_region
    go_wp2
    go_ret
    have a1 := jr_set2 HJ4.out (1 - j.place)
    have a2 := jr_set3 a1 (ls + 1)
    have a3 := jr_set5 a2 (2 * j.slot)
    have a4 := jr_set6 a3 true
    exact ⟨rfl, jr_drewN a4 1, disk_drewN (disk_setJ a3 (disk_setJ a2 (disk_setJ a1 (disk_setJ HJ4.out HD4.out 2 _) 3 _) 5 _) 6 _) 1, (HK4.out.trans ((keepJ_jr HJ4.out 2 _).trans ((keepJ_jr a1 3 _).trans ((keepJ_jr a2 5 _).trans (keepJ_jr a3 6 _))))).drewN 1⟩
end Go.Proofs.Ytglpelhbncdkmaa.XJour
