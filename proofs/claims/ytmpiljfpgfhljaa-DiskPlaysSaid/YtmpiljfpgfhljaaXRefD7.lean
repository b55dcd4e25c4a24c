/-
  The reference's disk by walks: Crash.
-/
import Derived.Laws.CopyOwn
import Derived.ArgAppend
import Derived.Below
import Derived.BigQuiet
import Derived.Deep.AppendLies
import Derived.Deep.CutBlock
import Derived.Deep.DeepCutAuto
import Derived.Deep.Draws
import Derived.Deep.LoopGhost
import Derived.Deep.OwnRows
import Derived.Deep.QuietTactic
import Derived.Deep.RegionHeld3
import Derived.Deep.WholeRow
import Derived.KernelRfl
import Derived.Laws.BitsLemmas
import Derived.Laws.BytesArg
import Derived.Laws.IdiomCopy
import Derived.Laws.MakeOwn
import Derived.Laws.OwnMore
import Derived.Laws.Rows
import Derived.Laws.Slices
import Derived.Lib.AppendStr
import Derived.Lib.ConvBytes
import Derived.Lib.Hide
import Derived.Maps.AppendAt
import Derived.OrdersHeld
import Derived.Outline
import Derived.OwnWalk
import Derived.RowKit
import Derived.RowKit3
import Derived.Tactics
import Derived.WalkKit
import Derived.WideLaws
import Derived.Test.YtmpiljfpgfhljaaProg
import Derived.Test.YtmpiljfpgfhljaaWApart
import Derived.Test.YtmpiljfpgfhljaaWArr
import Derived.Test.YtmpiljfpgfhljaaWAt
import Derived.Test.YtmpiljfpgfhljaaWEqStruct
import Derived.Test.YtmpiljfpgfhljaaWFoot
import Derived.Test.YtmpiljfpgfhljaaWFootNe
import Derived.Test.YtmpiljfpgfhljaaWFour
import Derived.Test.YtmpiljfpgfhljaaWGuard
import Derived.Test.YtmpiljfpgfhljaaWInv
import Derived.Test.YtmpiljfpgfhljaaWInvWords
import Derived.Test.YtmpiljfpgfhljaaWKept
import Derived.Test.YtmpiljfpgfhljaaWLast
import Derived.Test.YtmpiljfpgfhljaaWMore
import Derived.Test.YtmpiljfpgfhljaaWN
import Derived.Test.YtmpiljfpgfhljaaWNEv
import Derived.Test.YtmpiljfpgfhljaaWQPut
import Derived.Test.YtmpiljfpgfhljaaWRepsOne
import Derived.Test.YtmpiljfpgfhljaaWShare
import Derived.Test.YtmpiljfpgfhljaaWTab
import Derived.Test.YtmpiljfpgfhljaaWWords
import Derived.Test.YtmpiljfpgfhljaaWZeros
import Derived.Test.YtmpiljfpgfhljaaXSlices

import Derived.StillTailTactics
import Derived.Test.YtmpiljfpgfhljaaXRefD6
namespace Go.Proofs.Ytmpiljfpgfhljaa.XRefD
open Go.RowKit Go.Proofs.YtmpiljfpgfhljaaW.PrintWords Go.Proofs.YtmpiljfpgfhljaaW.PrintLast Go.Proofs.YtmpiljfpgfhljaaW.PrintMore XCm XDisk
set_option linter.unusedVariables false
set_option linter.unusedSimpArgs false
noncomputable def rCrash10 := rtab .any (opsOf Try.f38 10)
noncomputable def rCrash15 := rtab .any (opsOf Try.f38 15)
def rBit (keep : Int) (n : Nat) : Bool := decide ((n : Int) < 62) && (Go.bits .and .u64 (IntKind.u64.wrap keep / 2 ^ n) 1 == 1)
def rMany (keep torn cut : Int) (n : Nat) : Int := if (n : Int) = torn then cut else if rBit keep n = true then 32 else 0
def rHit (keep torn cut : Int) (log : List (Int × List Int)) (n : Nat) (a : Int) (g : List (List Int)) : List (List Int) :=
  g.set a.toNat (mixed (g.getD a.toNat []) (lastF a (g.getD a.toNat []) log) (cutAt (rMany keep torn cut n)))
def rCrashed (keep torn cut : Int) (log : List (Int × List Int)) (good : List (List Int)) (ord : List Int) : Nat → List (List Int)
  | 0 => good
  | n + 1 => rHit keep torn cut log n (ord.getD n 0) (rCrashed keep torn cut log good ord n)
def rCrash (s : Rf) (keep torn cut : Int) : Rf := { good := rCrashed keep torn cut s.log s.good (orderF s.log) (orderF s.log).length, log := [], fuse := -1 }
theorem rCrashed_len (keep torn cut : Int) (log : List (Int × List Int)) (good : List (List Int)) (ord : List Int) : ∀ n, (rCrashed keep torn cut log good ord n).length = good.length
  | 0 => rfl
  | n + 1 => by
    show (rHit _ _ _ _ _ _ _).length = _
    unfold rHit
    rw [List.length_set]
    exact rCrashed_len keep torn cut log good ord n
theorem lastF_all (P : List Int → Prop) (i : Int) : ∀ (l : List (Int × List Int)) (b : List Int), P b → (∀ x ∈ l, P x.2) → P (lastF i b l)
  | [], b, hb, _ => hb
  | x :: l, b, hb, hl => by
    unfold lastF
    rw [List.foldl_cons]
    refine lastF_all P i l _ ?_ (fun y hy => hl y (List.mem_cons_of_mem _ hy))
    split
    · exact hl x (List.mem_cons_self ..)
    · exact hb
theorem mixed_len (old new : List Int) (c : Nat) (h1 : old.length = 32) (h2 : new.length = 32) (hc : c ≤ 32) : (mixed old new c).length = 32 := by
  unfold mixed
  rw [List.length_append, List.length_take, List.length_drop]
  omega
theorem mixed_set (old new : List Int) (i : Nat) (h : i < new.length) (h2 : i < old.length) : (mixed old new i).set i new[i] = mixed old new (i + 1) := by
  unfold mixed
  have hl : (new.take i).length = i := by rw [List.length_take]; omega
  rw [List.take_succ_eq_append_getElem h, List.set_append, if_neg (by rw [hl]; omega), hl, Nat.sub_self, List.drop_eq_getElem_cons h2, List.set_cons_zero, List.append_assoc]
  rfl
/-- A byte of a row of one's own. -/
theorem u8_at {base : Nat} {w : World} {A : Option Addr} {n c : Nat} {o : List Int} (h : (Kd.int .u8).R 5 w base (fun _ => True) (.slice A n c) o) (i : Nat) (hi : i < o.length) : ∃ ad, A = some ad ∧ w.cell? (ad.add i) = some (.int .u8 o[i]) := by
  obtain ⟨-, hlc, hC⟩ := Kd.R_reads' h
  obtain ⟨ad, cs, rfl, hcl, hK, hce⟩ := Kd.C_get hC o[i] (i : Int) (by omega) (by omega)
  rw [Int.toNat_natCast, List.getD_eq_getElem?_getD, List.getElem?_eq_getElem hi] at hK
  obtain rfl : cs = [.int .u8 o[i]] := hK
  have hz : (Kd.int .u8).sz = 1 := rfl
  rw [Int.toNat_natCast, hz, Nat.mul_one] at hce
  have s0 := hce 0 _ rfl
  rw [Nat.add_zero] at s0
  exact ⟨ad, rfl, s0⟩
theorem cutAt_le (c : Int) : cutAt c ≤ 32 := by unfold cutAt mx mn; omega
theorem order_mem (l : List (Int × List Int)) : ∀ a ∈ orderF l, ∃ x ∈ l, x.1 = a := by
  have key : ∀ (l : List (Int × List Int)) (o : List Int), ∀ a ∈ l.foldl (fun o x => oneMore o x.1) o, a ∈ o ∨ ∃ x ∈ l, x.1 = a := by
    intro l
    induction l with
    | nil => intro o a ha; exact .inl ha
    | cons x l ih =>
      intro o a ha
      rcases ih (oneMore o x.1) a ha with h | ⟨y, hy, rfl⟩
      · unfold oneMore at h
        split at h
        · exact .inl h
        · rcases List.mem_append.1 h with h | h
          · exact .inl h
          · exact .inr ⟨x, List.mem_cons_self .., (List.mem_singleton.1 h).symm⟩
      · exact .inr ⟨y, List.mem_cons_of_mem _ hy, rfl⟩
  intro a ha
  rcases key l [] a ha with h | h
  · cases h
  · exact h
theorem rCrashed_32 (keep torn cut : Int) (log : List (Int × List Int)) (good : List (List Int)) (ord : List Int) (hg : ∀ b ∈ good, b.length = 32) (hl : ∀ x ∈ log, x.2.length = 32) (ho : ∀ a ∈ ord, 0 ≤ a ∧ a < (good.length : Nat)) : ∀ n, n ≤ ord.length → ∀ b ∈ rCrashed keep torn cut log good ord n, b.length = 32
  | 0, _ => hg
  | n + 1, hn => by
    intro b hb
    have ih := rCrashed_32 keep torn cut log good ord hg hl ho n (by omega)
    have hlen := rCrashed_len keep torn cut log good ord n
    rw [rCrashed] at hb
    unfold rHit at hb
    rw [List.getD_eq_getElem?_getD, List.getElem?_eq_getElem (by omega : n < ord.length), Option.getD_some] at hb
    have hr := ho ord[n] (List.getElem_mem _)
    have hj : (ord[n]).toNat < (rCrashed keep torn cut log good ord n).length := by omega
    rw [List.getD_eq_getElem?_getD, List.getElem?_eq_getElem hj, Option.getD_some] at hb
    rcases List.mem_or_eq_of_mem_set hb with h | h
    · exact ih b h
    · rw [h]
      have h1 := ih _ (List.getElem_mem hj)
      exact mixed_len _ _ _ h1 (lastF_all (fun b => b.length = 32) _ _ _ h1 hl) (cutAt_le _)
theorem ref_done {base g : Nat} {s : Rf} {w : World} (h : RefAt base w g s) : RefAt base ((w.setCell ⟨g, 1, none⟩ (.slice none 0 0)).setCell ⟨g, 2, none⟩ (.int .i64 (-1))) g { s with log := [], fuse := -1 } ∧ KeepR base w ((w.setCell ⟨g, 1, none⟩ (.slice none 0 0)).setCell ⟨g, 2, none⟩ (.int .i64 (-1))) ∧
    ((∃ z, w.cell? ⟨g, 1, none⟩ = some z) ∧ (∃ z, w.cell? ⟨g, 2, none⟩ = some z) ∧ w.frozen? ⟨g, 1, none⟩ = false ∧ w.frozen? ⟨g, 2, none⟩ = false) := by
  obtain ⟨h1, h2, -⟩ := ref_flushed h
  obtain ⟨h3, h4⟩ := ref_fuse h1 (-1)
  obtain ⟨vg, vc, k1, -, -, -⟩ := h
  exact ⟨h3, h2.trans h4, ⟨vc, by rw [blk_cell k1]; rfl⟩, ⟨_, by rw [blk_cell k1]; rfl⟩, blk_frozen k1 _, blk_frozen k1 _⟩
attribute [local irreducible] orderF lastF rMany rCrashed mixed
set_option maxRecDepth 100000 in
set_option maxHeartbeats 2000000 in
theorem rcrash_walk (base g : Nat) (s : Rf) (keep torn cut : Int) (w : World) (h : RefAt base w g s) (hin : rInR s) (hl : s.log.length * 8 ≤ 140737488355328) (hbase : base ≤ w.heap.size) (hg32 : ∀ b ∈ s.good, b.length = 32) (hl32 : ∀ x ∈ s.log, x.2.length = 32) :
    Calls Try.prog 38 #[.pointer (some ⟨g, 0, none⟩), .int .i64 keep, .int .i64 torn, .int .i64 cut] w fun e w' => e = .returned (.tuple #[]) ∧ RefAt base w' g (rCrash s keep torn cut) ∧ KeepR base w w' := by
  have OW := Aside0.mk (rorder_walk base g s w h hl)
  have hord : ∀ a ∈ orderF s.log, 0 ≤ a ∧ a < (s.good.length : Nat) := fun a ha => by
    obtain ⟨x, hx, rfl⟩ := order_mem s.log a ha
    exact hin x hx
  have h32 := rCrashed_32 keep torn cut s.log s.good (orderF s.log) hg32 hl32 hord
  have HL32 := Aside0.mk hl32
  have HH := Aside0.mk h
  have H32 := Aside0.mk h32
  have HOR := Aside0.mk hord
  have HOL := order_len s.log
  unfold rCrash
  obtain ⟨ord, ho⟩ : ∃ z, orderF s.log = z := ⟨_, rfl⟩
  rw [ho] at OW H32 HOR HOL ⊢
  clear h h32 hord ho hg32 hl32 hin
  go_enter Try.func38, Try.ntmps38
  go_wp2_with (go_at_call 40; refine OW.out.mono ?_; rintro e w1 ⟨v1, rfl, hR1, hB1⟩; obtain ⟨A1, c1, rfl⟩ := Kd.R_slice hR1; have HR1 := Aside0.mk hR1; have HB1 := Aside0.mk hB1; clear hR1 hB1)
  go_loopw [9] (fun v9 wr => ∃ n : Nat, n ≤ ord.length ∧ v9 = .int .i64 n ∧ Aside0 ((Kd.int .i64).R 3 wr w.heap.size (fun _ => True) (.slice A1 ord.length c1) ord) ∧ Aside0 (RefAt base wr g ⟨rCrashed keep torn cut s.log s.good ord n, s.log, s.fuse⟩) ∧ Aside0 (KeepR base w wr)) (fun v9 _ => ord.length - (intOf v9).toNat)
  case atStart => exact ⟨0, Nat.zero_le _, rfl, HR1, Aside0.mk (by rw [show rCrashed keep torn cut s.log s.good ord 0 = s.good from by unfold rCrashed; rfl]; exact ref_below HH.out HB1.out), Aside0.mk (KeepR.of_below HB1.out)⟩
  case round =>
    clear HR1 HB1 OW HH
    obtain ⟨n, hn, rfl, HR, HF, HK⟩ := hrel
    by_cases hlt : n < ord.length
    · have hni : (n : Int) < (ord.length : Int) := by omega
      have hn0 : (0 : Int) ≤ (n : Int) := by omega
      have hm1 : ord.length ≤ 9223372036854775807 := by omega
      have HS := Aside0.mk (show rCrashed keep torn cut s.log s.good ord (n + 1) = rHit keep torn cut s.log n ord[n] (rCrashed keep torn cut s.log s.good ord n) by
        rw [rCrashed, List.getD_eq_getElem?_getD, List.getElem?_eq_getElem hlt]; rfl)
      have hr := HOR.out ord[n] (List.getElem_mem hlt)
      obtain ⟨ao, rfl, t0⟩ := int_at HR.out n hlt
      have hgl := rCrashed_len keep torn cut s.log s.good ord n
      have hg32 := H32.out n hn
      obtain ⟨gd, hgd⟩ : ∃ z, rCrashed keep torn cut s.log s.good ord n = z := ⟨_, rfl⟩
      rw [hgd] at HS HF hgl hg32
      obtain ⟨a, ha⟩ : ∃ z, ord[n] = z := ⟨_, rfl⟩
      rw [ha] at HS hr t0
      clear ha hgd
      obtain ⟨j, rfl⟩ := Int.eq_ofNat_of_zero_le hr.1
      have hj : j < gd.length := by omega
      have HX := Aside0.mk (show rReadB ⟨gd, s.log, s.fuse⟩ ((j : Nat) : Int) = lastF ((j : Nat) : Int) gd[j] s.log by
        unfold rReadB rNow rHas
        rw [if_pos (by simp only [Bool.and_eq_true, decide_eq_true_eq]; omega), Int.toNat_natCast, List.getD_eq_getElem?_getD, List.getElem?_eq_getElem hj]; rfl)
      obtain ⟨b, hb⟩ : ∃ z, lastF ((j : Nat) : Int) gd[j] s.log = z := ⟨_, rfl⟩
      have hb32 : b.length = 32 := by rw [← hb]; exact lastF_all (fun b => b.length = 32) _ _ _ (hg32 _ (List.getElem_mem hj)) HL32.out
      rw [hb] at HX
      have RW := Aside0.mk (rread_walk base g ⟨gd, s.log, s.fuse⟩ ((j : Nat) : Int) wr HF.out (by rw [HX.out, hb32]; decide))
      rw [HX.out] at RW
      have B32 := Aside0.mk hb32
      have GL := Aside0.mk hgl
      have G32 := Aside0.mk hg32
      have HBB := Aside0.mk hb
      clear HX hb hgl hg32 hb32
      go_upto_region 6 with (go_at_call 41; refine RW.out.mono ?_; rintro e w2 ⟨v2, rfl, hR2, hB2⟩; obtain ⟨A2, c2, rfl⟩ := Kd.R_slice hR2; have HR2 := Aside0.mk hR2; have HB2 := Aside0.mk hB2; clear hR2 hB2)
      go_cut [42] (fun v42 wc => v42 = .bool (rBit keep n) ∧ wc = w2)
      case first =>
        by_cases h62 : (n : Int) < 62
        · have b62 : decide ((n : Int) < 62) = true := decide_eq_true h62
          go_wp2
          go_meet
          exact ⟨by unfold rBit; rw [b62, Bool.true_and], rfl⟩
        · have b62 : decide ((n : Int) < 62) = false := decide_eq_false h62
          go_wp2
          go_meet
          exact ⟨by unfold rBit; rw [b62, Bool.false_and], rfl⟩
      case rest =>
      obtain ⟨rfl, hw⟩ := hcut
      rw [hw]
      clear hw wc
      obtain ⟨z, hz⟩ : ∃ z, rBit keep n = z := ⟨_, rfl⟩
      have e_ : rMany keep torn cut n = if (n : Int) = torn then cut else if z = true then 32 else 0 := by unfold rMany; rw [hz]
      obtain ⟨m1, hm1⟩ : ∃ m1 : Int, (if z = true then 32 else 0) = m1 := ⟨_, rfl⟩
      rw [hm1] at e_
      have M1 := Aside0.mk hm1
      have E_ := Aside0.mk e_
      rw [hz]
      clear hz e_ hm1
      go_upto_if 42 with fail
      go_cut [12] (fun v12 wc => v12 = .int .i64 m1 ∧ wc = w2)
      case first =>
        cases z with
        | true => go_wp2; go_meet; exact ⟨by rw [← M1.out]; rfl, rfl⟩
        | false => go_wp2; go_meet; exact ⟨by rw [← M1.out]; rfl, rfl⟩
      case rest =>
      obtain ⟨rfl, hw⟩ := hcut
      rw [hw]
      clear hw wc
      go_upto_if 45 with fail
      go_cut [12] (fun v12 wc => v12 = .int .i64 (rMany keep torn cut n) ∧ wc = w2)
      case first =>
        by_cases ht : (n : Int) = torn
        · have bt : ((n : Int) == torn) = true := by simpa using ht
          have e_ := E_.out
          rw [if_pos ht] at e_
          have E2 := Aside0.mk e_
          clear e_ ht E_
          go_wp2
          go_meet
          exact ⟨by rw [E2.out], rfl⟩
        · have bt : ((n : Int) == torn) = false := by simpa using ht
          have e_ := E_.out
          rw [if_neg ht] at e_
          have E2 := Aside0.mk e_
          clear e_ ht E_
          go_wp2
          go_meet
          exact ⟨by rw [E2.out], rfl⟩
      case rest =>
      obtain ⟨rfl, hw⟩ := hcut
      rw [hw]
      clear hw wc
      clear E_ M1 RW
      obtain ⟨m, hm⟩ : ∃ m, rMany keep torn cut n = m := ⟨_, rfl⟩
      have HM := Aside0.mk hm
      rw [hm]
      clear hm
      have HF2 := ref_below HF.out HB2.out
      obtain ⟨A5, c5, hc5, m5, l5, G⟩ := good_at HF2
      obtain ⟨ag, Bg, dg, rfl, u0, ul, uC⟩ := G j hj
      have t2 : w2.cell? (ao.add n) = some (.int .i64 ((j : Nat) : Int)) := (HB2.out.cell (World.block_lt_of_cell? wr _ t0)).trans t0
      obtain ⟨old, hold⟩ : ∃ z, gd[j] = z := ⟨_, rfl⟩
      have ho32 : old.length = 32 := by rw [← hold]; exact G32.out _ (List.getElem_mem hj)
      rw [hold] at u0 ul uC
      have hgl5 : gd.length = s.good.length := GL.out
      have p5 : (j : Int) < (gd.length : Int) := by omega
      have p6 : (0 : Int) ≤ (j : Int) := by omega
      have UC := Aside0.mk (Kd.C_drew uC)
      have HF2 := Aside0.mk HF2
      have O32 := Aside0.mk ho32
      have HOLD := Aside0.mk hold
      have HR2' := Aside0.mk (Kd.R_below HR.out HB2.out)
      have HK2 := Aside0.mk (HK.out.trans (KeepR.of_below HB2.out))
      have hbw : base ≤ w2.heap.size := Nat.le_trans hbase HK2.out.size
      clear G uC t0 hold HF HR HK hgl5 ho32
      go_upto_region 10 with fail
      refine sta 13 (fun w' => w'.cell? ⟨g, 0, none⟩ = some (.slice (some ag) gd.length c5) ∧ w'.cell? (ao.add n) = some (.int .i64 ((j : Nat) : Int)) ∧ w'.cell? (ag.add j) = some (.slice Bg old.length dg)) [] rCrash10 ⟨hc5, t2, u0⟩ (fun hH HT_ HW_ => ?_)
      have Bd := Aside0.mk (below_drew1 (Below.refl w2.heap.size w2))
      have HZ3 := Aside0.mk (show w2.drew.heap.size = w2.heap.size from rfl)
      have R0 := Aside0.mk t2
      clear hc5 t2 u0
      generalize w2.drew = w3 at *
      refine pu 1 48 (tb 13 2) HT_ ?_
      refine pu 2 49 (tb 13 6) HT_ ?_
      refine pu 3 50 (tb 13 14) HT_ ?_
      refine tk 4 51 (tb 13 30) HT_ HW_ hH ?_
      refine pu 5 52 (tb 13 62) HT_ ?_
      refine pu 6 53 (tb 13 126) HT_ ?_
      refine pu 7 54 (tb 13 254) HT_ ?_
      refine tk 8 55 (tb 13 510) HT_ HW_ hH ?_
      refine pu 9 56 (tb 13 1022) HT_ ?_
      refine tk 10 57 (tb 13 2046) HT_ HW_ hH ?_
      refine ev 0 47 (tb 13 2047) HT_ ?_ (fun hH3 => ?_)
      · obtain ⟨a1, a2, a3⟩ := hH
        exact ⟨(World.cell?_alloc_lt _ _ _ (World.block_lt_of_cell? _ _ a1)).trans a1, (World.cell?_alloc_lt _ _ _ (World.block_lt_of_cell? _ _ a2)).trans a2, (World.cell?_alloc_lt _ _ _ (World.block_lt_of_cell? _ _ a3)).trans a3⟩
      refine on 11 58 (tb 13 4095) HT_ (fun K hK => ?_)
      refine Kd.R_append_rows_step (Kd.int .u8) (w0 := w3) (Rr := (Kd.int .u8).K (w3.alloc (.cells #[] 5))) w3.heap.size (by rfl) (.tmp 47) (.tmp 57) 29 5 (.int .u8 0) 1 (by rfl) Try.underlying29 info_u8 rfl (by decide) (by decide) (.slice (some ⟨w3.heap.size, 0, none⟩) 0 0) [] old Bg old.length dg (fun _ => True) (fun _ => False) rfl (by rfl) (R_empty _ _ _ _ (Nat.le_refl _)) (Kd.C_alloc UC.out _) (fun _ _ h => h) (fun _ h => h.elim) (fun _ _ => trivial) (Below.alloc (Below.refl _ _) (Nat.le_refl _) _) (by simp) (by have := O32.out; simp; omega) ?_
      intro v4 w4 hR4 hB4 _ _
      rw [List.nil_append] at hR4
      refine nx hK (by
        obtain ⟨a1, a2, a3⟩ := hH
        exact ⟨(hB4.cell (World.block_lt_of_cell? _ _ a1)).trans a1, (hB4.cell (World.block_lt_of_cell? _ _ a2)).trans a2, (hB4.cell (World.block_lt_of_cell? _ _ a3)).trans a3⟩) (fun hH4 => ?_)
      clear hK K hH hH3 hH4 UC
      obtain ⟨gn, cn, rfl, hgn, -, -⟩ := Kd.R_form hR4 (by rw [O32.out]; decide)
      have HR4 := Aside0.mk hR4
      have HB4 := Aside0.mk (Bd.out.trans (hB4.mono (by rw [HZ3.out]; exact Nat.le_refl _)))
      clear hR4 hB4 Bd
      refine pu 12 13 (tb 13 8191) HT_ ?_
      refine dn HT_ ?_
      clear HT_ HW_
      have hg2 : w2.heap.size ≤ gn := by rw [← HZ3.out]; exact hgn
      have hb0 : b.length ≤ 9223372036854775807 := by rw [B32.out]; decide
      go_wp2
      go_loopw [14] (fun v14 wi => ∃ i : Nat, i ≤ 32 ∧ v14 = .int .i64 i ∧ (i : Int) ≤ mx 0 m ∧ Aside0 ((Kd.int .u8).R 5 wi w3.heap.size (fun _ => True) (.slice (some ⟨gn, 0, none⟩) old.length cn) (mixed old b i)) ∧ Aside0 (Below w2.heap.size w2 wi)) (fun v14 _ => 32 - (intOf v14).toNat)
      case atStart => exact ⟨0, by decide, rfl, by unfold mx; omega, Aside0.mk (by rw [show mixed old b 0 = old from by unfold mixed; simp]; exact HR4.out), HB4⟩
      case round =>
        clear HR4 HB4
        obtain ⟨i, hi, rfl, him, HR4, HB4⟩ := hrel
        by_cases hc : i < 32 ∧ (i : Int) < m
        · obtain ⟨hc1, hc2⟩ := hc
          have e1 : decide ((i : Int) < 32) = true := decide_eq_true (by omega)
          have e2 : decide ((i : Int) < m) = true := decide_eq_true hc2
          have e3 : (0 : Int) ≤ (i : Int) := by omega
          have hml := mixed_len old b i O32.out B32.out (by omega)
          have hput := Kd.R_putn HR4.out (i : Int) (b.getD i 0)
          obtain ⟨q1, q2⟩ := Kd.R_celln (0 : Int) HR4.out (i : Int) e3 (by rw [O32.out]; omega)
          have hib : i < b.length := by rw [B32.out]; exact hc1
          obtain ⟨ab, eb, q3⟩ := u8_at (Kd.R_below HR2.out (show Below w2.heap.size w2 wr from HB4.out)) i hib
          subst eb
          rw [Int.toNat_natCast] at hput q1 q2
          have hbg : b.getD i 0 = b[i] := by rw [List.getD_eq_getElem?_getD, List.getElem?_eq_getElem hib]; rfl
          rw [hbg] at hput
          have hst : (mixed old b i).set i b[i] = mixed old b (i + 1) := mixed_set old b i hib (by rw [O32.out]; exact hc1)
          rw [hst] at hput
          have HP := Aside0.mk hput
          have HB5 := Aside0.mk (below_set (j := i) (v := (.int .u8 b[i] : Value)) HB4.out hg2)
          have e4 : (i : Int) < (b.length : Int) := by omega
          have e5 : (i : Int) < (old.length : Int) := by rw [O32.out]; omega
          have hni : ((i + 1 : Nat) : Int) ≤ mx 0 m := by unfold mx; omega
          obtain ⟨y, hy⟩ : ∃ z, b[i] = z := ⟨_, rfl⟩
          rw [hy] at q3 HP HB5
          clear hput hst hbg hml HR4 hy HB4
          go_wp2
          go_roundw
          case rel => exact ⟨i + 1, by omega, by go_num, hni, HP, HB5⟩
          case measure => simp [intOf]; omega
        · have hfin : i = cutAt m := by unfold cutAt mx mn at *; omega
          have hor : (¬ (i : Int) < 32) ∨ (decide ((i : Int) < 32) = true ∧ ¬ (i : Int) < m) := by
            by_cases h : i < 32
            · exact .inr ⟨decide_eq_true (by omega), fun h' => hc ⟨h, h'⟩⟩
            · exact .inl (by omega)
          have hput := ref_put (ref_drew (ref_below HF2.out (show Below w2.heap.size w2 wr from HB4.out))) j hj (mixed old b i) (.slice (some ⟨gn, 0, none⟩) old.length cn) ⟨_, rfl, Kd.R_lower (Kd.R_drew HR4.out) (by rw [HZ3.out]; exact hbw)⟩
          obtain ⟨gb, cg, z, p0, p1, p2, p3, p4⟩ := hput
          have r0 : wr.cell? (ao.add n) = some (.int .i64 ((j : Nat) : Int)) := (HB4.out.cell (World.block_lt_of_cell? w2 _ R0.out)).trans R0.out
          have P3 := Aside0.mk p3
          have P4 := Aside0.mk ((HK2.out.trans (KeepR.of_below HB4.out)).drew.trans p4)
          have PR := Aside0.mk (R_keepR (Kd.R_drew (Kd.R_below HR2'.out (show Below w2.heap.size w2 wr from HB4.out))) (by intro q hq; simp [Kd.int, Kd.scalar] at hq; unfold rT; omega) p4)
          have HS2 := Aside0.mk (show gd.set j (mixed old b i) = rCrashed keep torn cut s.log s.good ord (n + 1) by
            rw [HS.out]
            unfold rHit
            rw [Int.toNat_natCast, List.getD_eq_getElem?_getD, List.getElem?_eq_getElem hj, Option.getD_some, HBB.out, HOLD.out, HM.out, hfin])
          clear hc p3 p4 HS HR4 HR2' HR2
          rcases hor with h1 | ⟨h1, h2⟩
          all_goals (go_upto_region 15 with fail)
          all_goals
            refine sta 11 (fun w' => w'.cell? ⟨g, 0, none⟩ = some (.slice (some ⟨gb, 0, none⟩) gd.length cg) ∧ w'.cell? (ao.add n) = some (.int .i64 ((j : Nat) : Int))) [10] rCrash15 ⟨p0, r0⟩ (fun hH HT_ HW_ => ?_)
            clear p0 r0
            generalize wr.drew = w5 at *
            refine pu 0 75 (tb 11 1) HT_ ?_
            refine pu 1 76 (tb 11 3) HT_ ?_
            refine pu 2 77 (tb 11 7) HT_ ?_
            refine tk 3 78 (tb 11 15) HT_ HW_ hH ?_
            refine pu 4 79 (tb 11 31) HT_ ?_
            refine pu 5 80 (tb 11 63) HT_ ?_
            refine pu 6 81 (tb 11 127) HT_ ?_
            refine tk 7 82 (tb 11 255) HT_ HW_ hH ?_
            refine pu 8 83 (tb 11 511) HT_ ?_
            refine pu 9 84 (tb 11 1023) HT_ ?_
            refine la 10 (tb 11 2047) HT_ (N := none) (fun K hK => ?_)
            go_simp
            refine hK.out _ _ ?_
            clear hK K HT_ HW_ hH p1 p2
            go_wp2
            go_roundw
            case rel => exact ⟨n + 1, hlt, by go_num, PR, Aside0.mk (by rw [← HS2.out]; exact P3.out), P4⟩
            case measure => simp [intOf]; omega
    · obtain rfl : n = ord.length := by omega
      have HE := Aside0.mk (ref_done HF.out)
      obtain ⟨⟨z1, x1⟩, ⟨z2, x2⟩, x3, x4⟩ := HE.out.2.2
      clear HF
      go_wp2
      go_end0
      exact ⟨rfl, HE.out.1, HK.out.trans HE.out.2.1⟩
end Go.Proofs.Ytmpiljfpgfhljaa.XRefD
