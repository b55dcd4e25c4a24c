/-
  prebendlaw07.JournalFull by its walk.
-/
import Derived.Laws.CopyOwn
import Derived.ArgAppend
import Derived.Below
import Derived.BigQuiet
import Derived.Deep.AppendLies
import Derived.Deep.CutBlock
import Derived.Deep.DeepCutAuto
import Derived.Deep.Draws
import Derived.Deep.LoopGhost
import Derived.Deep.OwnRows
import Derived.Deep.QuietTactic
import Derived.Deep.RegionHeld3
import Derived.Deep.WholeRow
import Derived.KernelRfl
import Derived.Laws.BitsLemmas
import Derived.Laws.BytesArg
import Derived.Laws.IdiomCopy
import Derived.Laws.MakeOwn
import Derived.Laws.OwnMore
import Derived.Laws.Rows
import Derived.Laws.Slices
import Derived.Lib.AppendStr
import Derived.Lib.ConvBytes
import Derived.Lib.Hide
import Derived.Maps.AppendAt
import Derived.OrdersHeld
import Derived.Outline
import Derived.OwnWalk
import Derived.RowKit
import Derived.RowKit3
import Derived.Tactics
import Derived.WalkKit
import Derived.WideLaws
import Derived.Test.YtglpelhbncdkmaaProg
import Derived.Test.YtglpelhbncdkmaaWApart
import Derived.Test.YtglpelhbncdkmaaWArr
import Derived.Test.YtglpelhbncdkmaaWAt
import Derived.Test.YtglpelhbncdkmaaWEqStruct
import Derived.Test.YtglpelhbncdkmaaWFoot
import Derived.Test.YtglpelhbncdkmaaWFootNe
import Derived.Test.YtglpelhbncdkmaaWFour
import Derived.Test.YtglpelhbncdkmaaWGuard
import Derived.Test.YtglpelhbncdkmaaWInv
import Derived.Test.YtglpelhbncdkmaaWInvWords
import Derived.Test.YtglpelhbncdkmaaWKept
import Derived.Test.YtglpelhbncdkmaaWLast
import Derived.Test.YtglpelhbncdkmaaWMore
import Derived.Test.YtglpelhbncdkmaaWN
import Derived.Test.YtglpelhbncdkmaaWNEv
import Derived.Test.YtglpelhbncdkmaaWQPut
import Derived.Test.YtglpelhbncdkmaaWRepsOne
import Derived.Test.YtglpelhbncdkmaaWShare
import Derived.Test.YtglpelhbncdkmaaWTab
import Derived.Test.YtglpelhbncdkmaaWWords
import Derived.Test.YtglpelhbncdkmaaWZeros
import Derived.Test.YtglpelhbncdkmaaXSlices

import Derived.Test.YtglpelhbncdkmaaXJourTwice
import Derived.Test.YtglpelhbncdkmaaXJourFullC
namespace Go.Proofs.Ytglpelhbncdkmaa.XJour
open Go.RowKit Go.Proofs.YtglpelhbncdkmaaW.PrintWords Go.Proofs.YtglpelhbncdkmaaW.PrintLast Go.Proofs.YtglpelhbncdkmaaW.PrintMore XDisk XChunk XUnpack XData
set_option linter.unusedVariables false
set_option linter.unusedSimpArgs false
theorem chk_at (k : Nat) (hk : k < 40) : (formatF (fresh (5 + k)) 2 []).1 = 0 ∧ 0 ≤ (openCk (g1 (5 + k)) 2).1 ∧ mayF (g1 (5 + k)) 2 = true ∧ (checkpointF (openJ (g1 (5 + k)) 2) (g1 (5 + k)) []).1 = 0 ∧ (gj (5 + k)).next = 4 ∧ Full (5 + k) 0 (gj (5 + k)) (g2 (5 + k)) := by
  have h := List.all_eq_true.1 chk_all k (List.mem_range.2 hk)
  unfold chk at h
  simp only [Bool.and_eq_true, decide_eq_true_eq, Bool.not_eq_true'] at h
  obtain ⟨⟨⟨⟨⟨⟨⟨⟨⟨⟨⟨⟨⟨h1, h2⟩, h3⟩, h4⟩, h5⟩, h6⟩, h7⟩, h8⟩, h9⟩, h10⟩, h11⟩, h12⟩, h13⟩, h14⟩ := h
  have hf := format_fine (slot := 2) (l := []) (fresh_fine (5 + k)) (bytes_dec (by decide))
  have hl : (fresh (5 + k)).good.length = 5 + k := List.length_replicate ..
  have ho : JOk (openJ (g1 (5 + k)) 2) (g1 (5 + k)) := open_ok hf.1 (by show (formatF (fresh (5 + k)) 2 []).2.good.length ≤ 1024; rw [hf.2.1, hl]; omega) (Int.le_trans hf.2.2 (show (-1 : Int) ≤ 9223372036854775807 by decide)) h3 h2
  have hc := checkpoint_ok (l := []) ho (bytes_dec (by decide))
  exact ⟨h1, h2, h3, h4, h5, ⟨hc, h9, h6, h7, h11, ⟨fun x hx => of_decide_eq_true (List.all_eq_true.1 h13 x hx), fun x hx => of_decide_eq_true (List.all_eq_true.1 h14 x hx)⟩, h10, h12, by rw [h8]; decide⟩⟩
theorem g1_e (n : Nat) : (formatF (fresh n) 2 []).2 = g1 n := rfl
theorem gj_e (n : Nat) : (checkpointF (openJ (g1 n) 2) (g1 n) []).2.1 = gj n := rfl
theorem g2_e (n : Nat) : (checkpointF (openJ (g1 n) 2) (g1 n) []).2.2 = g2 n := rfl
theorem g1_ok (k : Nat) (hk : k < 40) : Fine (g1 (5 + k)) ∧ (g1 (5 + k)).good.length ≤ 1024 ∧ JOk (openJ (g1 (5 + k)) 2) (g1 (5 + k)) := by
  have hf := format_fine (slot := 2) (l := []) (fresh_fine (5 + k)) (bytes_dec (by decide))
  have hl : (fresh (5 + k)).good.length = 5 + k := List.length_replicate ..
  have h1 : (g1 (5 + k)).good.length ≤ 1024 := by show (formatF (fresh (5 + k)) 2 []).2.good.length ≤ 1024; rw [hf.2.1, hl]; omega
  obtain ⟨-, h2, h3, -⟩ := chk_at k hk
  exact ⟨hf.1, h1, open_ok hf.1 h1 (Int.le_trans hf.2.2 (show (-1 : Int) ≤ 9223372036854775807 by decide)) h3 h2⟩
theorem full_mono {n : Nat} {q q' : Int} {j : Jr} {s : St} (h : Full n q j s) (hq : q ≤ q') : Full n q' j s := ⟨h.ok, h.slot, h.op, h.up, h.fuse, h.ep, h.epoch, h.len, ⟨h.seq.1, by have := h.seq; omega⟩⟩
theorem zeros_bytes (n : Nat) : Bytes (List.replicate n 0) := fun c hc => by rw [List.eq_of_mem_replicate hc]; decide
attribute [local irreducible] g1 g2 gj openJ openCk openRec formatF checkpointF appendF commitF fresh sectors
set_option maxHeartbeats 8000000 in
set_option maxRecDepth 100000 in
theorem full_walk (a0 : Int) (A1 A2 : Option Addr) (c1 c2 : Nat) (l1 l2 : List Int) (w : World) (ha : 0 ≤ a0 ∧ a0 < 256) (hr1 : Kd.C (Kd.int .u8) w A1 l1.length l1) (hc1 : l1.length ≤ c1) (hb1 : Bytes l1) (hr2 : Kd.C (Kd.int .u8) w A2 l2.length l2) (hc2 : l2.length ≤ c2) (hb2 : Bytes l2) :
    Calls Try.prog 4 #[.int .u8 a0, .slice A1 l1.length c1, .slice A2 l2.length c2] w fun e w' => e = .returned (.bool true) ∧ Below w.heap.size w w' := by
  obtain ⟨k, hk⟩ : ∃ k : Nat, a0 % 40 = (k : Int) := ⟨(a0 % 40).toNat, by omega⟩
  have hk40 : k < 40 := by omega
  obtain ⟨f1, f2, f3, f4, f5, f6⟩ := chk_at k hk40
  obtain ⟨o1, o2, o3⟩ := g1_ok k hk40
  have hm1 := hr1.2.1
  have hm2 := hr2.2.1
  have HR1 := Aside0.mk hr1
  have HR2 := Aside0.mk hr2
  have HBB1 := Aside0.mk hb1
  have HBB2 := Aside0.mk hb2
  have F6 := Aside0.mk f6
  have F5 := Aside0.mk f5
  clear hr1 hr2 hb1 hb2 f5 f6
  go_enter Try.func4, Try.ntmps4
  go_wp2_with fail
  refine (new_in (5 + (k : Int)) (5 + k) (by unfold mx mn; omega) w).mono ?_
  rintro e w1 ⟨g, rfl, hD1, hB1⟩
  go_wp2_with fail
  refine (format_walk w.heap.size g 0 (fresh (5 + k)) 2 none [] w1 hD1 (fresh_fine _) (C_nil w1) (Nat.le_refl _) (bytes_dec (by decide)) (by unfold fresh; show (-1 : Int) ≤ 9223372036854775807; decide) (by unfold fresh; exact Nat.zero_le _) hB1.size).mono ?_
  rintro e w2 ⟨rfl, hD2, hK2⟩
  rw [f1]
  rw [g1_e] at hD2
  have hB2 := below_keep hB1 hB1.size hK2
  clear hD1 hB1 hK2 f1
  go_wp2_with fail
  refine (open_walk w.heap.size g (g1 (5 + k)) 2 w2 hD2 o1 o2 f3 hB2.size).mono ?_
  rintro e w3 ⟨hD3, hK3, (⟨hbad, -⟩ | ⟨-, gj', v2, v3, rfl, -, -, -, hJ3⟩)⟩
  · omega
  have hB3 := below_keepJ hB2 hB2.size hK3
  clear hD2 hB2 hK3
  go_wp2_with fail
  refine (checkpoint_walk w.heap.size gj' g 0 (openJ (g1 (5 + k)) 2) (g1 (5 + k)) none [] w3 hJ3 hD3 o3 (C_nil w3) (Nat.le_refl _) (bytes_dec (by decide)) hB3.size).mono ?_
  rintro e w4 ⟨rfl, hJ4, hD4, hK4⟩
  rw [f4]
  rw [gj_e] at hJ4
  rw [g2_e] at hD4
  have hB4 := below_keepJ hB3 hB3.size hK4
  have HJ4 := Aside0.mk hJ4
  have HD4 := Aside0.mk hD4
  have HB4 := Aside0.mk hB4
  clear hD3 hB3 hJ3 hK4 hJ4 hD4 hB4 f2 f3 f4 o1 o2 o3
  have ROOM : ∀ (w' : World) (j : Jr) (s : St) (q : Int), JrAt w.heap.size w' gj' g j → DiskAt w.heap.size w' g s → Full (5 + k) q j s → Calls Try.prog 19 #[.pointer (some ⟨gj', 0, none⟩)] w' fun e w1 => e = .returned (.int .i64 (5 + (k : Int) - j.next)) ∧ ∃ m, w1 = w'.drewN m := fun w' j s q h1 h2 h3 => by
    have h4 := h3.ok.next
    have h5 := h3.ok.slot
    have := room_walk w.heap.size gj' g j s w' h1 h2 ⟨by omega, h4.2⟩ h3.ok.size
    rw [h3.len, show ((5 + k : Nat) : Int) = 5 + (k : Int) from by omega] at this
    exact this
  have RM := Aside0.mk ROOM
  clear ROOM
  have R0 := Aside0.mk (RM.out w4 _ _ _ HJ4.out HD4.out F6.out)
  rw [F5.out] at R0
  go_wp2_with (go_at_call 19; refine R0.out.mono ?_; rintro e w5 ⟨rfl, m5, rfl⟩)
  have hJ5 := Aside0.mk (jr_drewN HJ4.out m5)
  have hD5 := Aside0.mk (disk_drewN HD4.out m5)
  have hB5 := Aside0.mk (pw_below_drewN HB4.out m5)
  clear HJ4 HD4 HB4 R0
  generalize w4.drewN m5 = w5 at *
  go_loopw [13] (fun v13 wr => ∃ (i : Nat) (j : Jr) (s : St), i ≤ 40 ∧ i ≤ l1.length ∧ v13 = .int .i64 (i : Nat) ∧ Aside0 (JrAt w.heap.size wr gj' g j) ∧ Aside0 (DiskAt w.heap.size wr g s) ∧ Aside0 (Full (5 + k) (i : Nat) j s) ∧ Aside0 (Below w.heap.size w wr)) (fun v13 _ => 40 - (intOf v13).toNat)
  case atStart => exact ⟨0, _, _, Nat.zero_le _, Nat.zero_le _, rfl, hJ5, hD5, F6, hB5⟩
  case round =>
    clear hJ5 hD5 hB5 F6 F5
    obtain ⟨i, j, s, hi40, hin, rfl, HJ, HD, HF, HB⟩ := hrel
    by_cases h1 : (i : Int) < (l1.length : Int)
    · have b1 : decide ((i : Int) < (l1.length : Int)) = true := decide_eq_true h1
      by_cases h2 : (i : Int) < 40
      · have b2 : decide ((i : Int) < 40) = true := decide_eq_true h2
        have g0 : (0 : Int) ≤ (i : Int) := by omega
        obtain ⟨ad, rfl, hcell⟩ := Kd.at_int (Kd.C_below HR1.out HB.out) (i : Int) g0 h1
        rw [Int.toNat_natCast] at hcell
        have hdr : 0 ≤ rd l1 (i : Int) ∧ rd l1 (i : Int) < 256 := by
          unfold rd
          rw [Int.toNat_natCast, List.getD_eq_getElem?_getD, List.getElem?_eq_getElem (by omega)]
          exact HBB1.out _ (List.getElem_mem _)
        obtain ⟨d, hd⟩ : ∃ d : Nat, rd l1 (i : Int) = (d : Int) := ⟨(rd l1 (i : Int)).toNat, by omega⟩
        rw [hd] at hcell hdr
        have hT : (6 + (d : Int) + 23) / 24 = ((sectors d : Nat) : Int) := by unfold sectors; omega
        have hT' : Int.tdiv (6 + (d : Int) + 23) 24 = ((sectors d : Nat) : Int) := by rw [Int.tdiv_eq_ediv_of_nonneg (by omega)]; exact hT
        have hTs : sectors d ≤ 20 := by unfold sectors; omega
        obtain ⟨T, hTe⟩ : ∃ T, sectors d = T := ⟨_, rfl⟩
        have HTE := Aside0.mk hTe
        rw [hTe] at hT hT' hTs
        have RMi := Aside0.mk (RM.out wr _ _ _ HJ.out HD.out HF.out)
        obtain ⟨rI, hrI⟩ : ∃ z, 5 + (k : Int) - j.next = z := ⟨_, rfl⟩
        obtain ⟨sq, hsq⟩ : ∃ z, j.seq = z := ⟨_, rfl⟩
        rw [hrI] at RMi
        have hsqr := HF.out.seq
        rw [hsq] at hsqr
        have SQi := Aside0.mk (fun n => seq_walk w.heap.size gj' g j _ (jr_drewN HJ.out n))
        rw [hsq] at SQi
        have hrIb : 0 ≤ rI ∧ rI ≤ 2000 := by have n1 := HF.out.ok.next; have n2 := HF.out.ok.slot; have n3 := HF.out.len; omega
        have HRI := Aside0.mk hrI
        have HSQ := Aside0.mk hsq
        clear hd hrI hsq hTe
        go_upto_region 13 with (first | (go_at_call 19; refine RMi.out.mono ?_; rintro e w5 ⟨rfl, m5, rfl⟩) | (go_at_call 17; refine (SQi.out _).mono ?_; rintro e w5 ⟨rfl, rfl⟩))
        have hJ5 := Aside0.mk (jr_drewN HJ.out m5)
        have hD5 := Aside0.mk (disk_drewN HD.out m5)
        have hB5 := Aside0.mk (pw_below_drewN HB.out m5)
        have hcell5 : (wr.drewN m5).cell? (ad.add i) = some (.int .u8 (d : Int)) := hcell
        clear HJ HD HB RMi SQi hcell hT hT'
        generalize wr.drewN m5 = w5 at *
        have hlz : (List.replicate d (0 : Int)).length = d := List.length_replicate
        have hl6 : (List.replicate d (0 : Int)).length ≤ 65535 := by rw [hlz]; omega
        have APP0 := Aside0.mk (fun A6 c6 w6 (h1 : JrAt w.heap.size w6 gj' g j) (h2 : DiskAt w.heap.size w6 g s) (h3 : Kd.C (Kd.int .u8) w6 A6 (List.replicate d (0 : Int)).length (List.replicate d 0)) (h4 : (List.replicate d (0 : Int)).length ≤ c6) (h5 : w.heap.size ≤ w6.heap.size) => append_walk w.heap.size gj' g c6 j s A6 (List.replicate d 0) w6 h1 h2 HF.out.ok h3 h4 (zeros_bytes d) h5)
        by_cases hroom : rI < (T : Int)
        · have b3 : decide (rI < (T : Int)) = true := decide_eq_true hroom
          have b4 : decide ((T : Int) ≤ rI) = false := decide_eq_false (by omega)
          have e1 := append_no (l := List.replicate d 0) HF.out (by omega) hl6 (by rw [hlz, HTE.out, show ((5 + k : Nat) : Int) = 5 + (k : Int) from by omega, HRI.out]; exact hroom)
          rw [e1, hlz] at APP0
          have APP := Aside0.mk (fun A6 c6 w6 h1 h2 h3 h4 h5 => APP0.out A6 c6 w6 h1 h2 h3 h4 h5)
          have ROOM7 := Aside0.mk (fun w' h1 h2 => HRI.out ▸ RM.out w' j s _ h1 h2 HF.out)
          have SEQ7 := Aside0.mk (fun w' h1 => HSQ.out ▸ seq_walk w.heap.size gj' g j w' h1)
          clear e1 APP0 hl6 hlz
          go_wp2_with (first | ((with_reducible refine gate_dst (N := 74) rfl ?_); refine Kd.R_make (Kd.int .u8) _ 5 rfl (N := 74) rfl 23 _ _ rfl (d : Int) rfl rfl Try.underlying23 (.int .u8 0) 1 info_u8' rfl (by decide) (by omega) 0 (ok := fun _ => True) (okp := fun _ => True) rfl (fun _ hk => hk) trivial (by omega) (by omega) (Below.refl _ _) (Nat.le_refl _) ?_; intro v6 w6 hR6 hB6 _ _; rw [Int.toNat_natCast] at hR6; obtain ⟨A6, c6, rfl, hc6, hC6⟩ := Kd.R_reads hR6; rw [List.length_replicate] at hC6 hc6; have AP := Aside0.mk (APP.out A6 c6 w6 (jr_below hJ5.out hB6) (disk_below hD5.out hB6) hC6 hc6 (Nat.le_trans hB5.out.size hB6.size)); have HB6 := Aside0.mk (below_step hB5.out hB6); rw [List.length_replicate]; clear hR6 hB6 hC6 hc6) | (go_at_call 12; refine AP.out.mono ?_; rintro e w7 ⟨rfl, hJ7, hD7, hK7⟩; have HJ7 := Aside0.mk hJ7; have HD7 := Aside0.mk hD7; have HB7 := Aside0.mk (below_keepJ HB6.out HB6.out.size hK7); clear hJ7 hD7 hK7 AP HB6) | (go_at_call 19; refine (ROOM7.out _ HJ7.out HD7.out).mono ?_; rintro e w8 ⟨rfl, m8, rfl⟩) | (go_at_call 17; refine (SEQ7.out _ (jr_drewN HJ7.out _)).mono ?_; rintro e w8 ⟨rfl, rfl⟩))
          go_roundw
          case rel => exact ⟨i + 1, j, s, by omega, by omega, by go_num, ⟨jr_drewN HJ7.out _⟩, ⟨disk_drewN HD7.out _⟩, ⟨full_mono HF.out (by omega)⟩, ⟨pw_below_drewN HB7.out _⟩⟩
          case measure => simp [intOf]; omega
        · have b3 : decide (rI < (T : Int)) = false := decide_eq_false hroom
          have b4 : decide ((T : Int) ≤ rI) = true := decide_eq_true (by omega)
          obtain ⟨s', e1, hF'⟩ := append_yes (l := List.replicate d 0) HF.out (by omega) hl6 (zeros_bytes d) (by rw [hlz, HTE.out, show ((5 + k : Nat) : Int) = 5 + (k : Int) from by omega, HRI.out]; omega)
          rw [e1] at APP0
          rw [hlz, HTE.out] at hF' APP0
          have HF' := Aside0.mk hF'
          have APP := Aside0.mk (fun A6 c6 w6 h1 h2 h3 h4 h5 => APP0.out A6 c6 w6 h1 h2 h3 h4 h5)
          have hrT : 5 + (k : Int) - (j.next + (T : Int)) = rI - T := by have := HRI.out; omega
          have ROOM7 := Aside0.mk (fun w' (p1 : JrAt w.heap.size w' gj' g { j with seq := j.seq + 1, next := j.next + (T : Int), down := false }) (p2 : DiskAt w.heap.size w' g s') => (hrT ▸ RM.out w' _ s' _ p1 p2 HF'.out : Calls Try.prog 19 #[.pointer (some ⟨gj', 0, none⟩)] w' fun e w1 => e = .returned (.int .i64 (rI - T)) ∧ ∃ m, w1 = w'.drewN m))
          clear hrT
          have SEQ7 := Aside0.mk (fun w' (p1 : JrAt w.heap.size w' gj' g { j with seq := j.seq + 1, next := j.next + (T : Int), down := false }) => (by
            have h : Calls Try.prog 17 #[.pointer (some ⟨gj', 0, none⟩)] w' fun e w1 => e = .returned (.int .i64 (j.seq + 1)) ∧ w' = w1 := seq_walk w.heap.size gj' g _ w' p1
            rw [HSQ.out] at h; exact h : Calls Try.prog 17 #[.pointer (some ⟨gj', 0, none⟩)] w' fun e w1 => e = .returned (.int .i64 (sq + 1)) ∧ w' = w1))
          clear e1 APP0 hl6 hlz hF'
          go_wp2_with (first | ((with_reducible refine gate_dst (N := 74) rfl ?_); refine Kd.R_make (Kd.int .u8) _ 5 rfl (N := 74) rfl 23 _ _ rfl (d : Int) rfl rfl Try.underlying23 (.int .u8 0) 1 info_u8' rfl (by decide) (by omega) 0 (ok := fun _ => True) (okp := fun _ => True) rfl (fun _ hk => hk) trivial (by omega) (by omega) (Below.refl _ _) (Nat.le_refl _) ?_; intro v6 w6 hR6 hB6 _ _; rw [Int.toNat_natCast] at hR6; obtain ⟨A6, c6, rfl, hc6, hC6⟩ := Kd.R_reads hR6; rw [List.length_replicate] at hC6 hc6; have AP := Aside0.mk (APP.out A6 c6 w6 (jr_below hJ5.out hB6) (disk_below hD5.out hB6) hC6 hc6 (Nat.le_trans hB5.out.size hB6.size)); have HB6 := Aside0.mk (below_step hB5.out hB6); rw [List.length_replicate]; clear hR6 hB6 hC6 hc6) | (go_at_call 12; refine AP.out.mono ?_; rintro e w7 ⟨rfl, hJ7, hD7, hK7⟩; have HJ7 := Aside0.mk hJ7; have HD7 := Aside0.mk hD7; have HB7 := Aside0.mk (below_keepJ HB6.out HB6.out.size hK7); clear hJ7 hD7 hK7 AP HB6) | (go_at_call 19; refine (ROOM7.out _ HJ7.out HD7.out).mono ?_; rintro e w8 ⟨rfl, m8, rfl⟩) | (go_at_call 17; refine (SEQ7.out _ (jr_drewN HJ7.out _)).mono ?_; rintro e w8 ⟨rfl, rfl⟩))
          go_roundw
          case rel => exact ⟨i + 1, _, s', by omega, by omega, by go_num, ⟨jr_drewN HJ7.out _⟩, ⟨disk_drewN HD7.out _⟩, ⟨by rw [Int.natCast_add]; exact HF'.out⟩, ⟨pw_below_drewN HB7.out _⟩⟩
          case measure => simp [intOf]; omega
      · have b2 : decide ((i : Int) < 40) = false := decide_eq_false h2
        have hsqr := HF.out.seq
        have SQ0 := Aside0.mk (seq_walk w.heap.size gj' g j wr HJ.out)
        have CPB := Aside0.mk (fun A6 c6 w6 (p1 : JrAt w.heap.size w6 gj' g j) (p2 : DiskAt w.heap.size w6 g s) (p3 : Kd.C (Kd.int .u8) w6 A6 (List.replicate (Int.toNat 43) (0 : Int)).length (List.replicate (Int.toNat 43) 0)) (p4 : (List.replicate (Int.toNat 43) (0 : Int)).length ≤ c6) (p5 : w.heap.size ≤ w6.heap.size) => checkpoint_walk w.heap.size gj' g c6 j s A6 (List.replicate (Int.toNat 43) 0) w6 p1 p2 HF.out.ok p3 p4 (zeros_bytes _) p5)
        rw [check_big HF.out (l := List.replicate (Int.toNat 43) 0) (by decide)] at CPB
        have hlt : (l2.take 42).length ≤ 42 := by rw [List.length_take]; omega
        have hlc : (l2.take 42).length ≤ c2 := Nat.le_trans (by rw [List.length_take]; omega) hc2
        obtain ⟨j', s', e2, n1, n2, n3⟩ := check_fits HF.out hlt
        have SH := Aside0.mk (fun w9 => (short_walk A2 c2 42 l2 w9 hc2 (by decide) hm2 : Calls Try.prog 13 #[.slice A2 l2.length c2, .int .i64 42] w9 _))
        have CPF := Aside0.mk (fun w9 (p1 : JrAt w.heap.size w9 gj' g j) (p2 : DiskAt w.heap.size w9 g s) (p3 : Below w.heap.size w w9) => checkpoint_walk w.heap.size gj' g c2 j s A2 (l2.take 42) w9 p1 p2 HF.out.ok (C_short (Kd.C_below HR2.out p3) 42) hlc (fun c hc => HBB2.out c (List.mem_of_mem_take hc)) p3.size)
        rw [e2] at CPF
        have RM2 := Aside0.mk (fun w9 (p1 : JrAt w.heap.size w9 gj' g j') (p2 : DiskAt w.heap.size w9 g s') => (by
          have h := room_walk w.heap.size gj' g j' s' w9 p1 p2 ⟨by omega, by rw [n1, n3]; omega⟩ (by rw [n3]; omega)
          rw [n1, n3, show ((5 + k : Nat) : Int) - 4 = 5 + (k : Int) - 4 from by omega] at h; exact h : Calls Try.prog 19 #[.pointer (some ⟨gj', 0, none⟩)] w9 fun e w1 => e = .returned (.int .i64 (5 + (k : Int) - 4)) ∧ ∃ m, w1 = w9.drewN m))
        have SQ2 := Aside0.mk (fun w9 (p1 : JrAt w.heap.size w9 gj' g j') => (by
          have h := seq_walk w.heap.size gj' g j' w9 p1
          rw [n2] at h; exact h : Calls Try.prog 17 #[.pointer (some ⟨gj', 0, none⟩)] w9 fun e w1 => e = .returned (.int .i64 j.seq) ∧ w9 = w1))
        clear e2 n1 n2 n3 hlt hlc
        obtain ⟨sq, hsq⟩ : ∃ z, j.seq = z := ⟨_, rfl⟩
        rw [hsq] at SQ0 SQ2 hsqr
        clear hsq
        generalize l2.take 42 = lt at *
        go_wp2_with (first | (go_at_call 17; (with_reducible refine SQ0.out.mono ?_); rintro e w5 ⟨rfl, rfl⟩) | ((with_reducible refine gate_dst (N := 122) rfl ?_); refine Kd.R_make (Kd.int .u8) _ 5 rfl (N := 122) rfl 23 _ _ rfl 43 rfl rfl Try.underlying23 (.int .u8 0) 1 info_u8' rfl (by decide) (by decide) 0 (ok := fun _ => True) (okp := fun _ => True) rfl (fun _ hk => hk) trivial (by decide) (by decide) (Below.refl _ _) (Nat.le_refl _) ?_; intro v6 w6 hR6 hB6 _ _; obtain ⟨A6, c6, rfl, hc6, hC6⟩ := Kd.R_reads hR6; have CP1 := Aside0.mk (CPB.out A6 c6 w6 (jr_below HJ.out hB6) (disk_below HD.out hB6) hC6 hc6 (Nat.le_trans HB.out.size hB6.size)); have HB6 := Aside0.mk (below_step HB.out hB6); rw [show (List.replicate (Int.toNat 43) (0 : Int)).length = 43 from rfl] at CP1 ⊢; clear hR6 hB6 hC6 hc6) | (go_at_call 10; (with_reducible refine CP1.out.mono ?_); rintro e w7 ⟨rfl, hJ7, hD7, hK7⟩; have HJ7 := Aside0.mk hJ7; have HD7 := Aside0.mk hD7; have HB7 := Aside0.mk (below_keepJ HB6.out HB6.out.size hK7); clear hJ7 hD7 hK7 CP1 HB6 SQ0) | (go_at_call 15; refine (awake_walk _).mono ?_; rintro e w8 ⟨rfl, hB8⟩; have CP2 := Aside0.mk (CPF.out w8 (jr_below HJ7.out hB8) (disk_below HD7.out hB8) (below_step HB7.out hB8)); have HB8 := Aside0.mk (below_step HB7.out hB8); clear hB8 CPF) | (go_at_call 13; refine (SH.out _).mono ?_; rintro e w9 ⟨rfl, rfl⟩) | (go_at_call 10; (with_reducible refine CP2.out.mono ?_); rintro e w9 ⟨rfl, hJ9, hD9, hK9⟩; have HJ9 := Aside0.mk hJ9; have HD9 := Aside0.mk hD9; have HB9 := Aside0.mk (below_keepJ HB8.out HB8.out.size hK9); clear hJ9 hD9 hK9) | (go_at_call 19; refine (RM2.out _ HJ9.out HD9.out).mono ?_; rintro e w10 ⟨rfl, m10, rfl⟩) | (go_at_call 17; refine (SQ2.out _ (jr_drewN HJ9.out _)).mono ?_; rintro e w11 ⟨rfl, rfl⟩))
        go_ret
        exact ⟨rfl, pw_below_drewN HB9.out _⟩
    · have b1 : decide ((i : Int) < (l1.length : Int)) = false := decide_eq_false h1
      have hsqr := HF.out.seq
      have SQ0 := Aside0.mk (seq_walk w.heap.size gj' g j wr HJ.out)
      have CPB := Aside0.mk (fun A6 c6 w6 (p1 : JrAt w.heap.size w6 gj' g j) (p2 : DiskAt w.heap.size w6 g s) (p3 : Kd.C (Kd.int .u8) w6 A6 (List.replicate (Int.toNat 43) (0 : Int)).length (List.replicate (Int.toNat 43) 0)) (p4 : (List.replicate (Int.toNat 43) (0 : Int)).length ≤ c6) (p5 : w.heap.size ≤ w6.heap.size) => checkpoint_walk w.heap.size gj' g c6 j s A6 (List.replicate (Int.toNat 43) 0) w6 p1 p2 HF.out.ok p3 p4 (zeros_bytes _) p5)
      rw [check_big HF.out (l := List.replicate (Int.toNat 43) 0) (by decide)] at CPB
      have hlt : (l2.take 42).length ≤ 42 := by rw [List.length_take]; omega
      have hlc : (l2.take 42).length ≤ c2 := Nat.le_trans (by rw [List.length_take]; omega) hc2
      obtain ⟨j', s', e2, n1, n2, n3⟩ := check_fits HF.out hlt
      have SH := Aside0.mk (fun w9 => (short_walk A2 c2 42 l2 w9 hc2 (by decide) hm2 : Calls Try.prog 13 #[.slice A2 l2.length c2, .int .i64 42] w9 _))
      have CPF := Aside0.mk (fun w9 (p1 : JrAt w.heap.size w9 gj' g j) (p2 : DiskAt w.heap.size w9 g s) (p3 : Below w.heap.size w w9) => checkpoint_walk w.heap.size gj' g c2 j s A2 (l2.take 42) w9 p1 p2 HF.out.ok (C_short (Kd.C_below HR2.out p3) 42) hlc (fun c hc => HBB2.out c (List.mem_of_mem_take hc)) p3.size)
      rw [e2] at CPF
      have RM2 := Aside0.mk (fun w9 (p1 : JrAt w.heap.size w9 gj' g j') (p2 : DiskAt w.heap.size w9 g s') => (by
        have h := room_walk w.heap.size gj' g j' s' w9 p1 p2 ⟨by omega, by rw [n1, n3]; omega⟩ (by rw [n3]; omega)
        rw [n1, n3, show ((5 + k : Nat) : Int) - 4 = 5 + (k : Int) - 4 from by omega] at h; exact h : Calls Try.prog 19 #[.pointer (some ⟨gj', 0, none⟩)] w9 fun e w1 => e = .returned (.int .i64 (5 + (k : Int) - 4)) ∧ ∃ m, w1 = w9.drewN m))
      have SQ2 := Aside0.mk (fun w9 (p1 : JrAt w.heap.size w9 gj' g j') => (by
        have h := seq_walk w.heap.size gj' g j' w9 p1
        rw [n2] at h; exact h : Calls Try.prog 17 #[.pointer (some ⟨gj', 0, none⟩)] w9 fun e w1 => e = .returned (.int .i64 j.seq) ∧ w9 = w1))
      clear e2 n1 n2 n3 hlt hlc
      obtain ⟨sq, hsq⟩ : ∃ z, j.seq = z := ⟨_, rfl⟩
      rw [hsq] at SQ0 SQ2 hsqr
      clear hsq
      generalize l2.take 42 = lt at *
      go_wp2_with (first | (go_at_call 17; (with_reducible refine SQ0.out.mono ?_); rintro e w5 ⟨rfl, rfl⟩) | ((with_reducible refine gate_dst (N := 122) rfl ?_); refine Kd.R_make (Kd.int .u8) _ 5 rfl (N := 122) rfl 23 _ _ rfl 43 rfl rfl Try.underlying23 (.int .u8 0) 1 info_u8' rfl (by decide) (by decide) 0 (ok := fun _ => True) (okp := fun _ => True) rfl (fun _ hk => hk) trivial (by decide) (by decide) (Below.refl _ _) (Nat.le_refl _) ?_; intro v6 w6 hR6 hB6 _ _; obtain ⟨A6, c6, rfl, hc6, hC6⟩ := Kd.R_reads hR6; have CP1 := Aside0.mk (CPB.out A6 c6 w6 (jr_below HJ.out hB6) (disk_below HD.out hB6) hC6 hc6 (Nat.le_trans HB.out.size hB6.size)); have HB6 := Aside0.mk (below_step HB.out hB6); rw [show (List.replicate (Int.toNat 43) (0 : Int)).length = 43 from rfl] at CP1 ⊢; clear hR6 hB6 hC6 hc6) | (go_at_call 10; (with_reducible refine CP1.out.mono ?_); rintro e w7 ⟨rfl, hJ7, hD7, hK7⟩; have HJ7 := Aside0.mk hJ7; have HD7 := Aside0.mk hD7; have HB7 := Aside0.mk (below_keepJ HB6.out HB6.out.size hK7); clear hJ7 hD7 hK7 CP1 HB6 SQ0) | (go_at_call 15; refine (awake_walk _).mono ?_; rintro e w8 ⟨rfl, hB8⟩; have CP2 := Aside0.mk (CPF.out w8 (jr_below HJ7.out hB8) (disk_below HD7.out hB8) (below_step HB7.out hB8)); have HB8 := Aside0.mk (below_step HB7.out hB8); clear hB8 CPF) | (go_at_call 13; refine (SH.out _).mono ?_; rintro e w9 ⟨rfl, rfl⟩) | (go_at_call 10; (with_reducible refine CP2.out.mono ?_); rintro e w9 ⟨rfl, hJ9, hD9, hK9⟩; have HJ9 := Aside0.mk hJ9; have HD9 := Aside0.mk hD9; have HB9 := Aside0.mk (below_keepJ HB8.out HB8.out.size hK9); clear hJ9 hD9 hK9) | (go_at_call 19; refine (RM2.out _ HJ9.out HD9.out).mono ?_; rintro e w10 ⟨rfl, m10, rfl⟩) | (go_at_call 17; refine (SQ2.out _ (jr_drewN HJ9.out _)).mono ?_; rintro e w11 ⟨rfl, rfl⟩))
      go_ret
      exact ⟨rfl, pw_below_drewN HB9.out _⟩
end Go.Proofs.Ytglpelhbncdkmaa.XJour
