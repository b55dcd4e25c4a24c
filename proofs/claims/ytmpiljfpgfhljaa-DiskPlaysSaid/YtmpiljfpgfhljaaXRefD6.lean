/-
  The reference's disk by walks: Order.
-/
import Derived.Laws.CopyOwn
import Derived.ArgAppend
import Derived.Below
import Derived.BigQuiet
import Derived.Deep.AppendLies
import Derived.Deep.CutBlock
import Derived.Deep.DeepCutAuto
import Derived.Deep.Draws
import Derived.Deep.LoopGhost
import Derived.Deep.OwnRows
import Derived.Deep.QuietTactic
import Derived.Deep.RegionHeld3
import Derived.Deep.WholeRow
import Derived.KernelRfl
import Derived.Laws.BitsLemmas
import Derived.Laws.BytesArg
import Derived.Laws.IdiomCopy
import Derived.Laws.MakeOwn
import Derived.Laws.OwnMore
import Derived.Laws.Rows
import Derived.Laws.Slices
import Derived.Lib.AppendStr
import Derived.Lib.ConvBytes
import Derived.Lib.Hide
import Derived.Maps.AppendAt
import Derived.OrdersHeld
import Derived.Outline
import Derived.OwnWalk
import Derived.RowKit
import Derived.RowKit3
import Derived.Tactics
import Derived.WalkKit
import Derived.WideLaws
import Derived.Test.YtmpiljfpgfhljaaProg
import Derived.Test.YtmpiljfpgfhljaaWApart
import Derived.Test.YtmpiljfpgfhljaaWArr
import Derived.Test.YtmpiljfpgfhljaaWAt
import Derived.Test.YtmpiljfpgfhljaaWEqStruct
import Derived.Test.YtmpiljfpgfhljaaWFoot
import Derived.Test.YtmpiljfpgfhljaaWFootNe
import Derived.Test.YtmpiljfpgfhljaaWFour
import Derived.Test.YtmpiljfpgfhljaaWGuard
import Derived.Test.YtmpiljfpgfhljaaWInv
import Derived.Test.YtmpiljfpgfhljaaWInvWords
import Derived.Test.YtmpiljfpgfhljaaWKept
import Derived.Test.YtmpiljfpgfhljaaWLast
import Derived.Test.YtmpiljfpgfhljaaWMore
import Derived.Test.YtmpiljfpgfhljaaWN
import Derived.Test.YtmpiljfpgfhljaaWNEv
import Derived.Test.YtmpiljfpgfhljaaWQPut
import Derived.Test.YtmpiljfpgfhljaaWRepsOne
import Derived.Test.YtmpiljfpgfhljaaWShare
import Derived.Test.YtmpiljfpgfhljaaWTab
import Derived.Test.YtmpiljfpgfhljaaWWords
import Derived.Test.YtmpiljfpgfhljaaWZeros
import Derived.Test.YtmpiljfpgfhljaaXSlices

import Derived.StillTailTactics
import Derived.Test.YtmpiljfpgfhljaaXRefD5
namespace Go.Proofs.Ytmpiljfpgfhljaa.XRefD
open Go.RowKit Go.Proofs.YtmpiljfpgfhljaaW.PrintWords Go.Proofs.YtmpiljfpgfhljaaW.PrintLast Go.Proofs.YtmpiljfpgfhljaaW.PrintMore XCm XDisk
set_option linter.unusedVariables false
set_option linter.unusedSimpArgs false
noncomputable def rOrderT := rtab .any (opsOf Try.f40 9)
def oneMore (out : List Int) (a : Int) : List Int := if out.any (· == a) = true then out else out ++ [a]
def orderF (l : List (Int × List Int)) : List Int := l.foldl (fun o x => oneMore o x.1) []
theorem order_step (l : List (Int × List Int)) (k : Nat) (h : k < l.length) : orderF (l.take (k + 1)) = oneMore (orderF (l.take k)) (l[k]).1 := by
  unfold orderF
  rw [List.take_succ_eq_append_getElem h, List.foldl_append]
  rfl
theorem order_len (l : List (Int × List Int)) : (orderF l).length ≤ l.length := by
  have key : ∀ (l : List (Int × List Int)) (o : List Int), (l.foldl (fun o x => oneMore o x.1) o).length ≤ o.length + l.length := by
    intro l
    induction l with
    | nil => intro o; simp
    | cons x l ih =>
      intro o
      have h1 := ih (oneMore o x.1)
      have h2 : (oneMore o x.1).length ≤ o.length + 1 := by unfold oneMore; split <;> simp
      simp only [List.foldl_cons, List.length_cons]
      omega
  have := key l []
  unfold orderF
  simpa using this
theorem any_step (o : List Int) (a : Int) (i : Nat) (h : i < o.length) : (o.take (i + 1)).any (· == a) = ((o.take i).any (· == a) || o[i] == a) := by
  rw [List.take_succ_eq_append_getElem h, List.any_append]
  simp
theorem info_i64 : (Try.prog.info? 3).map (fun i => (i.zero, i.size, i.bytes)) = some (some (.int .i64 0), (Kd.int .i64).sz, 8) := by kernel_rfl
/-- A number of a row of one's own. -/
theorem int_at {base : Nat} {w : World} {A : Option Addr} {n c : Nat} {o : List Int} (h : (Kd.int .i64).R 3 w base (fun _ => True) (.slice A n c) o) (i : Nat) (hi : i < o.length) : ∃ ad, A = some ad ∧ w.cell? (ad.add i) = some (.int .i64 o[i]) := by
  obtain ⟨-, hlc, hC⟩ := Kd.R_reads' h
  obtain ⟨ad, cs, rfl, hcl, hK, hce⟩ := Kd.C_get hC o[i] (i : Int) (by omega) (by omega)
  rw [Int.toNat_natCast, List.getD_eq_getElem?_getD, List.getElem?_eq_getElem hi] at hK
  obtain rfl : cs = [.int .i64 o[i]] := hK
  have hz : (Kd.int .i64).sz = 1 := rfl
  rw [Int.toNat_natCast, hz, Nat.mul_one] at hce
  have s0 := hce 0 _ rfl
  rw [Nat.add_zero] at s0
  exact ⟨ad, rfl, s0⟩
attribute [local irreducible] orderF
set_option maxRecDepth 100000 in
set_option maxHeartbeats 2000000 in
theorem rorder_walk (base g : Nat) (s : Rf) (w : World) (h : RefAt base w g s) (hl : s.log.length * 8 ≤ 140737488355328) :
    Calls Try.prog 40 #[.pointer (some ⟨g, 0, none⟩)] w fun e w' => ∃ v, e = .returned v ∧ (Kd.int .i64).R 3 w' w.heap.size (fun _ => True) v (orderF s.log) ∧ Below w.heap.size w w' := by
  obtain ⟨tot, ht⟩ : ∃ z, orderF s.log = z := ⟨_, rfl⟩
  have HT := Aside0.mk ht
  rw [ht]
  clear ht
  have HH := Aside0.mk h
  have HOL := Aside0.mk (fun k => order_len (s.log.take k))
  have HN := Aside0.mk (R_empty (Kd.int .i64) w w.heap.size 3 (Nat.le_refl _))
  clear h
  go_enter Try.func40, Try.ntmps40
  go_wp2
  go_loopw [3, 4] (fun v3 v4 wr => ∃ k : Nat, k ≤ s.log.length ∧ v4 = .int .i64 k ∧ Aside0 ((Kd.int .i64).R 3 wr w.heap.size (fun _ => True) v3 (orderF (s.log.take k))) ∧ Aside0 (Below w.heap.size w wr)) (fun _ v4 _ => s.log.length - (intOf v4).toNat)
  case atStart => exact ⟨0, Nat.zero_le _, rfl, Aside0.mk (by rw [List.take_zero, show orderF [] = [] from by unfold orderF; rfl]; exact HN.out), Aside0.mk (Below.alloc (Below.refl _ _) (Nat.le_refl _) _)⟩
  case round =>
    clear HN
    obtain ⟨k, hk, rfl, HR, HB⟩ := hrel
    have HF := ref_below HH.out HB.out
    obtain ⟨A1, c1, hc1, m1, l1, L⟩ := log_at HF
    have HL := Aside0.mk L
    clear L HF
    by_cases hlt : k < s.log.length
    · have hki : (k : Int) < (s.log.length : Int) := by omega
      have hk0 : (0 : Int) ≤ (k : Int) := by omega
      obtain ⟨al, Bl, dl, rfl, s0, -, -, -, -⟩ := HL.out k hlt
      have HS := Aside0.mk (order_step s.log k hlt)
      obtain ⟨x, hx⟩ : ∃ x, (s.log[k]).1 = x := ⟨_, rfl⟩
      rw [hx] at s0 HS
      have hol := HOL.out k
      rw [List.length_take, Nat.min_eq_left (by omega)] at hol
      obtain ⟨o, ho⟩ : ∃ z, orderF (s.log.take k) = z := ⟨_, rfl⟩
      rw [ho] at HR HS hol
      clear hx HL ho
      obtain ⟨Ao, co, rfl⟩ := Kd.R_slice HR.out
      have hmo : o.length ≤ 9223372036854775807 := by omega
      obtain ⟨wo, hwo⟩ : ∃ z, wr = z := ⟨_, rfl⟩
      rw [hwo] at HR HB hc1 s0 ⊢
      clear hwo wr
      go_wp2
      go_loopw [5, 6] (fun v5 v6 wi => ∃ i : Nat, i ≤ o.length ∧ v6 = .int .i64 i ∧ v5 = .bool ((o.take i).any (· == x)) ∧ ∃ q, wi = wo.drewN q) (fun _ v6 _ => o.length - (intOf v6).toNat)
      case atStart => exact ⟨0, Nat.zero_le _, rfl, rfl, 0, rfl⟩
      case round =>
        obtain ⟨i, hi, rfl, rfl, q, rfl⟩ := hrel
        by_cases hli : i < o.length
        · have hii : (i : Int) < (o.length : Int) := by omega
          have hi0 : (0 : Int) ≤ (i : Int) := by omega
          have HA := Aside0.mk (any_step o x i hli)
          obtain ⟨ao, rfl, t0⟩ := int_at HR.out i hli
          obtain ⟨y, hy⟩ : ∃ z, o[i] = z := ⟨_, rfl⟩
          rw [hy] at t0 HA
          obtain ⟨met, hm⟩ : ∃ z, (o.take i).any (· == x) = z := ⟨_, rfl⟩
          rw [hm] at HA ⊢
          clear hm hy
          cases met with
          | true =>
            go_upto_region 9 with fail
            refine sta 17 (fun _ => True) [] rOrderT trivial (fun hH HT_ HW_ => ?_)
            refine pu 0 23 (tb 17 1) HT_ ?_
            refine pu 1 24 (tb 17 3) HT_ ?_
            refine pz 2 25 (tb 17 7) HT_ ?_
            refine pz 3 26 (tb 17 15) HT_ ?_
            refine pz 4 27 (tb 17 31) HT_ ?_
            refine pz 5 28 (tb 17 63) HT_ ?_
            refine pz 6 29 (tb 17 127) HT_ ?_
            refine pz 7 30 (tb 17 255) HT_ ?_
            refine pz 8 31 (tb 17 511) HT_ ?_
            refine pz 9 32 (tb 17 1023) HT_ ?_
            refine pz 10 33 (tb 17 2047) HT_ ?_
            refine pz 11 34 (tb 17 4095) HT_ ?_
            refine pz 12 35 (tb 17 8191) HT_ ?_
            refine pz 13 36 (tb 17 16383) HT_ ?_
            refine pz 14 37 (tb 17 32767) HT_ ?_
            refine pu 15 38 (tb 17 65535) HT_ ?_
            refine pu 16 5 (tb 17 131071) HT_ ?_
            refine dn HT_ ?_
            clear HT_ HW_ hH
            go_wp2
            go_roundw
            case rel => exact ⟨i + 1, hli, by go_num, by rw [HA.out]; rfl, q + 1, rfl⟩
            case measure => simp [intOf]; omega
          | false =>
            go_upto_region 9 with fail
            refine sta 17 (fun w' => w'.cell? (ao.add i) = some (.int .i64 y) ∧ w'.cell? ⟨g, 1, none⟩ = some (.slice (some al) s.log.length c1) ∧ w'.cell? (al.add (k * 2)) = some (.int .i64 x)) [] rOrderT ⟨t0, hc1, s0⟩ (fun hH HT_ HW_ => ?_)
            refine pu 0 23 (tb 17 1) HT_ ?_
            refine pu 1 24 (tb 17 3) HT_ ?_
            refine pu 2 25 (tb 17 7) HT_ ?_
            refine pu 3 26 (tb 17 15) HT_ ?_
            refine pu 4 27 (tb 17 31) HT_ ?_
            refine tk 5 28 (tb 17 63) HT_ HW_ hH ?_
            refine pu 6 29 (tb 17 127) HT_ ?_
            refine pu 7 30 (tb 17 255) HT_ ?_
            refine pu 8 31 (tb 17 511) HT_ ?_
            refine tk 9 32 (tb 17 1023) HT_ HW_ hH ?_
            refine pu 10 33 (tb 17 2047) HT_ ?_
            refine pu 11 34 (tb 17 4095) HT_ ?_
            refine pu 12 35 (tb 17 8191) HT_ ?_
            refine tk 13 36 (tb 17 16383) HT_ HW_ hH ?_
            refine pu 14 37 (tb 17 32767) HT_ ?_
            refine pu 15 38 (tb 17 65535) HT_ ?_
            refine pu 16 5 (tb 17 131071) HT_ ?_
            refine dn HT_ ?_
            clear HT_ HW_ hH
            go_wp2
            go_roundw
            case rel => exact ⟨i + 1, hli, by go_num, by rw [HA.out]; rfl, q + 1, rfl⟩
            case measure => simp [intOf]; omega
        · obtain rfl : i = o.length := by omega
          rw [List.take_length]
          obtain ⟨met, hm⟩ : ∃ z, o.any (· == x) = z := ⟨_, rfl⟩
          have hs := HS.out
          unfold oneMore at hs
          rw [hm] at hs ⊢
          clear hm HS
          cases met with
          | true =>
            rw [if_pos rfl] at hs
            have HS := Aside0.mk hs
            clear hs
            go_wp2
            go_roundw
            case rel => exact ⟨k + 1, hlt, by go_num, Aside0.mk (by rw [HS.out]; exact Kd.R_drewN HR.out q), Aside0.mk (pw_below_drewN HB.out q)⟩
            case measure => simp [intOf]; omega
          | false =>
            rw [if_neg (by decide)] at hs
            have HS := Aside0.mk hs
            clear hs
            go_wp2_with (at_builtin; refine Kd.R_append (Kd.int .i64) (w0 := w) (W := wo.drewN q) w.heap.size rfl (.tmp 41) (.tmp 50) 76 3 (.int .i64 0) 8 rfl Try.underlying76 info_i64 rfl (by decide) (by decide) (.slice Ao o.length co) o x [.int .i64 x] (fun _ => True) (fun _ => False) rfl rfl rfl (fun _ h => h.elim) (fun _ _ => trivial) (Kd.R_drewN HR.out q) (pw_below_drewN HB.out q) (Nat.le_trans HB.out.size (Nat.le_refl _)) (by omega) ?_; intro v6 w6 hR6 hB6 _ _; have HR6 := Aside0.mk hR6; have HB6 := Aside0.mk hB6; clear hR6 hB6)
            go_roundw
            case rel => exact ⟨k + 1, hlt, by go_num, Aside0.mk (by rw [HS.out]; exact HR6.out), HB6⟩
            case measure => simp [intOf]; omega
    · obtain rfl : k = s.log.length := by omega
      have hR := HR.out
      rw [List.take_length, HT.out] at hR
      obtain ⟨A3, c3, rfl⟩ := Kd.R_slice hR
      have HR3 := Aside0.mk hR
      clear hR HR HL
      go_wp2
      go_ret
      exact ⟨_, rfl, HR3.out, HB.out⟩
end Go.Proofs.Ytmpiljfpgfhljaa.XRefD
