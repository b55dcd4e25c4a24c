/-
  The reference's disk by walks: Read.
-/
import Derived.Laws.CopyOwn
import Derived.ArgAppend
import Derived.Below
import Derived.BigQuiet
import Derived.Deep.AppendLies
import Derived.Deep.CutBlock
import Derived.Deep.DeepCutAuto
import Derived.Deep.Draws
import Derived.Deep.LoopGhost
import Derived.Deep.OwnRows
import Derived.Deep.QuietTactic
import Derived.Deep.RegionHeld3
import Derived.Deep.WholeRow
import Derived.KernelRfl
import Derived.Laws.BitsLemmas
import Derived.Laws.BytesArg
import Derived.Laws.IdiomCopy
import Derived.Laws.MakeOwn
import Derived.Laws.OwnMore
import Derived.Laws.Rows
import Derived.Laws.Slices
import Derived.Lib.AppendStr
import Derived.Lib.ConvBytes
import Derived.Lib.Hide
import Derived.Maps.AppendAt
import Derived.OrdersHeld
import Derived.Outline
import Derived.OwnWalk
import Derived.RowKit
import Derived.RowKit3
import Derived.Tactics
import Derived.WalkKit
import Derived.WideLaws
import Derived.Test.YtmpiljfpgfhljaaProg
import Derived.Test.YtmpiljfpgfhljaaWApart
import Derived.Test.YtmpiljfpgfhljaaWArr
import Derived.Test.YtmpiljfpgfhljaaWAt
import Derived.Test.YtmpiljfpgfhljaaWEqStruct
import Derived.Test.YtmpiljfpgfhljaaWFoot
import Derived.Test.YtmpiljfpgfhljaaWFootNe
import Derived.Test.YtmpiljfpgfhljaaWFour
import Derived.Test.YtmpiljfpgfhljaaWGuard
import Derived.Test.YtmpiljfpgfhljaaWInv
import Derived.Test.YtmpiljfpgfhljaaWInvWords
import Derived.Test.YtmpiljfpgfhljaaWKept
import Derived.Test.YtmpiljfpgfhljaaWLast
import Derived.Test.YtmpiljfpgfhljaaWMore
import Derived.Test.YtmpiljfpgfhljaaWN
import Derived.Test.YtmpiljfpgfhljaaWNEv
import Derived.Test.YtmpiljfpgfhljaaWQPut
import Derived.Test.YtmpiljfpgfhljaaWRepsOne
import Derived.Test.YtmpiljfpgfhljaaWShare
import Derived.Test.YtmpiljfpgfhljaaWTab
import Derived.Test.YtmpiljfpgfhljaaWWords
import Derived.Test.YtmpiljfpgfhljaaWZeros
import Derived.Test.YtmpiljfpgfhljaaXSlices

import Derived.StillTailTactics
import Derived.Test.YtmpiljfpgfhljaaXRefD3
namespace Go.Proofs.Ytmpiljfpgfhljaa.XRefD
open Go.RowKit Go.Proofs.YtmpiljfpgfhljaaW.PrintWords Go.Proofs.YtmpiljfpgfhljaaW.PrintLast Go.Proofs.YtmpiljfpgfhljaaW.PrintMore XCm XDisk
set_option linter.unusedVariables false
set_option linter.unusedSimpArgs false
def lastF (i : Int) (b : List Int) (l : List (Int × List Int)) : List Int := l.foldl (fun b x => if x.1 = i then x.2 else b) b
def rNow (s : Rf) (i : Int) : List Int := lastF i (s.good.getD i.toNat []) s.log
def rReadB (s : Rf) (i : Int) : List Int := if rHas s i = true then rNow s i else []
def rReadE (s : Rf) (i : Int) : Int := if rHas s i = true then 0 else 1
theorem lastF_step (i : Int) (b : List Int) (l : List (Int × List Int)) (k : Nat) (h : k < l.length) : lastF i b (l.take (k + 1)) = if (l[k]).1 = i then (l[k]).2 else lastF i b (l.take k) := by
  unfold lastF
  rw [List.take_succ_eq_append_getElem h, List.foldl_append]
  rfl
/-- Where an element of the log lies, and its row. -/
theorem log_at {base g : Nat} {s : Rf} {w : World} (h : RefAt base w g s) : ∃ A c, w.cell? ⟨g, 1, none⟩ = some (.slice A s.log.length c) ∧ s.log.length ≤ 9223372036854775807 ∧ s.log.length ≤ c ∧ ∀ k (hk : k < s.log.length), ∃ ad B d, A = some ad ∧
    w.cell? (ad.add (k * 2)) = some (.int .i64 (s.log[k]).1) ∧ w.cell? ⟨(ad.add (k * 2)).block, (ad.add (k * 2)).off + 1, none⟩ = some (.slice B (s.log[k]).2.length d) ∧ (s.log[k]).2.length ≤ d ∧ Kd.C (Kd.int .u8) w B (s.log[k]).2.length (s.log[k]).2 ∧
    rowK.M w base (fun _ => True) (s.log[k]).2 [.slice B (s.log[k]).2.length d] := by
  obtain ⟨vg, vc, h1, h2, h3, h4⟩ := h
  obtain ⟨A, c, rfl⟩ := Kd.R_slice h4
  obtain ⟨-, hlc, hC⟩ := Kd.R_reads' h4
  refine ⟨A, c, by rw [blk_cell h1]; rfl, hC.2.1, hlc, fun k hk => ?_⟩
  obtain ⟨ad, -, rfl, -⟩ := Kd.C_get hC s.log[k] (k : Int) (by omega) (by omega)
  obtain ⟨cs, hcl, hM, hce⟩ := Kd.R_getA h4 s.log[k] (k : Int) (by omega) (by omega)
  rw [Int.toNat_natCast, List.getD_eq_getElem?_getD, List.getElem?_eq_getElem hk] at hM
  obtain ⟨c1, c2, rfl, hk1, v, rfl, hR⟩ := hM
  obtain rfl : c1 = [.int .i64 (s.log[k]).1] := hk1
  obtain ⟨B, d, rfl⟩ := Kd.R_slice hR
  obtain ⟨-, hd, hC2⟩ := Kd.R_reads' hR
  have hz : oneK.sz = 2 := rfl
  rw [Int.toNat_natCast, hz] at hce
  have s0 := hce 0 _ rfl
  have s1 := hce 1 _ rfl
  rw [Nat.add_zero] at s0
  rw [add_field ad (k * 2) 1 (by decide)] at s1
  exact ⟨ad, B, d, rfl, s0, s1, hd, hC2, _, rfl, Kd.R_mono hR (fun _ _ => trivial)⟩
theorem good_at {base g : Nat} {s : Rf} {w : World} (h : RefAt base w g s) : ∃ A c, w.cell? ⟨g, 0, none⟩ = some (.slice A s.good.length c) ∧ s.good.length ≤ 9223372036854775807 ∧ s.good.length ≤ c ∧ ∀ k (hk : k < s.good.length), ∃ ad B d, A = some ad ∧
    w.cell? (ad.add k) = some (.slice B (s.good[k]).length d) ∧ (s.good[k]).length ≤ d ∧ Kd.C (Kd.int .u8) w B (s.good[k]).length (s.good[k]) := by
  obtain ⟨vg, vc, h1, h2, h3, h4⟩ := h
  obtain ⟨A, c, rfl⟩ := Kd.R_slice h3
  obtain ⟨-, hlc, hC⟩ := Kd.R_reads' h3
  refine ⟨A, c, by rw [blk_cell h1]; rfl, hC.2.1, hlc, fun k hk => ?_⟩
  obtain ⟨ad, cs, rfl, hcl, hK, hce⟩ := Kd.C_get hC s.good[k] (k : Int) (by omega) (by omega)
  rw [Int.toNat_natCast, List.getD_eq_getElem?_getD, List.getElem?_eq_getElem hk] at hK
  obtain ⟨B, d, rfl, hd, hC2⟩ := hK
  have hz : rowK.sz = 1 := rfl
  rw [Int.toNat_natCast, hz, Nat.mul_one] at hce
  have s0 := hce 0 _ rfl
  rw [Nat.add_zero] at s0
  exact ⟨ad, B, d, rfl, s0, hd, hC2⟩
attribute [local irreducible] lastF
set_option maxRecDepth 100000 in
set_option maxHeartbeats 1000000 in
theorem rread_walk (base g : Nat) (s : Rf) (i : Int) (w : World) (h : RefAt base w g s) (hlen : (rReadB s i).length ≤ 140737488355328) :
    Calls Try.prog 41 #[.pointer (some ⟨g, 0, none⟩), .int .i64 i] w fun e w' => ∃ v, e = .returned (.tuple #[v, .int .i64 (rReadE s i)]) ∧ (Kd.int .u8).R 5 w' w.heap.size (fun _ => True) v (rReadB s i) ∧ Below w.heap.size w w' := by
  obtain ⟨A0, c0, hc0, m0, l0, G⟩ := good_at h
  obtain ⟨A1, c1, hc1, m1, l1, L⟩ := log_at h
  have HG := Aside0.mk G
  have HL := Aside0.mk L
  clear h G L
  unfold rReadB rReadE at *
  by_cases hb : rHas s i = true
  rotate_left
  · rw [if_neg hb, if_neg hb]
    by_cases h0 : 0 ≤ i
    · have b0 : decide (i < 0) = false := decide_eq_false (by omega)
      have b1 : decide ((s.good.length : Int) ≤ i) = true := by
        unfold rHas at hb
        rw [decide_eq_true h0, Bool.true_and, decide_eq_true_eq] at hb
        exact decide_eq_true (by omega)
      clear hb hlen
      go_enter Try.func41, Try.ntmps41
      go_wp2
      go_ret2
      exact ⟨_, rfl, Kd.R_nil _ _ _ _ _, Below.refl _ _⟩
    · have b0 : decide (i < 0) = true := decide_eq_true (by omega)
      clear hb hlen
      go_enter Try.func41, Try.ntmps41
      go_wp2
      go_ret2
      exact ⟨_, rfl, Kd.R_nil _ _ _ _ _, Below.refl _ _⟩
  rw [if_pos hb] at hlen
  rw [if_pos hb, if_pos hb]
  unfold rHas at hb
  simp only [Bool.and_eq_true, decide_eq_true_eq] at hb
  obtain ⟨h0, h1⟩ := hb
  obtain ⟨j, rfl⟩ := Int.eq_ofNat_of_zero_le h0
  have hj : j < s.good.length := by omega
  have b0 : decide (((j : Nat) : Int) < 0) = false := decide_eq_false (by omega)
  have b1 : decide ((s.good.length : Int) ≤ ((j : Nat) : Int)) = false := decide_eq_false (by omega)
  obtain ⟨ad, B, d, rfl, g0, gl, gC⟩ := HG.out j hj
  have GC := Aside0.mk gC
  have HB0 := Aside0.mk (show s.good.getD ((j : Nat) : Int).toNat [] = s.good[j] by rw [Int.toNat_natCast, List.getD_eq_getElem?_getD, List.getElem?_eq_getElem hj]; rfl)
  unfold rNow at hlen ⊢
  rw [HB0.out] at hlen ⊢
  obtain ⟨b0', hb0'⟩ : ∃ z, s.good[j] = z := ⟨_, rfl⟩
  rw [hb0'] at GC g0 gl hlen ⊢
  obtain ⟨tot, ht⟩ : ∃ z, lastF ((j : Nat) : Int) b0' s.log = z := ⟨_, rfl⟩
  rw [ht] at hlen ⊢
  have HT := Aside0.mk ht
  clear gC HB0 hb0' HG ht
  go_enter Try.func41, Try.ntmps41
  go_wp2
  go_loop [6, 7] (fun v6 v7 => ∃ (k : Nat) (b : List Int) (A : Option Addr) (c : Nat), k ≤ s.log.length ∧ v7 = .int .i64 k ∧ v6 = .slice A b.length c ∧ Aside0 (b = lastF ((j : Nat) : Int) b0' (s.log.take k)) ∧ b.length ≤ c ∧ Aside0 (Kd.C (Kd.int .u8) w A b.length b)) (fun _ v7 => s.log.length - (intOf v7).toNat)
  case atStart => exact ⟨0, b0', B, d, Nat.zero_le _, rfl, rfl, Aside0.mk (by rw [List.take_zero]; unfold lastF; rfl), gl, GC⟩
  case round =>
    clear GC g0 gl
    obtain ⟨k, b, A, c, hk, rfl, rfl, HE, hbc, HC⟩ := hrel
    by_cases hlt : k < s.log.length
    · obtain ⟨al, Bl, dl, rfl, s0, s1, sl, sC, -⟩ := HL.out k hlt
      have SC := Aside0.mk sC
      have HS := Aside0.mk (lastF_step ((j : Nat) : Int) b0' s.log k hlt)
      clear sC
      obtain ⟨x, hx⟩ : ∃ x, s.log[k] = x := ⟨_, rfl⟩
      rw [hx] at s0 s1 sl SC HS
      clear hx
      have hki : (k : Int) < (s.log.length : Int) := by omega
      have hk0 : (0 : Int) ≤ (k : Int) := by omega
      by_cases hq : x.1 = ((j : Nat) : Int)
      · have b5 : (x.1 == ((j : Nat) : Int)) = true := by simpa using hq
        have H2 := Aside0.mk (show x.2 = lastF ((j : Nat) : Int) b0' (s.log.take (k + 1)) by rw [HS.out, if_pos hq])
        clear hq HS
        go_wp2
        go_round
        case rel => exact ⟨k + 1, x.2, Bl, dl, hlt, by go_num, rfl, H2, sl, SC⟩
        case measure => simp [intOf]; omega
      · have b5 : (x.1 == ((j : Nat) : Int)) = false := by simpa using hq
        have H2 := Aside0.mk (show b = lastF ((j : Nat) : Int) b0' (s.log.take (k + 1)) by rw [HS.out, if_neg hq]; exact HE.out)
        clear hq HS
        go_wp2
        go_round
        case rel => exact ⟨k + 1, b, A, c, hlt, by go_num, rfl, H2, hbc, HC⟩
        case measure => simp [intOf]; omega
    · obtain rfl : k = s.log.length := by omega
      have hE := HE.out
      rw [List.take_length, HT.out] at hE
      subst hE
      clear HE HL HT
      go_wp2_with (at_builtin; refine Kd.R_append_rows (Kd.int .u8) (w0 := w) (Rr := (Kd.int .u8).K (w.alloc (.cells #[] 5))) w.heap.size rfl (.tmp 53) (.tmp 54) 29 5 (.int .u8 0) 1 rfl Try.underlying29 info_u8 rfl (by decide) (by decide) (.slice (some ⟨w.heap.size, 0, none⟩) 0 0) [] b A b.length c (fun _ => True) (fun _ => False) rfl rfl (R_empty _ _ _ _ (Nat.le_refl _)) (Kd.C_alloc HC.out _) (fun _ _ h => h) (fun _ h => h.elim) (fun _ _ => trivial) (Below.alloc (Below.refl _ _) (Nat.le_refl _) _) (by simp) (by simp; omega) ?_; intro v3 w3 hR3 hB3 _ _; rw [List.nil_append] at hR3; have HR3 := Aside0.mk hR3; have HB3 := Aside0.mk hB3; clear hR3 hB3)
      go_ret2
      exact ⟨_, rfl, HR3.out, HB3.out⟩
end Go.Proofs.Ytmpiljfpgfhljaa.XRefD
