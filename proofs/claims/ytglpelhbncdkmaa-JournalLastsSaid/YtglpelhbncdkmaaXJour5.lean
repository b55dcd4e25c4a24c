/-
  package journal by walks, fifth part: last.
-/
import Derived.Laws.CopyOwn
import Derived.ArgAppend
import Derived.Below
import Derived.BigQuiet
import Derived.Deep.AppendLies
import Derived.Deep.CutBlock
import Derived.Deep.DeepCutAuto
import Derived.Deep.Draws
import Derived.Deep.LoopGhost
import Derived.Deep.OwnRows
import Derived.Deep.QuietTactic
import Derived.Deep.RegionHeld3
import Derived.Deep.WholeRow
import Derived.KernelRfl
import Derived.Laws.BitsLemmas
import Derived.Laws.BytesArg
import Derived.Laws.IdiomCopy
import Derived.Laws.MakeOwn
import Derived.Laws.OwnMore
import Derived.Laws.Rows
import Derived.Laws.Slices
import Derived.Lib.AppendStr
import Derived.Lib.ConvBytes
import Derived.Lib.Hide
import Derived.Maps.AppendAt
import Derived.OrdersHeld
import Derived.Outline
import Derived.OwnWalk
import Derived.RowKit
import Derived.RowKit3
import Derived.Tactics
import Derived.WalkKit
import Derived.WideLaws
import Derived.Test.YtglpelhbncdkmaaProg
import Derived.Test.YtglpelhbncdkmaaWApart
import Derived.Test.YtglpelhbncdkmaaWArr
import Derived.Test.YtglpelhbncdkmaaWAt
import Derived.Test.YtglpelhbncdkmaaWEqStruct
import Derived.Test.YtglpelhbncdkmaaWFoot
import Derived.Test.YtglpelhbncdkmaaWFootNe
import Derived.Test.YtglpelhbncdkmaaWFour
import Derived.Test.YtglpelhbncdkmaaWGuard
import Derived.Test.YtglpelhbncdkmaaWInv
import Derived.Test.YtglpelhbncdkmaaWInvWords
import Derived.Test.YtglpelhbncdkmaaWKept
import Derived.Test.YtglpelhbncdkmaaWLast
import Derived.Test.YtglpelhbncdkmaaWMore
import Derived.Test.YtglpelhbncdkmaaWN
import Derived.Test.YtglpelhbncdkmaaWNEv
import Derived.Test.YtglpelhbncdkmaaWQPut
import Derived.Test.YtglpelhbncdkmaaWRepsOne
import Derived.Test.YtglpelhbncdkmaaWShare
import Derived.Test.YtglpelhbncdkmaaWTab
import Derived.Test.YtglpelhbncdkmaaWWords
import Derived.Test.YtglpelhbncdkmaaWZeros
import Derived.Test.YtglpelhbncdkmaaXSlices

import Derived.Test.YtglpelhbncdkmaaXJour4
import Derived.Test.YtglpelhbncdkmaaXUnpack
namespace Go.Proofs.Ytglpelhbncdkmaa.XJour
open Go.RowKit Go.Proofs.YtglpelhbncdkmaaW.PrintWords Go.Proofs.YtglpelhbncdkmaaW.PrintLast Go.Proofs.YtglpelhbncdkmaaW.PrintMore XDisk XChunk
set_option linter.unusedVariables false
set_option linter.unusedSimpArgs false
/-! ### last -/
def vp (l : List Int) : Nat → Int
  | 0 => 0
  | k + 1 => vp l k * 256 + l.getD k 0
theorem vp_range (l : List Int) (h : Bytes l) : ∀ k, k ≤ 4 → 0 ≤ vp l k ∧ vp l k < 4294967296 ∧ (k < 4 → vp l k < 16777216) := by
  have hg : ∀ i, 0 ≤ l.getD i 0 ∧ l.getD i 0 < 256 := fun i => by
    rw [List.getD_eq_getElem?_getD]
    cases hi : l[i]? with
    | none => decide
    | some c => exact h c (List.mem_of_getElem? hi)
  have g0 := hg 0; have g1 := hg 1; have g2 := hg 2; have g3 := hg 3
  intro k hk
  match k, hk with
  | 0, _ => simp [vp]
  | 1, _ => simp only [vp]; omega
  | 2, _ => simp only [vp]; omega
  | 3, _ => simp only [vp]; omega
  | 4, _ => simp only [vp]; omega
def epochOf (b : List Int) : Int := vp ((b.take 28).drop 24) 4
def lastF (s : St) : Nat → Int
  | 0 => 0
  | n + 1 => mx (lastF s n) (epochOf (nowAt s (n : Nat)))
theorem lastF_range (s : St) (hS : Fine s) : ∀ n, n ≤ s.good.length → 0 ≤ lastF s n ∧ lastF s n < 4294967296
  | 0, _ => by simp [lastF]
  | n + 1, h => by
    have ih := lastF_range s hS n (by omega)
    have hb := (now_fine hS n (by omega)).2
    have := vp_range (((nowAt s (n : Nat)).take 28).drop 24) (fun c hc => hb c (List.mem_of_mem_take (List.mem_of_mem_drop hc))) 4 (Nat.le_refl _)
    rw [lastF]; unfold mx epochOf; split <;> omega
theorem or_step (x y : Int) (h1 : 0 ≤ x) (h2 : x < 16777216) (h3 : 0 ≤ y) (h4 : y < 256) : Go.bits .or .i64 (x * 256) y = x * 256 + y := by
  obtain ⟨a, rfl⟩ : ∃ a : Nat, x = (a : Int) := ⟨x.toNat, by omega⟩
  obtain ⟨b', rfl⟩ : ∃ b' : Nat, y = (b' : Int) := ⟨y.toNat, by omega⟩
  exact XUnpack.or_256 a b' (by omega) (by omega)
attribute [local irreducible] lastF nowAt vp
attribute [local go_sem] max2_int min2_int max_two min_two max_three min_three max_four min_four
set_option maxHeartbeats 2000000 in
theorem last_walk (base gj g : Nat) (j : Jr) (s : St) (w : World) (hj : JrAt base w gj g j) (h : DiskAt base w g s) (hS : Fine s) (hg : s.good.length ≤ 4000) :
    Calls Try.prog 30 #[.pointer (some ⟨gj, 0, none⟩)] w fun e w' => e = .returned (.int .i64 (lastF s s.good.length)) ∧ Below w.heap.size w w' := by
  have HD := Aside0.mk h
  have HJ := Aside0.mk hj
  have HS := Aside0.mk hS
  obtain ⟨h0, -⟩ := jr_cells hj
  obtain ⟨i5, hi5, _, hsz, _⟩ := info_parts info_u8'
  clear h hj hS
  obtain ⟨n, hn⟩ : ∃ n, s.good.length = n := ⟨_, rfl⟩
  have HN := Aside0.mk hn
  rw [hn]
  rw [hn] at hg
  clear hn
  go_enter Try.func30, Try.ntmps30
  go_wp2_with (go_at_call 20; refine (size_q base g n s _ HN.out HD.out).mono ?_; rintro e w1 ⟨rfl, rfl⟩)
  go_loopw [3, 15] (fun v3 v15 wr => ∃ k : Nat, k ≤ n ∧ v15 = .int .i64 (k : Nat) ∧ v3 = .int .i64 (lastF s k) ∧ Aside0 (Below w.heap.size w wr)) (fun _ v15 _ => n - (intOf v15).toNat)
  case atStart => exact ⟨0, Nat.zero_le _, rfl, by rw [lastF], ⟨Below.refl _ _⟩⟩
  case round =>
    obtain ⟨k, hk, rfl, rfl, HB⟩ := hrel
    by_cases hlt : k < n
    · obtain ⟨hc0, -⟩ := jr_cells (jr_below HJ.out HB.out)
      have RW := Aside0.mk (XDisk.read_walk base g s k wr (disk_below HD.out HB.out) (by rw [HN.out]; exact hlt))
      obtain ⟨hl32, hby⟩ := now_fine HS.out k (by rw [HN.out]; exact hlt)
      have HL := Aside0.mk (show lastF s (k + 1) = mx (lastF s k) (epochOf (nowAt s (k : Nat))) by rw [lastF])
      generalize nowAt s ((k : Nat) : Int) = b at *
      have hlen : ((b.take 28).drop 24).length = 4 := by rw [List.length_drop, List.length_take]; omega
      have hbt : Bytes ((b.take 28).drop 24) := fun c hc => hby c (List.mem_of_mem_take (List.mem_of_mem_drop hc))
      have g1 : (28 : Int) ≤ (b.length : Int) := by omega
      have q3 : (24 : Int).toNat = 24 := rfl
      have q4 : (28 : Int).toNat = 28 := rfl
      have CUT := Aside0.mk (fun (A : Option Addr) (c : Nat) (hc : b.length ≤ c) => print_mid_of (P := Try.prog) (Value.int .u8) 0 23 5 .i64 .i64 Try.underlying23 hi5 hsz A c b 24 28 (by decide) (by decide) g1 hc)
      simp only [q3, q4] at CUT
      have HEp := Aside0.mk (show epochOf b = vp ((b.take 28).drop 24) 4 from rfl)
      clear hby hl32 g1
      generalize (b.take 28).drop 24 = t at *
      go_wp2_with (go_at_call 39; refine RW.out.mono ?_; rintro e w1 ⟨v, rfl, hRv, hB1⟩; obtain ⟨Av, cv, rfl, hcv, hCv⟩ := Kd.R_reads hRv; obtain ⟨A2, hcut, hA2, -⟩ := CUT.out Av cv hcv; have HB1 := Aside0.mk (below_step HB.out hB1); have HC := Aside0.mk (Kd.C_of_reads (h1 := fun _ => rfl) (hA2 _ (Kd.reads_of_C hCv))); clear hRv hB1 hCv hA2 CUT)
      rw [hlen] at hcut HC
      obtain ⟨ad, rfl, hcc⟩ : ∃ ad, A2 = some ad ∧ ∀ i : Nat, i < 4 → w1.cell? (ad.add i) = some (.int .u8 (t.getD i 0)) := by
        obtain ⟨ad, e, hx⟩ := HC.out.2.2 (by decide)
        refine ⟨ad, e, fun i hi => ?_⟩
        obtain ⟨cs, hl, hK, hcell⟩ := hx i (t[i]'(by omega)) (List.getElem?_eq_getElem (by omega))
        have hK' : cs = [.int .u8 t[i]] := hK
        rw [hK'] at hcell
        have := hcell 0 _ rfl
        rw [List.getD_eq_getElem?_getD, List.getElem?_eq_getElem (by omega)]
        simpa [Kd.int, Kd.scalar] using this
      have HCC := Aside0.mk hcc
      clear hcc HC
      go_wp2
      go_loop [7, 30] (fun v7 v30 => ∃ i : Nat, i ≤ 4 ∧ v30 = .int .i64 (i : Nat) ∧ v7 = .int .i64 (vp t i)) (fun _ v30 => 4 - (intOf v30).toNat)
      case atStart => exact ⟨0, Nat.zero_le _, rfl, by rw [vp]⟩
      case round =>
        obtain ⟨i, hi, rfl, rfl⟩ := hrel
        by_cases hli : i < 4
        · have hce := HCC.out i hli
          have hr := vp_range t hbt i hi
          have HV := Aside0.mk (show vp t (i + 1) = vp t i * 256 + t.getD i 0 by rw [vp])
          have hcr : 0 ≤ t.getD i 0 ∧ t.getD i 0 < 256 := by
            rw [List.getD_eq_getElem?_getD, List.getElem?_eq_getElem (by omega)]
            exact hbt _ (List.getElem_mem _)
          generalize vp t i = x at *
          generalize t.getD i 0 = y at *
          have hx : x < 16777216 := hr.2.2 hli
          have HW := Aside0.mk (show Go.bits .or .i64 (x * 256) y = vp t (i + 1) by rw [or_step x y hr.1 hx hcr.1 hcr.2, HV.out])
          clear HV
          go_wp2
          exact ⟨⟨i + 1, hli, by go_num, by rw [HW.out]⟩, by simp [intOf]; omega⟩
        · obtain rfl : i = 4 := by omega
          have HL2 := HL.out
          rw [HEp.out] at HL2
          unfold mx at HL2
          have HL3 := Aside0.mk HL2
          clear HL2 HL HEp
          go_wp2
          exact ⟨⟨k + 1, hlt, by go_num, by rw [HL3.out], HB1⟩, by simp [intOf]; omega⟩
    · obtain rfl : k = n := by omega
      go_wp2
      go_ret
      exact ⟨rfl, HB.out⟩
end Go.Proofs.Ytglpelhbncdkmaa.XJour
