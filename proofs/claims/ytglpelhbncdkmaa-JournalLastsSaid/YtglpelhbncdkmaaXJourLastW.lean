/-
  prebendlaw07.JournalLasts by its walk.
-/
import Derived.Laws.CopyOwn
import Derived.ArgAppend
import Derived.Below
import Derived.BigQuiet
import Derived.Deep.AppendLies
import Derived.Deep.CutBlock
import Derived.Deep.DeepCutAuto
import Derived.Deep.Draws
import Derived.Deep.LoopGhost
import Derived.Deep.OwnRows
import Derived.Deep.QuietTactic
import Derived.Deep.RegionHeld3
import Derived.Deep.WholeRow
import Derived.KernelRfl
import Derived.Laws.BitsLemmas
import Derived.Laws.BytesArg
import Derived.Laws.IdiomCopy
import Derived.Laws.MakeOwn
import Derived.Laws.OwnMore
import Derived.Laws.Rows
import Derived.Laws.Slices
import Derived.Lib.AppendStr
import Derived.Lib.ConvBytes
import Derived.Lib.Hide
import Derived.Maps.AppendAt
import Derived.OrdersHeld
import Derived.Outline
import Derived.OwnWalk
import Derived.RowKit
import Derived.RowKit3
import Derived.Tactics
import Derived.WalkKit
import Derived.WideLaws
import Derived.Test.YtglpelhbncdkmaaProg
import Derived.Test.YtglpelhbncdkmaaWApart
import Derived.Test.YtglpelhbncdkmaaWArr
import Derived.Test.YtglpelhbncdkmaaWAt
import Derived.Test.YtglpelhbncdkmaaWEqStruct
import Derived.Test.YtglpelhbncdkmaaWFoot
import Derived.Test.YtglpelhbncdkmaaWFootNe
import Derived.Test.YtglpelhbncdkmaaWFour
import Derived.Test.YtglpelhbncdkmaaWGuard
import Derived.Test.YtglpelhbncdkmaaWInv
import Derived.Test.YtglpelhbncdkmaaWInvWords
import Derived.Test.YtglpelhbncdkmaaWKept
import Derived.Test.YtglpelhbncdkmaaWLast
import Derived.Test.YtglpelhbncdkmaaWMore
import Derived.Test.YtglpelhbncdkmaaWN
import Derived.Test.YtglpelhbncdkmaaWNEv
import Derived.Test.YtglpelhbncdkmaaWQPut
import Derived.Test.YtglpelhbncdkmaaWRepsOne
import Derived.Test.YtglpelhbncdkmaaWShare
import Derived.Test.YtglpelhbncdkmaaWTab
import Derived.Test.YtglpelhbncdkmaaWWords
import Derived.Test.YtglpelhbncdkmaaWZeros
import Derived.Test.YtglpelhbncdkmaaXSlices

import Derived.Test.YtglpelhbncdkmaaXJourLasts
import Derived.Test.YtglpelhbncdkmaaXJourTwice
namespace Go.Proofs.Ytglpelhbncdkmaa.XJour
open Go.RowKit Go.Proofs.YtglpelhbncdkmaaW.PrintWords Go.Proofs.YtglpelhbncdkmaaW.PrintLast Go.Proofs.YtglpelhbncdkmaaW.PrintMore XDisk XChunk XUnpack XData
set_option linter.unusedVariables false
set_option linter.unusedSimpArgs false
/-! ### the acts; the rows that are told -/
abbrev A8 := Int × List Int × Int × Int × Int
def Cells8 (w : World) (p : Addr) (Ab : Option Addr) (cb : Nat) (x : A8) : Prop :=
  w.cell? p = some (.int .u8 x.1) ∧ w.cell? ⟨p.block, p.off + 1, none⟩ = some (.slice Ab x.2.1.length cb) ∧ w.cell? ⟨p.block, p.off + 2, none⟩ = some (.int .i64 x.2.2.1) ∧ w.cell? ⟨p.block, p.off + 3, none⟩ = some (.int .i64 x.2.2.2.1) ∧ w.cell? ⟨p.block, p.off + 4, none⟩ = some (.int .i64 x.2.2.2.2)
def ActAt8 (w : World) (A : Option Addr) (n : Nat) (f : Nat → A8) : Prop :=
  ∀ i, i < n → ∃ ad Ab cb, A = some ad ∧ Cells8 w (ad.add (i * 5)) Ab cb (f i) ∧ (f i).2.1.length ≤ cb ∧ Kd.C (Kd.int .u8) w Ab (f i).2.1.length (f i).2.1 ∧ (0 ≤ (f i).1 ∧ (f i).1 < 256) ∧ Bytes (f i).2.1
/-- Rows of bytes that came in. -/
def K8 (w0 : World) : Kd (List Int) := Kd.fixed (Kd.slice 5 (Kd.int .u8)) w0
theorem K8_read {w0 w : World} (hb : Below w0.heap.size w0 w) {A : Option Addr} {n : Nat} {xs : List (List Int)} (h : Kd.C (K8 w0) w A n xs) : Kd.C (Kd.slice 5 (Kd.int .u8)) w A n xs :=
  Kd.C_read (d := Kd.slice 5 (Kd.int .u8)) (dm := K8 w0) rfl (fun x cs hk => Kd.K_below _ hb hk) h
theorem K8_empty (w0 W : World) (base : Nat) (hb : base ≤ W.heap.size) : (K8 w0).R 23 (W.alloc (.cells #[] 23)) base (fun _ => True) (.slice (some ⟨W.heap.size, 0, none⟩) 0 0) [] := by
  have h2 := World.ownsRow_lit (base := base) (e := 23) (size := (K8 w0).sz) W #[] 0 hb (by decide) (by simp)
  exact ⟨fun _ _ => trivial, [], by simpa using h2, Reps.none _ _⟩
theorem K8_sz (w0 : World) : (K8 w0).sz = 1 := rfl
theorem K8_jT (w0 : World) : ∀ q, q ∈ 23 :: (K8 w0).E → ¬ jT q := by
  intro q hq
  have : q = 23 := by simpa [K8, Kd.fixed] using hq
  subst this
  unfold jT dT; decide
theorem info_slu8L : (Try.prog.info? 23).map (fun i => (i.zero, i.size, i.bytes)) = some (some (.slice none 0 0), 1, 24) := by kernel_rfl
theorem size_act7 : (Try.prog.info? 25).map (·.size) = some 5 := by kernel_rfl
theorem K8_info (w0 : World) : (Try.prog.info? 23).map (fun i => (i.zero, i.size, i.bytes)) = some (some (.slice none 0 0), (K8 w0).sz, 24) := info_slu8L
theorem K8_z (w0 : World) : (Value.slice none 0 0).cells.size = (K8 w0).sz := rfl
theorem K8_pos (w0 : World) : 0 < (K8 w0).sz := by rw [K8_sz]; decide
theorem K8_KM (w0 W : World) (base : Nat) (okp : Nat → Prop) : ∀ x cs, (K8 w0).K W x cs → (K8 w0).M W base okp x cs := fun _ _ h => h
theorem K8_one (w0 W : World) (base : Nat) (okp : Nat → Prop) (A : Option Addr) (c : Nat) (x : List Int) (hc : x.length ≤ c) (h : Kd.C (Kd.int .u8) w0 A x.length x) : (K8 w0).M W base okp x [.slice A x.length c] := ⟨A, c, rfl, hc, h⟩
theorem K8_take (w0 W : World) {A : Option Addr} {xs : List (List Int)} {m : Nat} (h : Kd.C (K8 w0) W A xs.length xs) (hm : m ≤ xs.length) : ReadsRow ((K8 w0).K W) (K8 w0).sz W A m (xs.take m) := by
  have := Kd.C_take h hm
  rw [List.length_take, Nat.min_eq_left hm] at this
  exact this
theorem slu8_nd : ¬ dT 23 := by unfold dT; decide
theorem disk_grownL {α : Type} {d : Kd α} {base base' e g : Nat} {w w' : World} {s : St} {ok : Nat → Prop} {v : Value} {xs : List α} (h : DiskAt base w g s) (hr : d.R e w base' ok v xs) (he : ¬ dT e) (hg : w.grownBy w' v.ownBlock) : DiskAt base w' g s := by
  have hkeep : ∀ i q cells, i < w.heap.size → w.heap[i]? = some (.cells cells q (0, 0)) → dT q → w'.heap[i]? = w.heap[i]? := fun i q cells hi hc hq => hg.block i hi (fun e1 => by
    obtain ⟨cells', hc'⟩ := own_typed hr.2.choose_spec.1 i e1.symm
    rw [hc] at hc'
    injection hc' with hc'
    injection hc' with _ h5 _
    exact he (h5 ▸ hq))
  obtain ⟨vg, vc, h1, h2, h3, h4⟩ := h
  refine ⟨vg, vc, (hkeep g _ _ (blk_lt h1) h1 (.inl rfl)).trans h1, h2, ?_, ?_⟩
  · refine Kd.R_mono (Kd.R_move (Kd.R_bound h3) (fun i hi => ?_)) (fun _ hk => hk.1)
    obtain ⟨-, -, hlt, q, hq, cells, hc⟩ := hi
    exact hkeep i q cells hlt hc (by simp [secK, Kd.arr, Kd.int, Kd.scalar] at hq; subst hq; exact .inr (.inl rfl))
  · refine Kd.R_mono (Kd.R_move (Kd.R_bound h4) (fun i hi => ?_)) (fun _ hk => hk.1)
    obtain ⟨-, -, hlt, q, hq, cells, hc⟩ := hi
    exact hkeep i q cells hlt hc (by simp [cacK, secK, Kd.pair, Kd.arr, Kd.int, Kd.scalar] at hq; subst hq; exact .inr (.inr rfl))
theorem jr_grown {α : Type} {d : Kd α} {base base' e gj g : Nat} {w w' : World} {j : Jr} {ok : Nat → Prop} {v : Value} {xs : List α} (h : JrAt base w gj g j) (hr : d.R e w base' ok v xs) (he : e ≠ 55) (hg : w.grownBy w' v.ownBlock) : JrAt base w' gj g j :=
  ⟨(hg.block gj (blk_lt h.1) (fun e1 => by
    obtain ⟨cells', hc'⟩ := own_typed hr.2.choose_spec.1 gj e1.symm
    rw [h.1] at hc'
    injection hc' with hc'
    injection hc' with _ h5 _
    exact he h5.symm)).trans h.1, h.2⟩
theorem act_keepJ {base gx : Nat} {w w' : World} {cells : Array Value} (h : w.heap[gx]? = some (.cells cells 25 (0, 0))) (k : KeepJ base w w') : w'.heap[gx]? = some (.cells cells 25 (0, 0)) :=
  (k.block gx (blk_lt h) (.inr (fun cells' q hq => by
    rw [h] at hq
    injection hq with hq
    injection hq with _ h5 _
    subst h5
    unfold jT dT; decide))).trans h
theorem count_walk (n : Nat) (hn : n ≤ 200) (w : World) : Calls Try.prog 21 #[.int .i64 (n : Nat)] w fun e w' => ∃ A c, e = .returned (.slice A 2 c) ∧ 2 ≤ c ∧ Kd.C (Kd.int .u8) w' A ([0, ((n : Nat) : Int)] : List Int).length [0, ((n : Nat) : Int)] ∧ Below w.heap.size w w' := by
  have HB := Aside0.mk (Below.refl w.heap.size w)
  have e1 : Int.tdiv ((n : Nat) : Int) 256 = 0 := by rw [Int.tdiv_eq_ediv_of_nonneg (by omega)]; omega
  have e2 : Int.tmod ((n : Nat) : Int) 256 = (n : Nat) := by rw [Int.tmod_eq_emod_of_nonneg (by omega)]; omega
  have e3 : ((n : Nat) : Int) / 256 = 0 := by omega
  have e4 : ((n : Nat) : Int) % 256 = (n : Nat) := by omega
  have e5 : wrap64 0 = 0 := by unfold wrap64; decide
  go_enter Try.func21, Try.ntmps21
  go_wp2_with (first | ((with_reducible refine gate_dst (N := 9) rfl ?_); refine Kd.R_lit (Kd.int .u8) _ 5 ?hg (N := 9) ?hd (xs := ([0, ((n : Nat) : Int)] : List Int)) (inner := [.int .u8 0, .int .u8 ((n : Nat) : Int)]) (ok := fun _ => True) (okp := fun _ => True) ?hr ?hp (fun _ hk => hk) trivial (Below.refl _ _) (Nat.le_refl _) (by simp) ?_; (case hd => rfl); (case hg => rfl); (case hr => first | (go_simp; done) | (go_simp; rfl) | (simp [e1, e2, e3, e4, e5]; rfl)); (case hp => exact (Reps.one (show Kd.M (Kd.int .u8) _ _ _ 0 [.int .u8 0] from rfl) (Reps.one (show Kd.M (Kd.int .u8) _ _ _ ((n : Nat) : Int) [.int .u8 ((n : Nat) : Int)] from rfl) (Reps.none _ _)))); intro v139 w2 ho3 hb hg_ hnew_; clear hg_ hnew_; have HO := Aside0.mk ho3; have HBB := Aside0.mk hb; clear ho3 hb))
  obtain ⟨A, c, rfl, hc, hC⟩ := Kd.R_reads HO.out
  go_ret
  exact ⟨A, c, rfl, hc, hC, HBB.out⟩
attribute [local irreducible] b1 openJ openCk openRec formatF checkpointF appendF commitF Crash recs K8
set_option maxHeartbeats 16000000 in
set_option maxRecDepth 100000 in
theorem lasts_walk (A : Option Addr) (n c : Nat) (f : Nat → A8) (w : World) (hact : ActAt8 w A n f) (hm : n ≤ 9223372036854775807) :
    Calls Try.prog 6 #[.slice A n c] w fun e w' => e = .returned (.bool true) ∧ Below w.heap.size w w' := by
  obtain ⟨f1, f2, f3, f4, -⟩ := b1_facts
  have ok1 := round_start.ok
  have RS := Aside0.mk round_start
  have ACT := Aside0.mk hact
  have hZ : ([0, ((0 : Nat) : Int)] : List Int) = [0, 0] := rfl
  clear hact
  go_enter Try.func6, Try.ntmps6
  go_wp2_with fail
  refine (new_in 64 64 (by decide) w).mono ?_
  rintro e w1 ⟨g, rfl, hD1, hB1⟩
  go_wp2_with fail
  refine (count_walk 0 (by decide) w1).mono ?_
  rintro e w2 ⟨A2, c2, rfl, hc2, hC2, hBB2⟩
  rw [hZ] at hC2
  have hD2 := disk_below hD1 hBB2
  have hB2 := below_step' hB1 hBB2
  clear hD1 hB1 hBB2
  go_wp2_with fail
  refine (format_walk w.heap.size g c2 (fresh 64) 2 A2 [0, 0] w2 hD2 (fresh_fine 64) hC2 hc2 (bytes_dec (by decide)) (by decide) (by decide) hB2.size).mono ?_
  rintro e w3 ⟨rfl, hD3, hK3⟩
  rw [f1]
  rw [b1_e] at hD3
  have hB3 := below_keep hB2 hB2.size hK3
  clear hD2 hB2 hC2 hK3
  go_wp2_with fail
  have hR4 := K8_empty w w3 w.heap.size hB3.size
  have hD4 := disk_below hD3 (Below.alloc (Below.refl w3.heap.size w3) (Nat.le_refl _) (.cells #[] 23))
  have hB4 := below_step' hB3 (Below.alloc (Below.refl w3.heap.size w3) (Nat.le_refl _) (.cells #[] 23))
  obtain ⟨w4, hw4⟩ : ∃ z, w3.alloc (.cells #[] 23) = z := ⟨_, rfl⟩
  rw [hw4] at hR4 hD4 hB4 ⊢
  clear hw4 hD3 hB3
  refine (open_walk w.heap.size g b1 2 w4 hD4 ok1.fine ok1.size f4 hB4.size).mono ?_
  rintro e w5 ⟨hD5, hK5, (⟨hbad, -⟩ | ⟨-, gj, v2, v3, rfl, -, -, -, hJ5⟩)⟩
  · rw [f2] at hbad; exact absurd hbad (by decide)
  have HR5 := Aside0.mk (R_keepJ hR4 (K8_jT w) hK5)
  have HB5 := Aside0.mk (below_keepJ hB4 hB4.size hK5)
  have HD5 := Aside0.mk hD5
  have HJ5 := Aside0.mk hJ5
  clear hD4 hB4 hK5 hR4 hJ5 hD5
  go_wp2_with fail
  go_loopw [10, 4, 5, 6, 9] (fun v10 v4 v5 v6 v9 wr => ∃ (i : Nat) (j : Jr) (s : St) (all : List (List Int)) (sure gk : Nat), i ≤ 60 ∧ i ≤ n ∧ v10 = .int .i64 (i : Nat) ∧ v5 = .int .i64 (sure : Nat) ∧ v6 = .pointer (some ⟨gk, 0, none⟩) ∧ v9 = .int .i64 0 ∧ Aside0 (JrAt w.heap.size wr gk g j) ∧ Aside0 (DiskAt w.heap.size wr g s) ∧ Aside0 (LRound i j s all sure) ∧ Aside0 ((K8 w).R 23 wr w.heap.size (fun _ => True) v4 all) ∧ Aside0 (Below w.heap.size w wr)) (fun v10 _ _ _ _ _ => 60 - (intOf v10).toNat)
  case atStart => exact ⟨0, _, _, _, 0, gj, Nat.zero_le _, Nat.zero_le _, rfl, rfl, rfl, rfl, HJ5, HD5, RS, HR5, HB5⟩
  case round =>
    clear HJ5 HD5 RS HR5 HB5
    obtain ⟨i, j, s, all, sure, gk, hi60, hin, rfl, rfl, rfl, rfl, HJ, HD, HL, HR, HB⟩ := hrel
    by_cases h1 : (i : Int) < (n : Int)
    · have b1 : decide ((i : Int) < (n : Int)) = true := decide_eq_true h1
      by_cases h2 : (i : Int) < 60
      · have b2 : decide ((i : Int) < 60) = true := decide_eq_true h2
        have hi : i < 60 := by omega
        obtain ⟨ad, Ab, cb, rfl, hcs, hcb, hC, hr, hby⟩ := ACT.out i (by omega)
        obtain ⟨A4, c4, rfl, hc4, -⟩ := Kd.R_reads HR.out
        have hml := HL.out.many
        have hsu := HL.out.le
        obtain ⟨⟨d, l, x2, x3, x4⟩, hfi⟩ : ∃ x, f i = x := ⟨_, rfl⟩
        rw [hfi] at hcs hcb hC hr hby
        simp only [Cells8] at hcs hcb hC hr hby
        obtain ⟨s0, s1, s2, s3, s4⟩ := hcs
        have s0 := pw_cell_below HB.out s0
        have s1 := pw_cell_below HB.out s1
        have s2 := pw_cell_below HB.out s2
        have s3 := pw_cell_below HB.out s3
        have s4 := pw_cell_below HB.out s4
        have HC := Aside0.mk hC
        have HBY := Aside0.mk hby
        have hmax := hC.2.1
        clear hfi hC hby
        have g0 : (0 : Int) ≤ (i : Int) := by omega
        go_upto_region 17 with fail
        have hBx : Below wr.heap.size wr (wr.alloc (.cells #[.int .u8 d, .slice Ab l.length cb, .int .i64 x2, .int .i64 x3, .int .i64 x4] 25)) := Below.alloc (Below.refl _ _) (Nat.le_refl _) _
        have HX := Aside0.mk (blk_new wr (.cells #[.int .u8 d, .slice Ab l.length cb, .int .i64 x2, .int .i64 x3, .int .i64 x4] 25))
        have HJ1 := Aside0.mk (jr_below HJ.out hBx)
        have HD1 := Aside0.mk (disk_below HD.out hBx)
        have HR1 := Aside0.mk (Kd.R_below HR.out hBx)
        have HB1 := Aside0.mk (below_step' HB.out hBx HB.out.size)
        have HC1 := Aside0.mk (Kd.C_below HC.out (below_step' HB.out hBx HB.out.size))
        clear HJ HD HR HB s0 s1 s2 s3 s4
        clear hBx
        generalize hw1 : wr.alloc (.cells #[.int .u8 d, .slice Ab l.length cb, .int .i64 x2, .int .i64 x3, .int .i64 x4] 25) = w1 at *
        generalize hgx : wr.heap.size = gx at *
        clear hw1 hgx
        have hdm : d.tmod 8 = d % 8 := Int.tmod_eq_emod_of_nonneg hr.1
        have hdr : 0 ≤ d % 8 ∧ d % 8 < 8 := by omega
        have hall := HL.out.ok
        by_cases hq0 : d % 8 = 0
        · have hqt : d.tmod 8 = 0 := by omega
          have hx2 : w1.cell? ⟨gx, 2, none⟩ = some (.int .i64 x2) := by rw [blk_cell HX.out]; rfl
          have hx3 : w1.cell? ⟨gx, 3, none⟩ = some (.int .i64 x3) := by rw [blk_cell HX.out]; rfl
          have hx4 : w1.cell? ⟨gx, 4, none⟩ = some (.int .i64 x4) := by rw [blk_cell HX.out]; rfl
          obtain ⟨c', ls, k1, k2, k3, k7, k4, k5, k6⟩ := round_crash HL.out hi x2 x3 x4
          have hmay := round_may HL.out x2 x3 x4
          have hcf := crash_fine HL.out.ok.fine x2 x3 x4
          have hsz1 : (Crash s x2 x3 x4).good.length ≤ 1024 := by rw [hcf.2]; exact HL.out.ok.size
          go_wp2_with fail
          refine (crash_walk w.heap.size g s x2 x3 x4 w1 HD1.out HL.out.ok.fine.inr).mono ?_
          rintro e w2 ⟨rfl, hD2, hK2⟩
          rw [crash_mk] at hD2
          have hcf1 := hcf.1
          obtain ⟨s1, hs1⟩ : ∃ z, Crash s x2 x3 x4 = z := ⟨_, rfl⟩
          rw [hs1] at hD2 k1 k2 k3 k6 hmay hsz1 hcf1
          have hB2 := below_keep HB1.out HB1.out.size hK2
          have hR2 := R_keepJ HR1.out (K8_jT w) (KeepJ.of_keep hK2)
          clear hx2 hx3 hx4 HX hs1 hcf HJ1 HD1 HR1 HC1 HB1 hK2
          go_wp2_with fail
          refine (open_walk w.heap.size g s1 2 w2 hD2 hcf1 hsz1 hmay hB2.size).mono ?_
          rintro e w3 ⟨hD3, hK3, (⟨hbad, -⟩ | ⟨-, gk2, v5, v6, rfl, hgk, hS3, hL3, hJ3⟩)⟩
          · omega
          rw [k2] at hS3
          rw [k3] at hL3
          have hB3 := below_keepJ hB2 hB2.size hK3
          have hR3 := R_keepJ hR2 (K8_jT w) hK3
          obtain ⟨A5, c5, rfl, hc5, hS4⟩ := Kd.R_reads hS3
          obtain ⟨A6, c6, rfl, hc6, hL4⟩ := Kd.R_reads hL3
          obtain ⟨-, -, hC4⟩ := Kd.R_reads' hR3
          obtain ⟨i5, hi5, _, hsz, _⟩ := info_parts info_slu8L
          obtain ⟨a5, rfl, hs0⟩ := Kd.at_int hS4 0 (by decide) (by simp)
          obtain ⟨a5', e5, hs1⟩ := Kd.at_int hS4 1 (by decide) (by simp)
          obtain rfl : a5 = a5' := Option.some.inj e5
          have hs0 : w3.cell? (a5.add 0) = some (.int .u8 0) := hs0
          have hs1 : w3.cell? (a5.add 1) = some (.int .u8 ((c' : Nat) : Int)) := hs1
          have hs0b : w3.cell? a5 = some (.int .u8 0) := by rw [show a5.add 0 = a5 from by unfold Addr.add; simp] at hs0; exact hs0
          have hs1b : w3.cell? ⟨a5.block, a5.off + 1, none⟩ = some (.int .u8 ((c' : Nat) : Int)) := by rw [add_field a5 0 1 (by decide), show a5.add 0 = a5 from by unfold Addr.add; simp] at hs1; exact hs1
          simp only [List.length_cons, List.length_nil, Nat.zero_add, Nat.reduceAdd] at hc5 ⊢
          have hmid := K8_read hB3 (Kd.C_mid (c := c4) hC4 (lo := c') (hi := c' + ls.length) (by omega) (by omega) hc4)
          rw [← k7] at hmid
          have hcut := cut_mid (P := Try.prog) 31 23 .i64 .i64 Try.underlying31 hi5 1 hsz A4 all.length c4 ((c' : Nat) : Int) (((c' : Nat) : Int) + ((ls.length : Nat) : Int)) (by omega) (by omega) (by omega) hc4
          have hcut2 := cut_to (P := Try.prog) 31 23 .i64 Try.underlying31 hi5 A4 all.length c4 (((c' : Nat) : Int) + ((ls.length : Nat) : Int)) (by omega) (by omega) hc4
          have e7 : (((c' : Nat) : Int) + ((ls.length : Nat) : Int)).toNat = c' + ls.length := by omega
          have e8 : c' + ls.length - c' = ls.length := by omega
          have esz : (K8 w).sz = 1 := K8_sz w
          rw [esz] at hmid
          rw [e7, Int.toNat_natCast, e8] at hcut
          rw [e7] at hcut2
          obtain ⟨Am, hAm⟩ : ∃ z, (if c4 = c' then A4 else A4.map (·.add (c' * 1))) = z := ⟨_, rfl⟩
          obtain ⟨cm, hcm⟩ : ∃ z, c4 - c' = z := ⟨_, rfl⟩
          rw [hAm] at hmid hcut
          rw [hcm] at hcut
          have TX := Aside0.mk (fun n => texts_walk A6 Am c6 cm ls (w3.drewN n) (Kd.C_drewN hL4 n) (Kd.C_drewN hmid n))
          have b3 : decide ((all.length : Int) < ((c' : Nat) : Int)) = false := decide_eq_false (by omega)
          have b4 : decide ((all.length : Int) < ((c' : Nat) : Int) + ((ls.length : Nat) : Int)) = false := decide_eq_false (by omega)
          have b5 : decide (((c' : Nat) : Int) + ((ls.length : Nat) : Int) < (sure : Int)) = false := decide_eq_false (by omega)
          have HJ3 := Aside0.mk hJ3
          have HD3 := Aside0.mk hD3
          have HR3 := Aside0.mk hR3
          have HB3 := Aside0.mk hB3
          have HC4 := Aside0.mk hC4
          have HL6 := Aside0.mk k6
          have hlb : ls.length ≤ 60 := by omega
          have etl : (all.take (c' + ls.length)).length = c' + ls.length := by rw [List.length_take]; omega
          clear hD2 hB2 hR2 hK3 hJ3 hD3 hR3 hB3 hS3 hL3 hS4 hL4 hC4 hmid hAm hcm k1 k2 k3 k6 k7 hmay hsz1 hcf1 e5 hgk HL hall
          go_wp2_with fail
          go_quiet (fail)
          go_wp2_with (first
            | (go_at_call 16; refine (TX.out _).mono ?_; rintro e w4 ⟨rfl, m4, rfl⟩; have HJ6 := Aside0.mk (jr_drewN (jr_drewN HJ3.out nq) m4); have HD6 := Aside0.mk (disk_drewN (disk_drewN HD3.out nq) m4); have HR6 := Aside0.mk (Kd.R_drewN (Kd.R_drewN HR3.out nq) m4); have HB6 := Aside0.mk (pw_below_drewN (pw_below_drewN HB3.out nq) m4); generalize (w3.drewN nq).drewN m4 = w6 at *)
            | (at_builtin; refine Kd.R_append_rows (K8 w) (w0 := w) (W := w6.alloc (.cells #[] 23)) w.heap.size rfl (.tmp 138) (.tmp 144) 31 23 (.slice none 0 0) 24 rfl Try.underlying31 (K8_info w) (K8_z w) (K8_pos w) (by decide) (.slice (some ⟨w6.heap.size, 0, none⟩) 0 0) [] (all.take (c' + ls.length)) A4 (c' + ls.length) c4 (fun _ => True) (fun _ => False) rfl rfl (K8_empty w w6 w.heap.size HB6.out.size) (K8_take w _ (Kd.R_reads' (Kd.R_alloc HR6.out (.cells #[] 23))).2.2 (by omega)) (K8_KM w _ _ _) (fun _ h => h.elim) (fun _ _ => trivial) (below_step' HB6.out (Below.alloc (Below.refl _ _) (Nat.le_refl _) (.cells #[] 23)) HB6.out.size) (Nat.le_trans HB6.out.size (by simp)) (by simp; omega) ?_; intro v9 w9 hR9 hB9 hG9 _; rw [List.nil_append] at hR9; obtain ⟨A9, c9, e9⟩ := Kd.R_slice hR9; subst e9; rw [etl] at hR9 ⊢; have HR9 := Aside0.mk hR9; have HB9 := Aside0.mk hB9; have HE := K8_empty w w6 w.heap.size HB6.out.size; have hBa : Below w6.heap.size w6 (w6.alloc (.cells #[] 23)) := Below.alloc (Below.refl _ _) (Nat.le_refl _) _; have HJ9 := Aside0.mk (jr_grown (jr_below HJ6.out hBa) HE (by decide) hG9); have HD9 := Aside0.mk (disk_grownL (disk_below HD6.out hBa) HE slu8_nd hG9); clear hR9 hB9 hG9 HE hBa))
          go_roundw
          case rel => exact ⟨i + 1, _, s1, _, c' + ls.length, gk2, by omega, by omega, by go_num, rfl, rfl, rfl, HJ9, HD9, HL6, HR9, HB9⟩
          case measure => simp [intOf]; omega
        by_cases hq1 : d % 8 = 1
        · have hqt : d.tmod 8 = 1 := by omega
          have n0 : (d % 8 == 0) = false := by simp; omega
          have hx4 : w1.cell? ⟨gx, 4, none⟩ = some (.int .i64 x4) := by rw [blk_cell HX.out]; rfl
          have hu : ∀ z : Int, ((z % 256).tmod 20 = z % 256 % 20) ∧ 0 ≤ z % 256 % 20 ∧ z % 256 % 20 < 20 := fun z => ⟨Int.tmod_eq_emod_of_nonneg (by omega), by omega, by omega⟩
          have hmx : ∀ z : Int, mx (z % 256 % 20) (-1) ≤ 9223372036854775807 := fun z => by have := hu z; unfold mx; split <;> omega
          obtain ⟨y, hy⟩ : ∃ y, x4 % 256 = y := ⟨_, rfl⟩
          have hyr : 0 ≤ y ∧ y < 256 := by omega
          have hyt : y.tmod 20 = y % 20 := Int.tmod_eq_emod_of_nonneg hyr.1
          obtain ⟨z, hz⟩ : ∃ z, y % 20 = z := ⟨_, rfl⟩
          have hzr : 0 ≤ z ∧ z < 20 := by omega
          have hzm : mx z (-1) ≤ 9223372036854775807 := by unfold mx; split <;> omega
          rw [hz] at hyt
          have FW := Aside0.mk (fuse_walk w.heap.size g s z w1 HD1.out)
          have HL6 := Aside0.mk (round_fuse HL.out hi (mx z (-1)) hzm)
          clear hu hmx
          go_wp2_with (go_at_call 22; refine FW.out.mono ?_; rintro e w2 ⟨rfl, hD2, hK2⟩; have HD2 := Aside0.mk hD2; have HJ2 := Aside0.mk (jr_keep HJ1.out hK2); have HB2 := Aside0.mk (below_keep HB1.out HB1.out.size hK2); have HR2 := Aside0.mk (R_keepJ HR1.out (K8_jT w) (KeepJ.of_keep hK2)); clear hD2 hK2)
          go_roundw
          case rel => exact ⟨i + 1, j, _, all, sure, gk, by omega, by omega, by go_num, rfl, rfl, rfl, HJ2, HD2, HL6, HR2, HB2⟩
          case measure => simp [intOf]; omega
        by_cases hq2 : d % 8 = 2
        · have hqt : d.tmod 8 = 2 := by omega
          have n0 : (d % 8 == 0) = false := by simp; omega
          have n1 : (d % 8 == 1) = false := by simp; omega
          have CW := Aside0.mk (commit_walk w.heap.size gk g j s w1 HJ1.out HD1.out HL.out.ok.fuse HL.out.ok.fine.inr)
          have HL6 := Aside0.mk (round_commit HL.out hi)
          obtain ⟨r, hr2⟩ : ∃ r, commitF j s = r := ⟨_, rfl⟩
          rw [hr2] at CW HL6
          obtain ⟨ec, jc, sc⟩ := r
          clear hr2 HL hall
          by_cases hec : ec = 0
          · subst hec
            have HL7 := Aside0.mk (show LRound (i + 1) jc sc all all.length from by have := HL6.out; simpa using this)
            clear HL6
            go_wp2_with (go_at_call 11; refine CW.out.mono ?_; rintro e w2 ⟨rfl, hJ2, hD2, hK2⟩; have HD2 := Aside0.mk hD2; have HJ2 := Aside0.mk hJ2; have HB2 := Aside0.mk (below_keepJ HB1.out HB1.out.size hK2); have HR2 := Aside0.mk (R_keepJ HR1.out (K8_jT w) hK2); clear hD2 hK2 hJ2)
            go_roundw
            case rel => exact ⟨i + 1, jc, sc, all, all.length, gk, by omega, by omega, by go_num, rfl, rfl, rfl, HJ2, HD2, HL7, HR2, HB2⟩
            case measure => simp [intOf]; omega
          · have HL7 := Aside0.mk (show LRound (i + 1) jc sc all sure from by have := HL6.out; simpa [hec] using this)
            have hec2 : (ec == 0) = false := by simpa using hec
            clear HL6
            go_wp2_with (go_at_call 11; refine CW.out.mono ?_; rintro e w2 ⟨rfl, hJ2, hD2, hK2⟩; have HD2 := Aside0.mk hD2; have HJ2 := Aside0.mk hJ2; have HB2 := Aside0.mk (below_keepJ HB1.out HB1.out.size hK2); have HR2 := Aside0.mk (R_keepJ HR1.out (K8_jT w) hK2); clear hD2 hK2 hJ2)
            go_roundw
            case rel => exact ⟨i + 1, jc, sc, all, sure, gk, by omega, by omega, by go_num, rfl, rfl, rfl, HJ2, HD2, HL7, HR2, HB2⟩
            case measure => simp [intOf]; omega
        by_cases hq3 : d % 8 = 3
        · have hqt : d.tmod 8 = 3 := by omega
          have n0 : (d % 8 == 0) = false := by simp; omega
          have n1 : (d % 8 == 1) = false := by simp; omega
          have n2 : (d % 8 == 2) = false := by simp; omega
          have CW := Aside0.mk (commit_walk w.heap.size gk g j s w1 HJ1.out HD1.out HL.out.ok.fuse HL.out.ok.fine.inr)
          have HL6 := Aside0.mk (round_commit HL.out hi)
          obtain ⟨r, hr2⟩ : ∃ r, commitF j s = r := ⟨_, rfl⟩
          rw [hr2] at CW HL6
          obtain ⟨ec, jc, sc⟩ := r
          clear hr2 HL hall
          by_cases hec : ec = 0
          · subst hec
            have HL7 := Aside0.mk (show LRound (i + 1) jc sc all all.length from by have := HL6.out; simpa using this)
            clear HL6
            go_wp2_with (go_at_call 11; refine CW.out.mono ?_; rintro e w2 ⟨rfl, hJ2, hD2, hK2⟩; have HD2 := Aside0.mk hD2; have HJ2 := Aside0.mk hJ2; have HB2 := Aside0.mk (below_keepJ HB1.out HB1.out.size hK2); have HR2 := Aside0.mk (R_keepJ HR1.out (K8_jT w) hK2); clear hD2 hK2 hJ2)
            go_roundw
            case rel => exact ⟨i + 1, jc, sc, all, all.length, gk, by omega, by omega, by go_num, rfl, rfl, rfl, HJ2, HD2, HL7, HR2, HB2⟩
            case measure => simp [intOf]; omega
          · have HL7 := Aside0.mk (show LRound (i + 1) jc sc all sure from by have := HL6.out; simpa [hec] using this)
            have hec2 : (ec == 0) = false := by simpa using hec
            clear HL6
            go_wp2_with (go_at_call 11; refine CW.out.mono ?_; rintro e w2 ⟨rfl, hJ2, hD2, hK2⟩; have HD2 := Aside0.mk hD2; have HJ2 := Aside0.mk hJ2; have HB2 := Aside0.mk (below_keepJ HB1.out HB1.out.size hK2); have HR2 := Aside0.mk (R_keepJ HR1.out (K8_jT w) hK2); clear hD2 hK2 hJ2)
            go_roundw
            case rel => exact ⟨i + 1, jc, sc, all, sure, gk, by omega, by omega, by go_num, rfl, rfl, rfl, HJ2, HD2, HL7, HR2, HB2⟩
            case measure => simp [intOf]; omega
        by_cases hq4 : d % 8 = 4
        · have hqt : d.tmod 8 = 4 := by omega
          have n0 : (d % 8 == 0) = false := by simp; omega
          have n1 : (d % 8 == 1) = false := by simp; omega
          have n2 : (d % 8 == 2) = false := by simp; omega
          have n3 : (d % 8 == 3) = false := by simp; omega
          have CNT := Aside0.mk (fun w' => count_walk all.length (by omega) w')
          have HL8 := Aside0.mk HL.out.ok
          have hbl : Bytes [0, ((all.length : Nat) : Int)] := by
            intro c hc
            simp only [List.mem_cons, List.not_mem_nil, or_false] at hc
            rcases hc with rfl | rfl <;> omega
          have HL6 := Aside0.mk (round_checkpoint HL.out hi)
          obtain ⟨r, hr2⟩ : ∃ r, checkpointF j s [0, ((all.length : Nat) : Int)] = r := ⟨_, rfl⟩
          have HR2E := Aside0.mk hr2
          rw [hr2] at HL6
          obtain ⟨ec, jc, sc⟩ := r
          clear hr2 HL hall
          by_cases hec : ec = 0
          · subst hec
            have HL7 := Aside0.mk (show LRound (i + 1) jc sc all all.length from by have := HL6.out; simpa using this)
            clear HL6
            go_wp2_with (first | (go_at_call 21; refine (CNT.out _).mono ?_; rintro e w2 ⟨A2, c2, rfl, hc2, hC2, hBB2⟩; have CK := Aside0.mk (checkpoint_walk w.heap.size gk g c2 j s A2 [0, ((all.length : Nat) : Int)] w2 (jr_below HJ1.out hBB2) (disk_below HD1.out hBB2) HL8.out hC2 hc2 hbl (below_step' HB1.out hBB2 HB1.out.size).size); rw [HR2E.out] at CK; have HRa := Aside0.mk (Kd.R_below HR1.out hBB2); have HBa := Aside0.mk (below_step' HB1.out hBB2 HB1.out.size); clear hC2 hBB2 hc2) | (go_at_call 10; refine CK.out.mono ?_; rintro e w3 ⟨rfl, hJ2, hD2, hK2⟩; have HD2 := Aside0.mk hD2; have HJ2 := Aside0.mk hJ2; have HB2 := Aside0.mk (below_keepJ HBa.out HBa.out.size hK2); have HR2 := Aside0.mk (R_keepJ HRa.out (K8_jT w) hK2); clear hD2 hK2 hJ2 CK))
            go_roundw
            case rel => exact ⟨i + 1, jc, sc, all, all.length, gk, by omega, by omega, by go_num, rfl, rfl, rfl, HJ2, HD2, HL7, HR2, HB2⟩
            case measure => simp [intOf]; omega
          · have HL7 := Aside0.mk (show LRound (i + 1) jc sc all sure from by have := HL6.out; simpa [hec] using this)
            have hec2 : (ec == 0) = false := by simpa using hec
            clear HL6
            go_wp2_with (first | (go_at_call 21; refine (CNT.out _).mono ?_; rintro e w2 ⟨A2, c2, rfl, hc2, hC2, hBB2⟩; have CK := Aside0.mk (checkpoint_walk w.heap.size gk g c2 j s A2 [0, ((all.length : Nat) : Int)] w2 (jr_below HJ1.out hBB2) (disk_below HD1.out hBB2) HL8.out hC2 hc2 hbl (below_step' HB1.out hBB2 HB1.out.size).size); rw [HR2E.out] at CK; have HRa := Aside0.mk (Kd.R_below HR1.out hBB2); have HBa := Aside0.mk (below_step' HB1.out hBB2 HB1.out.size); clear hC2 hBB2 hc2) | (go_at_call 10; refine CK.out.mono ?_; rintro e w3 ⟨rfl, hJ2, hD2, hK2⟩; have HD2 := Aside0.mk hD2; have HJ2 := Aside0.mk hJ2; have HB2 := Aside0.mk (below_keepJ HBa.out HBa.out.size hK2); have HR2 := Aside0.mk (R_keepJ HRa.out (K8_jT w) hK2); clear hD2 hK2 hJ2 CK))
            go_roundw
            case rel => exact ⟨i + 1, jc, sc, all, sure, gk, by omega, by omega, by go_num, rfl, rfl, rfl, HJ2, HD2, HL7, HR2, HB2⟩
            case measure => simp [intOf]; omega
        have n0 : (d % 8 == 0) = false := by simpa using hq0
        have n1 : (d % 8 == 1) = false := by simpa using hq1
        have n2 : (d % 8 == 2) = false := by simpa using hq2
        have n3 : (d % 8 == 3) = false := by simpa using hq3
        have n4 : (d % 8 == 4) = false := by simpa using hq4
        have hx1 : w1.cell? ⟨gx, 1, none⟩ = some (.slice Ab l.length cb) := by rw [blk_cell HX.out]; rfl
        have SW := Aside0.mk (fun w' => short_walk Ab cb 60 l w' hcb (by decide) hmax)
        have hbt : Bytes (l.take 60) := fun c hc => HBY.out c (List.mem_of_mem_take hc)
        have hlt60 : (l.take 60).length ≤ cb := Nat.le_trans (by rw [List.length_take]; omega) hcb
        have AW := Aside0.mk (append_walk w.heap.size gk g cb j s Ab (l.take 60) w1 HJ1.out HD1.out HL.out.ok (C_short HC1.out 60) hlt60 hbt HB1.out.size)
        have HCT := Aside0.mk (C_short HC.out 60)
        have HL6 := Aside0.mk (round_append HL.out hi (l.take 60) ⟨by rw [List.length_take]; omega, hbt⟩)
        have HLT := Aside0.mk hlt60
        obtain ⟨r, hr2⟩ : ∃ r, appendF j s (l.take 60) = r := ⟨_, rfl⟩
        rw [hr2] at AW HL6
        obtain ⟨ec, jc, sc⟩ := r
        clear hr2 HL hall hbt hlt60
        generalize l.take 60 = lt at *
        by_cases hec0 : ec = 0
        · subst hec0
          have HL7 := Aside0.mk (show LRound (i + 1) jc sc (all ++ [lt]) sure from by have := HL6.out; simpa using this)
          clear HL6
          go_wp2_with (first | (go_at_call 13; refine (SW.out _).mono ?_; rintro e w5 ⟨rfl, rfl⟩) | (go_at_call 12; refine AW.out.mono ?_; rintro e w3 ⟨rfl, hJ2, hD2, hK2⟩; have HX3 := Aside0.mk (act_keepJ HX.out hK2); have hx1b : w3.cell? ⟨gx, 1, none⟩ = some (.slice Ab l.length cb) := by { rw [blk_cell HX3.out]; rfl }; have HD2 := Aside0.mk hD2; have HJ2 := Aside0.mk hJ2; have HB2 := Aside0.mk (below_keepJ HB1.out HB1.out.size hK2); have HR2 := Aside0.mk (R_keepJ HR1.out (K8_jT w) hK2); clear hD2 hK2 hJ2) | (at_builtin; refine Kd.R_append (K8 w) (w0 := w) (W := w3) w.heap.size rfl (.tmp 65) (.tmp 69) 31 23 (.slice none 0 0) 24 rfl Try.underlying31 (K8_info w) (K8_z w) (K8_pos w) (by decide) (.slice A4 all.length c4) all lt [.slice Ab lt.length cb] (fun _ => True) (fun _ => False) rfl rfl (K8_one w w3 w.heap.size _ Ab cb lt HLT.out HCT.out) (fun _ h => h.elim) (fun _ _ => trivial) HR2.out HB2.out HB2.out.size (by omega) ?_; intro v9 w9 hR9 hB9 hG9 _; obtain ⟨A9, c9, e9⟩ := Kd.R_slice hR9; subst e9; have HR9 := Aside0.mk hR9; have HB9 := Aside0.mk hB9; have HJ9 := Aside0.mk (jr_grown HJ2.out HR2.out (by decide) hG9); have HD9 := Aside0.mk (disk_grownL HD2.out HR2.out slu8_nd hG9); clear hR9 hB9 hG9))
          exact ⟨⟨i + 1, jc, sc, all ++ [lt], sure, gk, by omega, by omega, by go_num, rfl, rfl, rfl, HJ9, HD9, HL7, (by have h_ := HR9.out; rw [List.length_append, List.length_singleton] at h_; exact Aside0.mk h_), HB9⟩, by simp [intOf]; omega⟩
        by_cases hec1 : ec = 10
        · subst hec1
          have HL7 := Aside0.mk (show LRound (i + 1) jc sc (all ++ [lt]) sure from by have := HL6.out; simpa using this)
          clear HL6
          go_wp2_with (first | (go_at_call 13; refine (SW.out _).mono ?_; rintro e w5 ⟨rfl, rfl⟩) | (go_at_call 12; refine AW.out.mono ?_; rintro e w3 ⟨rfl, hJ2, hD2, hK2⟩; have HX3 := Aside0.mk (act_keepJ HX.out hK2); have hx1b : w3.cell? ⟨gx, 1, none⟩ = some (.slice Ab l.length cb) := by { rw [blk_cell HX3.out]; rfl }; have HD2 := Aside0.mk hD2; have HJ2 := Aside0.mk hJ2; have HB2 := Aside0.mk (below_keepJ HB1.out HB1.out.size hK2); have HR2 := Aside0.mk (R_keepJ HR1.out (K8_jT w) hK2); clear hD2 hK2 hJ2) | (at_builtin; refine Kd.R_append (K8 w) (w0 := w) (W := w3) w.heap.size rfl (.tmp 65) (.tmp 69) 31 23 (.slice none 0 0) 24 rfl Try.underlying31 (K8_info w) (K8_z w) (K8_pos w) (by decide) (.slice A4 all.length c4) all lt [.slice Ab lt.length cb] (fun _ => True) (fun _ => False) rfl rfl (K8_one w w3 w.heap.size _ Ab cb lt HLT.out HCT.out) (fun _ h => h.elim) (fun _ _ => trivial) HR2.out HB2.out HB2.out.size (by omega) ?_; intro v9 w9 hR9 hB9 hG9 _; obtain ⟨A9, c9, e9⟩ := Kd.R_slice hR9; subst e9; have HR9 := Aside0.mk hR9; have HB9 := Aside0.mk hB9; have HJ9 := Aside0.mk (jr_grown HJ2.out HR2.out (by decide) hG9); have HD9 := Aside0.mk (disk_grownL HD2.out HR2.out slu8_nd hG9); clear hR9 hB9 hG9))
          exact ⟨⟨i + 1, jc, sc, all ++ [lt], sure, gk, by omega, by omega, by go_num, rfl, rfl, rfl, HJ9, HD9, HL7, (by have h_ := HR9.out; rw [List.length_append, List.length_singleton] at h_; exact Aside0.mk h_), HB9⟩, by simp [intOf]; omega⟩
        have hec2 : (ec == 0) = false := by simpa using hec0
        have hec3 : (ec == 10) = false := by simpa using hec1
        have HL7 := Aside0.mk (show LRound (i + 1) jc sc all sure from by have := HL6.out; simpa [hec0, hec1] using this)
        clear HL6
        go_wp2_with (first | (go_at_call 13; refine (SW.out _).mono ?_; rintro e w5 ⟨rfl, rfl⟩) | (go_at_call 12; refine AW.out.mono ?_; rintro e w3 ⟨rfl, hJ2, hD2, hK2⟩; have HX3 := Aside0.mk (act_keepJ HX.out hK2); have hx1b : w3.cell? ⟨gx, 1, none⟩ = some (.slice Ab l.length cb) := by { rw [blk_cell HX3.out]; rfl }; have HD2 := Aside0.mk hD2; have HJ2 := Aside0.mk hJ2; have HB2 := Aside0.mk (below_keepJ HB1.out HB1.out.size hK2); have HR2 := Aside0.mk (R_keepJ HR1.out (K8_jT w) hK2); clear hD2 hK2 hJ2))
        exact ⟨⟨i + 1, jc, sc, all, sure, gk, by omega, by omega, by go_num, rfl, rfl, rfl, HJ2, HD2, HL7, HR2, HB2⟩, by simp [intOf]; omega⟩
      · have b2 : decide ((i : Int) < 60) = false := decide_eq_false h2
        go_wp2_with fail
        refine (awake_walk _).mono ?_
        rintro e w9 ⟨rfl, hB9⟩
        have HB9 := Aside0.mk (below_step' HB.out hB9 HB.out.size)
        go_wp2_with fail
        go_ret
        exact ⟨rfl, HB9.out⟩
    · have b1 : decide ((i : Int) < (n : Int)) = false := decide_eq_false h1
      go_wp2_with fail
      refine (awake_walk _).mono ?_
      rintro e w9 ⟨rfl, hB9⟩
      have HB9 := Aside0.mk (below_step' HB.out hB9 HB.out.size)
      go_wp2_with fail
      go_ret
      exact ⟨rfl, HB9.out⟩
end Go.Proofs.Ytglpelhbncdkmaa.XJour
