/-
  package journal by walks, ninth part: records.
-/
import Derived.Laws.CopyOwn
import Derived.ArgAppend
import Derived.Below
import Derived.BigQuiet
import Derived.Deep.AppendLies
import Derived.Deep.CutBlock
import Derived.Deep.DeepCutAuto
import Derived.Deep.Draws
import Derived.Deep.LoopGhost
import Derived.Deep.OwnRows
import Derived.Deep.QuietTactic
import Derived.Deep.RegionHeld3
import Derived.Deep.WholeRow
import Derived.KernelRfl
import Derived.Laws.BitsLemmas
import Derived.Laws.BytesArg
import Derived.Laws.IdiomCopy
import Derived.Laws.MakeOwn
import Derived.Laws.OwnMore
import Derived.Laws.Rows
import Derived.Laws.Slices
import Derived.Lib.AppendStr
import Derived.Lib.ConvBytes
import Derived.Lib.Hide
import Derived.Maps.AppendAt
import Derived.OrdersHeld
import Derived.Outline
import Derived.OwnWalk
import Derived.RowKit
import Derived.RowKit3
import Derived.Tactics
import Derived.WalkKit
import Derived.WideLaws
import Derived.Test.YtglpelhbncdkmaaProg
import Derived.Test.YtglpelhbncdkmaaWApart
import Derived.Test.YtglpelhbncdkmaaWArr
import Derived.Test.YtglpelhbncdkmaaWAt
import Derived.Test.YtglpelhbncdkmaaWEqStruct
import Derived.Test.YtglpelhbncdkmaaWFoot
import Derived.Test.YtglpelhbncdkmaaWFootNe
import Derived.Test.YtglpelhbncdkmaaWFour
import Derived.Test.YtglpelhbncdkmaaWGuard
import Derived.Test.YtglpelhbncdkmaaWInv
import Derived.Test.YtglpelhbncdkmaaWInvWords
import Derived.Test.YtglpelhbncdkmaaWKept
import Derived.Test.YtglpelhbncdkmaaWLast
import Derived.Test.YtglpelhbncdkmaaWMore
import Derived.Test.YtglpelhbncdkmaaWN
import Derived.Test.YtglpelhbncdkmaaWNEv
import Derived.Test.YtglpelhbncdkmaaWQPut
import Derived.Test.YtglpelhbncdkmaaWRepsOne
import Derived.Test.YtglpelhbncdkmaaWShare
import Derived.Test.YtglpelhbncdkmaaWTab
import Derived.Test.YtglpelhbncdkmaaWWords
import Derived.Test.YtglpelhbncdkmaaWZeros
import Derived.Test.YtglpelhbncdkmaaXSlices

import Derived.BigRegion
import Derived.ScopeJumps
import Derived.Lib.Bytes
import Derived.Test.YtglpelhbncdkmaaXJour8
namespace Go.Proofs.Ytglpelhbncdkmaa.XJour
open Go.RowKit Go.Proofs.YtglpelhbncdkmaaW.PrintWords Go.Proofs.YtglpelhbncdkmaaW.PrintLast Go.Proofs.YtglpelhbncdkmaaW.PrintMore XDisk XChunk XUnpack XData
set_option linter.unusedVariables false
set_option linter.unusedSimpArgs false
/-! ### what Unpack takes -/
theorem bytes_inj : ∀ (a b : List Int), Bytes a → Bytes b → a.map (fun n => UInt8.ofNat n.toNat) = b.map (fun n => UInt8.ofNat n.toNat) → a = b
  | [], [], _, _, _ => rfl
  | [], y :: b, _, _, h => by simp at h
  | x :: a, [], _, _, h => by simp at h
  | x :: a, y :: b, ha, hb, h => by
    rw [List.map_cons, List.map_cons, List.cons.injEq] at h
    have h1 := congrArg UInt8.toNat h.1
    rw [UInt8.toNat_ofNat', UInt8.toNat_ofNat'] at h1
    have hx := ha x (List.mem_cons_self ..)
    have hy := hb y (List.mem_cons_self ..)
    rw [show x = y from by omega, bytes_inj a b (fun c hc => ha c (List.mem_cons_of_mem _ hc)) (fun c hc => hb c (List.mem_cons_of_mem _ hc)) h.2]
theorem eqB_eq {a b : List Int} (ha : Bytes a) (hb : Bytes b) (h : eqB a b = true) : a = b := by
  refine bytes_inj a b ha hb ?_
  unfold eqB at h
  have h := beq_iff_eq.1 h
  rwa [Lib.strOfNums_toList, Lib.strOfNums_toList] at h
theorem data_bytes {l : List Int} (hl : Bytes l) (m : Nat) : Bytes (dataF l m) := fun c hc => hl c (dataF_mem hc)
theorem unpackF_ok {l : List Int} (hl : Bytes l) (h : (unpackF l).2.2.2.2 = 0) : ∃ e s b, unpackF l = (e, s, b, ((sectors b.length : Nat) : Int), 0) ∧ 32 * sectors b.length ≤ l.length ∧ b.length ≤ 65535 ∧ Bytes b ∧ l.take (32 * sectors b.length) = packed e s b ∧ (0 ≤ e ∧ e < 4294967296) ∧ 0 ≤ s ∧ s < 4294967296 := by
  by_cases h32 : l.length < 32
  · rw [unpackF_1 h32] at h; exact absurd h (by decide)
  obtain ⟨-, hn0, hn1⟩ := value_2' (l.take 2) (by rw [List.length_take]; omega) (fun x hx => hl x (List.mem_of_mem_take hx))
  obtain ⟨n, hn⟩ : ∃ n : Nat, val2 (l.take 2) = (n : Int) := ⟨(val2 (l.take 2)).toNat, by omega⟩
  by_cases h2 : l.length < 32 * sectors n
  · rw [unpackF_2 h32 hn rfl h2] at h; exact absurd h (by decide)
  by_cases h3 : (dataF l (sectors n)).length < 6 + n
  · rw [unpackF_3 h32 hn rfl h2 rfl h3] at h; exact absurd h (by decide)
  obtain ⟨-, he0, he1⟩ := value_4' ((l.take 28).drop 24) (by rw [List.length_drop, List.length_take]; omega) (fun x hx => hl x (List.mem_of_mem_take (List.mem_of_mem_drop hx)))
  obtain ⟨-, hs0, hs1⟩ := value_4' ((l.take 32).drop 28) (by rw [List.length_drop, List.length_take]; omega) (fun x hx => hl x (List.mem_of_mem_take (List.mem_of_mem_drop hx)))
  have hbl : (((dataF l (sectors n)).take (6 + n)).drop 6).length = n := by rw [List.length_drop, List.length_take]; omega
  have hbb : Bytes (((dataF l (sectors n)).take (6 + n)).drop 6) := fun c hc => data_bytes hl _ c (List.mem_of_mem_take (List.mem_of_mem_drop hc))
  have u4 := unpackF_4 (r := eqB (packed (val4 ((l.take 28).drop 24)) (val4 ((l.take 32).drop 28)) (((dataF l (sectors n)).take (6 + n)).drop 6)) (l.take (32 * sectors n))) h32 hn rfl h2 rfl h3 rfl rfl rfl rfl rfl
  by_cases hq : eqB (packed (val4 ((l.take 28).drop 24)) (val4 ((l.take 32).drop 28)) (((dataF l (sectors n)).take (6 + n)).drop 6)) (l.take (32 * sectors n)) = true
  · rw [if_pos hq] at u4
    refine ⟨_, _, _, u4.trans (by rw [hbl]), by rw [hbl]; omega, by rw [hbl]; omega, hbb, ?_, ⟨he0, he1⟩, hs0, hs1⟩
    rw [hbl]
    exact (eqB_eq (packed_bytes _ _ _ hbb) (fun c hc => hl c (List.mem_of_mem_take hc)) hq).symm
  · rw [if_neg hq] at u4
    rw [u4] at h; exact absurd h (by decide)
/-- A scope whose label is reached by falling through, too. -/
theorem scope_fall {P : Program} {c X : Code} {Q : Exit → Act → World → Prop} {a : Act} {w : World} (l : Nat) (J : Act → World → Prop) (μ : Act → World → Nat) (hf : findLabel c l = some (.seq .skip X))
    (pass : ∀ a w, J a w → X.wp P (Exit.jump l (fun a' w' => J a' w' ∧ μ a' w' < μ a w) Q) a w)
    (first : (∀ a w, J a w → X.wp P (Exit.jump l J Q) a w) → c.wp P (Exit.jump l J Q) a w) : (Code.scope c).wp P Q a w :=
  wp_scope_jumps l J μ hf (first (fun a w h => Code.wp_mono (fun e a' w' hq => by
    cases e with
    | goto l' => exact ⟨hq.1, hq.2.1⟩
    | _ => exact hq) (pass a w h))) (fun a w h => wp_seq (wp_skip (pass a w h)))
/-- Blocks of some types are as they were. -/
def KeepTy (T : Nat → Prop) (w w' : World) : Prop := w.heap.size ≤ w'.heap.size ∧ ∀ (i : Nat) (cells : Array Value) (q : Nat), w.heap[i]? = some (.cells cells q (0, 0)) → T q → w'.heap[i]? = w.heap[i]?
theorem KeepTy.trans {T : Nat → Prop} {w w1 w2 : World} (h : KeepTy T w w1) (k : KeepTy T w1 w2) : KeepTy T w w2 :=
  ⟨Nat.le_trans h.1 k.1, fun i cells q hq ht => (k.2 i cells q ((h.2 i cells q hq ht).trans hq) ht).trans (h.2 i cells q hq ht)⟩
theorem KeepTy.of_below {T : Nat → Prop} {w w' : World} (h : Below w.heap.size w w') : KeepTy T w w' := ⟨h.size, fun i cells q hq _ => h.block i (blk_lt hq)⟩
theorem KeepTy.refl {T : Nat → Prop} {w : World} : KeepTy T w w := .of_below (Below.refl _ _)
theorem KeepTy.of_row {α : Type} {d : Kd α} {T : Nat → Prop} {e base : Nat} {w w' : World} {ok : Nat → Prop} {v : Value} {xs : List α} (h : d.R e w base ok v xs) (hg : w.grownBy w' v.ownBlock) (hT : ¬ T e) : KeepTy T w w' :=
  ⟨hg.size, fun i cells q hq ht => hg.block i (blk_lt hq) (fun e' => by
    obtain ⟨cells', hc⟩ := own_typed h.2.choose_spec.1 i e'.symm
    rw [hc] at hq; injection hq with hq; injection hq with _ hq _; exact hT (hq ▸ ht))⟩
theorem KeepTy.set_ {T : Nat → Prop} {w : World} {g : Nat} {cells : Array Value} {q : Nat} (hg : w.heap[g]? = some (.cells cells q (0, 0))) (hq : ¬ T q) (j : Nat) (u : Value) : KeepTy T w (w.setCell ⟨g, j, none⟩ u) :=
  ⟨by simp, fun i cells' q' hc ht => Below.heap_setCell w _ u i (fun e => by subst e; rw [hg] at hc; injection hc with hc; injection hc with _ hc _; exact hq (hc ▸ ht))⟩
theorem R_ty {α : Type} {d : Kd α} {T : Nat → Prop} {e base' : Nat} {w w' : World} {ok : Nat → Prop} {v : Value} {xs : List α} (h : d.R e w base' ok v xs) (he : ∀ q, q ∈ e :: d.E → T q) (k : KeepTy T w w') : d.R e w' base' ok v xs :=
  Kd.R_mono (Kd.R_move (Kd.R_bound h) (fun i hi => by
    obtain ⟨-, -, h4, q, hq, cells, hc⟩ := hi
    exact k.2 i cells q hc (he q hq))) (fun _ hk => hk.1)
theorem disk_ty {base : Nat} {w w' : World} {g : Nat} {s : St} (h : DiskAt base w g s) (k : KeepTy dT w w') : DiskAt base w' g s := by
  obtain ⟨vg, vc, h1, h2, h3, h4⟩ := h
  exact ⟨vg, vc, (k.2 g _ _ h1 (.inl rfl)).trans h1, h2, R_ty h3 (by intro q hq; simp [secK, Kd.arr, Kd.int, Kd.scalar] at hq; unfold dT; omega) k, R_ty h4 (by intro q hq; simp [cacK, secK, Kd.pair, Kd.arr, Kd.int, Kd.scalar] at hq; unfold dT; omega) k⟩
theorem jr_ty {base : Nat} {w w' : World} {gj g : Nat} {j : Jr} (h : JrAt base w gj g j) (k : KeepTy (fun q => q = 55) w w') : JrAt base w' gj g j := ⟨(k.2 gj _ _ h.1 rfl).trans h.1, h.2⟩
theorem KeepJ.below {base : Nat} {w w1 w2 : World} (h : KeepJ base w w1) (k : Below w.heap.size w1 w2) : KeepJ base w w2 :=
  ⟨k.os.trans h.os, k.tape.trans h.tape, k.output.trans h.output, Nat.le_trans h.size k.size, fun i hi hc => (k.block i hi).trans (h.block i hi hc)⟩
/-! ### records -/
def recs : Nat → Int → Int → List Int → List (List Int) × Nat
  | 0, _, _, _ => ([], 0)
  | f + 1, ep, sq, l => if (unpackF l).2.2.2.2 = 0 ∧ (unpackF l).1 = ep ∧ (unpackF l).2.1 = sq + 1 then
      ((unpackF l).2.2.1 :: (recs f ep (sq + 1) (l.drop (32 * (unpackF l).2.2.2.1.toNat))).1, (unpackF l).2.2.2.1.toNat + (recs f ep (sq + 1) (l.drop (32 * (unpackF l).2.2.2.1.toNat))).2) else ([], 0)
theorem info_slu8 : (Try.prog.info? 23).map (fun i => (i.zero, i.size, i.bytes)) = some (some (.slice none 0 0), 1, 24) := by kernel_rfl
theorem slu8_jT : ∀ q, q ∈ 23 :: (Kd.slice 5 (Kd.int .u8)).E → ¬ jT q := by intro q hq; simp [Kd.slice, Kd.int, Kd.scalar] at hq; rcases hq with rfl | rfl <;> (unfold jT dT; decide)
def sliceLen : Value → Nat
  | .slice _ n _ => n
  | _ => 0
structure RecF (base bd gj g : Nat) (j : Jr) (s : St) (w : World) (RR : List (List Int) × Nat) (acc : List (List Int)) (l : List Int) (nx : Nat) (v2 : Value) (A3 : Option Addr) (c3 : Nat) (wr : World) : Prop where
  row : Kd.R (Kd.slice 5 (Kd.int .u8)) 23 wr w.heap.size (fun _ => True) v2 acc
  cap : l.length ≤ c3
  rest : ∀ w', KeepTy (fun q => q = 5) wr w' → Kd.C (Kd.int .u8) w' A3 l.length l
  jr : JrAt base wr gj g { j with seq := j.seq + (acc.length : Nat), next := j.next + (nx : Nat) }
  disk : DiskAt bd wr g s
  keep : KeepJ base w wr
  bytes : Bytes l
  run : l.length + 32 * nx ≤ 32768 ∧ acc.length ≤ nx ∧ ∃ f, l.length < 32 * f ∧ (acc ++ (recs f j.epoch (j.seq + (acc.length : Nat)) l).1, nx + (recs f j.epoch (j.seq + (acc.length : Nat)) l).2) = RR
def RecAt (base bd gj g : Nat) (j : Jr) (s : St) (w : World) (RR : List (List Int) × Nat) (a' : Act) (wr : World) : Prop :=
  ∃ (acc : List (List Int)) (l : List Int) (nx : Nat) (v2 : Value) (A3 : Option Addr) (c3 : Nat) (us : Nat → Value), a' = { tmps := #[.pointer (some ⟨gj, 0, none⟩), undef, v2, .slice A3 l.length c3, us 4, us 5, us 6, us 7, us 8, us 9, us 10, us 11, us 12, us 13, us 14, us 15, us 16, us 17, us 18, us 19, us 20, us 21, us 22, us 23, us 24, us 25, us 26, us 27, us 28, us 29, us 30, us 31, us 32, us 33, us 34, us 35, us 36, us 37, us 38, us 39, us 40, us 41, us 42, us 43, us 44, us 45, us 46, us 47, us 48, us 49, us 50, us 51, us 52, us 53, us 54, us 55, us 56, us 57, us 58, us 59, us 60, us 61, us 62, us 63, us 64, us 65, us 66, us 67, us 68, us 69, us 70, us 71], defers := [] } ∧ RecF base bd gj g j s w RR acc l nx v2 A3 c3 wr
theorem rec_intro {base bd gj g : Nat} {j : Jr} {s : St} {w : World} {RR : List (List Int) × Nat} {acc : List (List Int)} {l : List Int} {nx : Nat} {v2 : Value} {A3 : Option Addr} {c3 : Nat} {wr : World} (h : RecF base bd gj g j s w RR acc l nx v2 A3 c3 wr) (tm : Array Value)
    (hs : tm = #[.pointer (some ⟨gj, 0, none⟩), undef, v2, .slice A3 l.length c3, tm.getD 4 undef, tm.getD 5 undef, tm.getD 6 undef, tm.getD 7 undef, tm.getD 8 undef, tm.getD 9 undef, tm.getD 10 undef, tm.getD 11 undef, tm.getD 12 undef, tm.getD 13 undef, tm.getD 14 undef, tm.getD 15 undef, tm.getD 16 undef, tm.getD 17 undef, tm.getD 18 undef, tm.getD 19 undef, tm.getD 20 undef, tm.getD 21 undef, tm.getD 22 undef, tm.getD 23 undef, tm.getD 24 undef, tm.getD 25 undef, tm.getD 26 undef, tm.getD 27 undef, tm.getD 28 undef, tm.getD 29 undef, tm.getD 30 undef, tm.getD 31 undef, tm.getD 32 undef, tm.getD 33 undef, tm.getD 34 undef, tm.getD 35 undef, tm.getD 36 undef, tm.getD 37 undef, tm.getD 38 undef, tm.getD 39 undef, tm.getD 40 undef, tm.getD 41 undef, tm.getD 42 undef, tm.getD 43 undef, tm.getD 44 undef, tm.getD 45 undef, tm.getD 46 undef, tm.getD 47 undef, tm.getD 48 undef, tm.getD 49 undef, tm.getD 50 undef, tm.getD 51 undef, tm.getD 52 undef, tm.getD 53 undef, tm.getD 54 undef, tm.getD 55 undef, tm.getD 56 undef, tm.getD 57 undef, tm.getD 58 undef, tm.getD 59 undef, tm.getD 60 undef, tm.getD 61 undef, tm.getD 62 undef, tm.getD 63 undef, tm.getD 64 undef, tm.getD 65 undef, tm.getD 66 undef, tm.getD 67 undef, tm.getD 68 undef, tm.getD 69 undef, tm.getD 70 undef, tm.getD 71 undef]) : RecAt base bd gj g j s w RR { tmps := tm, defers := [] } wr :=
  ⟨acc, l, nx, v2, A3, c3, fun i => tm.getD i undef, congrArg (fun t => ({ tmps := t, defers := [] } : Act)) hs, h⟩
def restLen (a' : Act) (_ : World) : Nat := sliceLen (a'.tmps.getD 3 undef)
attribute [local irreducible] unpackF readAll recs
set_option maxHeartbeats 8000000 in
set_option maxRecDepth 100000 in
theorem rec_walk (base bd gj g nx0 m0 : Nat) (j : Jr) (s : St) (w : World) (hj : JrAt base w gj g j) (h : DiskAt bd w g s) (hS : Fine s) (hnx : j.next = (nx0 : Nat)) (hm0 : nx0 + m0 = s.good.length) (hsq : 0 ≤ j.seq ∧ j.seq ≤ 4294967295) (hep : 0 ≤ j.epoch ∧ j.epoch ≤ 4294967295) (hz : s.good.length ≤ 1024) (hbase : base ≤ w.heap.size) (RR : List (List Int) × Nat) (hRR : recs (m0 + 1) j.epoch j.seq (readAll s nx0 m0) = RR) :
    Calls Try.prog 28 #[.pointer (some ⟨gj, 0, none⟩)] w fun e w' => ∃ v, e = .returned v ∧ Kd.R (Kd.slice 5 (Kd.int .u8)) 23 w' w.heap.size (fun _ => True) v RR.1 ∧ JrAt base w' gj g { j with seq := j.seq + (RR.1.length : Nat), next := j.next + (RR.2 : Nat) } ∧ DiskAt bd w' g s ∧ KeepJ base w w' := by
  have HJ := Aside0.mk hj
  have HD := Aside0.mk h
  have HS := Aside0.mk hS
  have HRR := Aside0.mk hRR
  obtain ⟨hc0, -, -, -, -, hc5, -, -⟩ := jr_cells hj
  obtain ⟨n, hn⟩ : ∃ n, s.good.length = n := ⟨_, rfl⟩
  have HN := Aside0.mk hn
  rw [hn] at hm0 hz
  obtain ⟨i5, hi5, _, hsz, _⟩ := info_parts info_u8'
  have RD := Aside0.mk (fun w1 h1 => rd_walk bd g nx0 m0 s w1 h1 hS (by rw [hn, hm0]; exact Nat.le_refl _) (by rw [hn]; omega))
  have hrf := readAll_fine hS nx0 m0 (by rw [hn, hm0]; exact Nat.le_refl _)
  rw [hm0, ← hnx] at RD
  obtain ⟨L, hL⟩ : ∃ L, readAll s nx0 m0 = L := ⟨_, rfl⟩
  rw [hL] at RD hrf HRR
  have SZ := Aside0.mk (fun w1 h1 => size_q bd g n s w1 hn h1)
  have HLL := Aside0.mk hrf
  have HNX := Aside0.mk (show j.next = (nx0 : Nat) ∧ nx0 ≤ 1024 from ⟨hnx, by omega⟩)
  have HM0 := Aside0.mk (show L.length = 32 * m0 ∧ m0 ≤ 1024 from ⟨hrf.1, by omega⟩)
  clear hj h hS hRR hrf hL hn hnx hm0
  go_enter Try.func28, Try.ntmps28
  go_wp2
  refine scope_fall 0 (RecAt base bd gj g j s w RR) restLen rfl ?_ ?_
  rotate_left
  · intro HX
    go_wp2_with fail
    have HC0 := hc0
    have HC5 := hc5
    go_region_held3 (fun w' => w'.cell? ⟨gj, 0, none⟩ = some (.pointer (some ⟨g, 0, none⟩)) ∧ w'.cell? ⟨gj, 5, none⟩ = some (.int .i64 j.next)) (first | exact ⟨hc0, hc5⟩ | exact ⟨HC0, HC5⟩)
      (first
        | (go_at_call 20; refine (SZ.out _ (disk_drewN HD.out 1)).mono ?_; rintro e w1 ⟨rfl, rfl⟩)
        | (go_at_call 38; refine (RD.out _ (disk_drewN HD.out 1)).mono ?_; rintro e w2 ⟨v, rfl, hR2, hB2⟩; obtain ⟨A3, c3, rfl, hc3, hC3⟩ := Kd.R_reads hR2; have HR2 := Aside0.mk hR2; have HB2 := Aside0.mk (below_step ((Below.refl w.heap.size w).drew) hB2); clear hc0 hc5; obtain ⟨hc0, -, -, -, -, hc5, -, -⟩ := jr_cells (jr_below HJ.out HB2.out); clear hR2 hB2 hC3 RD))
    rename_i K hK hH
    refine hK _ _ ?_
    refine wp_seq (wp_label ?_)
    refine HX _ _ (rec_intro (acc := []) (l := L) (nx := 0) ⟨Kd.R_nil _ _ _ _ _, hc3, fun w' hk => (Kd.R_reads' (R_ty HR2.out (fun q hq => by simp [Kd.int, Kd.scalar] at hq; exact hq) hk)).2.2, by rw [List.length_nil, Int.natCast_zero, Int.add_zero, Int.add_zero]; exact jr_below HJ.out HB2.out, disk_below HD.out HB2.out, KeepJ.of_below HB2.out, HLL.out.2, by have := HM0.out; omega, Nat.zero_le _, m0 + 1, by have := HM0.out; omega, by rw [List.length_nil, Int.natCast_zero, Int.add_zero, List.nil_append, Nat.zero_add]; exact HRR.out⟩ _ rfl)
  · rintro a' wr ⟨acc, l, nx, v2, A3, c3, us, rfl, HF0⟩
    have HV := Aside0.mk HF0.row
    have HC := Aside0.mk HF0.rest
    have HJ := Aside0.mk HF0.jr
    have HD := Aside0.mk HF0.disk
    have HK := Aside0.mk HF0.keep
    have HBY := Aside0.mk HF0.bytes
    have HF := Aside0.mk HF0.run
    have hc3 := HF0.cap
    clear HLL HM0 HRR RD SZ hc0 hc5 HF0
    dsimp only
    obtain ⟨hb1, hb2, f, hf, hfe⟩ := HF.out
    clear HF
    cases f with
    | zero => omega
    | succ f =>
      have hC := HC.out wr KeepTy.refl
      have UN := Aside0.mk (XUnpack.unpack_walk A3 c3 l wr hC hc3 HBY.out (by omega))
      have OK := Aside0.mk (unpackF_ok HBY.out)
      obtain ⟨sq, hsq'⟩ : ∃ sq, j.seq + (acc.length : Nat) = sq := ⟨_, rfl⟩
      obtain ⟨nI, hnI⟩ : ∃ nI, j.next + (nx : Nat) = nI := ⟨_, rfl⟩
      have HSQ := Aside0.mk hsq'
      have HNI := Aside0.mk hnI
      have hsqr : 0 ≤ sq ∧ sq ≤ 4294970000 := by omega
      have hnIr : 0 ≤ nI ∧ nI ≤ 3000 := by have := HNX.out; omega
      rw [hsq'] at hfe HJ
      rw [hnI] at HJ
      rw [recs] at hfe
      obtain ⟨u, hu⟩ : ∃ u, unpackF l = u := ⟨_, rfl⟩
      rw [hu] at UN hfe OK
      obtain ⟨w1u, w2u, w3u, w4u, w5u⟩ := u
      have HFE := Aside0.mk hfe
      have HB12 := Aside0.mk (show l.length + 32 * nx ≤ 32768 ∧ acc.length ≤ nx ∧ l.length < 32 * (f + 1) from ⟨hb1, hb2, hf⟩)
      have HC3 := Aside0.mk hc3
      clear hu hC hfe hb1 hb2 hf hsq' hnI hc3
      by_cases h5 : w5u = 0
      rotate_left
      · have b5 : (w5u == 0) = false := by simpa using h5
        have hfe := HFE.out
        rw [if_neg (fun hh => h5 hh.1)] at hfe
        rw [List.append_nil, Nat.add_zero] at hfe
        subst hfe
        clear HFE
        go_wp2_with (go_at_call 37; refine UN.out.mono ?_; rintro e w1 ⟨v3, rfl, hR3, hB3⟩; obtain ⟨A5, c5, rfl⟩ := Kd.R_slice hR3; have HR3 := Aside0.mk hR3; have HB3 := Aside0.mk hB3; obtain ⟨-, -, -, hc3, hc4, hc5, -, -⟩ := jr_cells (jr_below HJ.out hB3); have hf4 := jr_frozen (jr_below HJ.out hB3) 4; have hf5 := jr_frozen (jr_below HJ.out hB3) 5; clear hR3 hB3 UN)
        simp only [Exit.jump]
        show bodyPost Try.prog Try.f28 _ Exit.ret _ _
        go_ret
        rw [HSQ.out, HNI.out]
        exact ⟨_, rfl, Kd.R_below HV.out HB3.out, jr_below HJ.out HB3.out, disk_below HD.out HB3.out, HK.out.trans (KeepJ.of_below HB3.out)⟩
      subst h5
      by_cases h1 : w1u = j.epoch
      rotate_left
      · have b1 : (w1u == j.epoch) = false := by simpa using h1
        have hfe := HFE.out
        rw [if_neg (fun hh => h1 hh.2.1)] at hfe
        rw [List.append_nil, Nat.add_zero] at hfe
        subst hfe
        clear HFE
        go_wp2_with (go_at_call 37; refine UN.out.mono ?_; rintro e w1 ⟨v3, rfl, hR3, hB3⟩; obtain ⟨A5, c5, rfl⟩ := Kd.R_slice hR3; have HR3 := Aside0.mk hR3; have HB3 := Aside0.mk hB3; obtain ⟨-, -, -, hc3, hc4, hc5, -, -⟩ := jr_cells (jr_below HJ.out hB3); have hf4 := jr_frozen (jr_below HJ.out hB3) 4; have hf5 := jr_frozen (jr_below HJ.out hB3) 5; clear hR3 hB3 UN)
        simp only [Exit.jump]
        show bodyPost Try.prog Try.f28 _ Exit.ret _ _
        go_ret
        rw [HSQ.out, HNI.out]
        exact ⟨_, rfl, Kd.R_below HV.out HB3.out, jr_below HJ.out HB3.out, disk_below HD.out HB3.out, HK.out.trans (KeepJ.of_below HB3.out)⟩
      subst h1
      by_cases h2 : w2u = sq + 1
      rotate_left
      · have b2 : (w2u == sq + 1) = false := by simpa using h2
        have hfe := HFE.out
        rw [if_neg (fun hh => h2 hh.2.2)] at hfe
        rw [List.append_nil, Nat.add_zero] at hfe
        subst hfe
        clear HFE
        go_wp2_with (go_at_call 37; refine UN.out.mono ?_; rintro e w1 ⟨v3, rfl, hR3, hB3⟩; obtain ⟨A5, c5, rfl⟩ := Kd.R_slice hR3; have HR3 := Aside0.mk hR3; have HB3 := Aside0.mk hB3; obtain ⟨-, -, -, hc3, hc4, hc5, -, -⟩ := jr_cells (jr_below HJ.out hB3); have hf4 := jr_frozen (jr_below HJ.out hB3) 4; have hf5 := jr_frozen (jr_below HJ.out hB3) 5; clear hR3 hB3 UN)
        simp only [Exit.jump]
        show bodyPost Try.prog Try.f28 _ Exit.ret _ _
        go_ret
        rw [HSQ.out, HNI.out]
        exact ⟨_, rfl, Kd.R_below HV.out HB3.out, jr_below HJ.out HB3.out, disk_below HD.out HB3.out, HK.out.trans (KeepJ.of_below HB3.out)⟩
      subst h2
      have hfe := HFE.out
      rw [if_pos ⟨rfl, rfl, rfl⟩] at hfe
      clear HFE
      obtain ⟨e', s', b', hE, h32, hbl, hbB, -, -, -⟩ := OK.out rfl
      injection hE with hE1 hE
      injection hE with hE2 hE
      injection hE with hE3 hE
      injection hE with hE4 hE5
      subst hE3
      obtain ⟨m, hm⟩ : ∃ m : Nat, sectors w3u.length = m := ⟨_, rfl⟩
      rw [hm] at hE4 h32
      have hm1 : 1 ≤ m := by rw [← hm]; unfold sectors; omega
      subst hE4
      rw [Int.toNat_natCast] at hfe
      obtain ⟨A4, hcut, hA4, hC4⟩ := print_drop_of (P := Try.prog) (Value.int .u8) 0 23 5 .i64 Try.underlying23 hi5 hsz A3 c3 l ((m : Int) * 32) (by omega) (by omega) HC3.out
      have hq : ((m : Int) * 32).toNat = 32 * m := by omega
      rw [hq] at hA4 hC4
      simp only [hq] at hcut
      have HA4 := Aside0.mk hA4
      have HFE := Aside0.mk hfe
      have H32 := Aside0.mk (show 32 * m ≤ l.length ∧ 1 ≤ m ∧ m ≤ 1024 from ⟨h32, hm1, by have := HB12.out; omega⟩)
      have hm2 : m ≤ 1024 := by have := HB12.out; omega
      clear hE1 hE2 hE5 OK hm hq hA4 hfe h32 hm1
      go_wp2_with (first | (go_at_call 37; refine UN.out.mono ?_; rintro e w1 ⟨v3, rfl, hR3, hB3⟩; obtain ⟨A5, c5, rfl⟩ := Kd.R_slice hR3; have HR3 := Aside0.mk hR3; have HB3 := Aside0.mk hB3; obtain ⟨-, -, -, hc3, hc4, -, -, -⟩ := jr_cells (jr_below HJ.out hB3); clear hR3 hB3 UN) | (at_builtin; refine Kd.R_append (Kd.slice 5 (Kd.int .u8)) (w0 := w1) w.heap.size rfl (.tmp 51) (.tmp 53) 31 23 (.slice none 0 0) 24 rfl Try.underlying31 info_slu8 rfl (by decide) (by decide) v2 acc w3u [.slice A5 w3u.length c5] (fun _ => True) (fun k => wr.heap.size ≤ k ∧ k < w1.heap.size) rfl rfl ⟨_, rfl, Kd.R_mono (Kd.R_lower (Kd.R_bound HR3.out) HK.out.size) (fun k hk => ⟨hk.2.1, hk.2.2.1⟩)⟩ (fun k hk => ⟨trivial, fun e => by have := ((Kd.R_bound HV.out).1 k e.symm).2.2.1; omega⟩) (fun _ _ => trivial) (Kd.R_below HV.out HB3.out) (Below.refl _ _) (Nat.le_trans HK.out.size HB3.out.size) (by have := HB12.out; omega) ?_; intro v4 w4 hR4 hB4 hG4 _; clear hc3 hc4; have HR4 := Aside0.mk hR4; have HB4 := Aside0.mk hB4; have HG4 := Aside0.mk hG4; have HJ4 := Aside0.mk (jr_ty (jr_below HJ.out HB3.out) (KeepTy.of_row (Kd.R_below HV.out HB3.out) hG4 (by decide))); obtain ⟨-, -, -, -, hc4, hc5, -, -⟩ := jr_cells HJ4.out; have hf4 := jr_frozen HJ4.out 4; have hf5 := jr_frozen HJ4.out 5; clear hR4 hB4 hG4))
      have hwm : IntKind.i64.wrap ((m : Int) * 32) = (m : Int) * 32 := wr64 _ (by omega) (by omega)
      have hwn : IntKind.i64.wrap (nI + (m : Int)) = nI + (m : Int) := wr64 _ (by omega) (by omega)
      go_region
      have e1 : j.seq + ((acc ++ [w3u]).length : Nat) = sq + 1 := by rw [List.length_append, List.length_singleton]; have := HSQ.out; omega
      have e2 : j.next + ((nx + m : Nat) : Int) = nI + (m : Int) := by have := HNI.out; omega
      have a4 := jr_set4 HJ4.out (sq + 1)
      have a5 := jr_set5 a4 (nI + (m : Int))
      have K1 : ∀ T : Nat → Prop, ¬ T 23 → KeepTy T wr w4 := fun T hT => (KeepTy.of_below HB3.out).trans (KeepTy.of_row (Kd.R_below HV.out HB3.out) HG4.out hT)
      have K2 : ∀ T : Nat → Prop, ¬ T 55 → KeepTy T w4 (((w4.setCell ⟨gj, 4, none⟩ (.int .i64 (sq + 1))).setCell ⟨gj, 5, none⟩ (.int .i64 (nI + (m : Int)))).drew) := fun T hT => (KeepTy.set_ HJ4.out.1 hT 4 _).trans ((KeepTy.set_ a4.1 hT 5 _).trans (KeepTy.of_below (Below.refl _ _).drew))
      have HH := H32.out
      have HG := HB12.out
      go_wp2_with fail
      go_step3
      refine ⟨rfl, rec_intro (acc := acc ++ [w3u]) (l := l.drop (32 * m)) (nx := nx + m) ⟨?_, hC4, ?_, ?_, ?_, ?_, ?_, ?_⟩ _ (by rw [List.length_drop]; rfl), ?_⟩
      · exact R_ty HR4.out (T := fun q => q ≠ 55) (by intro q hq; simp [Kd.slice, Kd.int, Kd.scalar] at hq; rcases hq with rfl | rfl <;> decide) (K2 _ (fun h => h rfl))
      · exact fun w' hk => Kd.C_of_reads (h1 := fun _ => rfl) (HA4.out _ (Kd.reads_of_C (HC.out w' ((K1 _ (by decide)).trans ((K2 _ (by decide)).trans hk)))))
      · rw [e1, e2]; exact jr_drewN a5 1
      · exact disk_ty (disk_ty HD.out (K1 _ (by unfold dT; decide))) (K2 _ (by unfold dT; decide))
      · exact (((HK.out.trans (KeepJ.of_below HB3.out)).below HB4.out).trans ((keepJ_jr HJ4.out 4 _).trans (keepJ_jr a4 5 _))).drewN 1
      · exact fun c hc => HBY.out c (List.mem_of_mem_drop hc)
      · refine ⟨by rw [List.length_drop]; omega, by rw [List.length_append, List.length_singleton]; omega, f, by rw [List.length_drop]; omega, ?_⟩
        rw [e1, List.append_assoc, List.singleton_append, Nat.add_assoc]; exact HFE.out
      · show l.length - 32 * m < l.length
        omega
end Go.Proofs.Ytglpelhbncdkmaa.XJour
