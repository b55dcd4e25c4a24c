/-
  What the disk's laws write: the bytes of an act, and an act in memory.
-/
import Derived.Laws.CopyOwn
import Derived.ArgAppend
import Derived.Below
import Derived.BigQuiet
import Derived.Deep.AppendLies
import Derived.Deep.CutBlock
import Derived.Deep.DeepCutAuto
import Derived.Deep.Draws
import Derived.Deep.LoopGhost
import Derived.Deep.OwnRows
import Derived.Deep.QuietTactic
import Derived.Deep.RegionHeld3
import Derived.Deep.WholeRow
import Derived.KernelRfl
import Derived.Laws.BitsLemmas
import Derived.Laws.BytesArg
import Derived.Laws.IdiomCopy
import Derived.Laws.MakeOwn
import Derived.Laws.OwnMore
import Derived.Laws.Rows
import Derived.Laws.Slices
import Derived.Lib.AppendStr
import Derived.Lib.ConvBytes
import Derived.Lib.Hide
import Derived.Maps.AppendAt
import Derived.OrdersHeld
import Derived.Outline
import Derived.OwnWalk
import Derived.RowKit
import Derived.RowKit3
import Derived.Tactics
import Derived.WalkKit
import Derived.WideLaws
import Derived.Test.YtmpiljfpgfhljaaProg
import Derived.Test.YtmpiljfpgfhljaaWApart
import Derived.Test.YtmpiljfpgfhljaaWArr
import Derived.Test.YtmpiljfpgfhljaaWAt
import Derived.Test.YtmpiljfpgfhljaaWEqStruct
import Derived.Test.YtmpiljfpgfhljaaWFoot
import Derived.Test.YtmpiljfpgfhljaaWFootNe
import Derived.Test.YtmpiljfpgfhljaaWFour
import Derived.Test.YtmpiljfpgfhljaaWGuard
import Derived.Test.YtmpiljfpgfhljaaWInv
import Derived.Test.YtmpiljfpgfhljaaWInvWords
import Derived.Test.YtmpiljfpgfhljaaWKept
import Derived.Test.YtmpiljfpgfhljaaWLast
import Derived.Test.YtmpiljfpgfhljaaWMore
import Derived.Test.YtmpiljfpgfhljaaWN
import Derived.Test.YtmpiljfpgfhljaaWNEv
import Derived.Test.YtmpiljfpgfhljaaWQPut
import Derived.Test.YtmpiljfpgfhljaaWRepsOne
import Derived.Test.YtmpiljfpgfhljaaWShare
import Derived.Test.YtmpiljfpgfhljaaWTab
import Derived.Test.YtmpiljfpgfhljaaWWords
import Derived.Test.YtmpiljfpgfhljaaWZeros
import Derived.Test.YtmpiljfpgfhljaaXSlices

import Derived.Test.YtmpiljfpgfhljaaXDiskAny
namespace Go.Proofs.Ytmpiljfpgfhljaa.XDisk
open Go.RowKit Go.Proofs.YtmpiljfpgfhljaaW.PrintWords Go.Proofs.YtmpiljfpgfhljaaW.PrintLast Go.Proofs.YtmpiljfpgfhljaaW.PrintMore
set_option linter.unusedVariables false
set_option linter.unusedSimpArgs false
open QDiskTorn (prebendlaw05_sector.f prebendlaw05_sector.calls prebendlaw05_made.f prebendlaw05_made.calls)
theorem sector_rep (c : Int) : prebendlaw05_sector.f 40 c = some (List.replicate 32 c) := by kernel_rfl
theorem made_f (d a c k u : Int) (hc : 0 ≤ c ∧ c < 256) : ∃ r, prebendlaw05_made.f 40 d a c k u = some r := by
  have e1 : Int.tmod c 64 = c % 64 := Int.tmod_eq_emod_of_nonneg hc.1
  have e2 : Int.tmod c 32 = c % 32 := Int.tmod_eq_emod_of_nonneg hc.1
  have h1 : 0 ≤ c % 64 ∧ c % 64 < 64 := by omega
  have h2 : 0 ≤ c % 32 ∧ c % 32 < 32 := by omega
  have w1 : wrap64 (c % 64) = c % 64 := by unfold wrap64; omega
  have w2 : wrap64 (c % 32) = c % 32 := by unfold wrap64; omega
  unfold prebendlaw05_made.f
  rw [e1, e2, w1, w2, sector_rep, Option.bind_some]
  split
  · rw [if_pos h1.1, if_pos (by omega)]; exact ⟨_, rfl⟩
  · rw [if_pos h2.1, if_pos (by rw [List.length_replicate]; exact h2.2)]; exact ⟨_, rfl⟩
/-- An act's cells. -/
def Act5 (w : World) (p : Addr) (x : Int × Int × Int × Int × Int) : Prop :=
  w.cell? p = some (.int .u8 x.1) ∧ w.cell? ⟨p.block, p.off + 1, none⟩ = some (.int .i64 x.2.1) ∧ w.cell? ⟨p.block, p.off + 2, none⟩ = some (.int .u8 x.2.2.1) ∧ w.cell? ⟨p.block, p.off + 3, none⟩ = some (.int .i64 x.2.2.2.1) ∧ w.cell? ⟨p.block, p.off + 4, none⟩ = some (.int .i64 x.2.2.2.2)
theorem Act5.below {w w' : World} {p : Addr} {x : Int × Int × Int × Int × Int} (h : Act5 w p x) (hb : Below w.heap.size w w') : Act5 w' p x :=
  ⟨pw_cell_below hb h.1, pw_cell_below hb h.2.1, pw_cell_below hb h.2.2.1, pw_cell_below hb h.2.2.2.1, pw_cell_below hb h.2.2.2.2⟩
def actCells (x : Int × Int × Int × Int × Int) : List Value := [.int .u8 x.1, .int .i64 x.2.1, .int .u8 x.2.2.1, .int .i64 x.2.2.2.1, .int .i64 x.2.2.2.2]
def ActAt5 (w : World) (A : Option Addr) (n : Nat) (f : Nat → Int × Int × Int × Int × Int) : Prop :=
  ∀ i, i < n → ∃ ad, A = some ad ∧ Act5 w (ad.add (i * 5)) (f i) ∧ (∀ j v, (actCells (f i))[j]? = some v → w.cell? ((ad.add (i * 5)).add j) = some v) ∧ 0 ≤ (f i).2.2.1 ∧ (f i).2.2.1 < 256
theorem ActAt5.below {w w' : World} {A : Option Addr} {n : Nat} {f : Nat → Int × Int × Int × Int × Int} (h : ActAt5 w A n f) (hb : Below w.heap.size w w') : ActAt5 w' A n f := fun i hi => by
  obtain ⟨ad, e, h1, h2, h3⟩ := h i hi
  exact ⟨ad, e, h1.below hb, fun j v hj => pw_cell_below hb (h2 j v hj), h3⟩
theorem run_load_seg {P : Program} {o : Oper} {a : Act} {w : World} (ty : TypeId) (x : Operand) (ho : o.op = .load ty x)
    (ad : Addr) (hx : a.eval x = .pointer (some ad)) (cs : List Value) (d : TypeDesc) (hu : P.underlying ty = some d) (hd : (match d with | .struct _ | .array _ _ => true | _ => false) = true) (hi : (P.info? ty).map (·.size) = some cs.length)
    (hc : ∀ j v, cs[j]? = some v → w.cell? (ad.add j) = some v) : (execOp a.eval o).run P w = .ok (.value (.agg cs.toArray)) w := by
  unfold execOp
  simp only [ho, hx, Instr.loadAt, Instr.sureAddr, Sem.run_bind, Sem.run_pure, Result.andThen_ok, loadCells_seg hu hd hi hc]
theorem size_act : (Try.prog.info? 28).map (·.size) = some 5 := by kernel_rfl
/-- No fuse: what is written is written. -/
theorem write_free (s : St) (i : Int) (b : List Int) (hf : s.fuse = -1) : (Write s i b).2.fuse = -1 ∧ ((Write s i b).1 = 0 → has s i = true ∧ (Write s i b).2.cache = put s.cache i b) ∧ ((Write s i b).1 ≠ 0 → (Write s i b).2 = s) := by
  have hB : Burn s = (true, s) := by unfold Burn; rw [if_neg (by rw [hf]; decide), if_neg (by rw [hf]; decide)]
  unfold Write
  rw [hB]
  split
  · rename_i hg
    exact ⟨hf, fun _ => ⟨hg.1, rfl⟩, fun h => absurd rfl h⟩
  · exact ⟨hf, fun h => absurd (show (1 : Int) = 0 from h) (by decide), fun _ => rfl⟩
theorem flush_free (s : St) (hf : s.fuse = -1) : Flush s = (0, { good := over s.good s.cache, cache := [], fuse := -1 }) := by
  have hB : Burn s = (true, s) := by unfold Burn; rw [if_neg (by rw [hf]; decide), if_neg (by rw [hf]; decide)]
  unfold Flush
  rw [hB, if_pos rfl, ← hf]
/-! ### rows of rows, rows of bools -/
def rowsK : Kd (List Int) := Kd.slice 5 (Kd.int .u8)
theorem R_empty {α : Type} (d : Kd α) (W : World) (base e : Nat) (hb : base ≤ W.heap.size) : d.R e (W.alloc (.cells #[] e)) base (fun _ => True) (.slice (some ⟨W.heap.size, 0, none⟩) 0 0) [] := by
  have h2 := World.ownsRow_lit (base := base) (e := e) (size := d.sz) W #[] 0 hb (by decide) (by simp)
  exact ⟨fun _ _ => trivial, [], by simpa using h2, Reps.none _ _⟩
theorem R_not {α β : Type} {d : Kd α} {d' : Kd β} {e e' : Nat} {w : World} {base base' : Nat} {ok' : Nat → Prop} {v v' : Value} {xs : List α} {ys : List β} (h : d.R e w base (fun _ => True) v xs) (h' : d'.R e' w base' ok' v' ys) (hne : ∀ q, q ∈ e :: d.E → q ≠ e') :
    d.R e w base (fun k => some k ≠ v'.ownBlock) v xs :=
  Kd.R_mono (Kd.R_bound h) (fun k hk e1 => by
    obtain ⟨-, -, -, q, hq, cells, hc⟩ := hk
    obtain ⟨cells', hc'⟩ := own_typed h'.2.choose_spec.1 k e1.symm
    rw [hc] at hc'
    injection hc' with hc'
    injection hc' with _ h5 _
    exact hne q hq h5)
theorem info_slu8 : (Try.prog.info? 29).map (fun i => (i.zero, i.size, i.bytes)) = some (some (.slice none 0 0), rowsK.sz, 24) := by kernel_rfl
theorem info_bool : (Try.prog.info? 4).map (fun i => (i.zero, i.size, i.bytes)) = some (some (.bool false), Kd.bool.sz, 1) := by kernel_rfl
theorem rows_keep {base base' : Nat} {w w' : World} {ok : Nat → Prop} {v : Value} {b : List (List Int)} (h : rowsK.R 29 w base ok v b) (k : KeepD base' w w') : rowsK.R 29 w' base ok v b :=
  R_keepD h (by intro q hq; simp [rowsK, Kd.slice, Kd.int, Kd.scalar] at hq; rcases hq with rfl | rfl <;> (unfold dT; decide)) k
theorem bools_keep {base base' : Nat} {w w' : World} {ok : Nat → Prop} {v : Value} {b : List Bool} (h : Kd.bool.R 4 w base ok v b) (k : KeepD base' w w') : Kd.bool.R 4 w' base ok v b :=
  R_keepD h (by intro q hq; simp [Kd.bool, Kd.scalar] at hq; subst hq; unfold dT; decide) k
/-- A bool of a row is set: nothing else is. -/
theorem bool_set {base base' : Nat} {w : World} {g ga ca : Nat} {s : St} {ag : List Bool} {v : Value} {b : List (List Int)} (hD : DiskAt base w g s) (hA : Kd.bool.R 4 w base' (fun _ => True) (.slice (some ⟨ga, 0, none⟩) ag.length ca) ag) (hW : rowsK.R 29 w base (fun _ => True) v b) (i : Nat) (hi : i < ag.length) (x : Bool) :
    DiskAt base (w.setCell ⟨ga, i, none⟩ (.bool x)) g s ∧ Kd.bool.R 4 (w.setCell ⟨ga, i, none⟩ (.bool x)) base' (fun _ => True) (.slice (some ⟨ga, 0, none⟩) ag.length ca) (ag.set i x) ∧ rowsK.R 29 (w.setCell ⟨ga, i, none⟩ (.bool x)) base (fun _ => True) v b ∧ base' ≤ ga ∧ w.cell? ⟨ga, i, none⟩ = some (.bool ag[i]) ∧ w.frozen? ⟨ga, i, none⟩ = false := by
  obtain ⟨cells, hc⟩ := own_typed hA.2.choose_spec.1 ga (by simp [Value.ownBlock])
  have hp := Kd.R_put hA (i : Int) x
  rw [Int.toNat_natCast] at hp
  have hb := Kd.R_base hA ga (by simp [Value.ownBlock])
  obtain ⟨ga', ca', hv, -, -, hcc⟩ := R_front hA (by omega)
  injection hv with hv
  injection hv with hv
  injection hv with hv
  subst hv
  obtain ⟨cs, hl, hK, hcell⟩ := hcc i hi
  have hcs : cs = [.bool ag[i]] := hK
  have h0 := hcell 0 (.bool ag[i]) (by rw [hcs]; rfl)
  rw [show i * Kd.bool.sz + 0 = i from Nat.mul_one i] at h0
  obtain ⟨vg, vc, h1, h2, h3, h4⟩ := hD
  have hne : g ≠ ga := blk_ne h1 hc (by decide)
  exact ⟨⟨vg, vc, blk_far h1 hne _, h2, Kd.R_set h3 hc (by intro q hq; simp [secK, Kd.arr, Kd.int, Kd.scalar] at hq; omega) _ _, Kd.R_set h4 hc (by intro q hq; simp [cacK, secK, Kd.pair, Kd.arr, Kd.int, Kd.scalar] at hq; omega) _ _⟩,
    hp.1, Kd.R_set hW hc (by intro q hq; simp [rowsK, Kd.slice, Kd.int, Kd.scalar] at hq; omega) _ _, hb, h0, blk_frozen hc _⟩
theorem grown_none {w w' : World} (h : w.grownBy w' none) : Below w.heap.size w w' := ⟨h.os, h.tape, h.output, h.size, fun k hk => h.block k hk (by simp)⟩
/-- Another row grows: the disk stays. -/
theorem disk_grown {α : Type} {d : Kd α} {base base' e g : Nat} {w w' : World} {s : St} {ok : Nat → Prop} {v : Value} {xs : List α} (h : DiskAt base w g s) (hr : d.R e w base' ok v xs) (he : ¬ dT e) (hg : w.grownBy w' v.ownBlock) : DiskAt base w' g s := by
  have hkeep : ∀ i q cells, i < w.heap.size → w.heap[i]? = some (.cells cells q (0, 0)) → dT q → w'.heap[i]? = w.heap[i]? := fun i q cells hi hc hq => hg.block i hi (fun e1 => by
    obtain ⟨cells', hc'⟩ := own_typed hr.2.choose_spec.1 i e1.symm
    rw [hc] at hc'
    injection hc' with hc'
    injection hc' with _ h5 _
    exact he (h5 ▸ hq))
  obtain ⟨vg, vc, h1, h2, h3, h4⟩ := h
  refine ⟨vg, vc, (hkeep g _ _ (blk_lt h1) h1 (.inl rfl)).trans h1, h2, ?_, ?_⟩
  · refine Kd.R_mono (Kd.R_move (Kd.R_bound h3) (fun i hi => ?_)) (fun _ hk => hk.1)
    obtain ⟨-, -, hlt, q, hq, cells, hc⟩ := hi
    exact hkeep i q cells hlt hc (by simp [secK, Kd.arr, Kd.int, Kd.scalar] at hq; subst hq; exact .inr (.inl rfl))
  · refine Kd.R_mono (Kd.R_move (Kd.R_bound h4) (fun i hi => ?_)) (fun _ hk => hk.1)
    obtain ⟨-, -, hlt, q, hq, cells, hc⟩ := hi
    exact hkeep i q cells hlt hc (by simp [cacK, secK, Kd.pair, Kd.arr, Kd.int, Kd.scalar] at hq; subst hq; exact .inr (.inr rfl))
/-! ### what a crash leaves of a sector that is not cached -/
theorem hit_other (keep torn cut : Int) (k : Nat) (x : Int × List Int) (g : List (List Int)) (i : Nat) (hx : 0 ≤ x.1) (h : x.1 ≠ (i : Int)) : (hit keep torn cut k x g).getD i [] = g.getD i [] := by
  have hs : ∀ b, (g.set x.1.toNat b).getD i [] = g.getD i [] := fun b => by rw [List.getD_eq_getElem?_getD, List.getElem?_set_ne (by omega), List.getD_eq_getElem?_getD]
  unfold hit
  split
  · exact hs _
  · split
    · exact hs _
    · rfl
theorem crashed_other (keep torn cut : Int) (good : List (List Int)) (cs : List (Int × List Int)) (i : Nat) (h0 : ∀ x ∈ cs, 0 ≤ x.1) (h : ∀ x ∈ cs, x.1 ≠ (i : Int)) : ∀ k, k ≤ cs.length → (crashed keep torn cut good cs k).getD i [] = good.getD i []
  | 0, _ => rfl
  | k + 1, hk => by
    have hm : cs.getD k (0, []) ∈ cs := by rw [List.getD_eq_getElem?_getD, List.getElem?_eq_getElem (by omega)]; exact List.getElem_mem _
    show (hit keep torn cut k (cs.getD k (0, [])) (crashed keep torn cut good cs k)).getD i [] = _
    rw [hit_other _ _ _ _ _ _ _ (h0 _ hm) (h _ hm)]
    exact crashed_other keep torn cut good cs i h0 h k (by omega)
theorem readB_bare (s : St) (i : Nat) (hc : s.cache = []) (hi : i < s.good.length) : readB s i = s.good.getD i [] := by
  have hh : has s i = true := by unfold has; rw [Bool.and_eq_true]; exact ⟨decide_eq_true (by omega), decide_eq_true (by omega)⟩
  unfold readB nowAt
  have e : locF (i : Int) [] 0 = -1 := by unfold locF; rfl
  rw [hh, if_pos rfl, hc, e, if_neg (by decide), Int.toNat_natCast]
theorem ag_put {ag : List Bool} {cs cs2 : List (Int × List Int)} {a : Int} {r : List Int} (h : ∀ x ∈ cs, ag.getD x.1.toNat false = true) (ha : a.toNat < ag.length) (hc : cs2 = put cs a r) (ho : Once cs) : ∀ x ∈ cs2, (ag.set a.toNat true).getD x.1.toNat false = true := by
  intro x hx
  rw [hc] at hx
  rcases (put_ok (i := a) (b := r) ho).2.2 x hx with rfl | hx
  · rw [List.getD_eq_getElem?_getD, List.getElem?_set_self ha]; rfl
  · by_cases e : a.toNat = x.1.toNat
    · rw [← e, List.getD_eq_getElem?_getD, List.getElem?_set_self ha]; rfl
    · rw [List.getD_eq_getElem?_getD, List.getElem?_set_ne e, ← List.getD_eq_getElem?_getD]; exact h x hx
theorem kept_crash (s s3 : St) (keep torn cut : Int) (ag : List Bool) (hok : Ok s) (hg : s.good = s3.good) (hc3 : s3.cache = []) (hag : ∀ x ∈ s.cache, ag.getD x.1.toNat false = true) (q : Nat) (hq : q < s3.good.length) (hf : ag.getD q false = false) :
    readB (Crash s keep torn cut) q = readB s3 q := by
  rw [readB_bare s3 q hc3 hq, readB_bare (Crash s keep torn cut) q rfl (by show q < (crashed _ _ _ _ _ _).length; rw [crashed_len, hg]; exact hq)]
  show (crashed _ _ _ _ _ _).getD q [] = _
  rw [crashed_other _ _ _ _ _ _ (fun x hx => (hok.inr x hx).1) (fun x hx e => ?_) _ (Nat.le_refl _), hg]
  have := hag x hx
  rw [e, Int.toNat_natCast, hf] at this
  cases this
/-- A row of rows, an element. -/
theorem rows_at {base : Nat} {w : World} {v : Value} {rs : List (List Int)} (h : rowsK.R 29 w base (fun _ => True) v rs) (j : Nat) (hj : j < rs.length) :
    ∃ gw cw A c, v = .slice (some ⟨gw, 0, none⟩) rs.length cw ∧ w.cell? ⟨gw, j, none⟩ = some (.slice A (rs.getD j []).length c) ∧ Kd.C (Kd.int .u8) w A (rs.getD j []).length (rs.getD j []) := by
  obtain ⟨gw, cw, rfl, -, -, hcc⟩ := R_front h (by omega)
  obtain ⟨cs, hl, hK, hcell⟩ := hcc j hj
  obtain ⟨A, c, hcs, -, hC⟩ := hK
  have h0 := hcell 0 _ (by rw [hcs]; rfl)
  rw [show j * rowsK.sz + 0 = j from Nat.mul_one j] at h0
  have hx : rs.getD j [] = rs[j] := by rw [List.getD_eq_getElem?_getD, List.getElem?_eq_getElem hj]; rfl
  rw [hx]
  exact ⟨gw, cw, A, c, rfl, h0, hC⟩
theorem bools_at {base : Nat} {w : World} {ga ca n : Nat} {ag : List Bool} (h : Kd.bool.R 4 w base (fun _ => True) (.slice (some ⟨ga, 0, none⟩) n ca) ag) (j : Nat) (hj : j < ag.length) : w.cell? ⟨ga, j, none⟩ = some (.bool (ag.getD j false)) := by
  obtain ⟨ga', ca', hv, -, -, hcc⟩ := R_front h (by omega)
  injection hv with hv
  injection hv with hv
  injection hv with hv
  subst hv
  obtain ⟨cs, hl, hK, hcell⟩ := hcc j hj
  have hcs : cs = [.bool ag[j]] := hK
  have h0 := hcell 0 (.bool ag[j]) (by rw [hcs]; rfl)
  rw [show j * Kd.bool.sz + 0 = j from Nat.mul_one j] at h0
  rw [h0, List.getD_eq_getElem?_getD, List.getElem?_eq_getElem hj]; rfl
end Go.Proofs.Ytmpiljfpgfhljaa.XDisk
