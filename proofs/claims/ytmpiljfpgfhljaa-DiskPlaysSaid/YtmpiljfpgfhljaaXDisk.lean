/-
  package disk by walks: what a disk is in memory, and what each of its methods does to it.
-/
import Derived.Laws.CopyOwn
import Derived.ArgAppend
import Derived.Below
import Derived.BigQuiet
import Derived.Deep.AppendLies
import Derived.Deep.CutBlock
import Derived.Deep.DeepCutAuto
import Derived.Deep.Draws
import Derived.Deep.LoopGhost
import Derived.Deep.OwnRows
import Derived.Deep.QuietTactic
import Derived.Deep.RegionHeld3
import Derived.Deep.WholeRow
import Derived.KernelRfl
import Derived.Laws.BitsLemmas
import Derived.Laws.BytesArg
import Derived.Laws.IdiomCopy
import Derived.Laws.MakeOwn
import Derived.Laws.OwnMore
import Derived.Laws.Rows
import Derived.Laws.Slices
import Derived.Lib.AppendStr
import Derived.Lib.ConvBytes
import Derived.Lib.Hide
import Derived.Maps.AppendAt
import Derived.OrdersHeld
import Derived.Outline
import Derived.OwnWalk
import Derived.RowKit
import Derived.RowKit3
import Derived.Tactics
import Derived.WalkKit
import Derived.WideLaws
import Derived.Test.YtmpiljfpgfhljaaProg
import Derived.Test.YtmpiljfpgfhljaaWApart
import Derived.Test.YtmpiljfpgfhljaaWArr
import Derived.Test.YtmpiljfpgfhljaaWAt
import Derived.Test.YtmpiljfpgfhljaaWEqStruct
import Derived.Test.YtmpiljfpgfhljaaWFoot
import Derived.Test.YtmpiljfpgfhljaaWFootNe
import Derived.Test.YtmpiljfpgfhljaaWFour
import Derived.Test.YtmpiljfpgfhljaaWGuard
import Derived.Test.YtmpiljfpgfhljaaWInv
import Derived.Test.YtmpiljfpgfhljaaWInvWords
import Derived.Test.YtmpiljfpgfhljaaWKept
import Derived.Test.YtmpiljfpgfhljaaWLast
import Derived.Test.YtmpiljfpgfhljaaWMore
import Derived.Test.YtmpiljfpgfhljaaWN
import Derived.Test.YtmpiljfpgfhljaaWNEv
import Derived.Test.YtmpiljfpgfhljaaWQPut
import Derived.Test.YtmpiljfpgfhljaaWRepsOne
import Derived.Test.YtmpiljfpgfhljaaWShare
import Derived.Test.YtmpiljfpgfhljaaWTab
import Derived.Test.YtmpiljfpgfhljaaWWords
import Derived.Test.YtmpiljfpgfhljaaWZeros
import Derived.Test.YtmpiljfpgfhljaaXSlices

namespace Go.Proofs.Ytmpiljfpgfhljaa.XDisk
open Go.RowKit Go.Proofs.YtmpiljfpgfhljaaW.PrintWords Go.Proofs.YtmpiljfpgfhljaaW.PrintLast Go.Proofs.YtmpiljfpgfhljaaW.PrintMore
set_option linter.unusedVariables false
set_option linter.unusedSimpArgs false
/-! ### what a disk is -/
structure St where
  good : List (List Int)
  cache : List (Int × List Int)
  fuse : Int
def secK : Kd (List Int) := Kd.arr 32 (Kd.int .u8) (by decide)
def cacK : Kd (Int × List Int) := Kd.pair (Kd.int .i64) secK
def DiskAt (base : Nat) (w : World) (g : Nat) (s : St) : Prop :=
  ∃ vg vc, w.heap[g]? = some (.cells #[vg, vc, .int .i64 s.fuse] 69 (0, 0)) ∧ base ≤ g ∧
    secK.R 72 w base (fun _ => True) vg s.good ∧ cacK.R 74 w base (fun _ => True) vc s.cache
def dT (q : Nat) : Prop := q = 69 ∨ q = 72 ∨ q = 74
/-- Nothing below base is written, and elsewhere blocks of a disk's three types alone. -/
structure KeepD (base : Nat) (w w' : World) : Prop where
  os : w'.os = w.os
  tape : w'.tape = w.tape
  output : w'.output = w.output
  size : w.heap.size ≤ w'.heap.size
  block : ∀ i, i < w.heap.size → (i < base ∨ ∀ cells q, w.heap[i]? = some (.cells cells q (0, 0)) → ¬ dT q) → w'.heap[i]? = w.heap[i]?
theorem KeepD.refl (base : Nat) (w : World) : KeepD base w w := ⟨rfl, rfl, rfl, Nat.le_refl _, fun _ _ _ => rfl⟩
theorem KeepD.trans {base : Nat} {w w1 w2 : World} (h : KeepD base w w1) (k : KeepD base w1 w2) : KeepD base w w2 :=
  ⟨k.os.trans h.os, k.tape.trans h.tape, k.output.trans h.output, Nat.le_trans h.size k.size, fun i hi hc => by
    have e := h.block i hi hc
    exact (k.block i (Nat.lt_of_lt_of_le hi h.size) (hc.imp_right (fun hh cells q hq => hh cells q (e ▸ hq)))).trans e⟩
theorem KeepD.of_below {base : Nat} {w w' : World} (h : Below w.heap.size w w') : KeepD base w w' := ⟨h.os, h.tape, h.output, h.size, fun i hi _ => h.block i hi⟩
theorem KeepD.drewN {base : Nat} {w w' : World} (h : KeepD base w w') (n : Nat) : KeepD base w (w'.drewN n) := ⟨h.os, h.tape, h.output, h.size, h.block⟩
theorem KeepD.of_grown {base : Nat} {w w' : World} {g : Nat} {cells : Array Value} {q : Nat} (hg : w.heap[g]? = some (.cells cells q (0, 0))) (hq : dT q) (hb : base ≤ g) (h : w.grownBy w' (some g)) : KeepD base w w' :=
  ⟨h.os, h.tape, h.output, h.size, fun i hi hc => h.block i hi (fun e => by
    injection e with e
    subst e
    rcases hc with hc | hc
    · omega
    · exact hc cells q hg hq)⟩
theorem KeepD.of_grownNone {base : Nat} {w w' : World} (h : w.grownBy w' none) : KeepD base w w' := ⟨h.os, h.tape, h.output, h.size, fun i hi _ => h.block i hi (by simp)⟩
theorem KeepD.of_row {base : Nat} {w w' : World} {v : Value} {e : Nat} {α : Type} {d : Kd α} {ok : Nat → Prop} {xs : List α} (h : d.R e w base ok v xs) (he : dT e) (hg : w.grownBy w' v.ownBlock) : KeepD base w w' :=
  ⟨hg.os, hg.tape, hg.output, hg.size, fun i hi hc => hg.block i hi (fun e' => by
    obtain ⟨cells, hcc⟩ := own_typed h.2.choose_spec.1 i e'.symm
    rcases hc with hc | hc
    · have := Kd.R_base h i e'.symm; omega
    · exact hc cells e hcc he)⟩
theorem KeepD.set_ {base : Nat} {w : World} {g : Nat} {cells : Array Value} {q : Nat} (hg : w.heap[g]? = some (.cells cells q (0, 0))) (hq : dT q) (hb : base ≤ g) (j : Nat) (u : Value) : KeepD base w (w.setCell ⟨g, j, none⟩ u) :=
  ⟨rfl, rfl, rfl, by simp, fun i hi hc => Below.heap_setCell w _ u i (fun e => by
    subst e
    rcases hc with hc | hc
    · exact absurd hb (Nat.not_le.2 hc)
    · exact hc cells q hg hq)⟩
theorem below_keep {base : Nat} {w0 w w' : World} (h : Below base w0 w) (hb : base ≤ w.heap.size) (k : KeepD base w w') : Below base w0 w' :=
  h.trans ⟨k.os, k.tape, k.output, k.size, fun i hi => k.block i (Nat.lt_of_lt_of_le hi hb) (.inl hi)⟩
theorem R_keepD {α : Type} {d : Kd α} {e base base' : Nat} {w w' : World} {ok : Nat → Prop} {v : Value} {xs : List α} (h : d.R e w base' ok v xs) (he : ∀ q, q ∈ e :: d.E → ¬ dT q) (k : KeepD base w w') : d.R e w' base' ok v xs :=
  Kd.R_mono (Kd.R_move (Kd.R_bound h) (fun i hi => by
    obtain ⟨-, -, h4, q, hq, cells, hc⟩ := hi
    exact k.block i h4 (.inr (fun cells' q' hc' => by rw [hc] at hc'; injection hc' with hc'; injection hc' with _ h5 _; rw [← h5]; exact he q hq)))) (fun _ hk => hk.1)
theorem disk_below {base : Nat} {w w' : World} {g : Nat} {s : St} (h : DiskAt base w g s) (k : Below w.heap.size w w') : DiskAt base w' g s := by
  obtain ⟨vg, vc, h1, h2, h3, h4⟩ := h
  exact ⟨vg, vc, (k.block g (blk_lt h1)).trans h1, h2, Kd.R_below h3 k, Kd.R_below h4 k⟩
theorem disk_drewN {base : Nat} {w : World} {g : Nat} {s : St} (h : DiskAt base w g s) (n : Nat) : DiskAt base (w.drewN n) g s := by
  obtain ⟨vg, vc, h1, h2, h3, h4⟩ := h
  exact ⟨vg, vc, h1, h2, Kd.R_drewN h3 n, Kd.R_drewN h4 n⟩
/-! ### its methods, one by one: the short ones -/
theorem size_walk (base g : Nat) (s : St) (w : World) (h : DiskAt base w g s) :
    Calls Try.prog 24 #[.pointer (some ⟨g, 0, none⟩)] w fun e w' => e = .returned (.int .i64 (s.good.length : Nat)) ∧ w = w' := by
  obtain ⟨vg, vc, h1, -, h3, -⟩ := h
  obtain ⟨A, c, rfl⟩ := Kd.R_slice h3
  obtain ⟨hl, -, -⟩ := Kd.R_reads' h3
  have hc0 : w.cell? ⟨g, 0, none⟩ = some (.slice A s.good.length c) := by rw [blk_cell h1]; rfl
  clear h1 h3
  go_enter Try.func24, Try.ntmps24
  go_wp2
  go_ret
  exact ⟨rfl, rfl⟩
theorem size_nil (w : World) : Calls Try.prog 24 #[.pointer none] w fun e w' => e = .returned (.int .i64 0) ∧ w = w' := by
  go_enter Try.func24, Try.ntmps24
  go_wp2
  go_ret
  exact ⟨rfl, rfl⟩
theorem has_nil (i : Int) (w : World) : Calls Try.prog 33 #[.pointer none, .int .i64 i] w fun e w' => e = .returned (.bool false) ∧ w = w' := by
  by_cases h : 0 ≤ i
  · have hb : decide (0 ≤ i) = true := decide_eq_true h
    have hi : ¬ i < 0 := by omega
    have hib : decide (i < 0) = false := decide_eq_false hi
    go_enter Try.func33, Try.ntmps33
    go_wp2_with (go_at_call 24; refine (size_nil _).mono ?_; rintro e w' ⟨rfl, rfl⟩)
    go_ret
    exact ⟨rfl, rfl⟩
  · have hb : decide (0 ≤ i) = false := decide_eq_false h
    go_enter Try.func33, Try.ntmps33
    go_wp2
    go_ret
    exact ⟨rfl, rfl⟩
theorem has_walk (base g : Nat) (s : St) (i : Int) (w : World) (h : DiskAt base w g s) :
    Calls Try.prog 33 #[.pointer (some ⟨g, 0, none⟩), .int .i64 i] w fun e w' => e = .returned (.bool (decide (0 ≤ i) && decide (i < (s.good.length : Nat)))) ∧ w = w' := by
  have H := Aside0.mk h
  clear h
  generalize hn : s.good.length = n at *
  have HN := Aside0.mk hn
  clear hn
  by_cases h : 0 ≤ i
  · have hb : decide (0 ≤ i) = true := decide_eq_true h
    rw [hb, Bool.true_and]
    go_enter Try.func33, Try.ntmps33
    go_wp2_with (go_at_call 24; refine (size_walk base g s _ H.out).mono ?_; rintro e w' ⟨rfl, rfl⟩; rw [HN.out])
    go_ret
    exact ⟨rfl, rfl⟩
  · have hb : decide (0 ≤ i) = false := decide_eq_false h
    rw [hb, Bool.false_and]
    go_enter Try.func33, Try.ntmps33
    go_wp2
    go_ret
    exact ⟨rfl, rfl⟩
theorem cached_nil (w : World) : Calls Try.prog 15 #[.pointer none] w fun e w' => e = .returned (.int .i64 0) ∧ w = w' := by
  go_enter Try.func15, Try.ntmps15
  go_wp2
  go_ret
  exact ⟨rfl, rfl⟩
theorem cached_walk (base g : Nat) (s : St) (w : World) (h : DiskAt base w g s) :
    Calls Try.prog 15 #[.pointer (some ⟨g, 0, none⟩)] w fun e w' => e = .returned (.int .i64 (s.cache.length : Nat)) ∧ w = w' := by
  obtain ⟨vg, vc, h1, -, -, h3⟩ := h
  obtain ⟨A, c, rfl⟩ := Kd.R_slice h3
  have hc0 : w.cell? ⟨g, 1, none⟩ = some (.slice A s.cache.length c) := by rw [blk_cell h1]; rfl
  clear h1 h3
  go_enter Try.func15, Try.ntmps15
  go_wp2
  go_ret
  exact ⟨rfl, rfl⟩
theorem fuse_nil (n : Int) (w : World) : Calls Try.prog 22 #[.pointer none, .int .i64 n] w fun e w' => e = .returned (.tuple #[]) ∧ w = w' := by
  go_enter Try.func22, Try.ntmps22
  go_wp2
  go_end0
  exact ⟨rfl, rfl⟩
/-- A cell of the disk's own block is written. -/
theorem disk_fuse {base : Nat} {w : World} {g : Nat} {s : St} (h : DiskAt base w g s) (n : Int) : DiskAt base (w.setCell ⟨g, 2, none⟩ (.int .i64 n)) g { s with fuse := n } ∧ KeepD base w (w.setCell ⟨g, 2, none⟩ (.int .i64 n)) := by
  obtain ⟨vg, vc, h1, h2, h3, h4⟩ := h
  exact ⟨⟨vg, vc, blk_set h1 2 _, h2, Kd.R_set h3 h1 (by intro q hq; simp [secK, Kd.arr, Kd.int, Kd.scalar] at hq; omega) _ _, Kd.R_set h4 h1 (by intro q hq; simp [cacK, secK, Kd.pair, Kd.arr, Kd.int, Kd.scalar] at hq; omega) _ _⟩, KeepD.set_ h1 (.inl rfl) h2 _ _⟩
theorem fuse_walk (base g : Nat) (s : St) (n : Int) (w : World) (h : DiskAt base w g s) :
    Calls Try.prog 22 #[.pointer (some ⟨g, 0, none⟩), .int .i64 n] w fun e w' => e = .returned (.tuple #[]) ∧ DiskAt base w' g { s with fuse := mx n (-1) } ∧ KeepD base w w' := by
  have hd := fun n => disk_fuse h n
  have HD := Aside0.mk hd
  obtain ⟨vg, vc, h1, -, -, -⟩ := h
  have hc2 : (w.cell? ⟨g, 2, none⟩) = some (.int .i64 s.fuse) := by rw [blk_cell h1]; rfl
  have hf2 : (w.frozen? ⟨g, 2, none⟩) = false := blk_frozen h1 _
  clear h1 hd
  by_cases hn : -1 ≤ n
  · rw [show mx n (-1) = n from by unfold mx; omega]
    go_enter Try.func22, Try.ntmps22
    go_wp2
    go_end0
    exact ⟨rfl, HD.out _⟩
  · rw [show mx n (-1) = -1 from by unfold mx; omega]
    go_enter Try.func22, Try.ntmps22
    go_wp2
    go_end0
    exact ⟨rfl, HD.out _⟩
def Burn (s : St) : Bool × St := if s.fuse = 0 then (false, s) else if 0 < s.fuse then (true, { s with fuse := s.fuse - 1 }) else (true, s)
theorem burn_walk (base g : Nat) (s : St) (w : World) (h : DiskAt base w g s) (hf : s.fuse ≤ 9223372036854775807) :
    Calls Try.prog 34 #[.pointer (some ⟨g, 0, none⟩)] w fun e w' => e = .returned (.bool (Burn s).1) ∧ DiskAt base w' g (Burn s).2 ∧ KeepD base w w' := by
  have HD := Aside0.mk (fun n => disk_fuse h n)
  have HH := Aside0.mk h
  obtain ⟨vg, vc, h1, -, -, -⟩ := h
  have hc2 : (w.cell? ⟨g, 2, none⟩) = some (.int .i64 s.fuse) := by rw [blk_cell h1]; rfl
  have hf2 : (w.frozen? ⟨g, 2, none⟩) = false := blk_frozen h1 _
  clear h1
  by_cases hz : s.fuse = 0
  · have hB : Burn s = (false, s) := by unfold Burn; rw [if_pos hz]
    rw [hB]
    rw [hz] at hc2
    clear hB hz hf
    go_enter Try.func34, Try.ntmps34
    go_wp2
    go_ret
    exact ⟨rfl, HH.out, KeepD.refl _ _⟩
  · by_cases hp : 0 < s.fuse
    · have hB : Burn s = (true, { s with fuse := s.fuse - 1 }) := by unfold Burn; rw [if_neg hz, if_pos hp]
      rw [hB]
      clear hB
      have hD := HD.out (s.fuse - 1)
      have HD1 := Aside0.mk hD
      clear HD HH hD
      generalize hq : s.fuse = q at *
      have hq0 : (q == 0) = false := by simpa using hz
      go_enter Try.func34, Try.ntmps34
      go_wp2
      go_ret
      exact ⟨rfl, HD1.out⟩
    · have hB : Burn s = (true, s) := by unfold Burn; rw [if_neg hz, if_neg hp]
      rw [hB]
      clear hB HD
      have hq0 : (s.fuse == 0) = false := by simpa using hz
      go_enter Try.func34, Try.ntmps34
      go_wp2
      go_ret
      exact ⟨rfl, HH.out, KeepD.refl _ _⟩
/-! ### slices.IndexFunc over what is cached -/
theorem R_front {α : Type} {d : Kd α} {e base : Nat} {w : World} {ok : Nat → Prop} {v : Value} {xs : List α} (h : d.R e w base ok v xs) (hp : 0 < xs.length) :
    ∃ g c, v = .slice (some ⟨g, 0, none⟩) xs.length c ∧ xs.length ≤ c ∧ base ≤ g ∧ ∀ i (hi : i < xs.length), ∃ cs, cs.length = d.sz ∧ d.K w xs[i] cs ∧ ∀ j v, cs[j]? = some v → w.cell? ⟨g, i * d.sz + j, none⟩ = some v := by
  obtain ⟨A, c, rfl, hlc, hC⟩ := Kd.R_reads h
  obtain ⟨ad, rfl, hc⟩ := hC.2.2 hp
  obtain ⟨inner, ho⟩ := Kd.R_own h
  have hb := own_base ho
  rcases ho.2 with ⟨hv, -⟩ | ⟨g, cap, cur, hv, -⟩
  · cases hv
  · injection hv with h1 h2 h3
    injection h1 with h1
    subst h1
    refine ⟨g, c, rfl, hlc, hb g (by simp [Value.ownBlock]), fun i hi => ?_⟩
    obtain ⟨cs, hl, hK, hcell⟩ := hc i _ (List.getElem?_eq_getElem hi)
    exact ⟨cs, hl, hK, fun j v hj => by rw [← add_plain]; exact hcell j v hj⟩
def cacCells (x : Int × List Int) : List Value := .int .i64 x.1 :: nums .u8 x.2
theorem secK_K {w : World} {x : List Int} {cs : List Value} (h : secK.K w x cs) : x.length = 32 ∧ cs = nums .u8 x := Kd.arr_cells h
theorem secK_M {w : World} {base : Nat} {ok : Nat → Prop} {x : List Int} (h : x.length = 32) : secK.M w base ok x (nums .u8 x) := Kd.arr_of_cells h
theorem cacK_K {w : World} {x : Int × List Int} {cs : List Value} (h : cacK.K w x cs) : x.2.length = 32 ∧ cs = cacCells x := by
  obtain ⟨c0, c1, rfl, h0, h1⟩ := h
  obtain ⟨h2, rfl⟩ := secK_K h1
  have h0 : c0 = [.int .i64 x.1] := h0
  rw [h0]; exact ⟨h2, rfl⟩
theorem cacK_M {w : World} {base : Nat} {ok : Nat → Prop} {x : Int × List Int} (h : x.2.length = 32) : cacK.M w base ok x (cacCells x) := ⟨[.int .i64 x.1], nums .u8 x.2, rfl, rfl, secK_M h⟩
theorem loadCells_seg {P : Program} {w : World} {ad : Addr} {ty : TypeId} {cs : List Value} {d : TypeDesc} (hu : P.underlying ty = some d) (hd : (match d with | .struct _ | .array _ _ => true | _ => false) = true) (hi : (P.info? ty).map (·.size) = some cs.length)
    (hc : ∀ j v, cs[j]? = some v → w.cell? (ad.add j) = some v) : (loadVar ty ad).run P w = .ok (.agg cs.toArray) w := by
  have hl := run_loadCells_list (P := P) w ad cs hc
  cases hq : P.info? ty with
  | none => simp [hq] at hi
  | some i =>
    have hs : i.size = cs.length := by simpa [hq] using hi
    have hagg : (isAgg ty).run P w = .ok true w := by
      unfold isAgg
      rw [Sem.run_bind, run_underlying hu w]
      cases d <;> simp_all
    simp [loadVar, Sem.run_bind, hagg, sizeOf, typeInfo, hq, hs, hl]
theorem wpList_load_seg {P : Program} {ops : Array Oper} {rest : List Oper} {o : Oper} {a : Act} {w : World} {Q : Exit → Act → World → Prop} (hgd : o.guard = none) (ty : TypeId) (x : Operand) (ho : o.op = .load ty x)
    (ad : Addr) (hx : a.eval x = .pointer (some ad)) (cs : List Value) (d : TypeDesc) (hu : P.underlying ty = some d) (hd : (match d with | .struct _ | .array _ _ => true | _ => false) = true) (hi : (P.info? ty).map (·.size) = some cs.length)
    (hc : ∀ j v, cs[j]? = some v → w.cell? (ad.add j) = some v) (h : wpList P ops Q rest (a.put o.dst (.agg cs.toArray)) w) : wpList P ops Q (o :: rest) a w :=
  wpList_plain hgd fun _ hK => by
    unfold Oper.wp execOp
    simp only [ho, hx, Instr.loadAt, Instr.sureAddr, Sem.run_bind, Sem.run_pure, Result.andThen_ok, loadCells_seg hu hd hi hc]
    exact hK _ _ h
def locF (i : Int) : List (Int × List Int) → Nat → Int
  | [], _ => -1
  | x :: xs, k => if x.1 == i then (k : Int) else locF i xs (k + 1)
theorem locF_step (i : Int) (xs : List (Int × List Int)) (k : Nat) (h : k < xs.length) : locF i (xs.drop k) k = if (xs[k]).1 == i then (k : Int) else locF i (xs.drop (k + 1)) (k + 1) := by
  rw [List.drop_eq_getElem_cons h]; rfl
theorem locF_end (i : Int) (xs : List (Int × List Int)) : locF i (xs.drop xs.length) xs.length = -1 := by rw [List.drop_length]; rfl
theorem sizes' : (Try.prog.info? 5).map (·.size) = some 1 := by kernel_rfl
theorem sizes : (Try.prog.info? 74).map (·.size) = some 33 ∧ (Try.prog.info? 72).map (·.size) = some 32 := ⟨by kernel_rfl, by kernel_rfl⟩
theorem find1_walk (Bi : Nat) (x : Int × List Int) (i : Int) (w : World) (hBi : w.cell? ⟨Bi, 0, none⟩ = some (.int .i64 i)) (hlt : Bi < w.heap.size) :
    Calls Try.prog 54 #[.agg (cacCells x).toArray, .pointer (some ⟨Bi, 0, none⟩)] w fun e w' => e = .returned (.bool (x.1 == i)) ∧ Below w.heap.size w w' := by
  unfold cacCells
  obtain ⟨x, d⟩ := x
  go_enter Try.func54, Try.ntmps54
  go_wp2
  go_ret
  exact ⟨rfl, (Below.refl _ _).alloc (Nat.le_refl _) _⟩
attribute [local irreducible] locF cacCells
set_option maxHeartbeats 1000000 in
theorem index_walk (A : Option Addr) (gc c Bi : Nat) (xs : List (Int × List Int)) (i : Int) (w : World) (hA : 0 < xs.length → A = some ⟨gc, 0, none⟩) (hl : xs.length ≤ 9223372036854775807) (hBi : w.cell? ⟨Bi, 0, none⟩ = some (.int .i64 i)) (hlt : Bi < w.heap.size)
    (hcell : ∀ k (hk : k < xs.length), (xs[k]).2.length = 32 ∧ gc < w.heap.size ∧ ∀ j v, (cacCells xs[k])[j]? = some v → w.cell? ⟨gc, k * 33 + j, none⟩ = some v) :
    Calls Try.prog 53 #[.slice A xs.length c, .func (.func 54) #[] #[.pointer (some ⟨Bi, 0, none⟩)]] w fun e w' => e = .returned (.int .i64 (locF i xs 0)) ∧ Below w.heap.size w w' := by
  obtain ⟨r, hr⟩ : ∃ r, locF i xs 0 = r := ⟨_, rfl⟩
  rw [hr]
  have HR := Aside0.mk (show locF i (xs.drop 0) 0 = r by rw [List.drop_zero]; exact hr)
  have HC := Aside0.mk hcell
  have HA := Aside0.mk hA
  have HB := Aside0.mk hBi
  clear hr hcell hA hBi
  go_enter Try.func53, Try.ntmps53
  go_wp2
  go_loopw [5, 8] (fun v5 v8 wr => ∃ k : Nat, k ≤ xs.length ∧ v8 = .int .i64 k ∧ Aside0 (locF i (xs.drop k) k = r) ∧ Below w.heap.size w wr) (fun _ v8 _ => xs.length - (intOf v8).toNat)
  case atStart => exact ⟨0, Nat.zero_le _, rfl, HR, Below.refl _ _⟩
  case round =>
    clear HR
    obtain ⟨k, hk, rfl, HR, hB⟩ := hrel
    by_cases hlk : k < xs.length
    · obtain rfl := HA.out (by omega)
      obtain ⟨h32, hgl, hce⟩ := HC.out k hlk
      have hst := locF_step i xs k hlk
      rw [HR.out] at hst
      obtain ⟨x, hx⟩ : ∃ x, xs[k] = x := ⟨_, rfl⟩
      rw [hx] at h32 hce hst
      have hce' : ∀ j v, (cacCells x)[j]? = some v → wr.cell? ((⟨gc, k * 33, none⟩ : Addr).add j) = some v := fun j v hj => by
        have h1 := hce j v hj
        rw [show ((⟨gc, k * 33, none⟩ : Addr).add j) = ⟨gc, k * 33 + j, none⟩ from by unfold Addr.add; split <;> simp_all]
        exact (hB.cell (p := ⟨gc, k * 33 + j, none⟩) hgl).trans h1
      have hBi : wr.cell? ⟨Bi, 0, none⟩ = some (.int .i64 i) := (hB.cell (p := ⟨Bi, 0, none⟩) hlt).trans HB.out
      have hcl : (Try.prog.info? 74).map (·.size) = some (cacCells x).length := by unfold cacCells nums; rw [List.length_cons, List.length_map, h32]; exact sizes.1
      have hlt' : Bi < wr.heap.size := Nat.lt_of_lt_of_le hlt hB.size
      have H1 := Aside0.mk hce'
      have H2 := Aside0.mk hBi
      have H3 := Aside0.mk hst
      have H4 := Aside0.mk hB
      clear hce hce' hx hBi hst hB
      go_wp2_with (with_reducible refine wpList_load_seg rfl 74 _ rfl ⟨gc, k * 33, none⟩ rfl (cacCells x) _ Try.underlying74 rfl hcl H1.out ?_)
      refine (find1_walk Bi x i _ H2.out hlt').mono ?_
      rintro e w1 ⟨rfl, hB1⟩
      have hB2 := Aside0.mk (below_step H4.out hB1)
      clear hB1 H2 H1
      cases hq : (x.1 == i) with
      | true =>
        have hr := H3.out
        rw [hq, if_pos rfl] at hr
        subst hr
        clear hq
        go_wp2
        go_ret
        exact ⟨rfl, hB2.out⟩
      | false =>
        have hr := H3.out
        rw [hq, if_neg (by decide)] at hr
        have HR2 := Aside0.mk hr.symm
        clear hr hq
        go_wp2
        go_roundw
        case rel => exact ⟨k + 1, hlk, by go_num, HR2, hB2.out⟩
        case measure => simp [intOf]; omega
    · obtain rfl : k = xs.length := by omega
      have hr := HR.out
      rw [locF_end] at hr
      subst hr
      go_wp2
      go_ret
      exact ⟨rfl, hB⟩
theorem find_walk (base g : Nat) (s : St) (i : Int) (w : World) (h : DiskAt base w g s) :
    Calls Try.prog 35 #[.pointer (some ⟨g, 0, none⟩), .int .i64 i] w fun e w' => e = .returned (.int .i64 (locF i s.cache 0)) ∧ Below w.heap.size w w' := by
  obtain ⟨vg, vc, h1, -, -, h3⟩ := h
  obtain ⟨A, c, rfl, hlc, hC⟩ := Kd.R_reads h3
  have hM : s.cache.length ≤ 9223372036854775807 := hC.2.1
  have hc1 : w.cell? ⟨g, 1, none⟩ = some (.slice A s.cache.length c) := by rw [blk_cell h1]; rfl
  have hgl := blk_lt h1
  have hx : ∃ gc, (0 < s.cache.length → A = some ⟨gc, 0, none⟩) ∧ ∀ k (hk : k < s.cache.length), (s.cache[k]).2.length = 32 ∧ gc < w.heap.size ∧ ∀ j v, (cacCells s.cache[k])[j]? = some v → w.cell? ⟨gc, k * 33 + j, none⟩ = some v := by
    by_cases hp : 0 < s.cache.length
    · obtain ⟨gc, c', hv, -, -, hcc⟩ := R_front h3 hp
      injection hv with hv
      refine ⟨gc, fun _ => hv, fun k hk => ?_⟩
      obtain ⟨cs, hl, hK, hcell⟩ := hcc k hk
      obtain ⟨h32, rfl⟩ := cacK_K hK
      refine ⟨h32, ?_, hcell⟩
      have h0 := hcell 0 _ (by unfold cacCells; rfl)
      exact World.block_lt_of_cell? w _ h0
    · exact ⟨0, fun h => absurd h hp, fun k hk => absurd hk (by omega)⟩
  obtain ⟨gc, hA, hcc⟩ := hx
  have HA := Aside0.mk hA
  have HCC := Aside0.mk hcc
  clear h1 h3 hC hA hcc
  go_enter Try.func35, Try.ntmps35
  go_wp2_with fail
  refine (index_walk A gc c w.heap.size s.cache i _ HA.out hM ?_ ?_ ?_).mono ?_
  · rw [blk_cell (blk_new w _)]; rfl
  · simp
  · intro k hk
    obtain ⟨a1, a2, a3⟩ := HCC.out k hk
    refine ⟨a1, by simp; omega, fun j v hj => ?_⟩
    exact ((((Below.refl w.heap.size w).alloc (Nat.le_refl _) _).cell (p := ⟨gc, k * 33 + j, none⟩) a2).trans (a3 j v hj))
  rintro e w1 ⟨rfl, hB1⟩
  have hB2 := below_step ((Below.refl w.heap.size w).alloc (Nat.le_refl _) _) hB1
  go_wp2
  go_ret
  exact ⟨rfl, hB2⟩
/-! ### Read -/
def nowAt (s : St) (i : Int) : List Int := if 0 ≤ locF i s.cache 0 then (s.cache.getD (locF i s.cache 0).toNat (0, [])).2 else s.good.getD i.toNat []
theorem locF_range (i : Int) : ∀ (xs : List (Int × List Int)) (k : Nat), locF i xs k = -1 ∨ ∃ j, ∃ h : j < xs.length, locF i xs k = ((k + j : Nat) : Int) ∧ (xs[j]).1 = i
  | [], _ => .inl (by unfold locF; rfl)
  | x :: xs, k => by
    unfold locF
    split
    · exact .inr ⟨0, by simp, rfl, eq_of_beq (by assumption)⟩
    · rcases locF_range i xs (k + 1) with h | ⟨j, h1, h2, h3⟩
      · exact .inl h
      · exact .inr ⟨j + 1, by simpa using h1, by rw [h2, show k + 1 + j = k + (j + 1) from by omega], h3⟩
abbrev Z32 : Array Value := #[.int .u8 0, .int .u8 0, .int .u8 0, .int .u8 0, .int .u8 0, .int .u8 0, .int .u8 0, .int .u8 0, .int .u8 0, .int .u8 0, .int .u8 0, .int .u8 0, .int .u8 0, .int .u8 0, .int .u8 0, .int .u8 0, .int .u8 0, .int .u8 0, .int .u8 0, .int .u8 0, .int .u8 0, .int .u8 0, .int .u8 0, .int .u8 0, .int .u8 0, .int .u8 0, .int .u8 0, .int .u8 0, .int .u8 0, .int .u8 0, .int .u8 0, .int .u8 0]
theorem C_block {w : World} {b t : Nat} {x : List Int} {fr : Nat × Nat} (h : w.heap[b]? = some (.cells (nums .u8 x).toArray t fr)) (hx : x.length ≤ 9223372036854775807 := by omega) : Kd.C (Kd.int .u8) w (some ⟨b, 0, none⟩) x.length x := by
  refine ⟨rfl, hx, fun _ => ⟨_, rfl, fun j p hp => ⟨[.int .u8 p], rfl, rfl, fun i u hu => ?_⟩⟩⟩
  have hi : i = 0 := by
    have := (List.getElem?_eq_some_iff.1 hu).1
    simpa using this
  subst hi
  have hu' : Value.int .u8 p = u := by simpa using hu
  subst hu'
  show w.cell? ((⟨b, 0, none⟩ : Addr).add (j * 1 + 0)) = _
  rw [Nat.mul_one, Nat.add_zero, add_plain, cell_of_row w b _ _ _ _ h]
  simp [nums, hp]
theorem one_nums (x : List Int) : (nums .u8 x).toArray.all (·.oneCell') = true := by
  rw [List.all_toArray, List.all_eq_true]
  intro v hv
  obtain ⟨y, -, rfl⟩ := List.mem_map.1 hv
  rfl
theorem read_arg (base g : Nat) (s : St) (i : Int) (w : World) (h : DiskAt base w g s) (hi : (decide (0 ≤ i) && decide (i < (s.good.length : Nat))) = false) :
    Calls Try.prog 16 #[.pointer (some ⟨g, 0, none⟩), .int .i64 i] w fun e w' => e = .returned (.tuple #[.slice none 0 0, .int .i64 1]) ∧ w = w' := by
  have H := Aside0.mk h
  have HI := Aside0.mk hi
  clear h hi
  go_enter Try.func16, Try.ntmps16
  go_wp2_with (go_at_call 33; refine (has_walk base g s i _ H.out).mono ?_; rintro e w' ⟨rfl, rfl⟩; rw [HI.out])
  go_ret2
  exact ⟨rfl, rfl⟩
theorem read_nil (i : Int) (w : World) :
    Calls Try.prog 16 #[.pointer none, .int .i64 i] w fun e w' => e = .returned (.tuple #[.slice none 0 0, .int .i64 1]) ∧ w = w' := by
  go_enter Try.func16, Try.ntmps16
  go_wp2_with (go_at_call 33; refine (has_nil i _).mono ?_; rintro e w' ⟨rfl, rfl⟩)
  go_ret2
  exact ⟨rfl, rfl⟩
theorem read_walk (base g : Nat) (s : St) (i : Nat) (w : World) (h : DiskAt base w g s) (hi : i < s.good.length) :
    Calls Try.prog 16 #[.pointer (some ⟨g, 0, none⟩), .int .i64 i] w fun e w' => ∃ v, e = .returned (.tuple #[v, .int .i64 0]) ∧ Kd.R (Kd.int .u8) 5 w' w.heap.size (fun _ => True) v (nowAt s i) ∧ Below w.heap.size w w' := by
  have H := Aside0.mk h
  obtain ⟨vg, vc, h1, -, h3, h4⟩ := h
  obtain ⟨gb, cg, rfl, hlg, -, hgc⟩ := R_front h3 (by omega)
  obtain ⟨cs, hcl, hK, hcell⟩ := hgc i hi
  obtain ⟨h32, rfl⟩ := secK_K hK
  have hc0 : w.cell? ⟨g, 0, none⟩ = some (.slice (some ⟨gb, 0, none⟩) s.good.length cg) := by rw [blk_cell h1]; rfl
  have hhas : (decide (0 ≤ (i : Int)) && decide ((i : Int) < (s.good.length : Nat))) = true := by rw [Bool.and_eq_true]; exact ⟨decide_eq_true (by omega), decide_eq_true (by omega)⟩
  have HH := Aside0.mk hhas
  have hcell' : ∀ j v, (nums .u8 s.good[i])[j]? = some v → w.cell? ((⟨gb, i * 32, none⟩ : Addr).add j) = some v := fun j v hj => by
    rw [show ((⟨gb, i * 32, none⟩ : Addr).add j) = ⟨gb, i * 32 + j, none⟩ from by unfold Addr.add; split <;> simp_all]
    exact hcell j v hj
  have hgx : s.good.getD i [] = s.good[i] := by rw [List.getD_eq_getElem?_getD, List.getElem?_eq_getElem hi]; rfl
  have hnw : nowAt s i = if 0 ≤ locF i s.cache 0 then (s.cache.getD (locF i s.cache 0).toNat (0, [])).2 else s.good[i] := by unfold nowAt; rw [Int.toNat_natCast, hgx]
  have hlr := locF_range i s.cache 0
  generalize nowAt s i = nw at hnw ⊢
  generalize s.good[i] = x at *
  have H1 := Aside0.mk hcell'
  have HN := Aside0.mk hnw
  have HL := Aside0.mk hlr
  have hsz : (Try.prog.info? 72).map (·.size) = some (nums .u8 x).length := by rw [nums_length, h32]; exact sizes.2
  have hsza : (Try.prog.info? 72).map (·.size) = some (nums .u8 x).toArray.size := by rw [List.size_toArray]; exact hsz
  have h32a : Z32.size = (nums .u8 x).toArray.size := by rw [show (nums .u8 x).toArray.size = 32 from by rw [List.size_toArray, nums_length, h32]]; rfl
  have hgl := blk_lt h1
  clear hcell hcell' hnw hlr hhas h1 h3 h4 hgc hgx hK hcl
  go_enter Try.func16, Try.ntmps16
  go_wp2_with (first
    | (go_at_call 33; refine (has_walk base g s i _ H.out).mono ?_; rintro e w' ⟨rfl, rfl⟩; rw [HH.out])
    | ((with_reducible refine wpList_load_seg rfl 72 (.tmp 17) rfl ⟨gb, i * 32, none⟩ rfl (nums .u8 x) _ Try.underlying72 rfl hsz H1.out ?_))
    | (refine wpList_store_row rfl 72 _ _ rfl _ (nums .u8 x).toArray rfl rfl 72 Z32 (blk_new _ _) hsza h32a (one_nums x) ?_; rw [World.setRow_alloc_new])
    | fail)
  have hB1 : Below w.heap.size w (w.alloc (.cells (nums .u8 x).toArray 72)) := (Below.refl _ _).alloc (Nat.le_refl _) _
  have HB1 := Aside0.mk hB1
  have hD1 := disk_below H.out hB1
  have hnew : (w.alloc (.cells (nums .u8 x).toArray 72)).heap[w.heap.size]? = some (.cells (nums .u8 x).toArray 72 (0, 0)) := blk_new w _
  generalize hw1 : w.alloc (.cells (nums .u8 x).toArray 72) = w1 at *
  have HNEW := Aside0.mk hnew
  have HD1 := Aside0.mk hD1
  clear hB1 hD1 hnew hw1 H1 hc0 HH hsz hsza h32a H
  have hgw : w.heap.size < w1.heap.size := blk_lt HNEW.out
  go_wp2_with fail
  refine (find_walk base g s i _ HD1.out).mono ?_
  rintro e w2 ⟨rfl, hB2⟩
  have hD2 := disk_below HD1.out hB2
  have hB02 := below_step HB1.out hB2
  have hnew2 : w2.heap[w.heap.size]? = some (.cells (nums .u8 x).toArray 72 (0, 0)) := (hB2.block _ hgw).trans HNEW.out
  clear HB1 HD1 HNEW hB2
  rcases HL.out with hl | ⟨j, hj, hl, -⟩
  · rw [hl] at HN
    have hnw := HN.out
    rw [if_neg (by decide)] at hnw
    subst hnw
    rw [hl]
    have hcl := XSlices.clone_walk (some ⟨w.heap.size, 0, none⟩) 32 nw w2 (C_block hnew2) (by rw [h32]; decide)
    rw [h32] at hcl
    have HCL := Aside0.mk hcl
    have HB := Aside0.mk hB02
    clear hcl hB02 HN HL hl hD2 hnew2
    go_wp2_with (go_at_call 36; refine HCL.out.mono ?_; rintro e w3 ⟨v, rfl, hR, hB3⟩)
    go_ret2
    exact ⟨v, rfl, Kd.R_lower hR HB.out.size, below_step HB.out hB3⟩
  · obtain ⟨vg2, vc2, h1, -, -, h4⟩ := hD2
    obtain ⟨gc, cc, rfl, hlcc, -, hgcc⟩ := R_front h4 (by omega)
    obtain ⟨cs, -, hK, hcell⟩ := hgcc j hj
    obtain ⟨hy32, rfl⟩ := cacK_K hK
    have hnw := HN.out
    rw [hl, if_pos (by omega), show ((0 + j : Nat) : Int).toNat = j from by omega, List.getD_eq_getElem?_getD, List.getElem?_eq_getElem hj, Option.getD_some] at hnw
    rw [hl, Nat.zero_add]
    obtain ⟨y, hy⟩ : ∃ y, s.cache[j] = y := ⟨_, rfl⟩
    rw [hy] at hcell hy32 hnw
    subst hnw
    have hc1 : w2.cell? ⟨g, 1, none⟩ = some (.slice (some ⟨gc, 0, none⟩) s.cache.length cc) := by rw [blk_cell h1]; rfl
    have hcell2 : ∀ q v, (nums .u8 y.2)[q]? = some v → w2.cell? ((⟨gc, j * 33 + 1, none⟩ : Addr).add q) = some v := fun q v hq => by
      rw [show ((⟨gc, j * 33 + 1, none⟩ : Addr).add q) = ⟨gc, j * 33 + (q + 1), none⟩ from by unfold Addr.add; split <;> simp_all [Nat.add_assoc, Nat.add_comm]]
      exact hcell (q + 1) v (by unfold cacCells; exact hq)
    have H2 := Aside0.mk hcell2
    have HB := Aside0.mk hB02
    have hsz : (Try.prog.info? 72).map (·.size) = some (nums .u8 y.2).length := by rw [nums_length, hy32]; exact sizes.2
    have hsza : (Try.prog.info? 72).map (·.size) = some (nums .u8 y.2).toArray.size := by rw [List.size_toArray]; exact hsz
    have h32b : (nums .u8 x).toArray.size = (nums .u8 y.2).toArray.size := by rw [List.size_toArray, List.size_toArray, nums_length, nums_length, h32, hy32]
    have hset := setRow_heap w2 w.heap.size _ (nums .u8 y.2).toArray _ _ hnew2
    have hBs := below_setRow hB02 (Nat.le_refl _) (nums .u8 y.2).toArray
    have hcl := XSlices.clone_walk (some ⟨w.heap.size, 0, none⟩) 32 y.2 _ (C_block hset) (by rw [hy32]; decide)
    rw [hy32] at hcl
    have HCL := Aside0.mk hcl
    have HS := Aside0.mk hBs
    have HNEW := Aside0.mk hnew2
    clear hcl hBs hset hnew2 hcell2 hcell hgcc h1 h4 hB02 HN HL hl hK hy
    go_wp2_with (first
      | ((with_reducible refine wpList_load_seg rfl 72 (.tmp 30) rfl ⟨gc, j * 33 + 1, none⟩ rfl (nums .u8 y.2) _ Try.underlying72 rfl hsz H2.out ?_))
      | (refine wpList_store_row rfl 72 (.tmp 6) (.tmp 31) rfl w.heap.size (nums .u8 y.2).toArray rfl rfl 72 _ HNEW.out hsza h32b (one_nums y.2) ?_)
      | (go_at_call 36; refine HCL.out.mono ?_; rintro e w3 ⟨v, rfl, hR, hB3⟩))
    go_ret2
    exact ⟨v, rfl, Kd.R_lower hR HS.out.size, below_step HS.out hB3⟩
/-! ### Write -/
def put (c : List (Int × List Int)) (i : Int) (b : List Int) : List (Int × List Int) := if 0 ≤ locF i c 0 then c.set (locF i c 0).toNat (i, b) else c ++ [(i, b)]
def Write (s : St) (i : Int) (b : List Int) : Int × St :=
  if (decide (0 ≤ i) && decide (i < (s.good.length : Nat))) = true ∧ b.length = 32 then (if (Burn s).1 = true then (0, { (Burn s).2 with cache := put s.cache i b }) else (10, s)) else (1, s)
theorem write_nil (i : Int) (A : Option Addr) (n c : Nat) (w : World) :
    Calls Try.prog 12 #[.pointer none, .int .i64 i, .slice A n c] w fun e w' => e = .returned (.int .i64 1) ∧ w = w' := by
  go_enter Try.func12, Try.ntmps12
  go_wp2_with (go_at_call 33; refine (has_nil i _).mono ?_; rintro e w' ⟨rfl, rfl⟩)
  go_ret
  exact ⟨rfl, rfl⟩
theorem write_arg (base g : Nat) (s : St) (i : Int) (A : Option Addr) (n c : Nat) (w : World) (h : DiskAt base w g s) (hb : ¬ ((decide (0 ≤ i) && decide (i < (s.good.length : Nat))) = true ∧ n = 32)) :
    Calls Try.prog 12 #[.pointer (some ⟨g, 0, none⟩), .int .i64 i, .slice A n c] w fun e w' => e = .returned (.int .i64 1) ∧ w = w' := by
  have H := Aside0.mk h
  clear h
  cases hq : (decide (0 ≤ i) && decide (i < (s.good.length : Nat))) with
  | false =>
    have HQ := Aside0.mk hq
    clear hq hb
    go_enter Try.func12, Try.ntmps12
    go_wp2_with (go_at_call 33; refine (has_walk base g s i _ H.out).mono ?_; rintro e w' ⟨rfl, rfl⟩; rw [HQ.out])
    go_ret
    exact ⟨rfl, rfl⟩
  | true =>
    have hn : ¬ n = 32 := fun hn => hb ⟨hq, hn⟩
    have hnb : (((n : Nat) : Int) != 32) = true := by simp; omega
    have hn2 : ¬ ((n : Nat) : Int) = 32 := by omega
    have HQ := Aside0.mk hq
    clear hq hb
    go_enter Try.func12, Try.ntmps12
    go_wp2_with (go_at_call 33; refine (has_walk base g s i _ H.out).mono ?_; rintro e w' ⟨rfl, rfl⟩; rw [HQ.out])
    go_ret
    exact ⟨rfl, rfl⟩
theorem write_down (base g : Nat) (s : St) (i : Int) (A : Option Addr) (c : Nat) (w : World) (h : DiskAt base w g s) (hb : (decide (0 ≤ i) && decide (i < (s.good.length : Nat))) = true) (hf : s.fuse ≤ 9223372036854775807) (hB : (Burn s).1 = false) :
    Calls Try.prog 12 #[.pointer (some ⟨g, 0, none⟩), .int .i64 i, .slice A 32 c] w fun e w' => e = .returned (.int .i64 10) ∧ DiskAt base w' g (Burn s).2 ∧ KeepD base w w' := by
  have H := Aside0.mk h
  have HQ := Aside0.mk hb
  have HBB := Aside0.mk hB
  clear h hb hB
  go_enter Try.func12, Try.ntmps12
  go_wp2_with (first
    | (go_at_call 33; refine (has_walk base g s i _ H.out).mono ?_; rintro e w' ⟨rfl, rfl⟩; rw [HQ.out])
    | (go_at_call 34; refine (burn_walk base g s _ H.out hf).mono ?_; rintro e w1 ⟨rfl, hD, hK⟩; rw [HBB.out]; have HD := Aside0.mk hD; have HK := Aside0.mk hK; clear hD hK))
  go_ret
  exact ⟨rfl, HD.out, HK.out⟩
theorem wpList_copy_seg {P : Program} {ops : Array Oper} {rest : List Oper} {o : Oper} {a : Act} {w : World} {Q : Exit → Act → World → Prop} (hgd : o.guard = none) (d s : Operand) (dT sT : TypeId)
    (ho : o.op = .call { callee := .builtin .copy, args := #[d, s], argTypes := #[dT, sT] }) (elem : TypeId) (hu : P.underlying dT = some (.slice elem)) (hsz : (P.info? elem).map (·.size) = some 1)
    (b off dLen dCap : Nat) (ad : Addr) (sLen sCap : Nat) (hd : a.eval d = .slice (some ⟨b, off, none⟩) dLen dCap) (hs : a.eval s = .slice (some ad) sLen sCap) (cs : List Value) (hn : cs.length = Nat.min sLen dLen)
    (hsrc : ∀ j v, cs[j]? = some v → w.cell? (ad.add j) = some v) (hc : ∀ j, j < cs.length → (w.cell? ⟨b, off + j, none⟩).isSome = true) (hf : ∀ j, j < cs.length → w.frozen? ⟨b, off + j, none⟩ = false) (h1 : ∀ v ∈ cs, v.oneCell' = true)
    (h : wpList P ops Q rest (a.put o.dst (goInt cs.length)) (w.setCells b off cs)) : wpList P ops Q (o :: rest) a w := by
  refine wpList_plain hgd fun K hK => ?_
  have hrun := run_copy_cells (P := P) w dT sT o.type elem b off dLen dCap ad sLen sCap cs hu hsz hn hsrc hc hf h1
  unfold Oper.wp
  simp [execOp, ho, resolve, invoke, builtin, hd, hs, hrun, Result.andThen]
  exact hK _ _ h
theorem R_type_grown {α : Type} {d : Kd α} {e base gc q0 : Nat} {w w1 : World} {ok : Nat → Prop} {v : Value} {xs : List α} {cells : Array Value} (h : d.R e w base ok v xs) (hg : w.grownBy w1 (some gc)) (hc : w.heap[gc]? = some (.cells cells q0 (0, 0))) (he : ∀ q, q ∈ e :: d.E → q ≠ q0) : d.R e w1 base ok v xs :=
  Kd.R_mono (Kd.R_move (Kd.R_bound h) (fun i hi => by
    obtain ⟨-, -, h4, q, hq, cells', hc'⟩ := hi
    refine hg.block i h4 (fun e' => ?_)
    injection e' with e'
    subst e'
    rw [hc] at hc'
    injection hc' with hc'
    injection hc' with _ h5 _
    exact he q hq h5.symm)) (fun _ hk => hk.1)
theorem disk_put (base g : Nat) (s : St) (w : World) (h : DiskAt base w g s) (k : Nat) (hk : k < s.cache.length) (b : List Int) (hb : b.length = 32) :
    ∃ gc cc, w.cell? ⟨g, 1, none⟩ = some (.slice (some ⟨gc, 0, none⟩) s.cache.length cc) ∧ (∀ j, j < (nums .u8 b).length → (w.cell? ⟨gc, k * 33 + 1 + j, none⟩).isSome = true) ∧ (∀ j, j < (nums .u8 b).length → w.frozen? ⟨gc, k * 33 + 1 + j, none⟩ = false) ∧
      DiskAt base (w.setCells gc (k * 33 + 1) (nums .u8 b)) g { s with cache := s.cache.set k ((s.cache[k]).1, b) } ∧ KeepD base w (w.setCells gc (k * 33 + 1) (nums .u8 b)) := by
  obtain ⟨vg, vc, h1, h2, h3, h4⟩ := h
  obtain ⟨gc, cc, rfl, hlc, hbc, hcc⟩ := R_front h4 (by omega)
  obtain ⟨cs, hcl, hK, hcell⟩ := hcc k hk
  obtain ⟨hy32, rfl⟩ := cacK_K hK
  have hlen : (cacCells s.cache[k]).length = 33 := hcl
  have hnb : (nums .u8 b).length = 32 := by rw [nums_length, hb]
  obtain ⟨cells, htype⟩ := own_typed h4.2.choose_spec.1 gc (by simp [Value.ownBlock])
  have hseg := Kd.R_seg h4 (k : Int) (by omega) (by omega) (c := cacCells s.cache[k]) (seg := nums .u8 b) (j := 1) hlen (by rw [Int.toNat_natCast]; exact hcell) (by rw [hnb]; decide) (x' := ((s.cache[k]).1, b)) (okp := fun _ => False)
    (by
      have : (cacCells s.cache[k]).take 1 ++ nums .u8 b ++ (cacCells s.cache[k]).drop (1 + (nums .u8 b).length) = cacCells ((s.cache[k]).1, b) := by
        rw [List.drop_of_length_le (by rw [hlen, hnb]; decide), List.append_nil]
        unfold cacCells; rfl
      rw [this]; exact cacK_M hb) (fun _ hk => hk.elim)
  rw [Int.toNat_natCast] at hseg
  obtain ⟨hR, hG⟩ := hseg
  refine ⟨gc, cc, by rw [blk_cell h1]; rfl, fun j hj => ?_, fun j _ => blk_frozen htype _, ⟨vg, _, ?_, h2, ?_, hR⟩, KeepD.of_grown htype (.inr (.inr rfl)) hbc hG⟩
  · have hj' : 1 + j < (cacCells s.cache[k]).length := by rw [hlen]; rw [hnb] at hj; omega
    obtain ⟨v, hv⟩ : ∃ v, (cacCells s.cache[k])[1 + j]? = some v := ⟨_, List.getElem?_eq_getElem hj'⟩
    have hv2 : w.cell? ⟨gc, k * 33 + (1 + j), none⟩ = some v := hcell (1 + j) v hv
    rw [show k * 33 + 1 + j = k * 33 + (1 + j) from Nat.add_assoc _ _ _, hv2]; rfl
  · exact (hG.block g (blk_lt h1) (fun e => by
      injection e with e
      subst e
      exact absurd rfl (blk_ne h1 htype (by decide)))).trans h1
  · exact R_type_grown h3 hG htype (by intro q hq; simp [secK, Kd.arr, Kd.int, Kd.scalar] at hq; omega)
end Go.Proofs.Ytmpiljfpgfhljaa.XDisk
