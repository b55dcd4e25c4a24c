/-
  package disk by walks, third part: Flush, Crash, New.
-/
import Derived.Laws.CopyOwn
import Derived.ArgAppend
import Derived.Below
import Derived.BigQuiet
import Derived.Deep.AppendLies
import Derived.Deep.CutBlock
import Derived.Deep.DeepCutAuto
import Derived.Deep.Draws
import Derived.Deep.LoopGhost
import Derived.Deep.OwnRows
import Derived.Deep.QuietTactic
import Derived.Deep.RegionHeld3
import Derived.Deep.WholeRow
import Derived.KernelRfl
import Derived.Laws.BitsLemmas
import Derived.Laws.BytesArg
import Derived.Laws.IdiomCopy
import Derived.Laws.MakeOwn
import Derived.Laws.OwnMore
import Derived.Laws.Rows
import Derived.Laws.Slices
import Derived.Lib.AppendStr
import Derived.Lib.ConvBytes
import Derived.Lib.Hide
import Derived.Maps.AppendAt
import Derived.OrdersHeld
import Derived.Outline
import Derived.OwnWalk
import Derived.RowKit
import Derived.RowKit3
import Derived.Tactics
import Derived.WalkKit
import Derived.WideLaws
import Derived.Test.YtmpiljfpgfhljaaProg
import Derived.Test.YtmpiljfpgfhljaaWApart
import Derived.Test.YtmpiljfpgfhljaaWArr
import Derived.Test.YtmpiljfpgfhljaaWAt
import Derived.Test.YtmpiljfpgfhljaaWEqStruct
import Derived.Test.YtmpiljfpgfhljaaWFoot
import Derived.Test.YtmpiljfpgfhljaaWFootNe
import Derived.Test.YtmpiljfpgfhljaaWFour
import Derived.Test.YtmpiljfpgfhljaaWGuard
import Derived.Test.YtmpiljfpgfhljaaWInv
import Derived.Test.YtmpiljfpgfhljaaWInvWords
import Derived.Test.YtmpiljfpgfhljaaWKept
import Derived.Test.YtmpiljfpgfhljaaWLast
import Derived.Test.YtmpiljfpgfhljaaWMore
import Derived.Test.YtmpiljfpgfhljaaWN
import Derived.Test.YtmpiljfpgfhljaaWNEv
import Derived.Test.YtmpiljfpgfhljaaWQPut
import Derived.Test.YtmpiljfpgfhljaaWRepsOne
import Derived.Test.YtmpiljfpgfhljaaWShare
import Derived.Test.YtmpiljfpgfhljaaWTab
import Derived.Test.YtmpiljfpgfhljaaWWords
import Derived.Test.YtmpiljfpgfhljaaWZeros
import Derived.Test.YtmpiljfpgfhljaaXSlices

import Derived.StillTailTactics
import Derived.Test.YtmpiljfpgfhljaaXDisk2
namespace Go.Proofs.Ytmpiljfpgfhljaa.XDisk
open Go.RowKit Go.Proofs.YtmpiljfpgfhljaaW.PrintWords Go.Proofs.YtmpiljfpgfhljaaW.PrintLast Go.Proofs.YtmpiljfpgfhljaaW.PrintMore
set_option linter.unusedVariables false
set_option linter.unusedSimpArgs false
attribute [local irreducible] locF cacCells
abbrev Z33l : Array Value := #[.int .i64 0, .int .u8 0, .int .u8 0, .int .u8 0, .int .u8 0, .int .u8 0, .int .u8 0, .int .u8 0, .int .u8 0, .int .u8 0, .int .u8 0, .int .u8 0, .int .u8 0, .int .u8 0, .int .u8 0, .int .u8 0, .int .u8 0, .int .u8 0, .int .u8 0, .int .u8 0, .int .u8 0, .int .u8 0, .int .u8 0, .int .u8 0, .int .u8 0, .int .u8 0, .int .u8 0, .int .u8 0, .int .u8 0, .int .u8 0, .int .u8 0, .int .u8 0, .int .u8 0]
theorem still_load_seg {P : Program} {o : Oper} {a : Act} {w : World} {K : Act → Prop} (ty : TypeId) (x : Operand) (ho : o.op = .load ty x)
    (ad : Addr) (hx : a.eval x = .pointer (some ad)) (cs : List Value) (d : TypeDesc) (hu : P.underlying ty = some d) (hd : (match d with | .struct _ | .array _ _ => true | _ => false) = true) (hi : (P.info? ty).map (·.size) = some cs.length)
    (hc : ∀ j v, cs[j]? = some v → w.cell? (ad.add j) = some v) (h : K (a.put o.dst (.agg cs.toArray))) : o.still P a w K := by
  unfold Oper.still execOp
  simp only [ho, hx, Instr.loadAt, Instr.sureAddr, Sem.run_bind, Sem.run_pure, Result.andThen_ok, loadCells_seg hu hd hi hc, Oper.stillUpon_value]
  exact h
theorem wpList_store_seg {P : Program} {ops : Array Oper} {rest : List Oper} {o : Oper} {a : Act} {w : World} {Q : Exit → Act → World → Prop} (hN : o.dst = none) (hgd : o.guard = none) (t : TypeId) (p x : Operand) (ho : o.op = .store t p x)
    (g off : Nat) (haddr : a.eval p = .pointer (some ⟨g, off, none⟩)) (seg : List Value) (hx : a.eval x = .agg seg.toArray) (cur : Array Value) (e : TypeId) (hh : w.heap[g]? = some (.cells cur e (0, 0))) (ht : (P.info? t).map (·.size) = some seg.length)
    (hfit : off + seg.length ≤ cur.size) (h1 : ∀ q ∈ seg, q.oneCell' = true) (h : wpList P ops Q rest a (w.setCells g off seg)) : wpList P ops Q (o :: rest) a w := by
  refine wpList_plain hgd fun K hK => ?_
  have hrun := run_store_run (P := P) t (.agg seg.toArray) seg hh rfl ht hfit h1
  unfold Oper.wp execOp
  simp only [ho, haddr, hx, Sem.run_bind, Sem.run_pure, Result.andThen_ok, hrun]
  show K (a.put o.dst undef) _
  rw [hN]
  exact hK a _ h
theorem disk_good (base g : Nat) (s : St) (w : World) (h : DiskAt base w g s) (k : Nat) (hk : k < s.good.length) (b : List Int) (hb : b.length = 32) :
    ∃ gb cg, w.cell? ⟨g, 0, none⟩ = some (.slice (some ⟨gb, 0, none⟩) s.good.length cg) ∧ (∃ cur, w.heap[gb]? = some (.cells cur 72 (0, 0)) ∧ k * 32 + 32 ≤ cur.size) ∧
      DiskAt base (w.setCells gb (k * 32) (nums .u8 b)) g { s with good := s.good.set k b } ∧ KeepD base w (w.setCells gb (k * 32) (nums .u8 b)) ∧ (w.setCells gb (k * 32) (nums .u8 b)).cell? ⟨g, 1, none⟩ = w.cell? ⟨g, 1, none⟩ := by
  obtain ⟨vg, vc, h1, h2, h3, h4⟩ := h
  obtain ⟨gb, cg, rfl, hlc, hbc, hcc⟩ := R_front h3 (by omega)
  obtain ⟨cs, hcl, hK, hcell⟩ := hcc k hk
  obtain ⟨hy32, rfl⟩ := secK_K hK
  have hlen : (nums .u8 s.good[k]).length = 32 := hcl
  have hnb : (nums .u8 b).length = 32 := by rw [nums_length, hb]
  obtain ⟨cells, htype⟩ := own_typed h3.2.choose_spec.1 gb (by simp [Value.ownBlock])
  have hseg := Kd.R_seg h3 (k : Int) (by omega) (by omega) (c := nums .u8 s.good[k]) (seg := nums .u8 b) (j := 0) hlen (by rw [Int.toNat_natCast]; exact hcell) (by rw [hnb]; decide) (x' := b) (okp := fun _ => False)
    (by
      have : (nums .u8 s.good[k]).take 0 ++ nums .u8 b ++ (nums .u8 s.good[k]).drop (0 + (nums .u8 b).length) = nums .u8 b := by
        rw [List.drop_of_length_le (by rw [hlen, hnb]; decide), List.append_nil, List.take_zero, List.nil_append]
      rw [this]; exact secK_M hb) (fun _ hk => hk.elim)
  rw [Int.toNat_natCast] at hseg
  obtain ⟨hR, hG⟩ := hseg
  have hfit : k * 32 + 32 ≤ cells.size := by
    have hj' : 31 < (nums .u8 s.good[k]).length := by rw [hlen]; decide
    obtain ⟨v, hv⟩ : ∃ v, (nums .u8 s.good[k])[31]? = some v := ⟨_, List.getElem?_eq_getElem hj'⟩
    have hv2 : w.cell? ⟨gb, k * 32 + 31, none⟩ = some v := hcell 31 v hv
    rw [blk_cell htype] at hv2
    have := (Array.getElem?_eq_some_iff.1 hv2).1
    omega
  have h1' : (w.setCells gb (k * 32) (nums .u8 b)).heap[g]? = some (.cells #[.slice (some ⟨gb, 0, none⟩) s.good.length cg, vc, .int .i64 s.fuse] 69 (0, 0)) := (hG.block g (blk_lt h1) (fun e => by
      injection e with e
      subst e
      exact absurd rfl (blk_ne h1 htype (by decide)))).trans h1
  refine ⟨gb, cg, by rw [blk_cell h1]; rfl, ⟨cells, htype, hfit⟩, ⟨_, vc, h1', h2, hR, ?_⟩, KeepD.of_grown htype (.inr (.inl rfl)) hbc hG, by rw [blk_cell h1', blk_cell h1]⟩
  · exact R_type_grown h4 hG htype (by intro q hq; simp [cacK, secK, Kd.pair, Kd.arr, Kd.int, Kd.scalar] at hq; omega)
theorem disk_drew {base : Nat} {w : World} {g : Nat} {s : St} (h : DiskAt base w g s) : DiskAt base w.drew g s := disk_drewN h 1
theorem KeepD.drew {base : Nat} {w w' : World} (h : KeepD base w w') : KeepD base w w'.drew := h.drewN 1
def over (good : List (List Int)) (cs : List (Int × List Int)) : List (List Int) := cs.foldl (fun g x => g.set x.1.toNat x.2) good
theorem over_len (cs : List (Int × List Int)) : ∀ good, (over good cs).length = good.length := by
  induction cs with
  | nil => intro _; rfl
  | cons x cs ih => intro good; show (over (good.set _ _) cs).length = _; rw [ih, List.length_set]
theorem over_succ (good : List (List Int)) (cs : List (Int × List Int)) (k : Nat) (hk : k < cs.length) : over good (cs.take (k + 1)) = (over good (cs.take k)).set (cs[k]).1.toNat (cs[k]).2 := by
  unfold over; rw [List.take_succ_eq_append_getElem hk, List.foldl_append]; rfl
/-- What lies in the cache's row at a place. -/
theorem cache_at (base g : Nat) (s : St) (w : World) (h : DiskAt base w g s) (A : Option Addr) (c : Nat) (hc : w.cell? ⟨g, 1, none⟩ = some (.slice A s.cache.length c)) (k : Nat) (hk : k < s.cache.length) :
    ∃ gc, A = some ⟨gc, 0, none⟩ ∧ (s.cache[k]).2.length = 32 ∧ ∀ j v, (cacCells s.cache[k])[j]? = some v → w.cell? ((⟨gc, k * 33, none⟩ : Addr).add j) = some v := by
  obtain ⟨vg, vc, h1, -, -, h4⟩ := h
  have hvc : w.cell? ⟨g, 1, none⟩ = some vc := by rw [blk_cell h1]; rfl
  rw [hvc] at hc
  injection hc with hc
  subst hc
  obtain ⟨gc, cc, hv, -, -, hcc⟩ := R_front h4 (by omega)
  injection hv with hv
  obtain ⟨cs, -, hK, hcell⟩ := hcc k hk
  obtain ⟨h32, rfl⟩ := cacK_K hK
  refine ⟨gc, hv, h32, fun j v hj => ?_⟩
  rw [show ((⟨gc, k * 33, none⟩ : Addr).add j) = ⟨gc, k * 33 + j, none⟩ from by unfold Addr.add; split <;> simp_all]
  exact hcell j v hj
theorem cache_val {base g : Nat} {s : St} {w : World} (h : DiskAt base w g s) : ∃ A c, w.cell? ⟨g, 1, none⟩ = some (.slice A s.cache.length c) ∧ s.cache.length ≤ 9223372036854775807 := by
  obtain ⟨vg, vc, h1, -, -, h4⟩ := h
  obtain ⟨A, c, rfl, -, hC⟩ := Kd.R_reads h4
  exact ⟨A, c, by rw [blk_cell h1]; rfl, hC.2.1⟩
theorem cac_one (x : Int × List Int) : (cacCells x).toArray.all (·.oneCell') = true := by
  rw [List.all_toArray, List.all_eq_true]
  intro v hv
  unfold cacCells at hv
  rcases List.mem_cons.1 hv with rfl | hv
  · rfl
  · obtain ⟨y, -, rfl⟩ := List.mem_map.1 hv
    rfl
/-- The cache is none any more. -/
theorem disk_flushed (base g : Nat) (s : St) (w : World) (h : DiskAt base w g s) : DiskAt base (w.setCell ⟨g, 1, none⟩ (.slice none 0 0)) g { s with cache := [] } ∧ KeepD base w (w.setCell ⟨g, 1, none⟩ (.slice none 0 0)) ∧ w.frozen? ⟨g, 1, none⟩ = false := by
  obtain ⟨vg, vc, h1, h2, h3, h4⟩ := h
  exact ⟨⟨vg, _, blk_set h1 1 _, h2, Kd.R_set h3 h1 (by intro q hq; simp [secK, Kd.arr, Kd.int, Kd.scalar] at hq; omega) _ _, Kd.R_nil _ _ _ _ _⟩, KeepD.set_ h1 (.inl rfl) h2 _ _, blk_frozen h1 _⟩
theorem flush_nil (w : World) : Calls Try.prog 14 #[.pointer none] w fun e w' => e = .returned (.int .i64 1) ∧ w = w' := by
  go_enter Try.func14, Try.ntmps14
  go_wp2
  go_ret
  exact ⟨rfl, rfl⟩
theorem flush_down (base g : Nat) (s : St) (w : World) (h : DiskAt base w g s) (hf : s.fuse ≤ 9223372036854775807) (hB : (Burn s).1 = false) :
    Calls Try.prog 14 #[.pointer (some ⟨g, 0, none⟩)] w fun e w' => e = .returned (.int .i64 10) ∧ DiskAt base w' g (Burn s).2 ∧ KeepD base w w' := by
  have H := Aside0.mk h
  have HBB := Aside0.mk hB
  clear h hB
  go_enter Try.func14, Try.ntmps14
  go_wp2_with (go_at_call 34; refine (burn_walk base g s _ H.out hf).mono ?_; rintro e w1 ⟨rfl, hD, hK⟩; rw [HBB.out]; have HD := Aside0.mk hD; have HK := Aside0.mk hK; clear hD hK)
  go_ret
  exact ⟨rfl, HD.out, HK.out⟩
set_option maxRecDepth 100000 in
set_option maxHeartbeats 2000000 in
theorem flush_ok (base g : Nat) (s s1 : St) (w : World) (h : DiskAt base w g s) (hf : s.fuse ≤ 9223372036854775807) (hB : (Burn s).1 = true) (hs1 : (Burn s).2 = s1) (hwf : ∀ x ∈ s1.cache, 0 ≤ x.1 ∧ x.1 < (s1.good.length : Nat)) :
    Calls Try.prog 14 #[.pointer (some ⟨g, 0, none⟩)] w fun e w' => e = .returned (.int .i64 0) ∧ DiskAt base w' g { s1 with good := over s1.good s1.cache, cache := [] } ∧ KeepD base w w' := by
  have H := Aside0.mk h
  have HBB := Aside0.mk hB
  have HS1 := Aside0.mk hs1
  have HWF := Aside0.mk hwf
  clear h hB hs1 hwf
  go_enter Try.func14, Try.ntmps14
  go_wp2_with (go_at_call 34; refine (burn_walk base g s _ H.out hf).mono ?_; rintro e w1 ⟨rfl, hD, hK⟩; rw [HBB.out]; rw [HS1.out] at hD; obtain ⟨A, c, hc1, hmx⟩ := cache_val hD; have HD := Aside0.mk hD; have HK := Aside0.mk hK; clear hD hK)
  go_loopw [15] (fun v15 wr => ∃ k : Nat, k ≤ s1.cache.length ∧ v15 = .int .i64 k ∧ Aside0 (wr.cell? ⟨g, 1, none⟩ = some (.slice A s1.cache.length c)) ∧ Aside0 (DiskAt base wr g { s1 with good := over s1.good (s1.cache.take k) }) ∧ Aside0 (KeepD base w wr)) (fun v15 _ => s1.cache.length - (intOf v15).toNat)
  case atStart => exact ⟨0, Nat.zero_le _, rfl, ⟨hc1⟩, HD, HK⟩
  case round =>
    clear HD HK hc1
    obtain ⟨k, hk, rfl, HC1, HD, HK⟩ := hrel
    by_cases hlk : k < s1.cache.length
    · obtain ⟨gc, rfl, h32, hce⟩ := cache_at base g _ wr HD.out A c HC1.out k hlk
      obtain ⟨hr1, hr2⟩ := HWF.out _ (List.getElem_mem hlk)
      have hov := over_succ s1.good s1.cache k hlk
      simp only at hce h32
      generalize s1.cache[k] = x at *
      obtain ⟨x1, d⟩ := x
      simp only at hr1 hr2 h32 hov
      obtain ⟨m, rfl⟩ := Int.eq_ofNat_of_zero_le hr1
      rw [Int.toNat_natCast] at hov
      have hlen : m < (over s1.good (s1.cache.take k)).length := by rw [over_len]; omega
      have hlen2 := over_len (s1.cache.take k) s1.good
      generalize over s1.good (s1.cache.take k) = gd at *
      obtain ⟨x, hx⟩ : ∃ x, (((m : Nat) : Int), d) = x := ⟨_, rfl⟩
      rw [hx] at hce
      have hx1 : cacCells x = .int .i64 ((m : Nat) : Int) :: nums .u8 d := by rw [← hx]; unfold cacCells; rfl
      have HCE := Aside0.mk hce
      have hcl : (cacCells x).length = 33 := by rw [hx1, List.length_cons, nums_length, h32]
      have hsz : (Try.prog.info? 74).map (·.size) = some (cacCells x).length := by rw [hcl]; exact sizes.1
      have hsza : (Try.prog.info? 74).map (·.size) = some (cacCells x).toArray.size := by rw [List.size_toArray]; exact hsz
      have hold : Z33l.size = (cacCells x).toArray.size := by rw [show (cacCells x).toArray.size = 33 from by rw [List.size_toArray, hcl]]; rfl
      have HOV := Aside0.mk hov
      have HX1 := Aside0.mk hx1
      clear hce hov hx hx1
      go_wp2_with (first
        | ((with_reducible refine wpList_load_seg rfl 74 (.tmp 17) rfl ⟨gc, k * 33, none⟩ rfl (cacCells x) _ Try.underlying74 rfl hsz HCE.out ?_))
        | (refine wpList_store_row rfl 74 (.tmp 4) (.tmp 18) rfl _ (cacCells x).toArray rfl rfl 74 Z33l (blk_new _ _) hsza hold (cac_one x) ?_; rw [World.setRow_alloc_new]))
      have hB1 : Below wr.heap.size wr (wr.alloc (.cells (cacCells x).toArray 74)) := (Below.refl _ _).alloc (Nat.le_refl _) _
      have hD1 := disk_below HD.out hB1
      have hK1 := HK.out.trans (KeepD.of_below (base := base) hB1)
      have hnew : (wr.alloc (.cells (cacCells x).toArray 74)).heap[wr.heap.size]? = some (.cells (cacCells x).toArray 74 (0, 0)) := blk_new wr _
      have hc1' := (hB1.cell (p := ⟨g, 1, none⟩) (World.block_lt_of_cell? wr _ HC1.out)).trans HC1.out
      generalize hb : wr.heap.size = bl at *
      generalize hw2 : wr.alloc (.cells (cacCells x).toArray 74) = w2 at *
      obtain ⟨gb, cg, hc0, ⟨cur, hcur, hfit⟩, hDn, hKn, hsame⟩ := disk_good base g _ w2.drew (disk_drew hD1) m hlen d h32
      have hc0' : w2.cell? ⟨g, 0, none⟩ = some (.slice (some ⟨gb, 0, none⟩) gd.length cg) := hc0
      have hn0 : w2.cell? ⟨bl, 0, none⟩ = some (.int .i64 ((m : Nat) : Int)) := by rw [blk_cell hnew, HX1.out]; rfl
      have hn1 : ∀ j v, (nums .u8 d)[j]? = some v → w2.cell? ((⟨bl, 1, none⟩ : Addr).add j) = some v := fun j v hj => by
        rw [show ((⟨bl, 1, none⟩ : Addr).add j) = ⟨bl, 1 + j, none⟩ from by unfold Addr.add; split <;> simp_all, blk_cell hnew, HX1.out]
        rw [List.getElem?_toArray, Nat.add_comm, List.getElem?_cons_succ]; exact hj
      have hszs : (Try.prog.info? 72).map (·.size) = some (nums .u8 d).length := by rw [nums_length, h32]; exact sizes.2
      have HN1 := Aside0.mk hn1
      have HCUR := Aside0.mk hcur
      have HDN := Aside0.mk hDn
      have HKN := Aside0.mk ((hK1.drew).trans hKn)
      have HSAME := Aside0.mk (hsame.trans hc1')
      have hfit2 : m * 32 + (nums .u8 d).length ≤ cur.size := by rw [nums_length, h32]; exact hfit
      clear hB1 hD1 hK1 hnew hc1' hw2 hc0 hcur hDn hKn hsame hn1 hfit hsz hsza hold HCE HX1 HD HK HC1 hcl
      refine wp_region_still_tail 9 (by kernel_rfl) (by kernel_rfl) ?_
      simp only [List.take_succ_cons, List.take_zero, List.drop_succ_cons, List.drop_zero]
      iterate 7 still_step
      refine wpStill_step (fun K hK => ?_)
      refine still_load_seg 72 (.tmp 25) rfl ⟨bl, 1, none⟩ rfl (nums .u8 d) _ Try.underlying72 rfl hszs (fun j v hj => HN1.out j v hj) ?_
      refine hK _ ?_
      clear hK K
      still_step
      refine wpStill_nil ?_
      change wpList _ _ _ _ _ w2.drew
      refine wpList_store_seg rfl rfl 72 (.tmp 27) (.tmp 26) rfl gb (m * 32) rfl (nums .u8 d) rfl cur 72 HCUR.out hszs hfit2 (nums_one d) ?_
      go_wp2
      go_roundw
      case rel => exact ⟨k + 1, hlk, by go_num, HSAME, ⟨by rw [HOV.out]; exact HDN.out⟩, HKN⟩
      case measure => simp [intOf]; omega
    · obtain rfl : k = s1.cache.length := by omega
      have hD := HD.out
      rw [List.take_length] at hD
      have hf := disk_flushed base g _ wr hD
      obtain ⟨hF1, hF2, hF3⟩ := hf
      have HF := Aside0.mk hF1
      have HF2 := Aside0.mk (HK.out.trans hF2)
      have HC := HC1.out
      clear hF1 hF2 hD HD HK
      go_wp2
      go_ret
      exact ⟨rfl, HF.out, HF2.out⟩
end Go.Proofs.Ytmpiljfpgfhljaa.XDisk
