/-
  package disk by walks, fourth part: New, Crash.
-/
import Derived.Laws.CopyOwn
import Derived.ArgAppend
import Derived.Below
import Derived.BigQuiet
import Derived.Deep.AppendLies
import Derived.Deep.CutBlock
import Derived.Deep.DeepCutAuto
import Derived.Deep.Draws
import Derived.Deep.LoopGhost
import Derived.Deep.OwnRows
import Derived.Deep.QuietTactic
import Derived.Deep.RegionHeld3
import Derived.Deep.WholeRow
import Derived.KernelRfl
import Derived.Laws.BitsLemmas
import Derived.Laws.BytesArg
import Derived.Laws.IdiomCopy
import Derived.Laws.MakeOwn
import Derived.Laws.OwnMore
import Derived.Laws.Rows
import Derived.Laws.Slices
import Derived.Lib.AppendStr
import Derived.Lib.ConvBytes
import Derived.Lib.Hide
import Derived.Maps.AppendAt
import Derived.OrdersHeld
import Derived.Outline
import Derived.OwnWalk
import Derived.RowKit
import Derived.RowKit3
import Derived.Tactics
import Derived.WalkKit
import Derived.WideLaws
import Derived.Test.YtmpiljfpgfhljaaProg
import Derived.Test.YtmpiljfpgfhljaaWApart
import Derived.Test.YtmpiljfpgfhljaaWArr
import Derived.Test.YtmpiljfpgfhljaaWAt
import Derived.Test.YtmpiljfpgfhljaaWEqStruct
import Derived.Test.YtmpiljfpgfhljaaWFoot
import Derived.Test.YtmpiljfpgfhljaaWFootNe
import Derived.Test.YtmpiljfpgfhljaaWFour
import Derived.Test.YtmpiljfpgfhljaaWGuard
import Derived.Test.YtmpiljfpgfhljaaWInv
import Derived.Test.YtmpiljfpgfhljaaWInvWords
import Derived.Test.YtmpiljfpgfhljaaWKept
import Derived.Test.YtmpiljfpgfhljaaWLast
import Derived.Test.YtmpiljfpgfhljaaWMore
import Derived.Test.YtmpiljfpgfhljaaWN
import Derived.Test.YtmpiljfpgfhljaaWNEv
import Derived.Test.YtmpiljfpgfhljaaWQPut
import Derived.Test.YtmpiljfpgfhljaaWRepsOne
import Derived.Test.YtmpiljfpgfhljaaWShare
import Derived.Test.YtmpiljfpgfhljaaWTab
import Derived.Test.YtmpiljfpgfhljaaWWords
import Derived.Test.YtmpiljfpgfhljaaWZeros
import Derived.Test.YtmpiljfpgfhljaaXSlices

import Derived.StillTailTactics
import Derived.Test.YtmpiljfpgfhljaaXDisk3
namespace Go.Proofs.Ytmpiljfpgfhljaa.XDisk
open Go.RowKit Go.Proofs.YtmpiljfpgfhljaaW.PrintWords Go.Proofs.YtmpiljfpgfhljaaW.PrintLast Go.Proofs.YtmpiljfpgfhljaaW.PrintMore
set_option linter.unusedVariables false
set_option linter.unusedSimpArgs false
attribute [local irreducible] locF cacCells
def fresh (n : Nat) : St := { good := List.replicate n (List.replicate 32 0), cache := [], fuse := -1 }
def Z32v : Value := .agg #[.int .u8 0, .int .u8 0, .int .u8 0, .int .u8 0, .int .u8 0, .int .u8 0, .int .u8 0, .int .u8 0, .int .u8 0, .int .u8 0, .int .u8 0, .int .u8 0, .int .u8 0, .int .u8 0, .int .u8 0, .int .u8 0, .int .u8 0, .int .u8 0, .int .u8 0, .int .u8 0, .int .u8 0, .int .u8 0, .int .u8 0, .int .u8 0, .int .u8 0, .int .u8 0, .int .u8 0, .int .u8 0, .int .u8 0, .int .u8 0, .int .u8 0, .int .u8 0]
theorem info_sec : (Try.prog.info? 72).map (fun i => (i.zero, i.size, i.bytes)) = some (some Z32v, secK.sz, 32) := by kernel_rfl
theorem z32 : Z32v.cells.size = secK.sz := by kernel_rfl
theorem zero_M (w : World) (base : Nat) : secK.M w base (fun _ => False) (List.replicate 32 0) Z32v.cells.toList := secK_M (x := List.replicate 32 0) rfl
theorem new_disk (B : Nat) (w : World) (v : Value) (n : Nat) (hR : secK.R 72 w B (fun _ => True) v (List.replicate n (List.replicate 32 0))) (hB : B ≤ w.heap.size) : DiskAt B (w.alloc (.cells #[v, .slice none 0 0, .int .i64 (-1)] 69)) w.heap.size (fresh n) :=
  ⟨v, _, blk_new w _, hB, Kd.R_alloc hR _, Kd.R_nil _ _ _ _ _⟩
set_option maxRecDepth 100000 in
set_option maxHeartbeats 1000000 in
theorem new_in (s : Int) (n : Nat) (hn : mx 0 (mn s 1024) = (n : Int)) (w : World) :
    Calls Try.prog 11 #[.int .i64 s] w fun e w' => ∃ g, e = .returned (.pointer (some ⟨g, 0, none⟩)) ∧ DiskAt w.heap.size w' g (fresh n) ∧ Below w.heap.size w w' := by
  have arm : True := trivial
  rcases Int.lt_or_le 0 s with h | h
  rotate_left
  · have hz : n = 0 := by unfold mx mn at hn; omega
    subst hz
    clear hn
    have h1 : s ≤ 1024 := by omega
    have h2 : ¬ 0 < s := by omega
    go_enter Try.func11, Try.ntmps11
    go_wp2_with ((with_reducible refine gate_dst (N := 6) rfl ?_); refine Kd.R_make secK _ 72 rfl (N := 6) rfl 66 _ _ rfl 0 rfl rfl Try.underlying66 Z32v 32 info_sec z32 (by decide) (by decide) (List.replicate 32 0) (ok := fun _ => True) (okp := fun _ => False) (zero_M _ _) (fun _ hk => hk.elim) trivial (by decide) (by decide) (Below.refl _ _) (Nat.le_refl _) ?_; intro v3 w3 hR3 hB3 _ _; obtain ⟨A3, c3, rfl⟩ := Kd.R_slice hR3)
    go_ret
    exact ⟨_, rfl, new_disk _ _ _ _ hR3 hB3.size, hB3.alloc hB3.size _⟩
  · rcases Int.lt_or_le 1024 s with h' | h'
    · have hz : n = 1024 := by unfold mx mn at hn; omega
      subst hz
      clear hn
      have h1 : ¬ s ≤ 1024 := by omega
      go_enter Try.func11, Try.ntmps11
      go_wp2_with ((with_reducible refine gate_dst (N := 6) rfl ?_); refine Kd.R_make secK _ 72 rfl (N := 6) rfl 66 _ _ rfl 1024 rfl rfl Try.underlying66 Z32v 32 info_sec z32 (by decide) (by decide) (List.replicate 32 0) (ok := fun _ => True) (okp := fun _ => False) (zero_M _ _) (fun _ hk => hk.elim) trivial (by decide) (by decide) (Below.refl _ _) (Nat.le_refl _) ?_; intro v3 w3 hR3 hB3 _ _; obtain ⟨A3, c3, rfl⟩ := Kd.R_slice hR3)
      go_ret
      exact ⟨_, rfl, new_disk _ _ _ _ hR3 hB3.size, hB3.alloc hB3.size _⟩
    · have hz : n = s.toNat := by unfold mx mn at hn; omega
      subst hz
      have hl : s.toNat * 32 ≤ 281474976710656 := by omega
      have h0 : 0 ≤ s := by omega
      clear hn
      go_enter Try.func11, Try.ntmps11
      go_wp2_with ((with_reducible refine gate_dst (N := 6) rfl ?_); refine Kd.R_make secK _ 72 rfl (N := 6) rfl 66 _ _ rfl s rfl rfl Try.underlying66 Z32v 32 info_sec z32 (by decide) (by decide) (List.replicate 32 0) (ok := fun _ => True) (okp := fun _ => False) (zero_M _ _) (fun _ hk => hk.elim) trivial h0 hl (Below.refl _ _) (Nat.le_refl _) ?_; intro v3 w3 hR3 hB3 _ _; obtain ⟨A3, c3, rfl⟩ := Kd.R_slice hR3)
      go_ret
      rw [List.length_replicate] at hR3
      exact ⟨_, rfl, new_disk _ _ _ _ hR3 hB3.size, hB3.alloc hB3.size _⟩
def Bit (keep : Int) (k : Nat) : Bool := decide ((k : Int) < 62) && (Go.bits .and .i64 (keep / 2 ^ k) 1 == 1)
def mixed (old new : List Int) (c : Nat) : List Int := new.take c ++ old.drop c
def cutAt (cut : Int) : Nat := (mx 0 (mn cut 32)).toNat
def hit (keep torn cut : Int) (k : Nat) (x : Int × List Int) (g : List (List Int)) : List (List Int) :=
  if (k : Int) = torn then g.set x.1.toNat (mixed (g.getD x.1.toNat []) x.2 (cutAt cut)) else if Bit keep k = true then g.set x.1.toNat x.2 else g
def crashed (keep torn cut : Int) (good : List (List Int)) (cs : List (Int × List Int)) : Nat → List (List Int)
  | 0 => good
  | k + 1 => hit keep torn cut k (cs.getD k (0, [])) (crashed keep torn cut good cs k)
theorem hit_len (keep torn cut : Int) (k : Nat) (x : Int × List Int) (g : List (List Int)) : (hit keep torn cut k x g).length = g.length := by
  unfold hit; split
  · rw [List.length_set]
  · split
    · rw [List.length_set]
    · rfl
theorem crashed_len (keep torn cut : Int) (good : List (List Int)) (cs : List (Int × List Int)) (k : Nat) : (crashed keep torn cut good cs k).length = good.length := by
  induction k with
  | zero => rfl
  | succ k ih => show (hit _ _ _ _ _ _).length = _; rw [hit_len, ih]
theorem crash_nil (k t c : Int) (w : World) : Calls Try.prog 17 #[.pointer none, .int .i64 k, .int .i64 t, .int .i64 c] w fun e w' => e = .returned (.tuple #[]) ∧ w = w' := by
  go_enter Try.func17, Try.ntmps17
  go_wp2
  refine bodyPost_ret (results_none rfl _ _ _) rfl ?_
  exact ⟨rfl, rfl⟩
theorem disk_part (base g : Nat) (s : St) (w : World) (h : DiskAt base w g s) (k : Nat) (hk : k < s.good.length) (b : List Int) (hb : b.length ≤ 32) :
    ∃ gb cg, w.cell? ⟨g, 0, none⟩ = some (.slice (some ⟨gb, 0, none⟩) s.good.length cg) ∧ (∀ j, j < (nums .u8 b).length → (w.cell? ⟨gb, k * 32 + j, none⟩).isSome = true) ∧ (∀ j, j < (nums .u8 b).length → w.frozen? ⟨gb, k * 32 + j, none⟩ = false) ∧
      DiskAt base (w.setCells gb (k * 32) (nums .u8 b)) g { s with good := s.good.set k (b ++ (s.good[k]).drop b.length) } ∧ KeepD base w (w.setCells gb (k * 32) (nums .u8 b)) ∧ (w.setCells gb (k * 32) (nums .u8 b)).cell? ⟨g, 1, none⟩ = w.cell? ⟨g, 1, none⟩ := by
  obtain ⟨vg, vc, h1, h2, h3, h4⟩ := h
  obtain ⟨gb, cg, rfl, hlc, hbc, hcc⟩ := R_front h3 (by omega)
  obtain ⟨cs, hcl, hK, hcell⟩ := hcc k hk
  obtain ⟨hy32, rfl⟩ := secK_K hK
  have hlen : (nums .u8 s.good[k]).length = 32 := hcl
  have hnb : (nums .u8 b).length = b.length := nums_length _ _
  obtain ⟨cells, htype⟩ := own_typed h3.2.choose_spec.1 gb (by simp [Value.ownBlock])
  have hseg := Kd.R_seg h3 (k : Int) (by omega) (by omega) (c := nums .u8 s.good[k]) (seg := nums .u8 b) (j := 0) hlen (by rw [Int.toNat_natCast]; exact hcell) (by rw [hnb]; show 0 + b.length ≤ 32; omega) (x' := b ++ (s.good[k]).drop b.length) (okp := fun _ => False)
    (by
      have : (nums .u8 s.good[k]).take 0 ++ nums .u8 b ++ (nums .u8 s.good[k]).drop (0 + (nums .u8 b).length) = nums .u8 (b ++ (s.good[k]).drop b.length) := by
        rw [List.take_zero, List.nil_append, Nat.zero_add, hnb, nums_append]; simp [nums, List.map_drop]
      rw [this]; exact secK_M (by rw [List.length_append, List.length_drop, hy32]; omega)) (fun _ hk => hk.elim)
  rw [Int.toNat_natCast] at hseg
  obtain ⟨hR, hG⟩ := hseg
  have h1' : (w.setCells gb (k * 32) (nums .u8 b)).heap[g]? = some (.cells #[.slice (some ⟨gb, 0, none⟩) s.good.length cg, vc, .int .i64 s.fuse] 69 (0, 0)) := (hG.block g (blk_lt h1) (fun e => by
      injection e with e
      subst e
      exact absurd rfl (blk_ne h1 htype (by decide)))).trans h1
  refine ⟨gb, cg, by rw [blk_cell h1]; rfl, fun j hj => ?_, fun j _ => blk_frozen htype _, ⟨_, vc, h1', h2, hR, ?_⟩, KeepD.of_grown htype (.inr (.inl rfl)) hbc hG, by rw [blk_cell h1', blk_cell h1]⟩
  · have hj' : j < (nums .u8 s.good[k]).length := by rw [hlen]; rw [hnb] at hj; omega
    obtain ⟨v, hv⟩ : ∃ v, (nums .u8 s.good[k])[j]? = some v := ⟨_, List.getElem?_eq_getElem hj'⟩
    have hv2 : w.cell? ⟨gb, k * 32 + j, none⟩ = some v := hcell j v hv
    rw [hv2]; rfl
  · exact R_type_grown h4 hG htype (by intro q hq; simp [cacK, secK, Kd.pair, Kd.arr, Kd.int, Kd.scalar] at hq; omega)
theorem new_data {w : World} {b : Nat} {x : Int × List Int} {m : Int} {d : List Int} {t : Nat} (h : w.heap[b]? = some (.cells (cacCells x).toArray t (0, 0))) (hx : cacCells x = .int .i64 m :: nums .u8 d) : ∀ j v, (nums .u8 d)[j]? = some v → w.cell? ((⟨b, 1, none⟩ : Addr).add j) = some v := fun j v hj => by
  rw [show ((⟨b, 1, none⟩ : Addr).add j) = ⟨b, 1 + j, none⟩ from by unfold Addr.add; split <;> simp_all, blk_cell h, hx]
  rw [List.getElem?_toArray, Nat.add_comm, List.getElem?_cons_succ]; exact hj
theorem disk_crashed (base g : Nat) (s : St) (w : World) (h : DiskAt base w g s) : DiskAt base ((w.setCell ⟨g, 1, none⟩ (.slice none 0 0)).setCell ⟨g, 2, none⟩ (.int .i64 (-1))) g { s with cache := [], fuse := -1 } ∧ KeepD base w ((w.setCell ⟨g, 1, none⟩ (.slice none 0 0)).setCell ⟨g, 2, none⟩ (.int .i64 (-1))) ∧
    (∃ v, w.cell? ⟨g, 1, none⟩ = some v) ∧ (∃ v, w.cell? ⟨g, 2, none⟩ = some v) ∧ w.frozen? ⟨g, 1, none⟩ = false ∧ w.frozen? ⟨g, 2, none⟩ = false := by
  obtain ⟨h1, h2, h3⟩ := disk_flushed base g s w h
  obtain ⟨h4, h5⟩ := disk_fuse h1 (-1)
  obtain ⟨vg, vc, h6, -, -, -⟩ := h
  exact ⟨h4, h2.trans h5, ⟨vc, by rw [blk_cell h6]; rfl⟩, ⟨_, by rw [blk_cell h6]; rfl⟩, h3, blk_frozen h6 _⟩
set_option maxRecDepth 100000 in
set_option maxHeartbeats 4000000 in
theorem crash_walk (base g : Nat) (s : St) (keep torn cut : Int) (w : World) (h : DiskAt base w g s) (hwf : ∀ x ∈ s.cache, 0 ≤ x.1 ∧ x.1 < (s.good.length : Nat)) :
    Calls Try.prog 17 #[.pointer (some ⟨g, 0, none⟩), .int .i64 keep, .int .i64 torn, .int .i64 cut] w fun e w' => e = .returned (.tuple #[]) ∧ DiskAt base w' g { good := crashed keep torn cut s.good s.cache s.cache.length, cache := [], fuse := -1 } ∧ KeepD base w w' := by
  obtain ⟨A, c, hc1, hmx⟩ := cache_val h
  have HD := Aside0.mk h
  have HWF := Aside0.mk hwf
  clear h hwf
  go_enter Try.func17, Try.ntmps17
  go_wp2
  go_loopw [17] (fun v17 wr => ∃ k : Nat, k ≤ s.cache.length ∧ v17 = .int .i64 k ∧ Aside0 (wr.cell? ⟨g, 1, none⟩ = some (.slice A s.cache.length c)) ∧ Aside0 (DiskAt base wr g { s with good := crashed keep torn cut s.good s.cache k }) ∧ Aside0 (KeepD base w wr)) (fun v17 _ => s.cache.length - (intOf v17).toNat)
  case atStart => exact ⟨0, Nat.zero_le _, rfl, ⟨hc1⟩, HD, ⟨KeepD.refl _ _⟩⟩
  case round =>
    clear HD hc1
    obtain ⟨k, hk, rfl, HC1, HD, HK⟩ := hrel
    by_cases hlk : k < s.cache.length
    · obtain ⟨gc, rfl, h32, hce⟩ := cache_at base g _ wr HD.out A c HC1.out k hlk
      obtain ⟨hr1, hr2⟩ := HWF.out _ (List.getElem_mem hlk)
      have hov : crashed keep torn cut s.good s.cache (k + 1) = hit keep torn cut k s.cache[k] (crashed keep torn cut s.good s.cache k) := by
        show hit _ _ _ _ (s.cache.getD k (0, [])) _ = _
        rw [List.getD_eq_getElem?_getD, List.getElem?_eq_getElem hlk]; rfl
      simp only at hce h32
      generalize s.cache[k] = x at *
      obtain ⟨x1, d⟩ := x
      simp only at hr1 hr2 h32
      obtain ⟨m, rfl⟩ := Int.eq_ofNat_of_zero_le hr1
      have hlen : m < (crashed keep torn cut s.good s.cache k).length := by rw [crashed_len]; omega
      have hlen2 := crashed_len keep torn cut s.good s.cache k
      generalize crashed keep torn cut s.good s.cache k = gd at *
      have hkm : (k : Int) ≤ 9223372036854775807 := by omega
      obtain ⟨x, hx⟩ : ∃ x, (((m : Nat) : Int), d) = x := ⟨_, rfl⟩
      rw [hx] at hce
      have hx1 : cacCells x = .int .i64 ((m : Nat) : Int) :: nums .u8 d := by rw [← hx]; unfold cacCells; rfl
      have HCE := Aside0.mk hce
      have hcl : (cacCells x).length = 33 := by rw [hx1, List.length_cons, nums_length, h32]
      have hsz : (Try.prog.info? 74).map (·.size) = some (cacCells x).length := by rw [hcl]; exact sizes.1
      have hsza : (Try.prog.info? 74).map (·.size) = some (cacCells x).toArray.size := by rw [List.size_toArray]; exact hsz
      have hold : Z33l.size = (cacCells x).toArray.size := by rw [show (cacCells x).toArray.size = 33 from by rw [List.size_toArray, hcl]]; rfl
      have HOV := Aside0.mk hov
      have HX1 := Aside0.mk hx1
      clear hce hov hx hx1
      have hB1 : Below wr.heap.size wr (wr.alloc (.cells (cacCells x).toArray 74)) := (Below.refl _ _).alloc (Nat.le_refl _) _
      have HD2 := Aside0.mk (disk_below HD.out hB1)
      have HK2 := Aside0.mk (HK.out.trans (KeepD.of_below (base := base) hB1))
      have HNEW := Aside0.mk (show (wr.alloc (.cells (cacCells x).toArray 74)).heap[wr.heap.size]? = some (.cells (cacCells x).toArray 74 (0, 0)) from blk_new wr _)
      have HC2 := Aside0.mk ((hB1.cell (p := ⟨g, 1, none⟩) (World.block_lt_of_cell? wr _ HC1.out)).trans HC1.out)
      clear hB1
      go_wp2_with (first
        | ((with_reducible refine wpList_load_seg rfl 74 (.tmp 20) rfl ⟨gc, k * 33, none⟩ rfl (cacCells x) _ Try.underlying74 rfl hsz HCE.out ?_))
        | (refine wpList_store_row rfl 74 (.tmp 9) (.tmp 21) rfl _ (cacCells x).toArray rfl rfl 74 Z33l (blk_new _ _) hsza hold (cac_one x) ?_; rw [World.setRow_alloc_new]))
      · -- torn
        have hov := HOV.out
        have hnt : (k : Int) = torn := eq_of_beq (by assumption)
        unfold hit mixed at hov
        rw [if_pos hnt] at hov
        simp only [Int.toNat_natCast] at hov
        rw [List.getD_eq_getElem?_getD, List.getElem?_eq_getElem hlen, Option.getD_some] at hov
        have hct : (cut ≤ 0 ∧ cutAt cut = 0) ∨ (32 < cut ∧ cutAt cut = 32) ∨ (0 < cut ∧ cut ≤ 32 ∧ cut = ((cutAt cut : Nat) : Int)) := by unfold cutAt mx mn; omega
        have hct32 : cutAt cut ≤ 32 := by unfold cutAt mx mn; omega
        have hD1 := HD2.out
        have hnew := HNEW.out
        have hc1' := HC2.out
        have hK1 := HK2.out
        generalize hb : wr.heap.size = bl at *
        generalize hw2 : wr.alloc (.cells (cacCells x).toArray 74) = w2 at *
        generalize hctt : cutAt cut = ct at *
        have hbl : (d.take ct).length = ct := by rw [List.length_take, h32]; omega
        obtain ⟨gb, cg, hc0, hcs, hfr, hDn, hKn, hsame⟩ := disk_part base g _ w2.drew (disk_drew hD1) m hlen (d.take ct) (by rw [hbl]; exact hct32)
        have hc0' : w2.cell? ⟨g, 0, none⟩ = some (.slice (some ⟨gb, 0, none⟩) gd.length cg) := hc0
        have hn0 : w2.cell? ⟨bl, 0, none⟩ = some (.int .i64 ((m : Nat) : Int)) := by rw [blk_cell hnew, HX1.out]; rfl
        have hn1 : ∀ j v, (nums .u8 (d.take ct))[j]? = some v → w2.drew.cell? ((⟨bl, 1, none⟩ : Addr).add j) = some v := fun j v hj => by
          have hj' : (nums .u8 d)[j]? = some v := by
            rw [nums, List.getElem?_map] at hj ⊢
            rw [List.getElem?_take] at hj
            split at hj
            · exact hj
            · cases hj
          exact new_data hnew HX1.out j v hj'
        rw [hbl] at hDn
        simp only at hDn
        rw [← hov] at hDn
        have hnl : (nums .u8 (d.take ct)).length = ct := by rw [nums_length, hbl]
        have HN1 := Aside0.mk hn1
        have HDN := Aside0.mk hDn
        have HKN := Aside0.mk ((hK1.drew).trans hKn)
        have HSAME := Aside0.mk (hsame.trans hc1')
        have HCS := Aside0.mk hcs
        have HFR := Aside0.mk hfr
        have HNL := Aside0.mk hnl
        clear hD1 hK1 hnew hc1' hw2 hc0 hcs hfr hDn hKn hsame hn1 hsz hsza hold HCE HX1 HD HK HC1 hcl HD2 HNEW HC2 HK2 hov HOV hnt hctt hnl hbl
        rcases hct with ⟨hq, rfl⟩ | ⟨hq, rfl⟩ | ⟨hq, hq2, rfl⟩
        · have hq1 : ¬ 32 < cut := by omega
          have hq2 : ¬ 0 < cut := by omega
          refine wp_region_still_tail 13 (by kernel_rfl) (by kernel_rfl) ?_
          simp only [List.take_succ_cons, List.take_zero, List.drop_succ_cons, List.drop_zero]
          iterate 13 still_step
          refine wpStill_nil ?_
          change wpList _ _ _ _ _ w2.drew
          refine wpList_copy_seg rfl (.tmp 33) (.tmp 38) 29 29 rfl 5 Try.underlying29 sizes' gb (m * 32) 32 32 ⟨bl, 1, none⟩ 0 32 rfl rfl (nums .u8 (d.take 0)) (by rw [HNL.out]; rfl) HN1.out HCS.out HFR.out (nums_one _) ?_
          go_wp2
          go_roundw
          case rel => exact ⟨k + 1, hlk, by go_num, HSAME, HDN, HKN⟩
          case measure => simp [intOf]; omega
        · have hq1 : ¬ cut ≤ 32 := by omega
          refine wp_region_still_tail 13 (by kernel_rfl) (by kernel_rfl) ?_
          simp only [List.take_succ_cons, List.take_zero, List.drop_succ_cons, List.drop_zero]
          iterate 13 still_step
          refine wpStill_nil ?_
          change wpList _ _ _ _ _ w2.drew
          refine wpList_copy_seg rfl (.tmp 33) (.tmp 38) 29 29 rfl 5 Try.underlying29 sizes' gb (m * 32) 32 32 ⟨bl, 1, none⟩ 32 32 rfl rfl (nums .u8 (d.take 32)) (by rw [HNL.out]; rfl) HN1.out HCS.out HFR.out (nums_one _) ?_
          go_wp2
          go_roundw
          case rel => exact ⟨k + 1, hlk, by go_num, HSAME, HDN, HKN⟩
          case measure => simp [intOf]; omega
        · have hq3 : ¬ (32 : Int) < ((ct : Nat) : Int) := by omega
          have hq4 : ¬ 32 < ct := by omega
          have hq5 : 0 < ct := by omega
          have hmin : Nat.min ct 32 = ct := Nat.min_eq_left hct32
          have HMIN := Aside0.mk hmin
          clear hmin
          refine wp_region_still_tail 13 (by kernel_rfl) (by kernel_rfl) ?_
          simp only [List.take_succ_cons, List.take_zero, List.drop_succ_cons, List.drop_zero]
          iterate 13 still_step
          refine wpStill_nil ?_
          change wpList _ _ _ _ _ w2.drew
          refine wpList_copy_seg rfl (.tmp 33) (.tmp 38) 29 29 rfl 5 Try.underlying29 sizes' gb (m * 32) 32 32 ⟨bl, 1, none⟩ ct 32 rfl rfl (nums .u8 (d.take ct)) (by rw [HNL.out, HMIN.out]) HN1.out HCS.out HFR.out (nums_one _) ?_
          go_wp2
          go_roundw
          case rel => exact ⟨k + 1, hlk, by go_num, HSAME, HDN, HKN⟩
          case measure => simp [intOf]; omega
      · -- kept
        have hov := HOV.out
        have hbit : Bit keep k = true := by unfold Bit; rw [Bool.and_eq_true]; exact ⟨decide_eq_true (by assumption), by assumption⟩
        have hnt : ¬ (k : Int) = torn := by
          have hh : ((k : Int) == torn) = false := by assumption
          simpa using hh
        unfold hit at hov
        rw [if_neg hnt, if_pos hbit] at hov
        simp only [Int.toNat_natCast] at hov
        have HOV2 := Aside0.mk hov
        clear hov hbit hnt HOV
        have hD1 := HD2.out
        have hnew := HNEW.out
        have hc1' := HC2.out
        have hK1 := HK2.out
        generalize hb : wr.heap.size = bl at *
        generalize hw2 : wr.alloc (.cells (cacCells x).toArray 74) = w2 at *
        obtain ⟨gb, cg, hc0, ⟨cur, hcur, hfit⟩, hDn, hKn, hsame⟩ := disk_good base g _ w2.drew (disk_drew hD1) m hlen d h32
        have hc0' : w2.cell? ⟨g, 0, none⟩ = some (.slice (some ⟨gb, 0, none⟩) gd.length cg) := hc0
        have hn0 : w2.cell? ⟨bl, 0, none⟩ = some (.int .i64 ((m : Nat) : Int)) := by rw [blk_cell hnew, HX1.out]; rfl
        have hn1 := new_data hnew HX1.out
        have hszs : (Try.prog.info? 72).map (·.size) = some (nums .u8 d).length := by rw [nums_length, h32]; exact sizes.2
        have HN1 := Aside0.mk hn1
        have HCUR := Aside0.mk hcur
        have HDN := Aside0.mk hDn
        have HKN := Aside0.mk ((hK1.drew).trans hKn)
        have HSAME := Aside0.mk (hsame.trans hc1')
        have hfit2 : m * 32 + (nums .u8 d).length ≤ cur.size := by rw [nums_length, h32]; exact hfit
        clear hD1 hK1 hnew hc1' hw2 hc0 hcur hDn hKn hsame hn1 hfit hsz hsza hold HCE HX1 HD HK HC1 hcl HD2 HNEW HC2 HK2
        refine wp_region_still_tail 9 (by kernel_rfl) (by kernel_rfl) ?_
        simp only [List.take_succ_cons, List.take_zero, List.drop_succ_cons, List.drop_zero]
        iterate 7 still_step
        refine wpStill_step (fun K hK => ?_)
        refine still_load_seg 72 (.tmp 56) rfl ⟨bl, 1, none⟩ rfl (nums .u8 d) _ Try.underlying72 rfl hszs (fun j v hj => HN1.out j v hj) ?_
        refine hK _ ?_
        clear hK K
        still_step
        refine wpStill_nil ?_
        change wpList _ _ _ _ _ w2.drew
        refine wpList_store_seg rfl rfl 72 (.tmp 58) (.tmp 57) rfl gb (m * 32) rfl (nums .u8 d) rfl cur 72 HCUR.out hszs hfit2 (nums_one d) ?_
        go_wp2
        go_roundw
        case rel => exact ⟨k + 1, hlk, by go_num, HSAME, ⟨by rw [HOV2.out]; exact HDN.out⟩, HKN⟩
        case measure => simp [intOf]; omega
      · -- lost
        have hov := HOV.out
        have hbit : ¬ Bit keep k = true := by
          have hh : (bits BinOp.and IntKind.i64 (keep / 2 ^ k) 1 == 1) = false := by assumption
          unfold Bit; rw [hh, Bool.and_false]; decide
        have hnt : ¬ (k : Int) = torn := by
          have hh : ((k : Int) == torn) = false := by assumption
          simpa using hh
        unfold hit at hov
        rw [if_neg hnt, if_neg hbit] at hov
        exact ⟨⟨k + 1, hlk, by go_num, HC2, ⟨by rw [hov]; exact HD2.out⟩, HK2⟩, by simp [intOf]; omega⟩
      · have hov := HOV.out
        have hbit : ¬ Bit keep k = true := by
          have hh : ¬ (k : Int) < 62 := by assumption
          unfold Bit; rw [decide_eq_false hh, Bool.false_and]; decide
        have hnt : ¬ (k : Int) = torn := by
          have hh : ((k : Int) == torn) = false := by assumption
          simpa using hh
        unfold hit at hov
        rw [if_neg hnt, if_neg hbit] at hov
        exact ⟨⟨k + 1, hlk, by go_num, HC2, ⟨by rw [hov]; exact HD2.out⟩, HK2⟩, by simp [intOf]; omega⟩
    · obtain rfl : k = s.cache.length := by omega
      obtain ⟨hF1, hF2, ⟨v1, h1⟩, ⟨v2, h2⟩, f1, f2⟩ := disk_crashed base g _ wr HD.out
      have HF := Aside0.mk hF1
      have HF2 := Aside0.mk (HK.out.trans hF2)
      clear hF1 hF2 HD HK HC1
      go_wp2
      go_end0
      exact ⟨rfl, HF.out, HF2.out⟩
end Go.Proofs.Ytmpiljfpgfhljaa.XDisk
