/-
  package journal by walks, tenth part: Open.
-/
import Derived.Laws.CopyOwn
import Derived.ArgAppend
import Derived.Below
import Derived.BigQuiet
import Derived.Deep.AppendLies
import Derived.Deep.CutBlock
import Derived.Deep.DeepCutAuto
import Derived.Deep.Draws
import Derived.Deep.LoopGhost
import Derived.Deep.OwnRows
import Derived.Deep.QuietTactic
import Derived.Deep.RegionHeld3
import Derived.Deep.WholeRow
import Derived.KernelRfl
import Derived.Laws.BitsLemmas
import Derived.Laws.BytesArg
import Derived.Laws.IdiomCopy
import Derived.Laws.MakeOwn
import Derived.Laws.OwnMore
import Derived.Laws.Rows
import Derived.Laws.Slices
import Derived.Lib.AppendStr
import Derived.Lib.ConvBytes
import Derived.Lib.Hide
import Derived.Maps.AppendAt
import Derived.OrdersHeld
import Derived.Outline
import Derived.OwnWalk
import Derived.RowKit
import Derived.RowKit3
import Derived.Tactics
import Derived.WalkKit
import Derived.WideLaws
import Derived.Test.YtglpelhbncdkmaaProg
import Derived.Test.YtglpelhbncdkmaaWApart
import Derived.Test.YtglpelhbncdkmaaWArr
import Derived.Test.YtglpelhbncdkmaaWAt
import Derived.Test.YtglpelhbncdkmaaWEqStruct
import Derived.Test.YtglpelhbncdkmaaWFoot
import Derived.Test.YtglpelhbncdkmaaWFootNe
import Derived.Test.YtglpelhbncdkmaaWFour
import Derived.Test.YtglpelhbncdkmaaWGuard
import Derived.Test.YtglpelhbncdkmaaWInv
import Derived.Test.YtglpelhbncdkmaaWInvWords
import Derived.Test.YtglpelhbncdkmaaWKept
import Derived.Test.YtglpelhbncdkmaaWLast
import Derived.Test.YtglpelhbncdkmaaWMore
import Derived.Test.YtglpelhbncdkmaaWN
import Derived.Test.YtglpelhbncdkmaaWNEv
import Derived.Test.YtglpelhbncdkmaaWQPut
import Derived.Test.YtglpelhbncdkmaaWRepsOne
import Derived.Test.YtglpelhbncdkmaaWShare
import Derived.Test.YtglpelhbncdkmaaWTab
import Derived.Test.YtglpelhbncdkmaaWWords
import Derived.Test.YtglpelhbncdkmaaWZeros
import Derived.Test.YtglpelhbncdkmaaXSlices

import Derived.Test.YtglpelhbncdkmaaXJour9
namespace Go.Proofs.Ytglpelhbncdkmaa.XJour
open Go.RowKit Go.Proofs.YtglpelhbncdkmaaW.PrintWords Go.Proofs.YtglpelhbncdkmaaW.PrintLast Go.Proofs.YtglpelhbncdkmaaW.PrintMore XDisk XChunk XUnpack XData
set_option linter.unusedVariables false
set_option linter.unusedSimpArgs false
theorem ckF_range {s : St} (hS : Fine s) {sl : Nat} {j : Jr} (he : 0 ≤ j.epoch ∧ j.epoch ≤ 4294967295) (hq : 0 ≤ j.seq ∧ j.seq ≤ 4294967295) : ∀ n, n * sl ≤ s.good.length →
    (0 ≤ (ckF s sl j n).2.1 ∧ (ckF s sl j n).2.1 ≤ 4294967295) ∧ (0 ≤ (ckF s sl j n).2.2.1 ∧ (ckF s sl j n).2.2.1 ≤ 4294967295) ∧ ((ckF s sl j n).1 = -1 ∨ 0 ≤ (ckF s sl j n).1 ∧ (ckF s sl j n).1 < (n : Int)) ∧ ((∀ x, j.place = x → True) → Bytes (ckF s sl j n).2.2.2)
  | 0, _ => by rw [ckF]; exact ⟨he, hq, .inl rfl, fun _ c hc => by cases hc⟩
  | n + 1, h => by
    obtain ⟨h1, h2, h3, h4⟩ := ckF_range hS (sl := sl) he hq n (by rw [Nat.add_mul] at h; omega)
    rw [ckF, ckStep]
    split
    · rename_i hc
      have hf := readAll_fine hS (n * sl) sl (by rw [Nat.add_mul] at h; omega)
      obtain ⟨e', s', b', hE, -, -, hb, -, he', hs'⟩ := unpackF_ok hf.2 hc.1
      rw [hE]
      exact ⟨⟨he'.1, by simp only; omega⟩, ⟨hs'.1, by simp only; omega⟩, .inr ⟨by simp only; omega, by simp only; omega⟩, fun _ => hb⟩
    · exact ⟨h1, h2, by rcases h3 with h3 | h3; exact .inl h3; exact .inr ⟨h3.1, by omega⟩, h4⟩
def new (slot : Int) : Jr := ⟨slot, 0, 0, 0, 2 * slot, false, false⟩
def openCk (s : St) (slot : Int) : Int × Int × Int × List Int := ckF s slot.toNat (new slot) 2
def openRec (s : St) (slot : Int) : List (List Int) × Nat := recs (s.good.length - 2 * slot.toNat + 1) (openCk s slot).2.1 (openCk s slot).2.2.1 (readAll s (2 * slot.toNat) (s.good.length - 2 * slot.toNat))
def openJ (s : St) (slot : Int) : Jr := ⟨slot, (openCk s slot).1, (openCk s slot).2.1, (openCk s slot).2.2.1 + ((openRec s slot).1.length : Nat), 2 * slot + ((openRec s slot).2 : Nat), false, false⟩
theorem open_nil (slot : Int) (w : World) : Calls Try.prog 9 #[.pointer none, .int .i64 slot] w fun e w' => e = .returned (.tuple #[.pointer none, .slice none 0 0, .slice none 0 0, .int .i64 1]) ∧ w = w' := by
  go_enter Try.func9, Try.ntmps9
  go_wp2_with (go_at_call 23; refine (may_nil _ _).mono ?_; rintro e w1 ⟨rfl, rfl⟩)
  refine bodyPost_ret (results_list (rs := [.tmp 4, .tmp 5, .tmp 6, .tmp 7]) rfl (by simp) (.tmp (.tmp (.tmp (.tmp .nil))))) rfl ?_
  exact ⟨rfl, rfl⟩
theorem open_no (base g : Nat) (s : St) (slot : Int) (w : World) (h : DiskAt base w g s) (hm : mayF s slot = false) : Calls Try.prog 9 #[.pointer (some ⟨g, 0, none⟩), .int .i64 slot] w fun e w' => e = .returned (.tuple #[.pointer none, .slice none 0 0, .slice none 0 0, .int .i64 1]) ∧ w = w' := by
  have MW := Aside0.mk (may_walk base g s slot w h)
  rw [hm] at MW
  clear h
  go_enter Try.func9, Try.ntmps9
  go_wp2_with (go_at_call 23; refine MW.out.mono ?_; rintro e w1 ⟨rfl, rfl⟩)
  refine bodyPost_ret (results_list (rs := [.tmp 4, .tmp 5, .tmp 6, .tmp 7]) rfl (by simp) (.tmp (.tmp (.tmp (.tmp .nil))))) rfl ?_
  exact ⟨rfl, rfl⟩
theorem may_some {s : St} {slot : Int} (h : mayF s slot = true) : 1 ≤ slot ∧ slot ≤ 1024 ∧ 2 * slot < (s.good.length : Nat) := by
  unfold mayF at h
  rw [Bool.and_eq_true, Bool.and_eq_true, decide_eq_true_eq, decide_eq_true_eq, decide_eq_true_eq] at h
  exact ⟨h.1, h.2.1, h.2.2⟩
theorem disk_alloc {base : Nat} {w : World} {g : Nat} {s : St} (h : DiskAt base w g s) (o : Obj) : DiskAt base (w.alloc o) g s := disk_below h ((Below.refl _ _).alloc (Nat.le_refl _) _)
attribute [local irreducible] unpackF readAll recs ckF
set_option maxHeartbeats 4000000 in
theorem open_walk2 (base g : Nat) (s : St) (slot : Int) (w : World) (h : DiskAt base w g s) (hS : Fine s) (hz : s.good.length ≤ 1024) (hm : mayF s slot = true) (hbase : base ≤ w.heap.size) :
    Calls Try.prog 9 #[.pointer (some ⟨g, 0, none⟩), .int .i64 slot] w fun e w' => DiskAt base w' g s ∧ Below w.heap.size w w' ∧
      (((openCk s slot).1 < 0 ∧ e = .returned (.tuple #[.pointer none, .slice none 0 0, .slice none 0 0, .int .i64 15])) ∨
       (0 ≤ (openCk s slot).1 ∧ ∃ gj v2 v3, e = .returned (.tuple #[.pointer (some ⟨gj, 0, none⟩), v2, v3, .int .i64 0]) ∧ w.heap.size ≤ gj ∧ Kd.R (Kd.int .u8) 5 w' w.heap.size (fun _ => True) v2 (openCk s slot).2.2.2 ∧
         Kd.R (Kd.slice 5 (Kd.int .u8)) 23 w' w.heap.size (fun _ => True) v3 (openRec s slot).1 ∧ JrAt w.heap.size w' gj g (openJ s slot))) := by
  have MW := Aside0.mk (may_walk base g s slot w h)
  rw [hm] at MW
  obtain ⟨m1, m2, m3⟩ := may_some hm
  obtain ⟨sl, hsl⟩ : ∃ sl : Nat, slot = (sl : Int) := ⟨slot.toNat, by omega⟩
  have hst : slot.toNat = sl := by omega
  have HD := Aside0.mk h
  have hrg := ckF_range hS (sl := sl) (j := new slot) (by unfold new; simp) (by unfold new; simp) 2 (by omega)
  have CK := Aside0.mk (fun gj w1 (h1 : JrAt w.heap.size w1 gj g (new slot)) (h2 : DiskAt base w1 g s) (h3 : w.heap.size ≤ w1.heap.size) => ck_walk w.heap.size base gj g sl (new slot) s w1 h1 h2 hS hsl (by omega) (by omega) hz h3)
  have hck : openCk s slot = ckF s sl (new slot) 2 := by unfold openCk; rw [hst]
  rw [hck]
  obtain ⟨r, hr⟩ : ∃ r, ckF s sl (new slot) 2 = r := ⟨_, rfl⟩
  rw [hr] at CK hrg hck ⊢
  obtain ⟨p0, e0, q0, b0⟩ := r
  have REC := Aside0.mk (fun gj w1 (h1 : JrAt w.heap.size w1 gj g ⟨slot, p0, e0, q0, 2 * slot, false, false⟩) (h2 : DiskAt base w1 g s) (h3 : w.heap.size ≤ w1.heap.size) => rec_walk w.heap.size base gj g (2 * sl) (s.good.length - 2 * sl) ⟨slot, p0, e0, q0, 2 * slot, false, false⟩ s w1 h1 h2 hS (by rw [hsl]; simp only; omega) (by omega) hrg.2.1 hrg.1 hz h3 (openRec s slot) (by unfold openRec; rw [hck, hst]))
  have hJ : openJ s slot = ⟨slot, p0, e0, q0 + ((openRec s slot).1.length : Nat), 2 * slot + ((openRec s slot).2 : Nat), false, false⟩ := by unfold openJ; rw [hck]
  rw [hJ]
  obtain ⟨RR, hRR⟩ : ∃ RR, openRec s slot = RR := ⟨_, rfl⟩
  rw [hRR] at REC ⊢
  clear hRR hJ hck hr hrg hst hm hS h hz
  unfold new at CK
  have HSL := Aside0.mk hsl
  clear hsl m3
  have ALL := Aside0.mk (⟨blk_new w (.cells #[.pointer (some ⟨g, 0, none⟩), .int .i64 slot, .int .i64 0, .int .i64 0, .int .i64 0, .int .i64 (2 * slot), .bool false, .bool false] 55), Nat.le_refl _⟩ : JrAt w.heap.size (w.alloc (.cells #[.pointer (some ⟨g, 0, none⟩), .int .i64 slot, .int .i64 0, .int .i64 0, .int .i64 0, .int .i64 (2 * slot), .bool false, .bool false] 55)) w.heap.size g ⟨slot, 0, 0, 0, 2 * slot, false, false⟩)
  have hbz : w.heap.size ≤ (w.alloc (.cells #[.pointer (some ⟨g, 0, none⟩), .int .i64 slot, .int .i64 0, .int .i64 0, .int .i64 0, .int .i64 (2 * slot), .bool false, .bool false] 55)).heap.size := by simp
  have hk0 : KeepJ w.heap.size w (w.alloc (.cells #[.pointer (some ⟨g, 0, none⟩), .int .i64 slot, .int .i64 0, .int .i64 0, .int .i64 0, .int .i64 (2 * slot), .bool false, .bool false] 55)) := KeepJ.of_below ((Below.refl _ _).alloc (Nat.le_refl _) _)
  have HK0 := Aside0.mk hk0
  have HBZ := Aside0.mk hbz
  clear hk0 hbz
  by_cases hp : p0 < 0
  · have b0 : decide (p0 < 0) = true := decide_eq_true hp
    go_enter Try.func9, Try.ntmps9
    go_wp2_with (first | (go_at_call 23; refine MW.out.mono ?_; rintro e w1 ⟨rfl, rfl⟩) | (go_at_call 27; refine (CK.out _ _ ALL.out (disk_alloc HD.out _) HBZ.out).mono ?_; rintro e w2 ⟨v2, rfl, hR2, hJ2, hD2, hK2⟩; obtain ⟨-, -, hc2, -⟩ := jr_cells hJ2; have HD2 := Aside0.mk hD2; have HK2 := Aside0.mk (HK0.out.trans hK2); clear hR2 hJ2 hD2 hK2))
    refine bodyPost_ret (results_list (rs := [.tmp 4, .tmp 5, .tmp 6, .tmp 7]) rfl (by simp) (.tmp (.tmp (.tmp (.tmp .nil))))) rfl ?_
    exact ⟨HD2.out, below_keepJ (Below.refl _ _) (Nat.le_refl _) HK2.out, .inl ⟨hp, rfl⟩⟩
  · have b0 : decide (p0 < 0) = false := decide_eq_false hp
    go_enter Try.func9, Try.ntmps9
    go_wp2_with (first | (go_at_call 23; refine MW.out.mono ?_; rintro e w1 ⟨rfl, rfl⟩) | (go_at_call 27; refine (CK.out _ _ ALL.out (disk_alloc HD.out _) HBZ.out).mono ?_; rintro e w2 ⟨v2, rfl, hR2, hJ2, hD2, hK2⟩; obtain ⟨-, -, hc2, -⟩ := jr_cells hJ2; have HD2 := Aside0.mk hD2; have HJ2 := Aside0.mk hJ2; have HR2 := Aside0.mk hR2; have HK2 := Aside0.mk (HK0.out.trans hK2); clear hR2 hJ2 hD2 hK2) | (go_at_call 28; refine (REC.out _ _ HJ2.out HD2.out HK2.out.size).mono ?_; rintro e w3 ⟨v3, rfl, hR3, hJ3, hD3, hK3⟩; have HD3 := Aside0.mk hD3; have HJ3 := Aside0.mk hJ3; have HR3 := Aside0.mk hR3; have HK3 := Aside0.mk hK3; clear hR3 hJ3 hD3 hK3))
    refine bodyPost_ret (results_list (rs := [.tmp 4, .tmp 5, .tmp 6, .tmp 7]) rfl (by simp) (.tmp (.tmp (.tmp (.tmp .nil))))) rfl ?_
    exact ⟨HD3.out, below_keepJ (Below.refl _ _) (Nat.le_refl _) (HK2.out.trans HK3.out), .inr ⟨by omega, _, _, _, rfl, Nat.le_refl _, R_keepJ (Kd.R_lower HR2.out (by simp)) u8_jT HK3.out, Kd.R_lower HR3.out HK2.out.size, HJ3.out⟩⟩
theorem open_walk (base g : Nat) (s : St) (slot : Int) (w : World) (h : DiskAt base w g s) (hS : Fine s) (hz : s.good.length ≤ 1024) (hm : mayF s slot = true) (hbase : base ≤ w.heap.size) :
    Calls Try.prog 9 #[.pointer (some ⟨g, 0, none⟩), .int .i64 slot] w fun e w' => DiskAt base w' g s ∧ KeepJ base w w' ∧
      (((openCk s slot).1 < 0 ∧ e = .returned (.tuple #[.pointer none, .slice none 0 0, .slice none 0 0, .int .i64 15])) ∨
       (0 ≤ (openCk s slot).1 ∧ ∃ gj v2 v3, e = .returned (.tuple #[.pointer (some ⟨gj, 0, none⟩), v2, v3, .int .i64 0]) ∧ w.heap.size ≤ gj ∧ Kd.R (Kd.int .u8) 5 w' w.heap.size (fun _ => True) v2 (openCk s slot).2.2.2 ∧
         Kd.R (Kd.slice 5 (Kd.int .u8)) 23 w' w.heap.size (fun _ => True) v3 (openRec s slot).1 ∧ JrAt base w' gj g (openJ s slot))) := by
  refine (open_walk2 base g s slot w h hS hz hm hbase).mono ?_
  rintro e w' ⟨hD, hB, hr⟩
  refine ⟨hD, KeepJ.of_below hB, hr.imp_right ?_⟩
  rintro ⟨h0, gj, v2, v3, he, hg, h2, h3, hJ⟩
  exact ⟨h0, gj, v2, v3, he, hg, h2, h3, hJ.1, Nat.le_trans hbase hJ.2⟩
end Go.Proofs.Ytglpelhbncdkmaa.XJour
