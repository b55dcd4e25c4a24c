/- Written by a program of this session (wip/tools/mp.sh): functions as Lean functions, with proofs that the calls come to what they say. Lean checks it. -/
import Derived.Test.YtmpiljfpgfhljaaQDiskPlaysx0
namespace Go.Proofs.Ytmpiljfpgfhljaa.QDiskPlays
open Go.RowKit Go.Proofs.YtmpiljfpgfhljaaW.PrintWords Go.Proofs.YtmpiljfpgfhljaaW.PrintLast Go.Proofs.YtmpiljfpgfhljaaW.PrintMore
attribute [local go_sem] max2_int min2_int max_two min_two max_three min_three max_four min_four   -- for this text's walks alone
set_option linter.unusedVariables false
set_option linter.unusedSimpArgs false

/-! ### prebendlaw05_DiskPlays: function 5 -/
def wfS28 (x : S28) : Prop := (Lit.int .u8 x.f0).wf = true ∧ (Lit.int .i64 x.f1).wf = true ∧ (Lit.int .u8 x.f2).wf = true ∧ (Lit.int .i64 x.f3).wf = true ∧ (Lit.int .i64 x.f4).wf = true
def prebendlaw05_DiskPlays.f (a0 : Int) (l1 : List S28) : Option (Bool) := if -9223372036854775808 ≤ a0 ∧ l1.all (fun x => decide ((0 ≤ x.f0 ∧ x.f0 < 256) ∧ (0 ≤ x.f2 ∧ x.f2 < 256) ∧ x.f3 ≤ 9223372036854775807)) = true then some true else none
theorem act5 {w : World} {A : Option Addr} {l : List S28} (h : Kd.C k28 w A l.length l) (hl : l.all (fun x => decide ((0 ≤ x.f0 ∧ x.f0 < 256) ∧ (0 ≤ x.f2 ∧ x.f2 < 256) ∧ x.f3 ≤ 9223372036854775807)) = true) : XDisk.ActAt5 w A l.length (fun i => ((rd_T28 l i).f0, (rd_T28 l i).f1, (rd_T28 l i).f2, (rd_T28 l i).f3, (rd_T28 l i).f4)) := fun i hi => by
  obtain ⟨ad, e, h0, h1, h2, h3, h4⟩ := at_T28 h (i : Int) (by omega) (by omega)
  rw [Int.toNat_natCast] at h0 h1 h2 h3 h4
  have hm : rd_T28 l i ∈ l := by
    unfold rd_T28
    rw [Int.toNat_natCast, List.getD_eq_getElem?_getD, List.getElem?_eq_getElem hi]
    exact List.getElem_mem hi
  refine ⟨ad, e, ⟨h0, h1, h2, h3, h4⟩, ?_, (of_decide_eq_true (List.all_eq_true.1 hl _ hm)).2.1⟩
  intro j v hj
  have hadd : ∀ q : Nat, (ad.add (i * 5)).add (q + 1) = ⟨(ad.add (i * 5)).block, (ad.add (i * 5)).off + (q + 1), none⟩ := fun q => (add_add ad (i * 5) (q + 1)).trans (add_field ad (i * 5) (q + 1) (Nat.succ_pos q))
  match j, hj with
  | 0, hj => obtain rfl : _ = v := Option.some.inj hj; rw [show (ad.add (i * 5)).add 0 = ad.add (i * 5) from by unfold Addr.add; simp]; exact h0
  | 1, hj => obtain rfl : _ = v := Option.some.inj hj; rw [hadd 0]; exact h1
  | 2, hj => obtain rfl : _ = v := Option.some.inj hj; rw [hadd 1]; exact h2
  | 3, hj => obtain rfl : _ = v := Option.some.inj hj; rw [hadd 2]; exact h3
  | 4, hj => obtain rfl : _ = v := Option.some.inj hj; rw [hadd 3]; exact h4
  | j + 5, hj => cases hj
theorem prebendlaw05_DiskPlays.calls (a0 : Int) (A1 : Option Addr) (c1 : Nat) (l1 : List S28) (r : Bool) (w : World) (hr1 : Kd.C k28 w A1 l1.length l1) (hc1 : l1.length ≤ c1) (h : prebendlaw05_DiskPlays.f a0 l1 = some r) :
    Calls Try.prog 5 #[.int .i64 a0, .slice A1 l1.length c1] w fun e w' => e = .returned (.bool r) ∧ Below w.heap.size w w' := by
  unfold prebendlaw05_DiskPlays.f at h
  split at h
  · rename_i hh
    obtain rfl := Option.some.inj h
    refine XRefD.plays_law a0 A1 l1.length c1 _ w hh.1 (act5 hr1 hh.2) (fun i hi => ?_) hr1.2.1
    have hm : rd_T28 l1 i ∈ l1 := by
      unfold rd_T28
      rw [Int.toNat_natCast, List.getD_eq_getElem?_getD, List.getElem?_eq_getElem hi]
      exact List.getElem_mem hi
    have hx := of_decide_eq_true (List.all_eq_true.1 hh.2 _ hm)
    exact ⟨hx.1, hx.2.2⟩
  · cases h

def prebendlaw05_DiskPlays.Pure : Prop := ∀ (a0 : Int) (l1 : List (S28)), (Lit.int .i64 a0).wf = true → (l1.length * 40 ≤ 140737488351232 ∧ ∀ y ∈ l1, wfS28 y) → prebendlaw05_DiskPlays.f a0 l1 = some true
end Go.Proofs.Ytmpiljfpgfhljaa.QDiskPlays
