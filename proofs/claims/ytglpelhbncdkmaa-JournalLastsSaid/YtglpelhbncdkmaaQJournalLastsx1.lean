/- Written by a program of this session (wip/tools/mp.sh): functions as Lean functions, with proofs that the calls come to what they say. Lean checks it. -/
import Derived.Test.YtglpelhbncdkmaaQJournalLastsx0
namespace Go.Proofs.Ytglpelhbncdkmaa.QJournalLasts
open Go.RowKit Go.Proofs.YtglpelhbncdkmaaW.PrintWords Go.Proofs.YtglpelhbncdkmaaW.PrintLast Go.Proofs.YtglpelhbncdkmaaW.PrintMore
attribute [local go_sem] max2_int min2_int max_two min_two max_three min_three max_four min_four   -- for this text's walks alone
set_option linter.unusedVariables false
set_option linter.unusedSimpArgs false

/-! ### prebendlaw07_JournalLasts: function 6 -/
def wfS25 (x : S25) : Prop := (Lit.int .u8 x.f0).wf = true ∧ (x.f1.length * 1 ≤ 140737488351232 ∧ ∀ y ∈ x.f1, (Lit.int .u8 y).wf = true) ∧ (Lit.int .i64 x.f2).wf = true ∧ (Lit.int .i64 x.f3).wf = true ∧ (Lit.int .i64 x.f4).wf = true
def prebendlaw07_JournalLasts.f (l0 : List S25) : Option (Bool) := if l0.all (fun x => decide (0 ≤ x.f0 ∧ x.f0 < 256) && x.f1.all (fun c => decide (0 ≤ c ∧ c < 256))) = true then some true else none
theorem act8 {w : World} {A : Option Addr} {l : List S25} (h : Kd.C k25 w A l.length l) (hl : l.all (fun x => decide (0 ≤ x.f0 ∧ x.f0 < 256) && x.f1.all (fun c => decide (0 ≤ c ∧ c < 256))) = true) : XJour.ActAt8 w A l.length (fun i => ((rd_T25 l i).f0, (rd_T25 l i).f1, (rd_T25 l i).f2, (rd_T25 l i).f3, (rd_T25 l i).f4)) := fun i hi => by
  obtain ⟨ad, A1, c1, e, h0, h1, h2, h3, h4, l1, g1⟩ := at_T25 h (i : Int) (by omega) (by omega)
  rw [Int.toNat_natCast] at h0 h1 h2 h3 h4
  have hm : rd_T25 l i ∈ l := by
    unfold rd_T25
    rw [Int.toNat_natCast, List.getD_eq_getElem?_getD, List.getElem?_eq_getElem hi]
    exact List.getElem_mem hi
  have hx := List.all_eq_true.1 hl _ hm
  rw [Bool.and_eq_true] at hx
  exact ⟨ad, A1, c1, e, ⟨h0, h1, h2, h3, h4⟩, l1, g1, of_decide_eq_true hx.1, fun c hc => of_decide_eq_true (List.all_eq_true.1 hx.2 c hc)⟩
theorem prebendlaw07_JournalLasts.calls (A0 : Option Addr) (c0 : Nat) (l0 : List S25) (r : Bool) (w : World) (hr0 : Kd.C k25 w A0 l0.length l0) (hc0 : l0.length ≤ c0) (h : prebendlaw07_JournalLasts.f l0 = some r) :
    Calls Try.prog 6 #[.slice A0 l0.length c0] w fun e w' => e = .returned (.bool r) ∧ Below w.heap.size w w' := by
  unfold prebendlaw07_JournalLasts.f at h
  split at h
  · rename_i hh
    obtain rfl := Option.some.inj h
    exact XJour.lasts_walk A0 l0.length c0 _ w (act8 hr0 hh) hr0.2.1
  · cases h

def prebendlaw07_JournalLasts.Pure : Prop := ∀ (l0 : List (S25)), (l0.length * 56 ≤ 140737488351232 ∧ ∀ y ∈ l0, wfS25 y) → prebendlaw07_JournalLasts.f l0 = some true
end Go.Proofs.Ytglpelhbncdkmaa.QJournalLasts
