/- Written by a program of this session (wip/tools/mp.sh): functions as Lean functions, with proofs that the calls come to what they say. Lean checks it. -/
import Derived.Test.YtglpelhbncdkmaaQJournalTwicex0
namespace Go.Proofs.Ytglpelhbncdkmaa.QJournalTwice
open Go.RowKit Go.Proofs.YtglpelhbncdkmaaW.PrintWords Go.Proofs.YtglpelhbncdkmaaW.PrintLast Go.Proofs.YtglpelhbncdkmaaW.PrintMore
attribute [local go_sem] max2_int min2_int max_two min_two max_three min_three max_four min_four   -- for this text's walks alone
set_option linter.unusedVariables false
set_option linter.unusedSimpArgs false

/-! ### prebendlaw07_JournalTwice: function 3 -/
def wfS25 (x : S25) : Prop := (Lit.int .u8 x.f0).wf = true ∧ (x.f1.length * 1 ≤ 140737488351232 ∧ ∀ y ∈ x.f1, (Lit.int .u8 y).wf = true) ∧ (Lit.int .i64 x.f2).wf = true ∧ (Lit.int .i64 x.f3).wf = true ∧ (Lit.int .i64 x.f4).wf = true
def prebendlaw07_JournalTwice.f (l0 : List S25) (a1_0 : Int) (l1_1 : List Int) (a1_2 a1_3 a1_4 : Int) : Option (Bool) := if l0.all (fun x => decide (0 ≤ x.f0 ∧ x.f0 < 256) && x.f1.all (fun c => decide (0 ≤ c ∧ c < 256))) = true then some true else none
theorem act7 {w : World} {A : Option Addr} {l : List S25} (h : Kd.C k25 w A l.length l) (hl : l.all (fun x => decide (0 ≤ x.f0 ∧ x.f0 < 256) && x.f1.all (fun c => decide (0 ≤ c ∧ c < 256))) = true) : XJour.ActAt7 w A l.length (fun i => ((rd_T25 l i).f0, (rd_T25 l i).f1)) := fun i hi => by
  obtain ⟨ad, A1, c1, e, h0, h1, -, -, -, l1, g1⟩ := at_T25 h (i : Int) (by omega) (by omega)
  rw [Int.toNat_natCast] at h0 h1
  have hm : rd_T25 l i ∈ l := by
    unfold rd_T25
    rw [Int.toNat_natCast, List.getD_eq_getElem?_getD, List.getElem?_eq_getElem hi]
    exact List.getElem_mem hi
  have hx := List.all_eq_true.1 hl _ hm
  rw [Bool.and_eq_true] at hx
  exact ⟨ad, A1, c1, e, h0, h1, l1, g1, of_decide_eq_true hx.1, fun c hc => of_decide_eq_true (List.all_eq_true.1 hx.2 c hc)⟩
theorem prebendlaw07_JournalTwice.calls (A0 : Option Addr) (c0 : Nat) (l0 : List S25) (a1_0 : Int) (A1_1 : Option Addr) (c1_1 : Nat) (l1_1 : List Int) (a1_2 a1_3 a1_4 : Int) (r : Bool) (w : World) (hr0 : Kd.C k25 w A0 l0.length l0) (hc0 : l0.length ≤ c0) (hr1_1 : Kd.C (Kd.int .u8) w A1_1 l1_1.length l1_1) (hc1_1 : l1_1.length ≤ c1_1) (h : prebendlaw07_JournalTwice.f l0 a1_0 l1_1 a1_2 a1_3 a1_4 = some r) :
    Calls Try.prog 3 #[.slice A0 l0.length c0, .agg #[.int .u8 a1_0, .slice A1_1 l1_1.length c1_1, .int .i64 a1_2, .int .i64 a1_3, .int .i64 a1_4]] w fun e w' => e = .returned (.bool r) ∧ Below w.heap.size w w' := by
  unfold prebendlaw07_JournalTwice.f at h
  split at h
  · rename_i hh
    obtain rfl := Option.some.inj h
    exact XJour.twice_walk A0 l0.length c0 _ a1_0 a1_2 a1_3 a1_4 _ w (act7 hr0 hh) hr0.2.1
  · cases h

def prebendlaw07_JournalTwice.Pure : Prop := ∀ (l0 : List (S25)) (a1_0 : Int) (l1_1 : List Int) (a1_2 : Int) (a1_3 : Int) (a1_4 : Int), (l0.length * 56 ≤ 140737488351232 ∧ ∀ y ∈ l0, wfS25 y) → (Lit.int .u8 a1_0).wf = true → (l1_1.length * 1 ≤ 140737488351232 ∧ ∀ y ∈ l1_1, (Lit.int .u8 y).wf = true) → (Lit.int .i64 a1_2).wf = true → (Lit.int .i64 a1_3).wf = true → (Lit.int .i64 a1_4).wf = true → prebendlaw07_JournalTwice.f l0 a1_0 l1_1 a1_2 a1_3 a1_4 = some true
end Go.Proofs.Ytglpelhbncdkmaa.QJournalTwice
