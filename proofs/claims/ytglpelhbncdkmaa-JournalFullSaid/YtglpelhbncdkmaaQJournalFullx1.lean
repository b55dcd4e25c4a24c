/- Written by a program of this session (wip/tools/mp.sh): functions as Lean functions, with proofs that the calls come to what they say. Lean checks it. -/
import Derived.Test.YtglpelhbncdkmaaQJournalFullx0
namespace Go.Proofs.Ytglpelhbncdkmaa.QJournalFull
open Go.RowKit Go.Proofs.YtglpelhbncdkmaaW.PrintWords Go.Proofs.YtglpelhbncdkmaaW.PrintLast Go.Proofs.YtglpelhbncdkmaaW.PrintMore
attribute [local go_sem] max2_int min2_int max_two min_two max_three min_three max_four min_four   -- for this text's walks alone
set_option linter.unusedVariables false
set_option linter.unusedSimpArgs false

/-! ### prebendlaw07_JournalFull: function 4 -/
def prebendlaw07_JournalFull.f (a0 : Int) (l1 l2 : List Int) : Option (Bool) := if decide (0 ≤ a0 ∧ a0 < 256) = true ∧ l1.all (fun c => decide (0 ≤ c ∧ c < 256)) = true ∧ l2.all (fun c => decide (0 ≤ c ∧ c < 256)) = true then some true else none
theorem prebendlaw07_JournalFull.calls (a0 : Int) (A1 : Option Addr) (c1 : Nat) (l1 : List Int) (A2 : Option Addr) (c2 : Nat) (l2 : List Int) (r : Bool) (w : World) (hr1 : Kd.C (Kd.int .u8) w A1 l1.length l1) (hc1 : l1.length ≤ c1) (hr2 : Kd.C (Kd.int .u8) w A2 l2.length l2) (hc2 : l2.length ≤ c2) (h : prebendlaw07_JournalFull.f a0 l1 l2 = some r) :
    Calls Try.prog 4 #[.int .u8 a0, .slice A1 l1.length c1, .slice A2 l2.length c2] w fun e w' => e = .returned (.bool r) ∧ Below w.heap.size w w' := by
  unfold prebendlaw07_JournalFull.f at h
  split at h
  · rename_i hh
    obtain rfl := Option.some.inj h
    exact XJour.full_walk a0 A1 A2 c1 c2 l1 l2 w (of_decide_eq_true hh.1) hr1 hc1 (XJour.bytes_dec hh.2.1) hr2 hc2 (XJour.bytes_dec hh.2.2)
  · cases h

def prebendlaw07_JournalFull.Pure : Prop := ∀ (a0 : Int) (l1 : List Int) (l2 : List Int), (Lit.int .u8 a0).wf = true → (l1.length * 1 ≤ 140737488351232 ∧ ∀ y ∈ l1, (Lit.int .u8 y).wf = true) → (l2.length * 1 ≤ 140737488351232 ∧ ∀ y ∈ l2, (Lit.int .u8 y).wf = true) → prebendlaw07_JournalFull.f a0 l1 l2 = some true
end Go.Proofs.Ytglpelhbncdkmaa.QJournalFull
