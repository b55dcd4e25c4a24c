/- Written by a program of this session (wip/tools/mp.sh): functions as Lean functions, with proofs that the calls come to what they say. Lean checks it. -/
import Derived.Test.YtglpelhbncdkmaaQJournalNonex0
namespace Go.Proofs.Ytglpelhbncdkmaa.QJournalNone
open Go.RowKit Go.Proofs.YtglpelhbncdkmaaW.PrintWords Go.Proofs.YtglpelhbncdkmaaW.PrintLast Go.Proofs.YtglpelhbncdkmaaW.PrintMore
attribute [local go_sem] max2_int min2_int max_two min_two max_three min_three max_four min_four   -- for this text's walks alone
set_option linter.unusedVariables false
set_option linter.unusedSimpArgs false

/-! ### prebendlaw07_JournalNone: function 5 -/
def prebendlaw07_JournalNone.f (a0 a1 : Int) (l2 : List Int) : Option (Bool) := some true
theorem prebendlaw07_JournalNone.calls (a0 a1 : Int) (A2 : Option Addr) (c2 : Nat) (l2 : List Int) (r : Bool) (w : World) (hr2 : Kd.C (Kd.int .u8) w A2 l2.length l2) (hc2 : l2.length ≤ c2) (h : prebendlaw07_JournalNone.f a0 a1 l2 = some r) :
    Calls Try.prog 5 #[.int .i64 a0, .int .i64 a1, .slice A2 l2.length c2] w fun e w' => e = .returned (.bool r) ∧ Below w.heap.size w w' := by
  obtain rfl := Option.some.inj h
  by_cases h0 : 100 < a0
  · exact XJour.none_big a0 a1 A2 l2.length c2 w h0
  · exact XJour.none_small a0 a1 A2 l2.length c2 w (by omega)

def prebendlaw07_JournalNone.Pure : Prop := ∀ (a0 : Int) (a1 : Int) (l2 : List Int), (Lit.int .i64 a0).wf = true → (Lit.int .i64 a1).wf = true → (l2.length * 1 ≤ 140737488351232 ∧ ∀ y ∈ l2, (Lit.int .u8 y).wf = true) → prebendlaw07_JournalNone.f a0 a1 l2 = some true
end Go.Proofs.Ytglpelhbncdkmaa.QJournalNone
