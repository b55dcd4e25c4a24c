/-
  JournalLasts: of whatever acts, what comes back is a checkpoint and some first records of all, with all that were sure. No condition.
-/
import Derived.Test.YtglpelhbncdkmaaQJournalLastsx1
namespace Go.Proofs.Ytglpelhbncdkmaa.Pure
open Go.RowKit Go.Proofs.Ytglpelhbncdkmaa.QJournalLasts Go.Proofs.YtglpelhbncdkmaaW.PrintWords Go.Proofs.YtglpelhbncdkmaaW.PrintLast

theorem JournalLasts : prebendlaw07_JournalLasts.Pure := by
  intro l0 h0
  have u8 : ∀ a : Int, (Lit.int .u8 a).wf = true → 0 ≤ a ∧ a < 256 := fun a h => by
    simp only [Lit.wf, IntKind.min, IntKind.max, IntKind.signed, IntKind.bits, Bool.and_eq_true] at h
    simp at h
    omega
  unfold prebendlaw07_JournalLasts.f
  rw [if_pos (List.all_eq_true.2 (fun x hx => by
    rw [Bool.and_eq_true]
    exact ⟨decide_eq_true (u8 x.f0 (h0.2 x hx).1), List.all_eq_true.2 (fun c hc => decide_eq_true (u8 c ((h0.2 x hx).2.1.2 c hc)))⟩))]

end Go.Proofs.Ytglpelhbncdkmaa.Pure
