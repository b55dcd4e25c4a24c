/-
  JournalFull: a record that has no room is refused, and changes nothing; behind a checkpoint there is room again.
-/
import Derived.Test.YtglpelhbncdkmaaQJournalFullx1
namespace Go.Proofs.Ytglpelhbncdkmaa.Pure
open Go.RowKit Go.Proofs.Ytglpelhbncdkmaa.QJournalFull Go.Proofs.YtglpelhbncdkmaaW.PrintWords Go.Proofs.YtglpelhbncdkmaaW.PrintLast

theorem JournalFull : prebendlaw07_JournalFull.Pure := by
  intro a0 l1 l2 h0 h1 h2
  have u8 : ∀ a : Int, (Lit.int .u8 a).wf = true → 0 ≤ a ∧ a < 256 := fun a h => by
    simp only [Lit.wf, IntKind.min, IntKind.max, IntKind.signed, IntKind.bits, Bool.and_eq_true] at h
    simp at h
    omega
  unfold prebendlaw07_JournalFull.f
  rw [if_pos ⟨decide_eq_true (u8 a0 h0), List.all_eq_true.2 (fun c hc => decide_eq_true (u8 c (h1.2 c hc))), List.all_eq_true.2 (fun c hc => decide_eq_true (u8 c (h2.2 c hc)))⟩]

end Go.Proofs.Ytglpelhbncdkmaa.Pure
