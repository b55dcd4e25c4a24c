/-
  JournalTwice: opened again, with whatever lost in between, a disk that nobody writes has the same.
-/
import Derived.Test.YtglpelhbncdkmaaQJournalTwicex1
namespace Go.Proofs.Ytglpelhbncdkmaa.Pure
open Go.RowKit Go.Proofs.Ytglpelhbncdkmaa.QJournalTwice Go.Proofs.YtglpelhbncdkmaaW.PrintWords Go.Proofs.YtglpelhbncdkmaaW.PrintLast

theorem JournalTwice : prebendlaw07_JournalTwice.Pure := by
  intro l0 a1_0 l1_1 a1_2 a1_3 a1_4 h0 _ _ _ _ _
  have u8 : ∀ a : Int, (Lit.int .u8 a).wf = true → 0 ≤ a ∧ a < 256 := fun a h => by
    simp only [Lit.wf, IntKind.min, IntKind.max, IntKind.signed, IntKind.bits, Bool.and_eq_true] at h
    simp at h
    omega
  unfold prebendlaw07_JournalTwice.f
  rw [if_pos (List.all_eq_true.2 (fun x hx => by
    rw [Bool.and_eq_true]
    exact ⟨decide_eq_true (u8 x.f0 (h0.2 x hx).1), List.all_eq_true.2 (fun c hc => decide_eq_true (u8 c ((h0.2 x hx).2.1.2 c hc)))⟩))]

end Go.Proofs.Ytglpelhbncdkmaa.Pure
