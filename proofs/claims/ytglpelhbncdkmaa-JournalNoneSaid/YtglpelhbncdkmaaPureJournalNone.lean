/-
  JournalNone is true, its walk says so.
-/
import Derived.Test.YtglpelhbncdkmaaQJournalNonex1
namespace Go.Proofs.Ytglpelhbncdkmaa.Pure
open Go.RowKit Go.Proofs.Ytglpelhbncdkmaa.QJournalNone Go.Proofs.YtglpelhbncdkmaaW.PrintWords Go.Proofs.YtglpelhbncdkmaaW.PrintLast

theorem JournalNone : prebendlaw07_JournalNone.Pure := by
  intro a0 a1 l2 _ _ _; rfl

end Go.Proofs.Ytglpelhbncdkmaa.Pure
