/-
  DiskNone: no disk answers so.
-/
import Derived.Test.YtmpiljfpgfhljaaQDiskNonex1
namespace Go.Proofs.Ytmpiljfpgfhljaa.Pure
open Go.RowKit Go.Proofs.Ytmpiljfpgfhljaa.QDiskNone Go.Proofs.YtmpiljfpgfhljaaW.PrintWords Go.Proofs.YtmpiljfpgfhljaaW.PrintLast

theorem DiskNone : prebendlaw05_DiskNone.Pure := by
  intro a0 a1 l2 _ _ _; rfl

end Go.Proofs.Ytmpiljfpgfhljaa.Pure
