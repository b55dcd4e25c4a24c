/-
  DiskFuse: behind a fuse of n just n writes and flushes are OK.
-/
import Derived.Test.YtmpiljfpgfhljaaQDiskFusex1
namespace Go.Proofs.Ytmpiljfpgfhljaa.Pure
open Go.RowKit Go.Proofs.Ytmpiljfpgfhljaa.QDiskFuse Go.Proofs.YtmpiljfpgfhljaaW.PrintWords Go.Proofs.YtmpiljfpgfhljaaW.PrintLast

theorem DiskFuse : prebendlaw05_DiskFuse.Pure := by
  intro a0 l1 h0 h1
  have u8 : ∀ a : Int, (Lit.int .u8 a).wf = true → 0 ≤ a ∧ a < 256 := fun a h => by
    simp only [Lit.wf, IntKind.min, IntKind.max, IntKind.signed, IntKind.bits, Bool.and_eq_true] at h
    simp at h
    omega
  unfold prebendlaw05_DiskFuse.f
  rw [if_pos ⟨(u8 a0 h0).1, (u8 a0 h0).2, fun x hx => u8 x.f0 (h1.2 x hx).1⟩]

end Go.Proofs.Ytmpiljfpgfhljaa.Pure
