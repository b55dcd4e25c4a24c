/-
  DiskTorn: behind a crash each sector is as it was for good, or as it was written last, but for one at most, whose first bytes are of the one and the others of the other.
-/
import Derived.Test.YtmpiljfpgfhljaaRDiskTornx1
namespace Go.Proofs.Ytmpiljfpgfhljaa.Pure
open Go.RowKit Go.Proofs.Ytmpiljfpgfhljaa.RDiskTorn Go.Proofs.YtmpiljfpgfhljaaW.PrintWords Go.Proofs.YtmpiljfpgfhljaaW.PrintLast

theorem DiskTorn : prebendlaw05_DiskTorn.Pure := by
  intro l0 l1 a2 a3 a4 h0 h1 _ _ _
  have u8 : ∀ a : Int, (Lit.int .u8 a).wf = true → 0 ≤ a ∧ a < 256 := fun a h => by
    simp only [Lit.wf, IntKind.min, IntKind.max, IntKind.signed, IntKind.bits, Bool.and_eq_true] at h
    simp at h
    omega
  unfold prebendlaw05_DiskTorn.f
  rw [if_pos ⟨List.all_eq_true.2 (fun x hx => decide_eq_true (u8 x.f2 (h0.2 x hx).2.2.1)), List.all_eq_true.2 (fun x hx => decide_eq_true (u8 x.f2 (h1.2 x hx).2.2.1))⟩]

end Go.Proofs.Ytmpiljfpgfhljaa.Pure
