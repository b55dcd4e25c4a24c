/-
  DiskPlays: a disk of any size, by any acts, is the reference's: each answer, and all that it is.
-/
import Derived.Test.YtmpiljfpgfhljaaQDiskPlaysx1
namespace Go.Proofs.Ytmpiljfpgfhljaa.Pure
open Go.RowKit Go.Proofs.Ytmpiljfpgfhljaa.QDiskPlays Go.Proofs.YtmpiljfpgfhljaaW.PrintWords Go.Proofs.YtmpiljfpgfhljaaW.PrintLast

theorem DiskPlays : prebendlaw05_DiskPlays.Pure := by
  intro a0 l1 h0 h1
  have u8 : ∀ a : Int, (Lit.int .u8 a).wf = true → 0 ≤ a ∧ a < 256 := fun a h => by
    simp only [Lit.wf, IntKind.min, IntKind.max, IntKind.signed, IntKind.bits, Bool.and_eq_true] at h
    simp at h
    omega
  have i64 : ∀ a : Int, (Lit.int .i64 a).wf = true → -9223372036854775808 ≤ a ∧ a ≤ 9223372036854775807 := fun a h => by
    simp only [Lit.wf, IntKind.min, IntKind.max, IntKind.signed, IntKind.bits, Bool.and_eq_true] at h
    simp at h
    omega
  unfold prebendlaw05_DiskPlays.f
  rw [if_pos ⟨(i64 a0 h0).1, List.all_eq_true.2 (fun x hx => decide_eq_true ⟨u8 x.f0 (h1.2 x hx).1, u8 x.f2 (h1.2 x hx).2.2.1, (i64 x.f3 (h1.2 x hx).2.2.2.1).2⟩)⟩]

end Go.Proofs.Ytmpiljfpgfhljaa.Pure
