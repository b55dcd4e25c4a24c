/-
  CheckParts: bytes in two parts have the sum that they have together (of each part 2000 at most, as the statement has it).
-/
import Derived.Test.YtpppicehpadcbaaXCheckMath
import Derived.Test.YtpppicehpadcbaaQCheckPartsx1
namespace Go.Proofs.Ytpppicehpadcbaa.Pure
open Go.RowKit Go.Proofs.Ytpppicehpadcbaa.QCheckParts Go.Proofs.Ytpppicehpadcbaa.XCheck Go.Proofs.YtpppicehpadcbaaW.PrintWords Go.Proofs.YtpppicehpadcbaaW.PrintLast
theorem u8_of (a : Int) (h : (Lit.int .u8 a).wf = true) : 0 ≤ a ∧ a < 256 := by
  simp only [Lit.wf, IntKind.min, IntKind.max, IntKind.signed, IntKind.bits, Bool.and_eq_true] at h
  simp at h
  omega
theorem u16_of (a : Int) (h : (Lit.int .u16 a).wf = true) : 0 ≤ a ∧ a < 65536 := by
  simp only [Lit.wf, IntKind.min, IntKind.max, IntKind.signed, IntKind.bits, Bool.and_eq_true] at h
  simp at h
  omega
theorem u32_of (a : Int) (h : (Lit.int .u32 a).wf = true) : 0 ≤ a ∧ a < 4294967296 := by
  simp only [Lit.wf, IntKind.min, IntKind.max, IntKind.signed, IntKind.bits, Bool.and_eq_true] at h
  simp at h
  omega
theorem short_f (l : List Int) (hl : ∀ x ∈ l, (Lit.int .u8 x).wf = true) : ∃ m : List Int, prebendlaw04_short.f l = some m ∧ m.length ≤ 2000 ∧ ∀ c ∈ m, 0 ≤ c ∧ c < 256 := by
  refine ⟨l.take 2000, ?_, by rw [List.length_take]; omega, fun c hc => u8_of c (hl c (List.mem_of_mem_take hc))⟩
  unfold prebendlaw04_short.f
  by_cases h : (l.length : Int) > 2000
  · rw [if_pos h, if_pos (by omega)]
  · rw [if_neg h, List.take_of_length_le (by omega)]
theorem fromf (s : Int) (l : List Int) (hs : 0 ≤ s ∧ s < 4294967296) (hl : ∀ c ∈ l, 0 ≤ c ∧ c < 256) : QCheckParts.check_From.f s l = some (fr s l) := From_f s l hs hl
theorem Of_f (l : List Int) (hl : ∀ c ∈ l, 0 ≤ c ∧ c < 256) : check_Of.f l = some (fr 4294967295 l) := by
  unfold check_Of.f
  rw [fromf _ l (by omega) hl]
  rfl

theorem CheckParts : prebendlaw04_CheckParts.Pure := by
  intro l0 l1 _ _ w0 _ _ w1
  obtain ⟨a, a1, a2, a3⟩ := short_f l0 w0
  obtain ⟨b, b1, b2, b3⟩ := short_f l1 w1
  have hab : ∀ c ∈ a ++ b, 0 ≤ c ∧ c < 256 := fun c hc => (List.mem_append.1 hc).elim (a3 c) (b3 c)
  unfold prebendlaw04_CheckParts.f
  rw [a1, b1, show prebendlaw04_awake.f = some true from rfl, show check_Start.f = some 4294967295 from rfl]
  simp only [Option.bind_some, if_true, List.nil_append]
  rw [if_pos (by rw [List.length_nil]; omega), if_pos (by omega), Of_f a a3, Of_f (a ++ b) hab]
  simp only [Option.bind_some]
  rw [fromf _ b (fr_range _ a (by omega)) b3, fromf _ (a ++ b) (by omega) hab]
  simp only [Option.bind_some]
  rw [fr_append]
  simp

end Go.Proofs.Ytpppicehpadcbaa.Pure
