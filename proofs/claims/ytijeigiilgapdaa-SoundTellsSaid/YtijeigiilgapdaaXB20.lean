/-
 prebendref25.Broken in the print's form: what it comes to, and that its call comes to it (its walk: XRefBroken).
-/
import Derived.Test.YtijeigiilgapdaaXRefBroken
namespace Go.Proofs.Ytijeigiilgapdaa.QSoundTells
open Go.RowKit Go.Proofs.YtijeigiilgapdaaW.PrintWords Go.Proofs.YtijeigiilgapdaaW.PrintLast Go.Proofs.YtijeigiilgapdaaW.PrintMore
set_option linter.unusedVariables false
set_option linter.unusedSimpArgs false
def prebendref25_Broken.ok (l0_3 : List (S34)) (l0_4 : List (S36)) (l0_5 : List (S68)) (l0_6 : List (S50)) : Bool := decide (l0_3.length ≤ 40) && (decide (l0_4.length ≤ 40) && (decide (l0_5.length ≤ 4611686018427387904) && (decide (l0_6.length ≤ 40) && l0_6.all (fun j => decide (j.f11.length ≤ 8796093022208)))))
def prebendref25_Broken.f (k : Nat) (a0_0 : Int) (a0_1 : Int) (a0_2 : Int) (l0_3 : List (S34)) (l0_4 : List (S36)) (l0_5 : List (S68)) (l0_6 : List (S50)) (l0_7 : List ByteArray) (a1 : Int) : Option (Int) := if prebendref25_Broken.ok l0_3 l0_4 l0_5 l0_6 = true then some (XSnd.brokenR a0_1 a0_2 a1 l0_3 l0_4 l0_5 l0_6) else none
theorem prebendref25_Broken.mono : ∀ a0 a1 a2 a3 a4 a5 a6 a7 a8 k, LeO (prebendref25_Broken.f k a0 a1 a2 a3 a4 a5 a6 a7 a8) (prebendref25_Broken.f (k + 1) a0 a1 a2 a3 a4 a5 a6 a7 a8) := fun _ _ _ _ _ _ _ _ _ _ => LeO.refl _
theorem prebendref25_Broken.calls (k : Nat) (a0_0 : Int) (a0_1 : Int) (a0_2 : Int) (A0_3 : Option Addr) (c0_3 : Nat) (l0_3 : List (S34)) (A0_4 : Option Addr) (c0_4 : Nat) (l0_4 : List (S36)) (A0_5 : Option Addr) (c0_5 : Nat) (l0_5 : List (S68)) (A0_6 : Option Addr) (c0_6 : Nat) (l0_6 : List (S50)) (A0_7 : Option Addr) (c0_7 : Nat) (l0_7 : List ByteArray) (a1 : Int) (r : Int) (w : World) (hr0_3 : Kd.C k34 w A0_3 l0_3.length l0_3) (hc0_3 : l0_3.length ≤ c0_3) (hr0_4 : Kd.C k36 w A0_4 l0_4.length l0_4) (hc0_4 : l0_4.length ≤ c0_4) (hr0_5 : Kd.C k68 w A0_5 l0_5.length l0_5) (hc0_5 : l0_5.length ≤ c0_5) (hr0_6 : Kd.C k50 w A0_6 l0_6.length l0_6) (hc0_6 : l0_6.length ≤ c0_6) (hr0_7 : Kd.C Kd.string w A0_7 l0_7.length l0_7) (hc0_7 : l0_7.length ≤ c0_7) (h : prebendref25_Broken.f k a0_0 a0_1 a0_2 l0_3 l0_4 l0_5 l0_6 l0_7 a1 = some r) :
  Calls Try.prog 6 #[.agg #[.int .i64 a0_0, .int .i64 a0_1, .int .i64 a0_2, .slice A0_3 l0_3.length c0_3, .slice A0_4 l0_4.length c0_4, .slice A0_5 l0_5.length c0_5, .slice A0_6 l0_6.length c0_6, .slice A0_7 l0_7.length c0_7], .int .i64 a1] w fun e w' => e = .returned (.int .i64 r) ∧ Below w.heap.size w w' := by
 unfold prebendref25_Broken.f at h
 split at h
 ·rename_i hok
  obtain rfl := Option.some.inj h
  unfold prebendref25_Broken.ok at hok
  simp only [Bool.and_eq_true, decide_eq_true_eq] at hok
  exact XRB.rbroken_walk a0_0 a0_1 a0_2 A0_3 c0_3 l0_3 A0_4 c0_4 l0_4 A0_5 c0_5 l0_5 A0_6 c0_6 l0_6 A0_7 c0_7 l0_7 a1 w ⟨hr0_3, hc0_3, hr0_4, hc0_4, hr0_5, hc0_5, hr0_6, hc0_6, hr0_7, hc0_7⟩ hok.1 hok.2.1 hok.2.2.1 ⟨hok.2.2.2.1, fun j hj => of_decide_eq_true (List.all_eq_true.1 hok.2.2.2.2 j hj)⟩
 ·cases h
end Go.Proofs.Ytijeigiilgapdaa.QSoundTells
