/- Written by a program of this session (wip/tools/mp.sh): functions as Lean functions, with proofs that the calls come to what they say. Lean checks it. -/
import Derived.Test.YtijeigiilgapdaaRows
import Derived.Test.YtijeigiilgapdaaQSoundTellsx21
import Derived.Test.YtijeigiilgapdaaPureSoundTells
import Derived.Test.YtijeigiilgapdaaRowData
import Derived.WalkKit
import Derived.ProofKit
import Derived.OpenShut
import Derived.ShutString
import Derived.ChangeOld
import Derived.Below
import Derived.SizedLaws
namespace Go.Proofs.Ytijeigiilgapdaa.soundTells
open Go.ChangeShapes Go.WideShapes Go.ChangeAt Go.RowKit Go.Proofs.Ytijeigiilgapdaa.QSoundTells Go.Proofs.Ytijeigiilgapdaa.RowData Go.Proofs.YtijeigiilgapdaaW.PrintWords
open Go.ChangeMaps (open_string shut_string)
set_option linter.unusedVariables false
theorem own : ownKnob Try.prog.godebug = none := by kernel_rfl
theorem laidOut : laidOutB Try.prog = true := by kernel_rfl
theorem opnS34 : Opn Try.prog 34 k34 wfS34 := Opn.imp (Opn.iso (fun x : S34 => (x.f0, x.f1, x.f2)) (fun p => (⟨p.1, p.2.1, p.2.2⟩ : S34)) (fun _ => rfl) (Opn.struct Try.underlying34 (by kernel_rfl) (FOpn.cons rfl (by kernel_rfl) rfl (Opn.string Try.underlying9) (FOpn.cons rfl (by kernel_rfl) rfl (Opn.int Try.underlying3) (FOpn.one rfl (by kernel_rfl) (Opn.int Try.underlying3)))))) (fun _ h => h)
theorem opnS36 : Opn Try.prog 36 k36 wfS36 := Opn.imp (Opn.iso (fun x : S36 => (x.f0, x.f1, x.f2, x.f3, x.f4, x.f5)) (fun p => (⟨p.1, p.2.1, p.2.2.1, p.2.2.2.1, p.2.2.2.2.1, p.2.2.2.2.2⟩ : S36)) (fun _ => rfl) (Opn.struct Try.underlying36 (by kernel_rfl) (FOpn.cons rfl (by kernel_rfl) rfl (Opn.int Try.underlying3) (FOpn.cons rfl (by kernel_rfl) rfl (Opn.int Try.underlying3) (FOpn.cons rfl (by kernel_rfl) rfl (Opn.int Try.underlying3) (FOpn.cons rfl (by kernel_rfl) rfl (Opn.int Try.underlying3) (FOpn.cons rfl (by kernel_rfl) rfl (Opn.int Try.underlying3) (FOpn.one rfl (by kernel_rfl) (Opn.int Try.underlying3))))))))) (fun _ h => h)
theorem opnS68 : Opn Try.prog 68 k68 wfS68 := Opn.imp (Opn.iso (fun x : S68 => (x.f0, x.f1, x.f2)) (fun p => (⟨p.1, p.2.1, p.2.2⟩ : S68)) (fun _ => rfl) (Opn.struct Try.underlying68 (by kernel_rfl) (FOpn.cons rfl (by kernel_rfl) rfl (Opn.int Try.underlying3) (FOpn.cons rfl (by kernel_rfl) rfl (Opn.int Try.underlying3) (FOpn.one rfl (by kernel_rfl) (Opn.int Try.underlying3)))))) (fun _ h => h)
theorem opnS60 : Opn Try.prog 60 k60 wfS60 := Opn.imp (Opn.iso (fun x : S60 => (x.f0, x.f1)) (fun p => (⟨p.1, p.2⟩ : S60)) (fun _ => rfl) (Opn.struct Try.underlying60 (by kernel_rfl) (FOpn.cons rfl (by kernel_rfl) rfl (Opn.int Try.underlying3) (FOpn.one rfl (by kernel_rfl) (Opn.int Try.underlying3))))) (fun _ h => h)
theorem opnS50 : Opn Try.prog 50 k50 wfS50 := Opn.imp (Opn.iso (fun x : S50 => (x.f0, x.f1, x.f2, x.f3, x.f4, x.f5, x.f6, x.f7, x.f8, x.f9, x.f10, x.f11)) (fun p => (⟨p.1, p.2.1, p.2.2.1, p.2.2.2.1, p.2.2.2.2.1, p.2.2.2.2.2.1, p.2.2.2.2.2.2.1, p.2.2.2.2.2.2.2.1, p.2.2.2.2.2.2.2.2.1, p.2.2.2.2.2.2.2.2.2.1, p.2.2.2.2.2.2.2.2.2.2.1, p.2.2.2.2.2.2.2.2.2.2.2⟩ : S50)) (fun _ => rfl) (Opn.struct Try.underlying50 (by kernel_rfl) (FOpn.cons rfl (by kernel_rfl) rfl (Opn.int Try.underlying3) (FOpn.cons rfl (by kernel_rfl) rfl (Opn.int Try.underlying3) (FOpn.cons rfl (by kernel_rfl) rfl (Opn.int Try.underlying3) (FOpn.cons rfl (by kernel_rfl) rfl (Opn.int Try.underlying3) (FOpn.cons rfl (by kernel_rfl) rfl (Opn.int Try.underlying3) (FOpn.cons rfl (by kernel_rfl) rfl (Opn.int Try.underlying3) (FOpn.cons rfl (by kernel_rfl) rfl (Opn.int Try.underlying3) (FOpn.cons rfl (by kernel_rfl) rfl (Opn.int Try.underlying3) (FOpn.cons rfl (by kernel_rfl) rfl (Opn.int Try.underlying3) (FOpn.cons rfl (by kernel_rfl) rfl (Opn.int Try.underlying3) (FOpn.cons rfl (by kernel_rfl) rfl (Opn.int Try.underlying3) (FOpn.one rfl (by kernel_rfl) (Opn.slice (B := 16) Try.underlying48 opnS60 (by kernel_rfl) (by kernel_rfl)))))))))))))))) (fun _ h => h)
theorem opnS28 : Opn Try.prog 28 k28 wfS28 := Opn.imp (Opn.iso (fun x : S28 => (x.f0, x.f1, x.f2, x.f3, x.f4, x.f5, x.f6, x.f7)) (fun p => (⟨p.1, p.2.1, p.2.2.1, p.2.2.2.1, p.2.2.2.2.1, p.2.2.2.2.2.1, p.2.2.2.2.2.2.1, p.2.2.2.2.2.2.2⟩ : S28)) (fun _ => rfl) (Opn.struct Try.underlying28 (by kernel_rfl) (FOpn.cons rfl (by kernel_rfl) rfl (Opn.int Try.underlying3) (FOpn.cons rfl (by kernel_rfl) rfl (Opn.int Try.underlying3) (FOpn.cons rfl (by kernel_rfl) rfl (Opn.int Try.underlying3) (FOpn.cons rfl (by kernel_rfl) rfl (Opn.slice (B := 32) Try.underlying22 opnS34 (by kernel_rfl) (by kernel_rfl)) (FOpn.cons rfl (by kernel_rfl) rfl (Opn.slice (B := 48) Try.underlying23 opnS36 (by kernel_rfl) (by kernel_rfl)) (FOpn.cons rfl (by kernel_rfl) rfl (Opn.slice (B := 24) Try.underlying24 opnS68 (by kernel_rfl) (by kernel_rfl)) (FOpn.cons rfl (by kernel_rfl) rfl (Opn.slice (B := 112) Try.underlying25 opnS50 (by kernel_rfl) (by kernel_rfl)) (FOpn.one rfl (by kernel_rfl) (Opn.slice (B := 16) Try.underlying26 (Opn.string Try.underlying9) (by kernel_rfl) (by kernel_rfl)))))))))))) (fun _ h => h)
set_option maxRecDepth 100000 in
theorem lifted (os : Os) (started : os.Started) (H : Type) (enc : TypeId × Value → H) :
  ReturnsInHanded {} Try.checked os 3 .any (Rows.soundTellsSpec.pre6 enc Try.prog Try.f3 Rows.soundTellsRow.domain false) (Rows.soundTellsSpec.post enc Try.prog Try.f3 false true false false) := by
 refine returnsInHanded_of_change_sized (C := Try.checked) own started (by kernel_rfl) Try.func3
  (ChangeSpec.witness6 (enc := enc) (C := Try.checked) false ⟨#[], #[.agg #[.int .i64 0, .int .i64 0, .int .i64 0, .slice none 0 0, .slice none 0 0, .slice none 0 0, .slice none 0 0, .slice none 0 0], .int .i64 0], []⟩ 8 (by kernel_rfl) (by kernel_rfl) (by kernel_rfl) (by kernel_rfl)) ?_
 intro W base args ds gs before hval0 hW hcnd hsz0 _
 have hsz : (DataW.weightsEach Try.prog (Try.f3.params.toList ++ Rows.soundTellsSpec.plain.varTypes Try.prog) (ds ++ gs)).all (· ≤ reachBytes) = true := hsz0
 have hval : ∀ (j : Nat) t v, Try.f3.params[j]? = some t → args[j]? = some v → Value.okWide Try.prog W .any base t v := hval0
 have hW' := hW
 obtain ⟨p, q, hA0, hV, rfl, hfz, hnd⟩ := hW
 have hA : DataW.TrodAll enc Try.prog W 0 (fun _ => true) true Try.f3.params.toList args.toList ds p := hA0
 rw [Try.params3] at hA hval hsz
 obtain ⟨v0, vs0, d0, ds0, p0, q0, hargs, rfl, rfl, h0, r0⟩ := trodAll_cons hA
 obtain ⟨v1, vs1, d1, ds1, p1, q1, rfl, rfl, rfl, h1, r1⟩ := trodAll_cons r0
 obtain ⟨rfl, rfl, rfl⟩ := trodAll_nil r1
 obtain rfl : args = #[v0, v1] := by cases args; simp_all
 obtain ⟨rfl, rfl⟩ := trodVars_none hV
 have k0 := h0
 have lt0 : ∀ x ∈ p0, x.block < W.heap.size := by obtain ⟨m, hm⟩ := k0; exact DataW.trod_lt m _ _ _ hm
 obtain ⟨cs0, rfl, _⟩ := okWide_struct Try.underlying28 (hval 0 28 v0 rfl rfl)
 obtain ⟨x0, hK0, w0⟩ := Opn.arg opnS28 hsz (j := 0) (t := 28) rfl rfl h0
 obtain ⟨A0_3, c0_3, A0_4, c0_4, A0_5, c0_5, A0_6, c0_6, A0_7, c0_7, he0, hc0_3, hr0_3, hc0_4, hr0_4, hc0_5, hr0_5, hc0_6, hr0_6, hc0_7, hr0_7⟩ := k28_open hK0
 obtain rfl : cs0 = #[.int .i64 x0.f0, .int .i64 x0.f1, .int .i64 x0.f2, .slice A0_3 x0.f3.length c0_3, .slice A0_4 x0.f4.length c0_4, .slice A0_5 x0.f5.length c0_5, .slice A0_6 x0.f6.length c0_6, .slice A0_7 x0.f7.length c0_7] := Array.ext' he0
 obtain ⟨a1, rfl, rfl, rfl, w1⟩ := open_int Try.underlying3 (hval 1 3 v1 rfl rfl) h1
 clear hA0 hval0 hsz0 hsz
 obtain ⟨k, h⟩ := Pure.SoundTells x0.f0 x0.f1 x0.f2 x0.f3 x0.f4 x0.f5 x0.f6 x0.f7 a1 (w0.1) (w0.2.1) (w0.2.2.1) (w0.2.2.2.1) (w0.2.2.2.2.1) (w0.2.2.2.2.2.1) (w0.2.2.2.2.2.2.1) (w0.2.2.2.2.2.2.2) w1
 refine (prebendlaw25_SoundTells.calls k x0.f0 x0.f1 x0.f2 _ _ x0.f3 _ _ x0.f4 _ _ x0.f5 _ _ x0.f6 _ _ x0.f7 a1 true W hr0_3 hc0_3 hr0_4 hc0_4 hr0_5 hc0_5 hr0_6 hc0_6 hr0_7 hc0_7 h).mono fun e W' ⟨he, bel⟩ => ?_
 subst he
 exact ⟨_, rfl, _, _, _, [], _, [], hW', trodAll_mk1 (shut_bool Try.underlying4 _), (trodAll_cons_mk (Below.trod laidOut (by kernel_rfl) (of_decide_eq_true (by kernel_rfl)) k0 bel lt0) (trodAll_cons_mk (shut_int Try.underlying3 w1) trodAll_mk0)), rfl, bel.frame _, fun h => by cases h⟩
theorem over : Rows.soundTellsRow.holds Try.pinned (OpenSpec.ofChange Rows.soundTellsSpec) :=
 OpenClaim.holds_of_wide 3 Try.f3 rfl rfl rfl rfl rfl rfl rfl ⟨rfl, rfl, rfl, rfl, rfl⟩ rfl rfl rfl rfl rfl (by kernel_rfl) Try.func3 (by kernel_rfl)
  (of_decide_eq_true (by kernel_rfl)) (by unfold Func.isWrapper; first | (rw [if_pos (by decide +kernel)]; kernel_rfl) | (rw [if_neg (by decide +kernel)]; exact ⟨rfl, rfl⟩))
  (fun os started H enc _ => lifted os started H enc)
theorem proved : Rows.SoundTellsSaid := over
#print axioms proved
end Go.Proofs.Ytijeigiilgapdaa.soundTells
namespace Go.Proofs.Ytijeigiilgapdaa
/-- The row, under a short name, for the claim. -/
theorem soundTells_holds : Rows.SoundTellsSaid := soundTells.proved
end Go.Proofs.Ytijeigiilgapdaa
