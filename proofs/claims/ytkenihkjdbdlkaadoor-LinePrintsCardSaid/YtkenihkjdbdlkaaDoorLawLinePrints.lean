/- Written by a program of this session (wip/tools/mp.sh): functions as Lean functions, with proofs that the calls come to what they say. Lean checks it. -/
import Derived.Test.YtkenihkjdbdlkaaDoorRows
import Derived.Test.YtkenihkjdbdlkaaDoorQLinePrintsx8
import Derived.Test.YtkenihkjdbdlkaaDoorPureLinePrints
import Derived.Test.YtkenihkjdbdlkaaDoorRowData
import Derived.WalkKit
import Derived.ProofKit
import Derived.OpenShut
import Derived.ShutString
import Derived.ChangeOld
import Derived.Below
import Derived.SizedLaws
import Derived.Test.YtkenihkjdbdlkaaDoorXCard
import Derived.Test.YtkenihkjdbdlkaaDoorCards
import Derived.Test.YtkenihkjdbdlkaaDoorXRecs
namespace Go.Proofs.YtkenihkjdbdlkaaDoor.linePrints
open Go.ChangeShapes Go.WideShapes Go.ChangeAt Go.RowKit Go.Proofs.YtkenihkjdbdlkaaDoor.QLinePrints Go.Proofs.YtkenihkjdbdlkaaDoor.RowData Go.Proofs.YtkenihkjdbdlkaaDoorW.PrintWords Go.Proofs.YtkenihkjdbdlkaaDoor.XRecs
open Go.ChangeMaps (open_string shut_string)
set_option linter.unusedVariables false
theorem own : ownKnob Tryd.prog.godebug = none := by kernel_rfl
theorem laidOut : laidOutB Tryd.prog = true := by kernel_rfl
theorem opnS24 : Opn Tryd.prog 24 k24 wfS24 := Opn.imp (Opn.iso (fun x : S24 => (x.f0, x.f1, x.f2, x.f3)) (fun p => (⟨p.1, p.2.1, p.2.2.1, p.2.2.2⟩ : S24)) (fun _ => rfl) (Opn.struct Tryd.underlying24 (by kernel_rfl) (FOpn.cons rfl (by kernel_rfl) rfl (Opn.int Tryd.underlying3) (FOpn.cons rfl (by kernel_rfl) rfl (Opn.string Tryd.underlying9) (FOpn.cons rfl (by kernel_rfl) rfl (Opn.string Tryd.underlying9) (FOpn.one rfl (by kernel_rfl) (Opn.slice (B := 8) Tryd.underlying22 (Opn.int Tryd.underlying3) (by kernel_rfl) (by kernel_rfl)))))))) (fun _ h => h)
theorem opnS27 : Opn Tryd.prog 27 k27 wfS27 := Opn.imp (Opn.iso (fun x : S27 => (x.f0, x.f1, x.f2, x.f3)) (fun p => (⟨p.1, p.2.1, p.2.2.1, p.2.2.2⟩ : S27)) (fun _ => rfl) (Opn.struct Tryd.underlying27 (by kernel_rfl) (FOpn.cons rfl (by kernel_rfl) rfl (Opn.int Tryd.underlying25) (FOpn.cons rfl (by kernel_rfl) rfl (Opn.int Tryd.underlying3) (FOpn.cons rfl (by kernel_rfl) rfl (Opn.int Tryd.underlying3) (FOpn.one rfl (by kernel_rfl) (Opn.int Tryd.underlying3))))))) (fun _ h => h)
set_option maxRecDepth 100000 in
theorem lifted (os : Os) (started : os.Started) (H : Type) (enc : TypeId × Value → H) :
    ReturnsInHanded {} Tryd.checked os 3 .any (fun w args => (Rows.linePrintsSpec.pre enc Tryd.prog Tryd.f3 [] false w args ∧ laidMetH Tryd.prog Rows.linePrintsRow.laid w) ∧ sizedMet enc Tryd.prog Tryd.f3 (OpenSpec.ofChange Rows.linePrintsSpec) false w args) (Rows.linePrintsSpec.post enc Tryd.prog Tryd.f3 false true false false) := by
  refine XCard.returnsInHanded_and_shaped (C := Tryd.checked) (X := fun w _ => laidMetH Tryd.prog Rows.linePrintsRow.laid w) (fun _ _ _ hh h => h.of_heap hh) own started (by kernel_rfl) Tryd.func3
    (ChangeSpec.witness_shaped (enc := enc) (C := Tryd.checked) (os := os) (X := fun w _ => laidMetH Tryd.prog Rows.linePrintsRow.laid w) false (World.laidAll Tryd.prog os Rows.linePrintsRow.laid) #[.agg #[.int .i64 0, .string ByteArray.empty, .string ByteArray.empty, .slice none 0 0], .agg #[.int .i64 0, .int .i64 0, .int .i64 0, .int .i64 0]] 8 (World.laidAll_os _ _ _)
      (World.shaped_of_ZipB (by kernel_rfl) (by kernel_rfl)) (by kernel_rfl) (by kernel_rfl) (by kernel_rfl)
      (by rw [MakeChecks.laidMetH_plain _ _ _ (by kernel_rfl)]; exact laidMet_laidAll _ (by kernel_rfl) (by kernel_rfl))) ?_
  intro W base args ds gs before hval0 hW hcnd hsz0 hL hsh
  rw [MakeChecks.laidMetH_plain _ _ _ (by kernel_rfl)] at hL
  have hT := XCard.tabs_of hL.tail.tail hL.tail.tail.tail hsh
  have hsz : (DataW.weightsEach Tryd.prog (Tryd.f3.params.toList ++ Rows.linePrintsSpec.plain.varTypes Tryd.prog) (ds ++ gs)).all (· ≤ reachBytes) = true := hsz0
  have hval : ∀ (j : Nat) t v, Tryd.f3.params[j]? = some t → args[j]? = some v → Value.okWide Tryd.prog W .any base t v := hval0
  have hW' := hW
  obtain ⟨p, q, hA0, hV, rfl, hfz, hnd⟩ := hW
  have hA : DataW.TrodAll enc Tryd.prog W 0 (fun _ => true) true Tryd.f3.params.toList args.toList ds p := hA0
  rw [Tryd.params3] at hA hval hsz
  obtain ⟨v0, vs0, d0, ds0, p0, q0, hargs, rfl, rfl, h0, r0⟩ := trodAll_cons hA
  obtain ⟨v1, vs1, d1, ds1, p1, q1, rfl, rfl, rfl, h1, r1⟩ := trodAll_cons r0
  obtain ⟨rfl, rfl, rfl⟩ := trodAll_nil r1
  obtain rfl : args = #[v0, v1] := by cases args; simp_all
  obtain ⟨rfl, rfl⟩ := trodVars_none hV
  have k0 := h0
  have lt0 : ∀ x ∈ p0, x.block < W.heap.size := by obtain ⟨m, hm⟩ := k0; exact DataW.trod_lt m _ _ _ hm
  obtain ⟨cs0, rfl, _⟩ := okWide_struct Tryd.underlying24 (hval 0 24 v0 rfl rfl)
  obtain ⟨x0, hK0, w0⟩ := Opn.arg opnS24 hsz (j := 0) (t := 24) rfl rfl h0
  obtain ⟨A0_3, c0_3, he0, hc0_3, hr0_3⟩ := k24_open hK0
  obtain rfl : cs0 = #[.int .i64 x0.f0, .string x0.f1, .string x0.f2, .slice A0_3 x0.f3.length c0_3] := Array.ext' he0
  have k1 := h1
  have lt1 : ∀ x ∈ p1, x.block < W.heap.size := by obtain ⟨m, hm⟩ := k1; exact DataW.trod_lt m _ _ _ hm
  obtain ⟨cs1, rfl, _⟩ := okWide_struct Tryd.underlying27 (hval 1 27 v1 rfl rfl)
  obtain ⟨x1, hK1, w1⟩ := Opn.arg opnS27 hsz (j := 1) (t := 27) rfl rfl h1
  have he1 := k27_open hK1
  obtain rfl : cs1 = #[.int .i64 x1.f0, .int .i64 x1.f1, .int .i64 x1.f2, .int .i64 x1.f3] := Array.ext' he1
  clear hA0 hval0 hsz0 hsz
  obtain ⟨k, h⟩ := Pure.LinePrints x0.f0 x0.f1 x0.f2 x0.f3 x1.f0 x1.f1 x1.f2 x1.f3 (w0.1) (w0.2.1) (w0.2.2.1) (w0.2.2.2) (w1.1) (w1.2.1) (w1.2.2.1) (w1.2.2.2)
  refine (prebendlaw27_LinePrints.calls k x0.f0 x0.f1 x0.f2 _ _ x0.f3 x1.f0 x1.f1 x1.f2 x1.f3 true W hr0_3 hc0_3 h hT rfl).mono fun e W' ⟨he, bel⟩ => ?_
  subst he
  exact ⟨_, rfl, _, _, _, [], _, [], hW', trodAll_mk1 (shut_bool Tryd.underlying4 _), (trodAll_cons_mk (Below.trod laidOut (by kernel_rfl) (of_decide_eq_true (by kernel_rfl)) k0 bel lt0) (trodAll_cons_mk (Below.trod laidOut (by kernel_rfl) (of_decide_eq_true (by kernel_rfl)) k1 bel lt1) trodAll_mk0)), rfl, bel.frame _, fun h => by cases h⟩
theorem over : Rows.linePrintsRow.holds Tryd.pinned (OpenSpec.ofChange Rows.linePrintsSpec) :=
  OpenClaim.holds_of_wide 3 Tryd.f3 rfl rfl rfl rfl rfl rfl rfl ⟨rfl, rfl, rfl, rfl, rfl⟩ rfl rfl rfl rfl rfl (by kernel_rfl) Tryd.func3 (by kernel_rfl)
    (of_decide_eq_true (by kernel_rfl)) (by unfold Func.isWrapper; first | (rw [if_pos (by decide +kernel)]; kernel_rfl) | (rw [if_neg (by decide +kernel)]; exact ⟨rfl, rfl⟩))
    (fun os started H enc _ => lifted os started H enc)
theorem card : Rows.LinePrintsCardSaid :=
  Claim7.holds_tied_plain_at .later [] [.data, .data, .data, .sentinel, .sentinel] true (true, "c8a6fb925cda7d3e62bd413024c0fb3cfa86bd09cc0f60d1cca1ba551bfc76b0") true over (fun _ h => by cases h) (by kernel_rfl) (fun _ h => by cases h) linePrints_row_tie rfl ⟨rfl, rfl⟩ (by kernel_rfl) rfl
    (fun f fn hf hfn => by
      obtain rfl : f = 3 := Option.some.inj ((show Tryd.prog.funcNamed "prebend/prebendlaw27.LinePrints" = some 3 by kernel_rfl).symm.trans hf) |>.symm
      obtain rfl : fn = Tryd.f3 := (Option.some.inj (Tryd.func3.symm.trans hfn)).symm
      exact ⟨by kernel_rfl, fun j t ht => by
        rw [Tryd.params3] at ht
        have hm : t ∈ [24, 27] := by
          have h2 := Array.mem_of_getElem? ht
          simp at h2
          simp [h2]
        have hall : ([24, 27].all fun u => !Tryd.prog.wantsStandIn u) = true := by kernel_rfl
        exact (show Tryd.prog.wantsStandIn t = false by simpa using List.all_eq_true.1 hall t hm)⟩)
    (by kernel_rfl)
#print axioms card
end Go.Proofs.YtkenihkjdbdlkaaDoor.linePrints
namespace Go.Proofs.YtkenihkjdbdlkaaDoor
/-- The tied card, under a short name, for the claim. -/
theorem linePrints_holds : Rows.LinePrintsCardSaid := linePrints.card
end Go.Proofs.YtkenihkjdbdlkaaDoor
