/- Written by a program of this session (wip/tools/mp.sh): functions as Lean functions, with proofs that the calls come to what they say. Lean checks it. -/
import Derived.Test.YtkenihkjdbdlkaaDoorRows
import Derived.Test.YtkenihkjdbdlkaaDoorQLineUnlikex6
import Derived.Test.YtkenihkjdbdlkaaDoorPureLineUnlike
import Derived.Test.YtkenihkjdbdlkaaDoorRowData
import Derived.WalkKit
import Derived.ProofKit
import Derived.OpenShut
import Derived.ShutString
import Derived.ChangeOld
import Derived.Below
import Derived.SizedLaws
import Derived.Test.YtkenihkjdbdlkaaDoorXCard
import Derived.Test.YtkenihkjdbdlkaaDoorCards
import Derived.Test.YtkenihkjdbdlkaaDoorXRecs
namespace Go.Proofs.YtkenihkjdbdlkaaDoor.lineUnlike
open Go.ChangeShapes Go.WideShapes Go.ChangeAt Go.RowKit Go.Proofs.YtkenihkjdbdlkaaDoor.QLineUnlike Go.Proofs.YtkenihkjdbdlkaaDoor.RowData Go.Proofs.YtkenihkjdbdlkaaDoorW.PrintWords Go.Proofs.YtkenihkjdbdlkaaDoor.XRecs
open Go.ChangeMaps (open_string shut_string)
set_option linter.unusedVariables false
theorem own : ownKnob Tryd.prog.godebug = none := by kernel_rfl
theorem laidOut : laidOutB Tryd.prog = true := by kernel_rfl
theorem opnS24 : Opn Tryd.prog 24 k24 wfS24 := Opn.imp (Opn.iso (fun x : S24 => (x.f0, x.f1, x.f2, x.f3)) (fun p => (⟨p.1, p.2.1, p.2.2.1, p.2.2.2⟩ : S24)) (fun _ => rfl) (Opn.struct Tryd.underlying24 (by kernel_rfl) (FOpn.cons rfl (by kernel_rfl) rfl (Opn.int Tryd.underlying3) (FOpn.cons rfl (by kernel_rfl) rfl (Opn.string Tryd.underlying9) (FOpn.cons rfl (by kernel_rfl) rfl (Opn.string Tryd.underlying9) (FOpn.one rfl (by kernel_rfl) (Opn.slice (B := 8) Tryd.underlying22 (Opn.int Tryd.underlying3) (by kernel_rfl) (by kernel_rfl)))))))) (fun _ h => h)
theorem opnS27 : Opn Tryd.prog 27 k27 wfS27 := Opn.imp (Opn.iso (fun x : S27 => (x.f0, x.f1, x.f2, x.f3)) (fun p => (⟨p.1, p.2.1, p.2.2.1, p.2.2.2⟩ : S27)) (fun _ => rfl) (Opn.struct Tryd.underlying27 (by kernel_rfl) (FOpn.cons rfl (by kernel_rfl) rfl (Opn.int Tryd.underlying25) (FOpn.cons rfl (by kernel_rfl) rfl (Opn.int Tryd.underlying3) (FOpn.cons rfl (by kernel_rfl) rfl (Opn.int Tryd.underlying3) (FOpn.one rfl (by kernel_rfl) (Opn.int Tryd.underlying3))))))) (fun _ h => h)
set_option maxRecDepth 100000 in
theorem lifted (os : Os) (started : os.Started) (H : Type) (enc : TypeId × Value → H) :
    ReturnsInHanded {} Tryd.checked os 6 .any (fun w args => (Rows.lineUnlikeSpec.pre enc Tryd.prog Tryd.f6 [] false w args ∧ laidMetH Tryd.prog Rows.lineUnlikeRow.laid w) ∧ sizedMet enc Tryd.prog Tryd.f6 (OpenSpec.ofChange Rows.lineUnlikeSpec) false w args) (Rows.lineUnlikeSpec.post enc Tryd.prog Tryd.f6 false true false false) := by
  refine XCard.returnsInHanded_and_shaped (C := Tryd.checked) (X := fun w _ => laidMetH Tryd.prog Rows.lineUnlikeRow.laid w) (fun _ _ _ hh h => h.of_heap hh) own started (by kernel_rfl) Tryd.func6
    (ChangeSpec.witness_shaped (enc := enc) (C := Tryd.checked) (os := os) (X := fun w _ => laidMetH Tryd.prog Rows.lineUnlikeRow.laid w) false (World.laidAll Tryd.prog os Rows.lineUnlikeRow.laid) #[.agg #[.int .i64 0, .string ByteArray.empty, .string ByteArray.empty, .slice none 0 0], .agg #[.int .i64 0, .string ByteArray.empty, .string ByteArray.empty, .slice none 0 0], .agg #[.int .i64 0, .int .i64 0, .int .i64 0, .int .i64 0], .agg #[.int .i64 0, .int .i64 0, .int .i64 0, .int .i64 0]] 8 (World.laidAll_os _ _ _)
      (World.shaped_of_ZipB (by kernel_rfl) (by kernel_rfl)) (by kernel_rfl) (by kernel_rfl) (by kernel_rfl)
      (by rw [MakeChecks.laidMetH_plain _ _ _ (by kernel_rfl)]; exact laidMet_laidAll _ (by kernel_rfl) (by kernel_rfl))) ?_
  intro W base args ds gs before hval0 hW hcnd hsz0 hL hsh
  rw [MakeChecks.laidMetH_plain _ _ _ (by kernel_rfl)] at hL
  have hT := XCard.tabs_of hL.tail.tail hL.tail.tail.tail hsh
  have hsz : (DataW.weightsEach Tryd.prog (Tryd.f6.params.toList ++ Rows.lineUnlikeSpec.plain.varTypes Tryd.prog) (ds ++ gs)).all (· ≤ reachBytes) = true := hsz0
  have hval : ∀ (j : Nat) t v, Tryd.f6.params[j]? = some t → args[j]? = some v → Value.okWide Tryd.prog W .any base t v := hval0
  have hW' := hW
  obtain ⟨p, q, hA0, hV, rfl, hfz, hnd⟩ := hW
  have hA : DataW.TrodAll enc Tryd.prog W 0 (fun _ => true) true Tryd.f6.params.toList args.toList ds p := hA0
  rw [Tryd.params6] at hA hval hsz
  obtain ⟨v0, vs0, d0, ds0, p0, q0, hargs, rfl, rfl, h0, r0⟩ := trodAll_cons hA
  obtain ⟨v1, vs1, d1, ds1, p1, q1, rfl, rfl, rfl, h1, r1⟩ := trodAll_cons r0
  obtain ⟨v2, vs2, d2, ds2, p2, q2, rfl, rfl, rfl, h2, r2⟩ := trodAll_cons r1
  obtain ⟨v3, vs3, d3, ds3, p3, q3, rfl, rfl, rfl, h3, r3⟩ := trodAll_cons r2
  obtain ⟨rfl, rfl, rfl⟩ := trodAll_nil r3
  obtain rfl : args = #[v0, v1, v2, v3] := by cases args; simp_all
  obtain ⟨rfl, rfl⟩ := trodVars_none hV
  have k0 := h0
  have lt0 : ∀ x ∈ p0, x.block < W.heap.size := by obtain ⟨m, hm⟩ := k0; exact DataW.trod_lt m _ _ _ hm
  obtain ⟨cs0, rfl, _⟩ := okWide_struct Tryd.underlying24 (hval 0 24 v0 rfl rfl)
  obtain ⟨x0, hK0, w0⟩ := Opn.arg opnS24 hsz (j := 0) (t := 24) rfl rfl h0
  obtain ⟨A0_3, c0_3, he0, hc0_3, hr0_3⟩ := k24_open hK0
  obtain rfl : cs0 = #[.int .i64 x0.f0, .string x0.f1, .string x0.f2, .slice A0_3 x0.f3.length c0_3] := Array.ext' he0
  have k1 := h1
  have lt1 : ∀ x ∈ p1, x.block < W.heap.size := by obtain ⟨m, hm⟩ := k1; exact DataW.trod_lt m _ _ _ hm
  obtain ⟨cs1, rfl, _⟩ := okWide_struct Tryd.underlying24 (hval 1 24 v1 rfl rfl)
  obtain ⟨x1, hK1, w1⟩ := Opn.arg opnS24 hsz (j := 1) (t := 24) rfl rfl h1
  obtain ⟨A1_3, c1_3, he1, hc1_3, hr1_3⟩ := k24_open hK1
  obtain rfl : cs1 = #[.int .i64 x1.f0, .string x1.f1, .string x1.f2, .slice A1_3 x1.f3.length c1_3] := Array.ext' he1
  have k2 := h2
  have lt2 : ∀ x ∈ p2, x.block < W.heap.size := by obtain ⟨m, hm⟩ := k2; exact DataW.trod_lt m _ _ _ hm
  obtain ⟨cs2, rfl, _⟩ := okWide_struct Tryd.underlying27 (hval 2 27 v2 rfl rfl)
  obtain ⟨x2, hK2, w2⟩ := Opn.arg opnS27 hsz (j := 2) (t := 27) rfl rfl h2
  have he2 := k27_open hK2
  obtain rfl : cs2 = #[.int .i64 x2.f0, .int .i64 x2.f1, .int .i64 x2.f2, .int .i64 x2.f3] := Array.ext' he2
  have k3 := h3
  have lt3 : ∀ x ∈ p3, x.block < W.heap.size := by obtain ⟨m, hm⟩ := k3; exact DataW.trod_lt m _ _ _ hm
  obtain ⟨cs3, rfl, _⟩ := okWide_struct Tryd.underlying27 (hval 3 27 v3 rfl rfl)
  obtain ⟨x3, hK3, w3⟩ := Opn.arg opnS27 hsz (j := 3) (t := 27) rfl rfl h3
  have he3 := k27_open hK3
  obtain rfl : cs3 = #[.int .i64 x3.f0, .int .i64 x3.f1, .int .i64 x3.f2, .int .i64 x3.f3] := Array.ext' he3
  clear hA0 hval0 hsz0 hsz
  obtain ⟨k, h⟩ := Pure.LineUnlike x0.f0 x0.f1 x0.f2 x0.f3 x1.f0 x1.f1 x1.f2 x1.f3 x2.f0 x2.f1 x2.f2 x2.f3 x3.f0 x3.f1 x3.f2 x3.f3 (w0.1) (w0.2.1) (w0.2.2.1) (w0.2.2.2) (w1.1) (w1.2.1) (w1.2.2.1) (w1.2.2.2) (w2.1) (w2.2.1) (w2.2.2.1) (w2.2.2.2) (w3.1) (w3.2.1) (w3.2.2.1) (w3.2.2.2)
  refine (prebendlaw27_LineUnlike.calls k x0.f0 x0.f1 x0.f2 _ _ x0.f3 x1.f0 x1.f1 x1.f2 _ _ x1.f3 x2.f0 x2.f1 x2.f2 x2.f3 x3.f0 x3.f1 x3.f2 x3.f3 true W hr0_3 hc0_3 hr1_3 hc1_3 h hT rfl).mono fun e W' ⟨he, bel⟩ => ?_
  subst he
  exact ⟨_, rfl, _, _, _, [], _, [], hW', trodAll_mk1 (shut_bool Tryd.underlying4 _), (trodAll_cons_mk (Below.trod laidOut (by kernel_rfl) (of_decide_eq_true (by kernel_rfl)) k0 bel lt0) (trodAll_cons_mk (Below.trod laidOut (by kernel_rfl) (of_decide_eq_true (by kernel_rfl)) k1 bel lt1) (trodAll_cons_mk (Below.trod laidOut (by kernel_rfl) (of_decide_eq_true (by kernel_rfl)) k2 bel lt2) (trodAll_cons_mk (Below.trod laidOut (by kernel_rfl) (of_decide_eq_true (by kernel_rfl)) k3 bel lt3) trodAll_mk0)))), rfl, bel.frame _, fun h => by cases h⟩
theorem over : Rows.lineUnlikeRow.holds Tryd.pinned (OpenSpec.ofChange Rows.lineUnlikeSpec) :=
  OpenClaim.holds_of_wide 6 Tryd.f6 rfl rfl rfl rfl rfl rfl rfl ⟨rfl, rfl, rfl, rfl, rfl⟩ rfl rfl rfl rfl rfl (by kernel_rfl) Tryd.func6 (by kernel_rfl)
    (of_decide_eq_true (by kernel_rfl)) (by unfold Func.isWrapper; first | (rw [if_pos (by decide +kernel)]; kernel_rfl) | (rw [if_neg (by decide +kernel)]; exact ⟨rfl, rfl⟩))
    (fun os started H enc _ => lifted os started H enc)
theorem card : Rows.LineUnlikeCardSaid :=
  Claim7.holds_tied_plain_at .later [] [.data, .data, .data, .sentinel, .sentinel] true (true, "c8a6fb925cda7d3e62bd413024c0fb3cfa86bd09cc0f60d1cca1ba551bfc76b0") true over (fun _ h => by cases h) (by kernel_rfl) (fun _ h => by cases h) lineUnlike_row_tie rfl ⟨rfl, rfl⟩ (by kernel_rfl) rfl
    (fun f fn hf hfn => by
      obtain rfl : f = 6 := Option.some.inj ((show Tryd.prog.funcNamed "prebend/prebendlaw27.LineUnlike" = some 6 by kernel_rfl).symm.trans hf) |>.symm
      obtain rfl : fn = Tryd.f6 := (Option.some.inj (Tryd.func6.symm.trans hfn)).symm
      exact ⟨by kernel_rfl, fun j t ht => by
        rw [Tryd.params6] at ht
        have hm : t ∈ [24, 27] := by
          have h2 := Array.mem_of_getElem? ht
          simp at h2
          simp [h2]
        have hall : ([24, 27].all fun u => !Tryd.prog.wantsStandIn u) = true := by kernel_rfl
        exact (show Tryd.prog.wantsStandIn t = false by simpa using List.all_eq_true.1 hall t hm)⟩)
    (by kernel_rfl)
#print axioms card
end Go.Proofs.YtkenihkjdbdlkaaDoor.lineUnlike
namespace Go.Proofs.YtkenihkjdbdlkaaDoor
/-- The tied card, under a short name, for the claim. -/
theorem lineUnlike_holds : Rows.LineUnlikeCardSaid := lineUnlike.card
end Go.Proofs.YtkenihkjdbdlkaaDoor
