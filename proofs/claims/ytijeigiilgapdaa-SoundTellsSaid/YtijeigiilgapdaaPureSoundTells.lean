/-
 SoundTells, the plain law.
-/
import Derived.Test.YtijeigiilgapdaaQSoundTellsx21
import Derived.Test.YtijeigiilgapdaaXAwake25
namespace Go.Proofs.Ytijeigiilgapdaa.Pure
open Go.RowKit Go.Proofs.Ytijeigiilgapdaa.QSoundTells Go.Proofs.YtijeigiilgapdaaW.PrintWords Go.Proofs.YtijeigiilgapdaaW.PrintLast

theorem of_mono {α : Type} {f : Nat → Option α} {v : α} {K : Nat} (h : f K = some v) (hm : ∀ k, LeO (f k) (f (k + 1))) : XCom.Com f v := ⟨K, fun k hk => by
 obtain ⟨d, rfl⟩ : ∃ d, k = K + d := ⟨k - K, by omega⟩
 induction d with
 | zero => exact h
 | succ d ih => exact hm _ _ (ih (by omega))⟩
theorem awake_com : XCom.Com (fun k => prebendlaw25_awake.f k) true := of_mono XAwk.awake_true (fun k => prebendlaw25_awake.mono k)
theorem SoundTells : prebendlaw25_SoundTells.Pure := by
 intro a0 w next fs al rs js ks nodes h0 h1 h2 hf ha hr hj hk hn
 have jt : XCom.Com (fun k => prebendlaw25_SoundTells.j0 k nodes true a0 w next fs al rs js ks) true := by
  refine XCom.Com.succ ?_
  simp only [prebendlaw25_SoundTells.j0, if_true]
  exact XCom.Com.bind awake_com (XCom.Com.const _)
 have key : XCom.Com (fun k => prebendlaw25_SoundTells.f k a0 w next fs al rs js ks nodes) true := by
  unfold prebendlaw25_SoundTells.f
  refine XCom.Com.iff (fun _ => jt) (fun c1 => ?_)
  refine XCom.Com.iff (fun _ => jt) (fun c2 => ?_)
  by_cases c3 : (fs.length : Int) > 40
  ·rw [decide_eq_true c3]; exact jt
  rw [decide_eq_false c3]
  have hs : XSnd.Sizes js := ⟨by omega, fun j hjm => by
   have := hj.2 j hjm
   simp only [wfS50] at this
   omega⟩
  have hok : prebendref25_Broken.ok fs al rs js = true := by
   unfold prebendref25_Broken.ok
   simp only [Bool.and_eq_true, decide_eq_true_eq]
   exact ⟨by omega, by omega, by omega, hs.1, List.all_eq_true.2 (fun j hjm => decide_eq_true (hs.2 j hjm))⟩
  refine XCom.Com.succ ?_
  simp only [prebendlaw25_SoundTells.j0, Bool.false_eq_true, if_false]
  refine XCom.Com.bind awake_com ?_
  simp only [if_true]
  refine XCom.Com.bind (XSnd.broken_com a0 w next fs al rs js ks nodes (by omega) (by omega) (by omega) hs) ?_
  simp only [prebendref25_Broken.f, hok, if_true, Option.bind_some, beq_self_eq_true]
  exact XCom.Com.const _
 exact key.ex
end Go.Proofs.Ytijeigiilgapdaa.Pure
