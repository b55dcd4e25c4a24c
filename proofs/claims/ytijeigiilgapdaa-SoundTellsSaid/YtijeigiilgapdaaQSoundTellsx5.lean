/- Written by a program of this session (wip/tools/mp.sh): functions as Lean functions, with proofs that the calls come to what they say. Lean checks it. -/
import Derived.Test.YtijeigiilgapdaaQSoundTellsx0
import Derived.Test.YtijeigiilgapdaaXWd
namespace Go.Proofs.Ytijeigiilgapdaa.QSoundTells
open Go.RowKit Go.Proofs.YtijeigiilgapdaaW.PrintWords Go.Proofs.YtijeigiilgapdaaW.PrintLast Go.Proofs.YtijeigiilgapdaaW.PrintMore
attribute [local go_sem] max2_int min2_int max_two min_two max_three min_three max_four min_four   -- for this text's walks alone
set_option linter.unusedVariables false
set_option linter.unusedSimpArgs false

/-! ### job_Find: function 41 -/
def job_Find.f (l0 : List S50) (a1 : Int) : Option Int := some (XIdx.idxF (fun x => x.f0 == a1) l0 0)
theorem job_Find1.call (x : S50) (cs : List Value) (id : Int) (Bi : Nat) (w : World) (hK : k50.K w x cs) (hb : w.cell? ⟨Bi, 0, none⟩ = some (.int .i64 id)) (hlt : Bi < w.heap.size) :
  Calls Try.prog 58 #[.agg cs.toArray, .pointer (some ⟨Bi, 0, none⟩)] w fun e w' => e = .returned (.bool (x.f0 == id)) ∧ Below w.heap.size w w' := by
 obtain ⟨A11, c11, rfl, -, -⟩ := k50_open hK
 go_enter Try.func58, Try.ntmps58
 go_wp2
 go_ret
 exact ⟨rfl, (Below.refl _ _).alloc (Nat.le_refl _) _⟩
set_option maxHeartbeats 1000000 in
theorem job_Find.calls (A0 : Option Addr) (c0 : Nat) (l0 : List S50) (a1 : Int) (r : Int) (w : World) (hr0 : Kd.C k50 w A0 l0.length l0) (hc0 : l0.length ≤ c0) (h : job_Find.f l0 a1 = some r) :
  Calls Try.prog 41 #[.slice A0 l0.length c0, .int .i64 a1] w fun e w' => e = .returned (.int .i64 r) ∧ Below w.heap.size w w' := by
 unfold job_Find.f at h
 have h := Option.some.inj h
 have hb := Below.alloc (Below.refl w.heap.size w) (Nat.le_refl _) (.cells #[.int .i64 a1] 3)
 have hx := blk_new w (.cells #[.int .i64 a1] 3)
 have hlt : w.heap.size < (w.alloc (.cells #[.int .i64 a1] 3)).heap.size := by simp
 have IW := Aside0.mk (XIdx.idxFind1_walk k50 rfl (fun x => x.f0 == a1) w.heap.size A0 c0 l0 (w.alloc (.cells #[.int .i64 a1] 3)) (Kd.C_below hr0 hb) (fun w' x cs hB _ hK => job_Find1.call x cs a1 w.heap.size w' hK ((hB.cell (p := ⟨w.heap.size, 0, none⟩) hlt).trans (by rw [blk_cell hx]; rfl)) (Nat.lt_of_lt_of_le hlt hB.size)))
 rw [h] at IW
 have HB := Aside0.mk hb
 clear h hx hlt hb hr0
 go_enter Try.func41, Try.ntmps41
 go_wp2_with (go_at_call 57; refine IW.out.mono ?_; rintro e w1 ⟨rfl, hB1⟩; have HB1 := Aside0.mk (below_step HB.out hB1); clear hB1)
 go_ret
 exact ⟨rfl, HB1.out⟩

end Go.Proofs.Ytijeigiilgapdaa.QSoundTells
