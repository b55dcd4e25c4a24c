/- Written by a program of this session (wip/tools/mp.sh): functions as Lean functions, with proofs that the calls come to what they say. Lean checks it. -/
import Derived.Test.YtijeigiilgapdaaQSoundTellsx0
import Derived.Test.YtijeigiilgapdaaXWd
import Derived.Test.YtijeigiilgapdaaQSoundTellsx1
import Derived.Test.YtijeigiilgapdaaQSoundTellsx2
import Derived.Test.YtijeigiilgapdaaQSoundTellsx6
import Derived.Test.YtijeigiilgapdaaQSoundTellsx7
import Derived.Test.YtijeigiilgapdaaQSoundTellsx8
import Derived.Test.YtijeigiilgapdaaQSoundTellsx9
namespace Go.Proofs.Ytijeigiilgapdaa.QSoundTells
open Go.RowKit Go.Proofs.YtijeigiilgapdaaW.PrintWords Go.Proofs.YtijeigiilgapdaaW.PrintLast Go.Proofs.YtijeigiilgapdaaW.PrintMore
attribute [local go_sem] max2_int min2_int max_two min_two max_three min_three max_four min_four   -- for this text's walks alone
set_option linter.unusedVariables false
set_option linter.unusedSimpArgs false

/-! ### sound_Broken: function 5 -/
/-- The first that is not right. -/
def sound_chain : List (Option Bool) → Int → Option Int
 | [], _ => some 0
 | x :: xs, n => x.bind fun b => if b = true then sound_chain xs (n + 1) else some n
def sound_Broken.parts (k : Nat) (a0_0 : Int) (a0_1 : Int) (a0_2 : Int) (l0_3 : List (S34)) (l0_4 : List (S36)) (l0_5 : List (S68)) (l0_6 : List (S50)) (l0_7 : List ByteArray) (a1 : Int) : List (Option Bool) := [sound_total.f k a0_0 a0_1 a0_2 l0_3 l0_4 l0_5 l0_6 l0_7, sound_signs.f k a0_0 a0_1 a0_2 l0_3 l0_4 l0_5 l0_6 l0_7, sound_lists.f k a0_0 a0_1 a0_2 l0_3 l0_4 l0_5 l0_6 l0_7, sound_jobs.f k a0_0 a0_1 a0_2 l0_3 l0_4 l0_5 l0_6 l0_7, sound_liened.f k a0_0 a0_1 a0_2 l0_3 l0_4 l0_5 l0_6 l0_7, sound_spent.f k a0_0 a0_1 a0_2 l0_3 l0_4 l0_5 l0_6 l0_7, sound_covered.f k a0_0 a0_1 a0_2 l0_3 l0_4 l0_5 l0_6 l0_7, sound_apart.f k a0_0 a0_1 a0_2 l0_3 l0_4 l0_5 l0_6 l0_7 a1, (tree_Over.f k l0_3 l0_4).map (fun o => decide (o < 0))]
def sound_Broken.f (k : Nat) (a0_0 : Int) (a0_1 : Int) (a0_2 : Int) (l0_3 : List (S34)) (l0_4 : List (S36)) (l0_5 : List (S68)) (l0_6 : List (S50)) (l0_7 : List ByteArray) (a1 : Int) : Option (Int) := sound_chain (sound_Broken.parts k a0_0 a0_1 a0_2 l0_3 l0_4 l0_5 l0_6 l0_7 a1) 1
theorem sound_Broken1.call (k : Nat) (a0_0 : Int) (a0_1 : Int) (a0_2 : Int) (A0_3 : Option Addr) (c0_3 : Nat) (l0_3 : List (S34)) (A0_4 : Option Addr) (c0_4 : Nat) (l0_4 : List (S36)) (A0_5 : Option Addr) (c0_5 : Nat) (l0_5 : List (S68)) (A0_6 : Option Addr) (c0_6 : Nat) (l0_6 : List (S50)) (A0_7 : Option Addr) (c0_7 : Nat) (l0_7 : List ByteArray) (gs : Nat) (r : Bool) (w : World) (hx : w.heap[gs]? = some (.cells #[.int .i64 a0_0, .int .i64 a0_1, .int .i64 a0_2, .slice A0_3 l0_3.length c0_3, .slice A0_4 l0_4.length c0_4, .slice A0_5 l0_5.length c0_5, .slice A0_6 l0_6.length c0_6, .slice A0_7 l0_7.length c0_7] 28 (0, 0))) (hr0_3 : Kd.C k34 w A0_3 l0_3.length l0_3) (hc0_3 : l0_3.length ≤ c0_3) (hr0_4 : Kd.C k36 w A0_4 l0_4.length l0_4) (hc0_4 : l0_4.length ≤ c0_4) (hr0_5 : Kd.C k68 w A0_5 l0_5.length l0_5) (hc0_5 : l0_5.length ≤ c0_5) (hr0_6 : Kd.C k50 w A0_6 l0_6.length l0_6) (hc0_6 : l0_6.length ≤ c0_6) (hr0_7 : Kd.C Kd.string w A0_7 l0_7.length l0_7) (hc0_7 : l0_7.length ≤ c0_7) (h : sound_total.f k a0_0 a0_1 a0_2 l0_3 l0_4 l0_5 l0_6 l0_7 = some r) :
  Calls Try.prog 8 #[.pointer (some ⟨gs, 0, none⟩)] w fun e w' => e = .returned (.bool r) ∧ Below w.heap.size w w' := by
 have CW := am (sound_total.calls k a0_0 a0_1 a0_2 A0_3 c0_3 l0_3 A0_4 c0_4 l0_4 A0_5 c0_5 l0_5 A0_6 c0_6 l0_6 A0_7 c0_7 l0_7 r w hr0_3 hc0_3 hr0_4 hc0_4 hr0_5 hc0_5 hr0_6 hc0_6 hr0_7 hc0_7 h)
 have hx0 : w.cell? ⟨gs, 0, none⟩ = some (.int .i64 a0_0) := by rw [blk_cell hx]; rfl
 have hx1 : w.cell? ⟨gs, 1, none⟩ = some (.int .i64 a0_1) := by rw [blk_cell hx]; rfl
 have hx2 : w.cell? ⟨gs, 2, none⟩ = some (.int .i64 a0_2) := by rw [blk_cell hx]; rfl
 have hx3 : w.cell? ⟨gs, 3, none⟩ = some (.slice A0_3 l0_3.length c0_3) := by rw [blk_cell hx]; rfl
 have hx4 : w.cell? ⟨gs, 4, none⟩ = some (.slice A0_4 l0_4.length c0_4) := by rw [blk_cell hx]; rfl
 have hx5 : w.cell? ⟨gs, 5, none⟩ = some (.slice A0_5 l0_5.length c0_5) := by rw [blk_cell hx]; rfl
 have hx6 : w.cell? ⟨gs, 6, none⟩ = some (.slice A0_6 l0_6.length c0_6) := by rw [blk_cell hx]; rfl
 have hx7 : w.cell? ⟨gs, 7, none⟩ = some (.slice A0_7 l0_7.length c0_7) := by rw [blk_cell hx]; rfl
 clear hx h hr0_3 hr0_4 hr0_5 hr0_6 hr0_7
 go_enter Try.func8, Try.ntmps8
 go_wp2_with (go_at_call 9; refine CW.out.mono ?_; rintro e w1 ⟨rfl, hB1⟩; have HB1 := am hB1; clear hB1)
 go_ret
 exact ⟨rfl, HB1.out⟩
theorem sound_Broken2.call (k : Nat) (a0_0 : Int) (a0_1 : Int) (a0_2 : Int) (A0_3 : Option Addr) (c0_3 : Nat) (l0_3 : List (S34)) (A0_4 : Option Addr) (c0_4 : Nat) (l0_4 : List (S36)) (A0_5 : Option Addr) (c0_5 : Nat) (l0_5 : List (S68)) (A0_6 : Option Addr) (c0_6 : Nat) (l0_6 : List (S50)) (A0_7 : Option Addr) (c0_7 : Nat) (l0_7 : List ByteArray) (gs : Nat) (r : Bool) (w : World) (hx : w.heap[gs]? = some (.cells #[.int .i64 a0_0, .int .i64 a0_1, .int .i64 a0_2, .slice A0_3 l0_3.length c0_3, .slice A0_4 l0_4.length c0_4, .slice A0_5 l0_5.length c0_5, .slice A0_6 l0_6.length c0_6, .slice A0_7 l0_7.length c0_7] 28 (0, 0))) (hr0_3 : Kd.C k34 w A0_3 l0_3.length l0_3) (hc0_3 : l0_3.length ≤ c0_3) (hr0_4 : Kd.C k36 w A0_4 l0_4.length l0_4) (hc0_4 : l0_4.length ≤ c0_4) (hr0_5 : Kd.C k68 w A0_5 l0_5.length l0_5) (hc0_5 : l0_5.length ≤ c0_5) (hr0_6 : Kd.C k50 w A0_6 l0_6.length l0_6) (hc0_6 : l0_6.length ≤ c0_6) (hr0_7 : Kd.C Kd.string w A0_7 l0_7.length l0_7) (hc0_7 : l0_7.length ≤ c0_7) (h : sound_signs.f k a0_0 a0_1 a0_2 l0_3 l0_4 l0_5 l0_6 l0_7 = some r) :
  Calls Try.prog 10 #[.pointer (some ⟨gs, 0, none⟩)] w fun e w' => e = .returned (.bool r) ∧ Below w.heap.size w w' := by
 have CW := am (sound_signs.calls k a0_0 a0_1 a0_2 A0_3 c0_3 l0_3 A0_4 c0_4 l0_4 A0_5 c0_5 l0_5 A0_6 c0_6 l0_6 A0_7 c0_7 l0_7 r w hr0_3 hc0_3 hr0_4 hc0_4 hr0_5 hc0_5 hr0_6 hc0_6 hr0_7 hc0_7 h)
 have hx0 : w.cell? ⟨gs, 0, none⟩ = some (.int .i64 a0_0) := by rw [blk_cell hx]; rfl
 have hx1 : w.cell? ⟨gs, 1, none⟩ = some (.int .i64 a0_1) := by rw [blk_cell hx]; rfl
 have hx2 : w.cell? ⟨gs, 2, none⟩ = some (.int .i64 a0_2) := by rw [blk_cell hx]; rfl
 have hx3 : w.cell? ⟨gs, 3, none⟩ = some (.slice A0_3 l0_3.length c0_3) := by rw [blk_cell hx]; rfl
 have hx4 : w.cell? ⟨gs, 4, none⟩ = some (.slice A0_4 l0_4.length c0_4) := by rw [blk_cell hx]; rfl
 have hx5 : w.cell? ⟨gs, 5, none⟩ = some (.slice A0_5 l0_5.length c0_5) := by rw [blk_cell hx]; rfl
 have hx6 : w.cell? ⟨gs, 6, none⟩ = some (.slice A0_6 l0_6.length c0_6) := by rw [blk_cell hx]; rfl
 have hx7 : w.cell? ⟨gs, 7, none⟩ = some (.slice A0_7 l0_7.length c0_7) := by rw [blk_cell hx]; rfl
 clear hx h hr0_3 hr0_4 hr0_5 hr0_6 hr0_7
 go_enter Try.func10, Try.ntmps10
 go_wp2_with (go_at_call 11; refine CW.out.mono ?_; rintro e w1 ⟨rfl, hB1⟩; have HB1 := am hB1; clear hB1)
 go_ret
 exact ⟨rfl, HB1.out⟩
theorem sound_Broken3.call (k : Nat) (a0_0 : Int) (a0_1 : Int) (a0_2 : Int) (A0_3 : Option Addr) (c0_3 : Nat) (l0_3 : List (S34)) (A0_4 : Option Addr) (c0_4 : Nat) (l0_4 : List (S36)) (A0_5 : Option Addr) (c0_5 : Nat) (l0_5 : List (S68)) (A0_6 : Option Addr) (c0_6 : Nat) (l0_6 : List (S50)) (A0_7 : Option Addr) (c0_7 : Nat) (l0_7 : List ByteArray) (gs : Nat) (r : Bool) (w : World) (hx : w.heap[gs]? = some (.cells #[.int .i64 a0_0, .int .i64 a0_1, .int .i64 a0_2, .slice A0_3 l0_3.length c0_3, .slice A0_4 l0_4.length c0_4, .slice A0_5 l0_5.length c0_5, .slice A0_6 l0_6.length c0_6, .slice A0_7 l0_7.length c0_7] 28 (0, 0))) (hr0_3 : Kd.C k34 w A0_3 l0_3.length l0_3) (hc0_3 : l0_3.length ≤ c0_3) (hr0_4 : Kd.C k36 w A0_4 l0_4.length l0_4) (hc0_4 : l0_4.length ≤ c0_4) (hr0_5 : Kd.C k68 w A0_5 l0_5.length l0_5) (hc0_5 : l0_5.length ≤ c0_5) (hr0_6 : Kd.C k50 w A0_6 l0_6.length l0_6) (hc0_6 : l0_6.length ≤ c0_6) (hr0_7 : Kd.C Kd.string w A0_7 l0_7.length l0_7) (hc0_7 : l0_7.length ≤ c0_7) (h : sound_lists.f k a0_0 a0_1 a0_2 l0_3 l0_4 l0_5 l0_6 l0_7 = some r) :
  Calls Try.prog 12 #[.pointer (some ⟨gs, 0, none⟩)] w fun e w' => e = .returned (.bool r) ∧ Below w.heap.size w w' := by
 have CW := am (sound_lists.calls k a0_0 a0_1 a0_2 A0_3 c0_3 l0_3 A0_4 c0_4 l0_4 A0_5 c0_5 l0_5 A0_6 c0_6 l0_6 A0_7 c0_7 l0_7 r w hr0_3 hc0_3 hr0_4 hc0_4 hr0_5 hc0_5 hr0_6 hc0_6 hr0_7 hc0_7 h)
 have hx0 : w.cell? ⟨gs, 0, none⟩ = some (.int .i64 a0_0) := by rw [blk_cell hx]; rfl
 have hx1 : w.cell? ⟨gs, 1, none⟩ = some (.int .i64 a0_1) := by rw [blk_cell hx]; rfl
 have hx2 : w.cell? ⟨gs, 2, none⟩ = some (.int .i64 a0_2) := by rw [blk_cell hx]; rfl
 have hx3 : w.cell? ⟨gs, 3, none⟩ = some (.slice A0_3 l0_3.length c0_3) := by rw [blk_cell hx]; rfl
 have hx4 : w.cell? ⟨gs, 4, none⟩ = some (.slice A0_4 l0_4.length c0_4) := by rw [blk_cell hx]; rfl
 have hx5 : w.cell? ⟨gs, 5, none⟩ = some (.slice A0_5 l0_5.length c0_5) := by rw [blk_cell hx]; rfl
 have hx6 : w.cell? ⟨gs, 6, none⟩ = some (.slice A0_6 l0_6.length c0_6) := by rw [blk_cell hx]; rfl
 have hx7 : w.cell? ⟨gs, 7, none⟩ = some (.slice A0_7 l0_7.length c0_7) := by rw [blk_cell hx]; rfl
 clear hx h hr0_3 hr0_4 hr0_5 hr0_6 hr0_7
 go_enter Try.func12, Try.ntmps12
 go_wp2_with (go_at_call 13; refine CW.out.mono ?_; rintro e w1 ⟨rfl, hB1⟩; have HB1 := am hB1; clear hB1)
 go_ret
 exact ⟨rfl, HB1.out⟩
theorem sound_Broken4.call (k : Nat) (a0_0 : Int) (a0_1 : Int) (a0_2 : Int) (A0_3 : Option Addr) (c0_3 : Nat) (l0_3 : List (S34)) (A0_4 : Option Addr) (c0_4 : Nat) (l0_4 : List (S36)) (A0_5 : Option Addr) (c0_5 : Nat) (l0_5 : List (S68)) (A0_6 : Option Addr) (c0_6 : Nat) (l0_6 : List (S50)) (A0_7 : Option Addr) (c0_7 : Nat) (l0_7 : List ByteArray) (gs : Nat) (r : Bool) (w : World) (hx : w.heap[gs]? = some (.cells #[.int .i64 a0_0, .int .i64 a0_1, .int .i64 a0_2, .slice A0_3 l0_3.length c0_3, .slice A0_4 l0_4.length c0_4, .slice A0_5 l0_5.length c0_5, .slice A0_6 l0_6.length c0_6, .slice A0_7 l0_7.length c0_7] 28 (0, 0))) (hr0_3 : Kd.C k34 w A0_3 l0_3.length l0_3) (hc0_3 : l0_3.length ≤ c0_3) (hr0_4 : Kd.C k36 w A0_4 l0_4.length l0_4) (hc0_4 : l0_4.length ≤ c0_4) (hr0_5 : Kd.C k68 w A0_5 l0_5.length l0_5) (hc0_5 : l0_5.length ≤ c0_5) (hr0_6 : Kd.C k50 w A0_6 l0_6.length l0_6) (hc0_6 : l0_6.length ≤ c0_6) (hr0_7 : Kd.C Kd.string w A0_7 l0_7.length l0_7) (hc0_7 : l0_7.length ≤ c0_7) (h : sound_jobs.f k a0_0 a0_1 a0_2 l0_3 l0_4 l0_5 l0_6 l0_7 = some r) :
  Calls Try.prog 14 #[.pointer (some ⟨gs, 0, none⟩)] w fun e w' => e = .returned (.bool r) ∧ Below w.heap.size w w' := by
 have CW := am (sound_jobs.calls k a0_0 a0_1 a0_2 A0_3 c0_3 l0_3 A0_4 c0_4 l0_4 A0_5 c0_5 l0_5 A0_6 c0_6 l0_6 A0_7 c0_7 l0_7 r w hr0_3 hc0_3 hr0_4 hc0_4 hr0_5 hc0_5 hr0_6 hc0_6 hr0_7 hc0_7 h)
 have hx0 : w.cell? ⟨gs, 0, none⟩ = some (.int .i64 a0_0) := by rw [blk_cell hx]; rfl
 have hx1 : w.cell? ⟨gs, 1, none⟩ = some (.int .i64 a0_1) := by rw [blk_cell hx]; rfl
 have hx2 : w.cell? ⟨gs, 2, none⟩ = some (.int .i64 a0_2) := by rw [blk_cell hx]; rfl
 have hx3 : w.cell? ⟨gs, 3, none⟩ = some (.slice A0_3 l0_3.length c0_3) := by rw [blk_cell hx]; rfl
 have hx4 : w.cell? ⟨gs, 4, none⟩ = some (.slice A0_4 l0_4.length c0_4) := by rw [blk_cell hx]; rfl
 have hx5 : w.cell? ⟨gs, 5, none⟩ = some (.slice A0_5 l0_5.length c0_5) := by rw [blk_cell hx]; rfl
 have hx6 : w.cell? ⟨gs, 6, none⟩ = some (.slice A0_6 l0_6.length c0_6) := by rw [blk_cell hx]; rfl
 have hx7 : w.cell? ⟨gs, 7, none⟩ = some (.slice A0_7 l0_7.length c0_7) := by rw [blk_cell hx]; rfl
 clear hx h hr0_3 hr0_4 hr0_5 hr0_6 hr0_7
 go_enter Try.func14, Try.ntmps14
 go_wp2_with (go_at_call 15; refine CW.out.mono ?_; rintro e w1 ⟨rfl, hB1⟩; have HB1 := am hB1; clear hB1)
 go_ret
 exact ⟨rfl, HB1.out⟩
theorem sound_Broken5.call (k : Nat) (a0_0 : Int) (a0_1 : Int) (a0_2 : Int) (A0_3 : Option Addr) (c0_3 : Nat) (l0_3 : List (S34)) (A0_4 : Option Addr) (c0_4 : Nat) (l0_4 : List (S36)) (A0_5 : Option Addr) (c0_5 : Nat) (l0_5 : List (S68)) (A0_6 : Option Addr) (c0_6 : Nat) (l0_6 : List (S50)) (A0_7 : Option Addr) (c0_7 : Nat) (l0_7 : List ByteArray) (gs : Nat) (r : Bool) (w : World) (hx : w.heap[gs]? = some (.cells #[.int .i64 a0_0, .int .i64 a0_1, .int .i64 a0_2, .slice A0_3 l0_3.length c0_3, .slice A0_4 l0_4.length c0_4, .slice A0_5 l0_5.length c0_5, .slice A0_6 l0_6.length c0_6, .slice A0_7 l0_7.length c0_7] 28 (0, 0))) (hr0_3 : Kd.C k34 w A0_3 l0_3.length l0_3) (hc0_3 : l0_3.length ≤ c0_3) (hr0_4 : Kd.C k36 w A0_4 l0_4.length l0_4) (hc0_4 : l0_4.length ≤ c0_4) (hr0_5 : Kd.C k68 w A0_5 l0_5.length l0_5) (hc0_5 : l0_5.length ≤ c0_5) (hr0_6 : Kd.C k50 w A0_6 l0_6.length l0_6) (hc0_6 : l0_6.length ≤ c0_6) (hr0_7 : Kd.C Kd.string w A0_7 l0_7.length l0_7) (hc0_7 : l0_7.length ≤ c0_7) (h : sound_liened.f k a0_0 a0_1 a0_2 l0_3 l0_4 l0_5 l0_6 l0_7 = some r) :
  Calls Try.prog 16 #[.pointer (some ⟨gs, 0, none⟩)] w fun e w' => e = .returned (.bool r) ∧ Below w.heap.size w w' := by
 have CW := am (sound_liened.calls k a0_0 a0_1 a0_2 A0_3 c0_3 l0_3 A0_4 c0_4 l0_4 A0_5 c0_5 l0_5 A0_6 c0_6 l0_6 A0_7 c0_7 l0_7 r w hr0_3 hc0_3 hr0_4 hc0_4 hr0_5 hc0_5 hr0_6 hc0_6 hr0_7 hc0_7 h)
 have hx0 : w.cell? ⟨gs, 0, none⟩ = some (.int .i64 a0_0) := by rw [blk_cell hx]; rfl
 have hx1 : w.cell? ⟨gs, 1, none⟩ = some (.int .i64 a0_1) := by rw [blk_cell hx]; rfl
 have hx2 : w.cell? ⟨gs, 2, none⟩ = some (.int .i64 a0_2) := by rw [blk_cell hx]; rfl
 have hx3 : w.cell? ⟨gs, 3, none⟩ = some (.slice A0_3 l0_3.length c0_3) := by rw [blk_cell hx]; rfl
 have hx4 : w.cell? ⟨gs, 4, none⟩ = some (.slice A0_4 l0_4.length c0_4) := by rw [blk_cell hx]; rfl
 have hx5 : w.cell? ⟨gs, 5, none⟩ = some (.slice A0_5 l0_5.length c0_5) := by rw [blk_cell hx]; rfl
 have hx6 : w.cell? ⟨gs, 6, none⟩ = some (.slice A0_6 l0_6.length c0_6) := by rw [blk_cell hx]; rfl
 have hx7 : w.cell? ⟨gs, 7, none⟩ = some (.slice A0_7 l0_7.length c0_7) := by rw [blk_cell hx]; rfl
 clear hx h hr0_3 hr0_4 hr0_5 hr0_6 hr0_7
 go_enter Try.func16, Try.ntmps16
 go_wp2_with (go_at_call 17; refine CW.out.mono ?_; rintro e w1 ⟨rfl, hB1⟩; have HB1 := am hB1; clear hB1)
 go_ret
 exact ⟨rfl, HB1.out⟩
theorem sound_Broken6.call (k : Nat) (a0_0 : Int) (a0_1 : Int) (a0_2 : Int) (A0_3 : Option Addr) (c0_3 : Nat) (l0_3 : List (S34)) (A0_4 : Option Addr) (c0_4 : Nat) (l0_4 : List (S36)) (A0_5 : Option Addr) (c0_5 : Nat) (l0_5 : List (S68)) (A0_6 : Option Addr) (c0_6 : Nat) (l0_6 : List (S50)) (A0_7 : Option Addr) (c0_7 : Nat) (l0_7 : List ByteArray) (gs : Nat) (r : Bool) (w : World) (hx : w.heap[gs]? = some (.cells #[.int .i64 a0_0, .int .i64 a0_1, .int .i64 a0_2, .slice A0_3 l0_3.length c0_3, .slice A0_4 l0_4.length c0_4, .slice A0_5 l0_5.length c0_5, .slice A0_6 l0_6.length c0_6, .slice A0_7 l0_7.length c0_7] 28 (0, 0))) (hr0_3 : Kd.C k34 w A0_3 l0_3.length l0_3) (hc0_3 : l0_3.length ≤ c0_3) (hr0_4 : Kd.C k36 w A0_4 l0_4.length l0_4) (hc0_4 : l0_4.length ≤ c0_4) (hr0_5 : Kd.C k68 w A0_5 l0_5.length l0_5) (hc0_5 : l0_5.length ≤ c0_5) (hr0_6 : Kd.C k50 w A0_6 l0_6.length l0_6) (hc0_6 : l0_6.length ≤ c0_6) (hr0_7 : Kd.C Kd.string w A0_7 l0_7.length l0_7) (hc0_7 : l0_7.length ≤ c0_7) (h : sound_spent.f k a0_0 a0_1 a0_2 l0_3 l0_4 l0_5 l0_6 l0_7 = some r) :
  Calls Try.prog 18 #[.pointer (some ⟨gs, 0, none⟩)] w fun e w' => e = .returned (.bool r) ∧ Below w.heap.size w w' := by
 have CW := am (sound_spent.calls k a0_0 a0_1 a0_2 A0_3 c0_3 l0_3 A0_4 c0_4 l0_4 A0_5 c0_5 l0_5 A0_6 c0_6 l0_6 A0_7 c0_7 l0_7 r w hr0_3 hc0_3 hr0_4 hc0_4 hr0_5 hc0_5 hr0_6 hc0_6 hr0_7 hc0_7 h)
 have hx0 : w.cell? ⟨gs, 0, none⟩ = some (.int .i64 a0_0) := by rw [blk_cell hx]; rfl
 have hx1 : w.cell? ⟨gs, 1, none⟩ = some (.int .i64 a0_1) := by rw [blk_cell hx]; rfl
 have hx2 : w.cell? ⟨gs, 2, none⟩ = some (.int .i64 a0_2) := by rw [blk_cell hx]; rfl
 have hx3 : w.cell? ⟨gs, 3, none⟩ = some (.slice A0_3 l0_3.length c0_3) := by rw [blk_cell hx]; rfl
 have hx4 : w.cell? ⟨gs, 4, none⟩ = some (.slice A0_4 l0_4.length c0_4) := by rw [blk_cell hx]; rfl
 have hx5 : w.cell? ⟨gs, 5, none⟩ = some (.slice A0_5 l0_5.length c0_5) := by rw [blk_cell hx]; rfl
 have hx6 : w.cell? ⟨gs, 6, none⟩ = some (.slice A0_6 l0_6.length c0_6) := by rw [blk_cell hx]; rfl
 have hx7 : w.cell? ⟨gs, 7, none⟩ = some (.slice A0_7 l0_7.length c0_7) := by rw [blk_cell hx]; rfl
 clear hx h hr0_3 hr0_4 hr0_5 hr0_6 hr0_7
 go_enter Try.func18, Try.ntmps18
 go_wp2_with (go_at_call 19; refine CW.out.mono ?_; rintro e w1 ⟨rfl, hB1⟩; have HB1 := am hB1; clear hB1)
 go_ret
 exact ⟨rfl, HB1.out⟩
theorem sound_Broken7.call (k : Nat) (a0_0 : Int) (a0_1 : Int) (a0_2 : Int) (A0_3 : Option Addr) (c0_3 : Nat) (l0_3 : List (S34)) (A0_4 : Option Addr) (c0_4 : Nat) (l0_4 : List (S36)) (A0_5 : Option Addr) (c0_5 : Nat) (l0_5 : List (S68)) (A0_6 : Option Addr) (c0_6 : Nat) (l0_6 : List (S50)) (A0_7 : Option Addr) (c0_7 : Nat) (l0_7 : List ByteArray) (gs : Nat) (r : Bool) (w : World) (hx : w.heap[gs]? = some (.cells #[.int .i64 a0_0, .int .i64 a0_1, .int .i64 a0_2, .slice A0_3 l0_3.length c0_3, .slice A0_4 l0_4.length c0_4, .slice A0_5 l0_5.length c0_5, .slice A0_6 l0_6.length c0_6, .slice A0_7 l0_7.length c0_7] 28 (0, 0))) (hr0_3 : Kd.C k34 w A0_3 l0_3.length l0_3) (hc0_3 : l0_3.length ≤ c0_3) (hr0_4 : Kd.C k36 w A0_4 l0_4.length l0_4) (hc0_4 : l0_4.length ≤ c0_4) (hr0_5 : Kd.C k68 w A0_5 l0_5.length l0_5) (hc0_5 : l0_5.length ≤ c0_5) (hr0_6 : Kd.C k50 w A0_6 l0_6.length l0_6) (hc0_6 : l0_6.length ≤ c0_6) (hr0_7 : Kd.C Kd.string w A0_7 l0_7.length l0_7) (hc0_7 : l0_7.length ≤ c0_7) (h : sound_covered.f k a0_0 a0_1 a0_2 l0_3 l0_4 l0_5 l0_6 l0_7 = some r) :
  Calls Try.prog 20 #[.pointer (some ⟨gs, 0, none⟩)] w fun e w' => e = .returned (.bool r) ∧ Below w.heap.size w w' := by
 have CW := am (sound_covered.calls k a0_0 a0_1 a0_2 A0_3 c0_3 l0_3 A0_4 c0_4 l0_4 A0_5 c0_5 l0_5 A0_6 c0_6 l0_6 A0_7 c0_7 l0_7 r w hr0_3 hc0_3 hr0_4 hc0_4 hr0_5 hc0_5 hr0_6 hc0_6 hr0_7 hc0_7 h)
 have hx0 : w.cell? ⟨gs, 0, none⟩ = some (.int .i64 a0_0) := by rw [blk_cell hx]; rfl
 have hx1 : w.cell? ⟨gs, 1, none⟩ = some (.int .i64 a0_1) := by rw [blk_cell hx]; rfl
 have hx2 : w.cell? ⟨gs, 2, none⟩ = some (.int .i64 a0_2) := by rw [blk_cell hx]; rfl
 have hx3 : w.cell? ⟨gs, 3, none⟩ = some (.slice A0_3 l0_3.length c0_3) := by rw [blk_cell hx]; rfl
 have hx4 : w.cell? ⟨gs, 4, none⟩ = some (.slice A0_4 l0_4.length c0_4) := by rw [blk_cell hx]; rfl
 have hx5 : w.cell? ⟨gs, 5, none⟩ = some (.slice A0_5 l0_5.length c0_5) := by rw [blk_cell hx]; rfl
 have hx6 : w.cell? ⟨gs, 6, none⟩ = some (.slice A0_6 l0_6.length c0_6) := by rw [blk_cell hx]; rfl
 have hx7 : w.cell? ⟨gs, 7, none⟩ = some (.slice A0_7 l0_7.length c0_7) := by rw [blk_cell hx]; rfl
 clear hx h hr0_3 hr0_4 hr0_5 hr0_6 hr0_7
 go_enter Try.func20, Try.ntmps20
 go_wp2_with (go_at_call 21; refine CW.out.mono ?_; rintro e w1 ⟨rfl, hB1⟩; have HB1 := am hB1; clear hB1)
 go_ret
 exact ⟨rfl, HB1.out⟩
theorem sound_Broken8.call (k : Nat) (a0_0 : Int) (a0_1 : Int) (a0_2 : Int) (A0_3 : Option Addr) (c0_3 : Nat) (l0_3 : List (S34)) (A0_4 : Option Addr) (c0_4 : Nat) (l0_4 : List (S36)) (A0_5 : Option Addr) (c0_5 : Nat) (l0_5 : List (S68)) (A0_6 : Option Addr) (c0_6 : Nat) (l0_6 : List (S50)) (A0_7 : Option Addr) (c0_7 : Nat) (l0_7 : List ByteArray) (a1 : Int) (gn : Nat) (gs : Nat) (r : Bool) (w : World) (hx : w.heap[gs]? = some (.cells #[.int .i64 a0_0, .int .i64 a0_1, .int .i64 a0_2, .slice A0_3 l0_3.length c0_3, .slice A0_4 l0_4.length c0_4, .slice A0_5 l0_5.length c0_5, .slice A0_6 l0_6.length c0_6, .slice A0_7 l0_7.length c0_7] 28 (0, 0))) (hn : w.cell? ⟨gn, 0, none⟩ = some (.int .i64 a1)) (hr0_3 : Kd.C k34 w A0_3 l0_3.length l0_3) (hc0_3 : l0_3.length ≤ c0_3) (hr0_4 : Kd.C k36 w A0_4 l0_4.length l0_4) (hc0_4 : l0_4.length ≤ c0_4) (hr0_5 : Kd.C k68 w A0_5 l0_5.length l0_5) (hc0_5 : l0_5.length ≤ c0_5) (hr0_6 : Kd.C k50 w A0_6 l0_6.length l0_6) (hc0_6 : l0_6.length ≤ c0_6) (hr0_7 : Kd.C Kd.string w A0_7 l0_7.length l0_7) (hc0_7 : l0_7.length ≤ c0_7) (h : sound_apart.f k a0_0 a0_1 a0_2 l0_3 l0_4 l0_5 l0_6 l0_7 a1 = some r) :
  Calls Try.prog 22 #[.pointer (some ⟨gs, 0, none⟩), .pointer (some ⟨gn, 0, none⟩)] w fun e w' => e = .returned (.bool r) ∧ Below w.heap.size w w' := by
 have CW := am (sound_apart.calls k a0_0 a0_1 a0_2 A0_3 c0_3 l0_3 A0_4 c0_4 l0_4 A0_5 c0_5 l0_5 A0_6 c0_6 l0_6 A0_7 c0_7 l0_7 a1 r w hr0_3 hc0_3 hr0_4 hc0_4 hr0_5 hc0_5 hr0_6 hc0_6 hr0_7 hc0_7 h)
 have hx0 : w.cell? ⟨gs, 0, none⟩ = some (.int .i64 a0_0) := by rw [blk_cell hx]; rfl
 have hx1 : w.cell? ⟨gs, 1, none⟩ = some (.int .i64 a0_1) := by rw [blk_cell hx]; rfl
 have hx2 : w.cell? ⟨gs, 2, none⟩ = some (.int .i64 a0_2) := by rw [blk_cell hx]; rfl
 have hx3 : w.cell? ⟨gs, 3, none⟩ = some (.slice A0_3 l0_3.length c0_3) := by rw [blk_cell hx]; rfl
 have hx4 : w.cell? ⟨gs, 4, none⟩ = some (.slice A0_4 l0_4.length c0_4) := by rw [blk_cell hx]; rfl
 have hx5 : w.cell? ⟨gs, 5, none⟩ = some (.slice A0_5 l0_5.length c0_5) := by rw [blk_cell hx]; rfl
 have hx6 : w.cell? ⟨gs, 6, none⟩ = some (.slice A0_6 l0_6.length c0_6) := by rw [blk_cell hx]; rfl
 have hx7 : w.cell? ⟨gs, 7, none⟩ = some (.slice A0_7 l0_7.length c0_7) := by rw [blk_cell hx]; rfl
 clear hx h hr0_3 hr0_4 hr0_5 hr0_6 hr0_7
 go_enter Try.func22, Try.ntmps22
 go_wp2_with (go_at_call 23; refine CW.out.mono ?_; rintro e w1 ⟨rfl, hB1⟩; have HB1 := am hB1; clear hB1)
 go_ret
 exact ⟨rfl, HB1.out⟩
theorem sound_Broken9.call (k : Nat) (a0_0 : Int) (a0_1 : Int) (a0_2 : Int) (A0_3 : Option Addr) (c0_3 : Nat) (l0_3 : List (S34)) (A0_4 : Option Addr) (c0_4 : Nat) (l0_4 : List (S36)) (A0_5 : Option Addr) (c0_5 : Nat) (l0_5 : List (S68)) (A0_6 : Option Addr) (c0_6 : Nat) (l0_6 : List (S50)) (A0_7 : Option Addr) (c0_7 : Nat) (l0_7 : List ByteArray) (gs : Nat) (r : Int) (w : World) (hx : w.heap[gs]? = some (.cells #[.int .i64 a0_0, .int .i64 a0_1, .int .i64 a0_2, .slice A0_3 l0_3.length c0_3, .slice A0_4 l0_4.length c0_4, .slice A0_5 l0_5.length c0_5, .slice A0_6 l0_6.length c0_6, .slice A0_7 l0_7.length c0_7] 28 (0, 0))) (hr0_3 : Kd.C k34 w A0_3 l0_3.length l0_3) (hc0_3 : l0_3.length ≤ c0_3) (hr0_4 : Kd.C k36 w A0_4 l0_4.length l0_4) (hc0_4 : l0_4.length ≤ c0_4) (hr0_5 : Kd.C k68 w A0_5 l0_5.length l0_5) (hc0_5 : l0_5.length ≤ c0_5) (hr0_6 : Kd.C k50 w A0_6 l0_6.length l0_6) (hc0_6 : l0_6.length ≤ c0_6) (hr0_7 : Kd.C Kd.string w A0_7 l0_7.length l0_7) (hc0_7 : l0_7.length ≤ c0_7) (h : tree_Over.f k l0_3 l0_4 = some r) :
  Calls Try.prog 24 #[.pointer (some ⟨gs, 0, none⟩)] w fun e w' => e = .returned (.bool (decide (r < 0))) ∧ Below w.heap.size w w' := by
 have CW := am (tree_Over.calls k A0_3 c0_3 l0_3 A0_4 c0_4 l0_4 r w hr0_3 hc0_3 hr0_4 hc0_4 h)
 have hx0 : w.cell? ⟨gs, 0, none⟩ = some (.int .i64 a0_0) := by rw [blk_cell hx]; rfl
 have hx1 : w.cell? ⟨gs, 1, none⟩ = some (.int .i64 a0_1) := by rw [blk_cell hx]; rfl
 have hx2 : w.cell? ⟨gs, 2, none⟩ = some (.int .i64 a0_2) := by rw [blk_cell hx]; rfl
 have hx3 : w.cell? ⟨gs, 3, none⟩ = some (.slice A0_3 l0_3.length c0_3) := by rw [blk_cell hx]; rfl
 have hx4 : w.cell? ⟨gs, 4, none⟩ = some (.slice A0_4 l0_4.length c0_4) := by rw [blk_cell hx]; rfl
 have hx5 : w.cell? ⟨gs, 5, none⟩ = some (.slice A0_5 l0_5.length c0_5) := by rw [blk_cell hx]; rfl
 have hx6 : w.cell? ⟨gs, 6, none⟩ = some (.slice A0_6 l0_6.length c0_6) := by rw [blk_cell hx]; rfl
 have hx7 : w.cell? ⟨gs, 7, none⟩ = some (.slice A0_7 l0_7.length c0_7) := by rw [blk_cell hx]; rfl
 clear hx h hr0_3 hr0_4 hr0_5 hr0_6 hr0_7
 go_enter Try.func24, Try.ntmps24
 go_wp2_with (go_at_call 25; refine CW.out.mono ?_; rintro e w1 ⟨rfl, hB1⟩; have HB1 := am hB1; clear hB1)
 go_ret
 exact ⟨rfl, HB1.out⟩
theorem sound_chain_step (xs : List (Option Bool)) (k : Nat) (n r : Int) (h : k < xs.length) (hc : sound_chain (xs.drop k) n = some r) : ∃ b, xs[k] = some b ∧ (if b = true then sound_chain (xs.drop (k + 1)) (n + 1) else some n) = some r := by
 rw [List.drop_eq_getElem_cons h, sound_chain] at hc
 cases hx : xs[k] with
 | none => rw [hx] at hc; cases hc
 | some b => rw [hx] at hc; exact ⟨b, rfl, hc⟩
attribute [local irreducible] sound_chain
set_option maxHeartbeats 8000000 in
set_option maxRecDepth 100000 in
theorem sound_Broken.calls (k : Nat) (a0_0 : Int) (a0_1 : Int) (a0_2 : Int) (A0_3 : Option Addr) (c0_3 : Nat) (l0_3 : List (S34)) (A0_4 : Option Addr) (c0_4 : Nat) (l0_4 : List (S36)) (A0_5 : Option Addr) (c0_5 : Nat) (l0_5 : List (S68)) (A0_6 : Option Addr) (c0_6 : Nat) (l0_6 : List (S50)) (A0_7 : Option Addr) (c0_7 : Nat) (l0_7 : List ByteArray) (a1 : Int) (r : Int) (w : World) (hr0_3 : Kd.C k34 w A0_3 l0_3.length l0_3) (hc0_3 : l0_3.length ≤ c0_3) (hr0_4 : Kd.C k36 w A0_4 l0_4.length l0_4) (hc0_4 : l0_4.length ≤ c0_4) (hr0_5 : Kd.C k68 w A0_5 l0_5.length l0_5) (hc0_5 : l0_5.length ≤ c0_5) (hr0_6 : Kd.C k50 w A0_6 l0_6.length l0_6) (hc0_6 : l0_6.length ≤ c0_6) (hr0_7 : Kd.C Kd.string w A0_7 l0_7.length l0_7) (hc0_7 : l0_7.length ≤ c0_7) (h : sound_Broken.f k a0_0 a0_1 a0_2 l0_3 l0_4 l0_5 l0_6 l0_7 a1 = some r) :
  Calls Try.prog 5 #[.agg #[.int .i64 a0_0, .int .i64 a0_1, .int .i64 a0_2, .slice A0_3 l0_3.length c0_3, .slice A0_4 l0_4.length c0_4, .slice A0_5 l0_5.length c0_5, .slice A0_6 l0_6.length c0_6, .slice A0_7 l0_7.length c0_7], .int .i64 a1] w fun e w' => e = .returned (.int .i64 r) ∧ Below w.heap.size w w' := by
 have HCH := am (show sound_chain ((sound_Broken.parts k a0_0 a0_1 a0_2 l0_3 l0_4 l0_5 l0_6 l0_7 a1).drop 0) (((0 : Nat) : Int) + 1) = some r from h)
 clear h
 have HH := am (⟨hr0_3, hr0_4, hr0_5, hr0_6, hr0_7⟩ : Kd.C k34 w A0_3 l0_3.length l0_3 ∧ Kd.C k36 w A0_4 l0_4.length l0_4 ∧ Kd.C k68 w A0_5 l0_5.length l0_5 ∧ Kd.C k50 w A0_6 l0_6.length l0_6 ∧ Kd.C Kd.string w A0_7 l0_7.length l0_7)
 clear hr0_3 hr0_4 hr0_5 hr0_6 hr0_7
 obtain ⟨w1, hw1⟩ : ∃ z, w.alloc (.cells #[.int .i64 a0_0, .int .i64 a0_1, .int .i64 a0_2, .slice A0_3 l0_3.length c0_3, .slice A0_4 l0_4.length c0_4, .slice A0_5 l0_5.length c0_5, .slice A0_6 l0_6.length c0_6, .slice A0_7 l0_7.length c0_7] 28) = z := ⟨_, rfl⟩
 obtain ⟨w2, hw2⟩ : ∃ z, w1.alloc (.cells #[.int .i64 a1] 3) = z := ⟨_, rfl⟩
 obtain ⟨w3, hw3⟩ : ∃ z, w2.alloc (.cells #[.func (.func 8) #[] #[.pointer (some ⟨w.heap.size, 0, none⟩)], .func (.func 10) #[] #[.pointer (some ⟨w.heap.size, 0, none⟩)], .func (.func 12) #[] #[.pointer (some ⟨w.heap.size, 0, none⟩)], .func (.func 14) #[] #[.pointer (some ⟨w.heap.size, 0, none⟩)], .func (.func 16) #[] #[.pointer (some ⟨w.heap.size, 0, none⟩)], .func (.func 18) #[] #[.pointer (some ⟨w.heap.size, 0, none⟩)], .func (.func 20) #[] #[.pointer (some ⟨w.heap.size, 0, none⟩)], .func (.func 22) #[] #[.pointer (some ⟨w.heap.size, 0, none⟩), .pointer (some ⟨w.heap.size + 1, 0, none⟩)], .func (.func 24) #[] #[.pointer (some ⟨w.heap.size, 0, none⟩)]] 29) = z := ⟨_, rfl⟩
 have z1 : w1.heap.size = w.heap.size + 1 := by rw [← hw1]; simp
 have z2 : w2.heap.size = w.heap.size + 2 := by rw [← hw2]; simp [z1]
 have z3 : w3.heap.size = w.heap.size + 3 := by rw [← hw3]; simp [z2]
 have k1 : w1.heap[w.heap.size]? = some (.cells #[.int .i64 a0_0, .int .i64 a0_1, .int .i64 a0_2, .slice A0_3 l0_3.length c0_3, .slice A0_4 l0_4.length c0_4, .slice A0_5 l0_5.length c0_5, .slice A0_6 l0_6.length c0_6, .slice A0_7 l0_7.length c0_7] 28 (0, 0)) := by rw [← hw1]; exact blk_new w _
 have k2 : w2.heap[w.heap.size + 1]? = some (.cells #[.int .i64 a1] 3 (0, 0)) := by rw [← hw2, ← z1]; exact blk_new w1 _
 have k3 : w3.heap[w.heap.size + 2]? = some (.cells #[.func (.func 8) #[] #[.pointer (some ⟨w.heap.size, 0, none⟩)], .func (.func 10) #[] #[.pointer (some ⟨w.heap.size, 0, none⟩)], .func (.func 12) #[] #[.pointer (some ⟨w.heap.size, 0, none⟩)], .func (.func 14) #[] #[.pointer (some ⟨w.heap.size, 0, none⟩)], .func (.func 16) #[] #[.pointer (some ⟨w.heap.size, 0, none⟩)], .func (.func 18) #[] #[.pointer (some ⟨w.heap.size, 0, none⟩)], .func (.func 20) #[] #[.pointer (some ⟨w.heap.size, 0, none⟩)], .func (.func 22) #[] #[.pointer (some ⟨w.heap.size, 0, none⟩), .pointer (some ⟨w.heap.size + 1, 0, none⟩)], .func (.func 24) #[] #[.pointer (some ⟨w.heap.size, 0, none⟩)]] 29 (0, 0)) := by rw [← hw3, ← z2]; exact blk_new w2 _
 have b1 : Below w.heap.size w w1 := by rw [← hw1]; exact Below.alloc (Below.refl _ _) (Nat.le_refl _) _
 have b2 : Below w1.heap.size w1 w2 := by rw [← hw2]; exact Below.alloc (Below.refl _ _) (Nat.le_refl _) _
 have b3 : Below w2.heap.size w2 w3 := by rw [← hw3]; exact Below.alloc (Below.refl _ _) (Nat.le_refl _) _
 have HS := am ((b3.block w.heap.size (by omega)).trans ((b2.block w.heap.size (by omega)).trans k1))
 have HN := am ((b3.block (w.heap.size + 1) (by omega)).trans k2)
 have HF := am k3
 have HB3 := am (b1.trans ((b2.mono b1.size).trans (b3.mono (Nat.le_trans b1.size b2.size))))
 have HW1 := am hw1
 have HW2 := am hw2
 have HW3 := am hw3
 clear k1 k2 k3 b1 b2 b3 hw1 hw2 hw3
 go_enter Try.func5, Try.ntmps5
 go_wp2_with fail
 rw [HW1.out, HW2.out, HW3.out]
 try rw [z1]
 try rw [z2]
 go_loopw [18] (fun v18 wr => ∃ i : Nat, i ≤ 9 ∧ v18 = .int .i64 i ∧ Aside0 (sound_chain ((sound_Broken.parts k a0_0 a0_1 a0_2 l0_3 l0_4 l0_5 l0_6 l0_7 a1).drop i) (((i : Nat) : Int) + 1) = some r) ∧ Aside0 (Below w3.heap.size w3 wr)) (fun v18 _ => 9 - (intOf v18).toNat)
 case atStart => exact ⟨0, by decide, rfl, HCH, am (Below.refl _ _)⟩
 case round =>
  clear HCH HW1 HW2 HW3
  obtain ⟨i, hi, rfl, HR, HB⟩ := hrel
  have HBw := am (HB3.out.trans (HB.out.mono HB3.out.size))
  obtain ⟨hr0_3, hr0_4, hr0_5, hr0_6, hr0_7⟩ := HH.out
  have hr0_3 := Kd.C_below hr0_3 HBw.out
  have hr0_4 := Kd.C_below hr0_4 HBw.out
  have hr0_5 := Kd.C_below hr0_5 HBw.out
  have hr0_6 := Kd.C_below hr0_6 HBw.out
  have hr0_7 := Kd.C_below hr0_7 HBw.out
  have hs := (HB.out.block w.heap.size (by omega)).trans HS.out
  have hn : wr.cell? ⟨w.heap.size + 1, 0, none⟩ = some (.int .i64 a1) := by rw [blk_cell ((HB.out.block (w.heap.size + 1) (by omega)).trans HN.out)]; rfl
  have hf := (HB.out.block (w.heap.size + 2) (by omega)).trans HF.out
  have hcase : i = 0 ∨ i = 1 ∨ i = 2 ∨ i = 3 ∨ i = 4 ∨ i = 5 ∨ i = 6 ∨ i = 7 ∨ i = 8 ∨ i = 9 := by omega
  rcases hcase with rfl | rfl | rfl | rfl | rfl | rfl | rfl | rfl | rfl | rfl
  ·obtain ⟨b, hb1, hb2⟩ := sound_chain_step _ 0 _ r (by show 0 < 9; decide) HR.out
   have hb1 : sound_total.f k a0_0 a0_1 a0_2 l0_3 l0_4 l0_5 l0_6 l0_7 = some b := hb1
   have hcl : wr.cell? ⟨w.heap.size + 2, 0, none⟩ = some (.func (.func 8) #[] #[.pointer (some ⟨w.heap.size, 0, none⟩)]) := by rw [blk_cell hf]; rfl
   have CW := am (sound_Broken1.call k a0_0 a0_1 a0_2 A0_3 c0_3 l0_3 A0_4 c0_4 l0_4 A0_5 c0_5 l0_5 A0_6 c0_6 l0_6 A0_7 c0_7 l0_7 w.heap.size b wr hs hr0_3 hc0_3 hr0_4 hc0_4 hr0_5 hc0_5 hr0_6 hc0_6 hr0_7 hc0_7 hb1)
   have HB2 := am hb2
   clear hb1 hb2 hr0_3 hr0_4 hr0_5 hr0_6 hr0_7 hs hn hf HR
   cases b with
   | true =>
    have HR2 := am (by have h_ := HB2.out; rw [if_pos rfl] at h_; exact h_)
    clear HB2
    go_wp2_with fail
    refine CW.out.mono ?_
    rintro e w5 ⟨rfl, hB5⟩
    have HB5 := am (HB.out.trans (hB5.mono HB.out.size))
    clear hB5 CW
    go_wp2
    go_roundw
    case rel => exact ⟨1, by decide, rfl, HR2, HB5⟩
    case measure => simp [intOf]
   | false =>
    have hr : r = 1 := by have h_ := HB2.out; rw [if_neg (by decide)] at h_; have := Option.some.inj h_; omega
    subst hr
    clear HB2
    go_wp2_with fail
    refine CW.out.mono ?_
    rintro e w5 ⟨rfl, hB5⟩
    have HB5 := am (HBw.out.trans (hB5.mono HBw.out.size))
    clear hB5 CW
    go_wp2
    go_ret
    exact ⟨rfl, HB5.out⟩
  ·obtain ⟨b, hb1, hb2⟩ := sound_chain_step _ 1 _ r (by show 1 < 9; decide) HR.out
   have hb1 : sound_signs.f k a0_0 a0_1 a0_2 l0_3 l0_4 l0_5 l0_6 l0_7 = some b := hb1
   have hcl : wr.cell? ⟨w.heap.size + 2, 1, none⟩ = some (.func (.func 10) #[] #[.pointer (some ⟨w.heap.size, 0, none⟩)]) := by rw [blk_cell hf]; rfl
   have CW := am (sound_Broken2.call k a0_0 a0_1 a0_2 A0_3 c0_3 l0_3 A0_4 c0_4 l0_4 A0_5 c0_5 l0_5 A0_6 c0_6 l0_6 A0_7 c0_7 l0_7 w.heap.size b wr hs hr0_3 hc0_3 hr0_4 hc0_4 hr0_5 hc0_5 hr0_6 hc0_6 hr0_7 hc0_7 hb1)
   have HB2 := am hb2
   clear hb1 hb2 hr0_3 hr0_4 hr0_5 hr0_6 hr0_7 hs hn hf HR
   cases b with
   | true =>
    have HR2 := am (by have h_ := HB2.out; rw [if_pos rfl] at h_; exact h_)
    clear HB2
    go_wp2_with fail
    refine CW.out.mono ?_
    rintro e w5 ⟨rfl, hB5⟩
    have HB5 := am (HB.out.trans (hB5.mono HB.out.size))
    clear hB5 CW
    go_wp2
    go_roundw
    case rel => exact ⟨2, by decide, rfl, HR2, HB5⟩
    case measure => simp [intOf]
   | false =>
    have hr : r = 2 := by have h_ := HB2.out; rw [if_neg (by decide)] at h_; have := Option.some.inj h_; omega
    subst hr
    clear HB2
    go_wp2_with fail
    refine CW.out.mono ?_
    rintro e w5 ⟨rfl, hB5⟩
    have HB5 := am (HBw.out.trans (hB5.mono HBw.out.size))
    clear hB5 CW
    go_wp2
    go_ret
    exact ⟨rfl, HB5.out⟩
  ·obtain ⟨b, hb1, hb2⟩ := sound_chain_step _ 2 _ r (by show 2 < 9; decide) HR.out
   have hb1 : sound_lists.f k a0_0 a0_1 a0_2 l0_3 l0_4 l0_5 l0_6 l0_7 = some b := hb1
   have hcl : wr.cell? ⟨w.heap.size + 2, 2, none⟩ = some (.func (.func 12) #[] #[.pointer (some ⟨w.heap.size, 0, none⟩)]) := by rw [blk_cell hf]; rfl
   have CW := am (sound_Broken3.call k a0_0 a0_1 a0_2 A0_3 c0_3 l0_3 A0_4 c0_4 l0_4 A0_5 c0_5 l0_5 A0_6 c0_6 l0_6 A0_7 c0_7 l0_7 w.heap.size b wr hs hr0_3 hc0_3 hr0_4 hc0_4 hr0_5 hc0_5 hr0_6 hc0_6 hr0_7 hc0_7 hb1)
   have HB2 := am hb2
   clear hb1 hb2 hr0_3 hr0_4 hr0_5 hr0_6 hr0_7 hs hn hf HR
   cases b with
   | true =>
    have HR2 := am (by have h_ := HB2.out; rw [if_pos rfl] at h_; exact h_)
    clear HB2
    go_wp2_with fail
    refine CW.out.mono ?_
    rintro e w5 ⟨rfl, hB5⟩
    have HB5 := am (HB.out.trans (hB5.mono HB.out.size))
    clear hB5 CW
    go_wp2
    go_roundw
    case rel => exact ⟨3, by decide, rfl, HR2, HB5⟩
    case measure => simp [intOf]
   | false =>
    have hr : r = 3 := by have h_ := HB2.out; rw [if_neg (by decide)] at h_; have := Option.some.inj h_; omega
    subst hr
    clear HB2
    go_wp2_with fail
    refine CW.out.mono ?_
    rintro e w5 ⟨rfl, hB5⟩
    have HB5 := am (HBw.out.trans (hB5.mono HBw.out.size))
    clear hB5 CW
    go_wp2
    go_ret
    exact ⟨rfl, HB5.out⟩
  ·obtain ⟨b, hb1, hb2⟩ := sound_chain_step _ 3 _ r (by show 3 < 9; decide) HR.out
   have hb1 : sound_jobs.f k a0_0 a0_1 a0_2 l0_3 l0_4 l0_5 l0_6 l0_7 = some b := hb1
   have hcl : wr.cell? ⟨w.heap.size + 2, 3, none⟩ = some (.func (.func 14) #[] #[.pointer (some ⟨w.heap.size, 0, none⟩)]) := by rw [blk_cell hf]; rfl
   have CW := am (sound_Broken4.call k a0_0 a0_1 a0_2 A0_3 c0_3 l0_3 A0_4 c0_4 l0_4 A0_5 c0_5 l0_5 A0_6 c0_6 l0_6 A0_7 c0_7 l0_7 w.heap.size b wr hs hr0_3 hc0_3 hr0_4 hc0_4 hr0_5 hc0_5 hr0_6 hc0_6 hr0_7 hc0_7 hb1)
   have HB2 := am hb2
   clear hb1 hb2 hr0_3 hr0_4 hr0_5 hr0_6 hr0_7 hs hn hf HR
   cases b with
   | true =>
    have HR2 := am (by have h_ := HB2.out; rw [if_pos rfl] at h_; exact h_)
    clear HB2
    go_wp2_with fail
    refine CW.out.mono ?_
    rintro e w5 ⟨rfl, hB5⟩
    have HB5 := am (HB.out.trans (hB5.mono HB.out.size))
    clear hB5 CW
    go_wp2
    go_roundw
    case rel => exact ⟨4, by decide, rfl, HR2, HB5⟩
    case measure => simp [intOf]
   | false =>
    have hr : r = 4 := by have h_ := HB2.out; rw [if_neg (by decide)] at h_; have := Option.some.inj h_; omega
    subst hr
    clear HB2
    go_wp2_with fail
    refine CW.out.mono ?_
    rintro e w5 ⟨rfl, hB5⟩
    have HB5 := am (HBw.out.trans (hB5.mono HBw.out.size))
    clear hB5 CW
    go_wp2
    go_ret
    exact ⟨rfl, HB5.out⟩
  ·obtain ⟨b, hb1, hb2⟩ := sound_chain_step _ 4 _ r (by show 4 < 9; decide) HR.out
   have hb1 : sound_liened.f k a0_0 a0_1 a0_2 l0_3 l0_4 l0_5 l0_6 l0_7 = some b := hb1
   have hcl : wr.cell? ⟨w.heap.size + 2, 4, none⟩ = some (.func (.func 16) #[] #[.pointer (some ⟨w.heap.size, 0, none⟩)]) := by rw [blk_cell hf]; rfl
   have CW := am (sound_Broken5.call k a0_0 a0_1 a0_2 A0_3 c0_3 l0_3 A0_4 c0_4 l0_4 A0_5 c0_5 l0_5 A0_6 c0_6 l0_6 A0_7 c0_7 l0_7 w.heap.size b wr hs hr0_3 hc0_3 hr0_4 hc0_4 hr0_5 hc0_5 hr0_6 hc0_6 hr0_7 hc0_7 hb1)
   have HB2 := am hb2
   clear hb1 hb2 hr0_3 hr0_4 hr0_5 hr0_6 hr0_7 hs hn hf HR
   cases b with
   | true =>
    have HR2 := am (by have h_ := HB2.out; rw [if_pos rfl] at h_; exact h_)
    clear HB2
    go_wp2_with fail
    refine CW.out.mono ?_
    rintro e w5 ⟨rfl, hB5⟩
    have HB5 := am (HB.out.trans (hB5.mono HB.out.size))
    clear hB5 CW
    go_wp2
    go_roundw
    case rel => exact ⟨5, by decide, rfl, HR2, HB5⟩
    case measure => simp [intOf]
   | false =>
    have hr : r = 5 := by have h_ := HB2.out; rw [if_neg (by decide)] at h_; have := Option.some.inj h_; omega
    subst hr
    clear HB2
    go_wp2_with fail
    refine CW.out.mono ?_
    rintro e w5 ⟨rfl, hB5⟩
    have HB5 := am (HBw.out.trans (hB5.mono HBw.out.size))
    clear hB5 CW
    go_wp2
    go_ret
    exact ⟨rfl, HB5.out⟩
  ·obtain ⟨b, hb1, hb2⟩ := sound_chain_step _ 5 _ r (by show 5 < 9; decide) HR.out
   have hb1 : sound_spent.f k a0_0 a0_1 a0_2 l0_3 l0_4 l0_5 l0_6 l0_7 = some b := hb1
   have hcl : wr.cell? ⟨w.heap.size + 2, 5, none⟩ = some (.func (.func 18) #[] #[.pointer (some ⟨w.heap.size, 0, none⟩)]) := by rw [blk_cell hf]; rfl
   have CW := am (sound_Broken6.call k a0_0 a0_1 a0_2 A0_3 c0_3 l0_3 A0_4 c0_4 l0_4 A0_5 c0_5 l0_5 A0_6 c0_6 l0_6 A0_7 c0_7 l0_7 w.heap.size b wr hs hr0_3 hc0_3 hr0_4 hc0_4 hr0_5 hc0_5 hr0_6 hc0_6 hr0_7 hc0_7 hb1)
   have HB2 := am hb2
   clear hb1 hb2 hr0_3 hr0_4 hr0_5 hr0_6 hr0_7 hs hn hf HR
   cases b with
   | true =>
    have HR2 := am (by have h_ := HB2.out; rw [if_pos rfl] at h_; exact h_)
    clear HB2
    go_wp2_with fail
    refine CW.out.mono ?_
    rintro e w5 ⟨rfl, hB5⟩
    have HB5 := am (HB.out.trans (hB5.mono HB.out.size))
    clear hB5 CW
    go_wp2
    go_roundw
    case rel => exact ⟨6, by decide, rfl, HR2, HB5⟩
    case measure => simp [intOf]
   | false =>
    have hr : r = 6 := by have h_ := HB2.out; rw [if_neg (by decide)] at h_; have := Option.some.inj h_; omega
    subst hr
    clear HB2
    go_wp2_with fail
    refine CW.out.mono ?_
    rintro e w5 ⟨rfl, hB5⟩
    have HB5 := am (HBw.out.trans (hB5.mono HBw.out.size))
    clear hB5 CW
    go_wp2
    go_ret
    exact ⟨rfl, HB5.out⟩
  ·obtain ⟨b, hb1, hb2⟩ := sound_chain_step _ 6 _ r (by show 6 < 9; decide) HR.out
   have hb1 : sound_covered.f k a0_0 a0_1 a0_2 l0_3 l0_4 l0_5 l0_6 l0_7 = some b := hb1
   have hcl : wr.cell? ⟨w.heap.size + 2, 6, none⟩ = some (.func (.func 20) #[] #[.pointer (some ⟨w.heap.size, 0, none⟩)]) := by rw [blk_cell hf]; rfl
   have CW := am (sound_Broken7.call k a0_0 a0_1 a0_2 A0_3 c0_3 l0_3 A0_4 c0_4 l0_4 A0_5 c0_5 l0_5 A0_6 c0_6 l0_6 A0_7 c0_7 l0_7 w.heap.size b wr hs hr0_3 hc0_3 hr0_4 hc0_4 hr0_5 hc0_5 hr0_6 hc0_6 hr0_7 hc0_7 hb1)
   have HB2 := am hb2
   clear hb1 hb2 hr0_3 hr0_4 hr0_5 hr0_6 hr0_7 hs hn hf HR
   cases b with
   | true =>
    have HR2 := am (by have h_ := HB2.out; rw [if_pos rfl] at h_; exact h_)
    clear HB2
    go_wp2_with fail
    refine CW.out.mono ?_
    rintro e w5 ⟨rfl, hB5⟩
    have HB5 := am (HB.out.trans (hB5.mono HB.out.size))
    clear hB5 CW
    go_wp2
    go_roundw
    case rel => exact ⟨7, by decide, rfl, HR2, HB5⟩
    case measure => simp [intOf]
   | false =>
    have hr : r = 7 := by have h_ := HB2.out; rw [if_neg (by decide)] at h_; have := Option.some.inj h_; omega
    subst hr
    clear HB2
    go_wp2_with fail
    refine CW.out.mono ?_
    rintro e w5 ⟨rfl, hB5⟩
    have HB5 := am (HBw.out.trans (hB5.mono HBw.out.size))
    clear hB5 CW
    go_wp2
    go_ret
    exact ⟨rfl, HB5.out⟩
  ·obtain ⟨b, hb1, hb2⟩ := sound_chain_step _ 7 _ r (by show 7 < 9; decide) HR.out
   have hb1 : sound_apart.f k a0_0 a0_1 a0_2 l0_3 l0_4 l0_5 l0_6 l0_7 a1 = some b := hb1
   have hcl : wr.cell? ⟨w.heap.size + 2, 7, none⟩ = some (.func (.func 22) #[] #[.pointer (some ⟨w.heap.size, 0, none⟩), .pointer (some ⟨w.heap.size + 1, 0, none⟩)]) := by rw [blk_cell hf]; rfl
   have CW := am (sound_Broken8.call k a0_0 a0_1 a0_2 A0_3 c0_3 l0_3 A0_4 c0_4 l0_4 A0_5 c0_5 l0_5 A0_6 c0_6 l0_6 A0_7 c0_7 l0_7 a1 (w.heap.size + 1) w.heap.size b wr hs hn hr0_3 hc0_3 hr0_4 hc0_4 hr0_5 hc0_5 hr0_6 hc0_6 hr0_7 hc0_7 hb1)
   have HB2 := am hb2
   clear hb1 hb2 hr0_3 hr0_4 hr0_5 hr0_6 hr0_7 hs hn hf HR
   cases b with
   | true =>
    have HR2 := am (by have h_ := HB2.out; rw [if_pos rfl] at h_; exact h_)
    clear HB2
    go_wp2_with fail
    refine CW.out.mono ?_
    rintro e w5 ⟨rfl, hB5⟩
    have HB5 := am (HB.out.trans (hB5.mono HB.out.size))
    clear hB5 CW
    go_wp2
    go_roundw
    case rel => exact ⟨8, by decide, rfl, HR2, HB5⟩
    case measure => simp [intOf]
   | false =>
    have hr : r = 8 := by have h_ := HB2.out; rw [if_neg (by decide)] at h_; have := Option.some.inj h_; omega
    subst hr
    clear HB2
    go_wp2_with fail
    refine CW.out.mono ?_
    rintro e w5 ⟨rfl, hB5⟩
    have HB5 := am (HBw.out.trans (hB5.mono HBw.out.size))
    clear hB5 CW
    go_wp2
    go_ret
    exact ⟨rfl, HB5.out⟩
  ·obtain ⟨b, hb1, hb2⟩ := sound_chain_step _ 8 _ r (by show 8 < 9; decide) HR.out
   obtain ⟨o, ho, rfl⟩ := Option.map_eq_some_iff.1 (show (tree_Over.f k l0_3 l0_4).map (fun o => decide (o < 0)) = some b from hb1)
   have hcl : wr.cell? ⟨w.heap.size + 2, 8, none⟩ = some (.func (.func 24) #[] #[.pointer (some ⟨w.heap.size, 0, none⟩)]) := by rw [blk_cell hf]; rfl
   have CW := am (sound_Broken9.call k a0_0 a0_1 a0_2 A0_3 c0_3 l0_3 A0_4 c0_4 l0_4 A0_5 c0_5 l0_5 A0_6 c0_6 l0_6 A0_7 c0_7 l0_7 w.heap.size o wr hs hr0_3 hc0_3 hr0_4 hc0_4 hr0_5 hc0_5 hr0_6 hc0_6 hr0_7 hc0_7 ho)
   have HB2 := am hb2
   clear hb1 hb2 hr0_3 hr0_4 hr0_5 hr0_6 hr0_7 hs hn hf HR ho
   obtain ⟨b, hbo⟩ : ∃ b, decide (o < 0) = b := ⟨_, rfl⟩
   rw [hbo] at CW HB2
   clear hbo
   cases b with
   | true =>
    have HR2 := am (by have h_ := HB2.out; rw [if_pos rfl] at h_; exact h_)
    clear HB2
    go_wp2_with fail
    refine CW.out.mono ?_
    rintro e w5 ⟨rfl, hB5⟩
    have HB5 := am (HB.out.trans (hB5.mono HB.out.size))
    clear hB5 CW
    go_wp2
    go_roundw
    case rel => exact ⟨9, by decide, rfl, HR2, HB5⟩
    case measure => simp [intOf]
   | false =>
    have hr : r = 9 := by have h_ := HB2.out; rw [if_neg (by decide)] at h_; have := Option.some.inj h_; omega
    subst hr
    clear HB2
    go_wp2_with fail
    refine CW.out.mono ?_
    rintro e w5 ⟨rfl, hB5⟩
    have HB5 := am (HBw.out.trans (hB5.mono HBw.out.size))
    clear hB5 CW
    go_wp2
    go_ret
    exact ⟨rfl, HB5.out⟩
  ·have hr : r = 0 := by have h_ := HR.out; exact (Option.some.inj (show some 0 = some r by rw [← h_]; with_unfolding_all rfl)).symm
   subst hr
   clear hr0_3 hr0_4 hr0_5 hr0_6 hr0_7 hs hn hf HR
   go_wp2
   go_ret
   exact ⟨rfl, HBw.out⟩
/-! #### more rounds -/
def sound_LeL : List (Option Bool) → List (Option Bool) → Prop
 | [], [] => True
 | x :: xs, y :: ys => LeO x y ∧ sound_LeL xs ys
 | _, _ => False
theorem sound_chain_mono : ∀ (xs ys : List (Option Bool)) (n : Int), sound_LeL xs ys → LeO (sound_chain xs n) (sound_chain ys n)
 | [], [], n, _ => LeO.refl _
 | x :: xs, y :: ys, n, h => by
  intro r hr
  have e1 : ∀ (z : Option Bool) zs, sound_chain (z :: zs) n = z.bind fun b => if b = true then sound_chain zs (n + 1) else some n := fun z zs => by with_unfolding_all rfl
  rw [e1] at hr ⊢
  cases hx : x with
  | none => rw [hx] at hr; cases hr
  | some b =>
   rw [hx, Option.bind_some] at hr
   rw [h.1 b hx, Option.bind_some]
   cases b with
   | true => rw [if_pos rfl] at hr ⊢; exact sound_chain_mono xs ys (n + 1) h.2 r hr
   | false => rw [if_neg (by decide)] at hr ⊢; exact hr
 | [], _ :: _, _, h => h.elim
 | _ :: _, [], _, h => h.elim
theorem sound_Broken.mono : ∀ a0 a1 a2 a3 a4 a5 a6 a7 a8 k, LeO (sound_Broken.f k a0 a1 a2 a3 a4 a5 a6 a7 a8) (sound_Broken.f (k + 1) a0 a1 a2 a3 a4 a5 a6 a7 a8) := by
 intro a0 a1 a2 a3 a4 a5 a6 a7 a8 k
 exact sound_chain_mono _ _ 1 ⟨sound_total.mono _ _ _ _ _ _ _ _ _, sound_signs.mono _ _ _ _ _ _ _ _ _, sound_lists.mono _ _ _ _ _ _ _ _ _, sound_jobs.mono _ _ _ _ _ _ _ _ _, sound_liened.mono _ _ _ _ _ _ _ _ _, sound_spent.mono _ _ _ _ _ _ _ _ _, sound_covered.mono _ _ _ _ _ _ _ _ _, sound_apart.mono _ _ _ _ _ _ _ _ _ _, fun r hr => by
  obtain ⟨o, ho, rfl⟩ := Option.map_eq_some_iff.1 hr
  exact Option.map_eq_some_iff.2 ⟨o, tree_Over.mono _ _ _ o ho, rfl⟩, trivial⟩

/-! ### book_New: function 7 -/
def book_New.f  : Option (Int × Int × Int × (List (S34)) × (List (S36)) × (List (S68)) × (List (S50)) × List ByteArray) := some (0, 0, 1, ([] : List (S34)), ([] : List (S36)), ([] : List (S68)), ([] : List (S50)), ([] : List ByteArray))
set_option maxHeartbeats 8000000 in
set_option maxRecDepth 100000 in
theorem book_New.calls  (r1 : Int) (r2 : Int) (r3 : Int) (r4 : List (S34)) (r5 : List (S36)) (r6 : List (S68)) (r7 : List (S50)) (r8 : List ByteArray) (w : World) (h : book_New.f  = some (r1, r2, r3, r4, r5, r6, r7, r8)) :
  Calls Try.prog 7 #[] w fun e w' => ∃ v3_ v4_ v5_ v6_ v7_ : Value, e = .returned (.agg #[.int .i64 r1, .int .i64 r2, .int .i64 r3, v3_, v4_, v5_, v6_, v7_]) ∧ Kd.R k34 34 w' w.heap.size (fun _ => True) v3_ r4 ∧ Kd.R k36 36 w' w.heap.size (fun _ => True) v4_ r5 ∧ Kd.R k68 68 w' w.heap.size (fun _ => True) v5_ r6 ∧ Kd.S k50 50 w' w.heap.size (fun _ => True) v6_ r7 ∧ Kd.R Kd.string 9 w' w.heap.size (fun _ => True) v7_ r8 ∧ Below w.heap.size w w' := by
 have hu28 := Try.underlying28
 have HB := am (Below.refl w.heap.size w)
 have H : (some (0, 0, 1, ([] : List (S34)), ([] : List (S36)), ([] : List (S68)), ([] : List (S50)), ([] : List ByteArray))) = some (r1, r2, r3, r4, r5, r6, r7, r8) := h
 clear h
 simp only [Option.some.injEq, Prod.mk.injEq] at H
 obtain ⟨rfl, rfl, rfl, rfl, rfl, rfl, rfl, rfl⟩ := H
 go_enter Try.func7, Try.ntmps7
 go_wp2_with (first | ((with_reducible refine gate_dst (N := 0) rfl ?_); refine be (N := 0) (cs := #[.int .i64 0, .int .i64 0, .int .i64 0, .slice none 0 0, .slice none 0 0, .slice none 0 0, .slice none 0 0, .slice none 0 0]) (t := 28) ?_; intro gb227 hg w1 hbox hb; have BK227 := am (hbox); have GW227 := am ((by rw [hg]; exact (below_size bx) : w.heap.size ≤ gb227)); have GE227 := am ((by rw [hg]; exact (below_size bx) : w.heap.size ≤ gb227)); replace HB := am (below_step bx hb); clear hb hbox hg; obtain ⟨_, _, _, _, _, _, _, _⟩ := c8 BK227.out; obtain ⟨_, _, _, _, _, _, _, _⟩ := f8 BK227.out))
 refine bodyPost_ret (results_cell_row rfl _ _ gb227 28 #[.int .i64 0, .int .i64 0, .int .i64 1, .slice none 0 0, .slice none 0 0, .slice none 0 0, .slice none 0 0, .slice none 0 0] (0, 0) _ rfl (by (iterate 5 ((with_reducible repeat first | apply kn | apply kd | apply ka); refine bp (.slice none 0 0) rfl ?_; simp only [List.set])); (iterate 3 ((with_reducible repeat first | apply kn | apply kd | apply ka); refine bp (.int .i64 0) rfl ?_; simp only [List.set])); (with_reducible repeat first | apply kn | apply kd | apply ka); exact BK227.out) Try.underlying28 rfl (by kernel_rfl)) rfl ?_
 exact ⟨_, _, _, _, _, by first | rfl | (simp [*, errW_none, errW_some] <;> rfl), by first | exact Kd.R_nil _ _ _ _ _ | exact Kd.N_nil _ _ _ _ _ | exact Kd.V_nil _ _ _ _ _ | exact Kd.Q_nil _ _ _ _ _ | exact Kd.S_nil _ _ _ _ _, by first | exact Kd.R_nil _ _ _ _ _ | exact Kd.N_nil _ _ _ _ _ | exact Kd.V_nil _ _ _ _ _ | exact Kd.Q_nil _ _ _ _ _ | exact Kd.S_nil _ _ _ _ _, by first | exact Kd.R_nil _ _ _ _ _ | exact Kd.N_nil _ _ _ _ _ | exact Kd.V_nil _ _ _ _ _ | exact Kd.Q_nil _ _ _ _ _ | exact Kd.S_nil _ _ _ _ _, by first | exact Kd.S_nil _ _ _ _ _ | exact Kd.N_nil _ _ _ _ _ | exact Kd.V_nil _ _ _ _ _ | exact Kd.Q_nil _ _ _ _ _ | exact Kd.R_nil _ _ _ _ _, by first | exact Kd.R_nil _ _ _ _ _ | exact Kd.N_nil _ _ _ _ _ | exact Kd.V_nil _ _ _ _ _ | exact Kd.Q_nil _ _ _ _ _ | exact Kd.S_nil _ _ _ _ _, bx⟩

/-! ### prebendlaw25_awake: function 4 -/
def prebendlaw25_awake.f (k : Nat)  : Option (Bool) := (book_New.f).bind fun bt228 => ((some (([(⟨(⟨#[97]⟩ : ByteArray), (-1), 0⟩ : S34)] : List (S34)) : List (S34))).bind fun y247 => ((some (([(⟨0, 0, 9, 4, 1, 0⟩ : S36)] : List (S36)) : List (S36))).bind fun y250 => (if bt228.2.2.1 = 1 then ((sound_Broken.f k bt228.1 bt228.2.1 bt228.2.2.1 bt228.2.2.2.1 bt228.2.2.2.2.1 bt228.2.2.2.2.2.1 bt228.2.2.2.2.2.2.1 bt228.2.2.2.2.2.2.2 0).bind fun t255 => (if t255 = 0 then ((sound_Broken.f k 0 (-5) 1 y247 y250 ([] : List (S68)) ([] : List (S50)) ([] : List ByteArray) 0).bind fun t256 => (if t256 = 5 then ((sound_Broken.f k 0 (-4) 1 y247 y250 ([] : List (S68)) ([] : List (S50)) ([] : List ByteArray) 0).bind fun t257 => (some (t257 == 1))) else (some false))) else (some false))) else (some false))))
theorem prebendlaw25_awake.mono : ∀ k, LeO (prebendlaw25_awake.f k ) (prebendlaw25_awake.f (k + 1) ) := by
 intro  k
 unfold prebendlaw25_awake.f
 have ih9 := @sound_Broken.mono; exact lo
set_option maxHeartbeats 8000000 in
set_option maxRecDepth 100000 in
theorem prebendlaw25_awake.at80 : prebendlaw25_awake.f 80 = some true := by decide +kernel
theorem prebendlaw25_awake.up (k n : Nat) (r : Bool) (h : prebendlaw25_awake.f k = some r) : prebendlaw25_awake.f (k + n) = some r := by
 induction n with
 | zero => exact h
 | succ n ih => exact prebendlaw25_awake.mono (k + n) r ih
theorem prebendlaw25_awake.yes (k : Nat) (r : Bool) (h : prebendlaw25_awake.f k = some r) : r = true :=
 Option.some.inj ((prebendlaw25_awake.up k 80 r h).symm.trans (by rw [Nat.add_comm]; exact prebendlaw25_awake.up 80 k true prebendlaw25_awake.at80))
theorem prebendlaw25_awake.calls (k : Nat)  (r : Bool) (w : World) (h : prebendlaw25_awake.f k  = some r) :
  Calls Try.prog 4 #[] w fun e w' => e = .returned (.bool r) ∧ Below w.heap.size w w' := by
 have hr : r = true := prebendlaw25_awake.yes k r h
 have hu28 := Try.underlying28
 have hu34 := Try.underlying34
 have hu36 := Try.underlying36
 have HB := am (Below.refl w.heap.size w)
 have H : ((book_New.f).bind fun bt228 => ((some (([(⟨(⟨#[97]⟩ : ByteArray), (-1), 0⟩ : S34)] : List (S34)) : List (S34))).bind fun y247 => ((some (([(⟨0, 0, 9, 4, 1, 0⟩ : S36)] : List (S36)) : List (S36))).bind fun y250 => (if bt228.2.2.1 = 1 then ((sound_Broken.f k bt228.1 bt228.2.1 bt228.2.2.1 bt228.2.2.2.1 bt228.2.2.2.2.1 bt228.2.2.2.2.2.1 bt228.2.2.2.2.2.2.1 bt228.2.2.2.2.2.2.2 0).bind fun t255 => (if t255 = 0 then ((sound_Broken.f k 0 (-5) 1 y247 y250 ([] : List (S68)) ([] : List (S50)) ([] : List ByteArray) 0).bind fun t256 => (if t256 = 5 then ((sound_Broken.f k 0 (-4) 1 y247 y250 ([] : List (S68)) ([] : List (S50)) ([] : List ByteArray) 0).bind fun t257 => (some (t257 == 1))) else (some false))) else (some false))) else (some false))))) = some r := h
 clear h
 replace H := Option.bind_eq_some_iff.mp H
 obtain ⟨⟨t228, t229, t230, t231, t234, t237, t240, t243⟩, A10, H⟩ := H
 have A1 := am A10
 clear A10
 obtain ⟨y247, hy247⟩ : ∃ y_ : List (S34), y_ = (([(⟨(⟨#[97]⟩ : ByteArray), (-1), 0⟩ : S34)] : List (S34))) := ⟨_, rfl⟩
 replace H : ((some (([(⟨0, 0, 9, 4, 1, 0⟩ : S36)] : List (S36)) : List (S36))).bind fun y250 => (if t230 = 1 then ((sound_Broken.f k t228 t229 t230 t231 t234 t237 t240 t243 0).bind fun t255 => (if t255 = 0 then ((sound_Broken.f k 0 (-5) 1 y247 y250 ([] : List (S68)) ([] : List (S50)) ([] : List ByteArray) 0).bind fun t256 => (if t256 = 5 then ((sound_Broken.f k 0 (-4) 1 y247 y250 ([] : List (S68)) ([] : List (S50)) ([] : List ByteArray) 0).bind fun t257 => (some (t257 == 1))) else (some false))) else (some false))) else (some false))) = some r := by first | (rw [hy247]; with_reducible exact H) | (have H2_ := (Option.bind_some _ _).symm.trans H; rw [hy247]; with_reducible exact H2_) | (have H2_ := (Option.bind_some _ _).symm.trans H; with_reducible exact H2_) | with_reducible exact H | (rw [hy247]; exact H) | exact H
 have Ny247 := am hy247
 clear hy247
 obtain ⟨y250, hy250⟩ : ∃ y_ : List (S36), y_ = (([(⟨0, 0, 9, 4, 1, 0⟩ : S36)] : List (S36))) := ⟨_, rfl⟩
 replace H : (if t230 = 1 then ((sound_Broken.f k t228 t229 t230 t231 t234 t237 t240 t243 0).bind fun t255 => (if t255 = 0 then ((sound_Broken.f k 0 (-5) 1 y247 y250 ([] : List (S68)) ([] : List (S50)) ([] : List ByteArray) 0).bind fun t256 => (if t256 = 5 then ((sound_Broken.f k 0 (-4) 1 y247 y250 ([] : List (S68)) ([] : List (S50)) ([] : List ByteArray) 0).bind fun t257 => (some (t257 == 1))) else (some false))) else (some false))) else (some false)) = some r := by first | (rw [hy250]; with_reducible exact H) | (have H2_ := (Option.bind_some _ _).symm.trans H; rw [hy250]; with_reducible exact H2_) | (have H2_ := (Option.bind_some _ _).symm.trans H; with_reducible exact H2_) | with_reducible exact H | (rw [hy250]; exact H) | exact H
 have Ny250 := am hy250
 clear hy250
 by_cases c2 : t230 = 1
 ·rw [if_pos c2] at H
  have c2b0 : (t230 == 1) = true := beq_iff_eq.mpr c2
  have c2b1 : (t230 != 1) = false := bne_eq_false_iff_eq.mpr c2
  clear c2
  replace H := Option.bind_eq_some_iff.mp H
  obtain ⟨t255, A30, H⟩ := H
  have A3 := am A30
  clear A30
  by_cases c4 : t255 = 0
  ·rw [if_pos c4] at H
   have c4b0 : (t255 == 0) = true := beq_iff_eq.mpr c4
   have c4b1 : (t255 != 0) = false := bne_eq_false_iff_eq.mpr c4
   clear c4
   replace H := Option.bind_eq_some_iff.mp H
   obtain ⟨t256, A50, H⟩ := H
   have A5 := am A50
   clear A50
   by_cases c6 : t256 = 5
   ·rw [if_pos c6] at H
    have c6b0 : (t256 == 5) = true := beq_iff_eq.mpr c6
    have c6b1 : (t256 != 5) = false := bne_eq_false_iff_eq.mpr c6
    clear c6
    replace H := Option.bind_eq_some_iff.mp H
    obtain ⟨t257, A70, H⟩ := H
    have A7 := am A70
    clear A70
    obtain rfl := Option.some.inj H
    go_enter Try.func4, Try.ntmps4
    go_wp2_with (first | (refine gl (some 4) Try.func7 #[] ?_; (with_reducible refine (book_New.calls  t228 t229 t230 t231 t234 t237 t240 t243 _ A1.out).mono ?_); rintro e w8 ⟨v232, v235, v238, v241, v244, rfl, ho0, ho1, ho2, ho3, ho4, hb⟩; refine ⟨_, rfl, ?_⟩; have HO233 := am (Kd.R_lower ho0 (below_size bx)); have HO236 := am (Kd.R_lower ho1 (below_size bx)); have HO239 := am (Kd.R_lower ho2 (below_size bx)); have HO242 := am (Kd.S_lower ho3 (below_size bx)); have HO245 := am (Kd.R_lower ho4 (below_size bx)); replace HB := am (below_step bx hb); (try clear hb); (try clear hb2); (try clear hk); (try clear hi); (try clear ho0); (try clear ho1); (try clear ho2); (try clear ho3); (try clear ho4)) | ((with_reducible refine gate_dst (N := 1) rfl ?_); refine be (N := 1) (cs := #[.int .i64 0, .int .i64 0, .int .i64 0, .slice none 0 0, .slice none 0 0, .slice none 0 0, .slice none 0 0, .slice none 0 0]) (t := 28) ?_; intro gb246 hg w9 hbox hb; replace HO233 := am (Kd.R_below (rr HO233) hb); replace HO236 := am (Kd.R_below (rr HO236) hb); replace HO239 := am (Kd.R_below (rr HO239) hb); replace HO242 := am (Kd.S_below (by (with_reducible repeat (first | apply Kd.S_alloc | apply Kd.S_drewN | apply Kd.S_drew)); exact HO242.out) hb); replace HO245 := am (Kd.R_below (rr HO245) hb); have BK246 := am (hbox); have GW246 := am ((by rw [hg]; exact (below_size bx) : w.heap.size ≤ gb246)); have GE246 := am ((by rw [hg]; exact (below_size bx) : w.heap.size ≤ gb246)); replace HB := am (below_step bx hb); clear hb hbox hg; obtain ⟨_, _, _, _, _, _, _, _⟩ := c8 BK246.out; obtain ⟨_, _, _, _, _, _, _, _⟩ := f8 BK246.out; obtain ⟨Ao11, co11, eo11⟩ := Kd.R_slice HO233.out; subst eo11; obtain ⟨Ao12, co12, eo12⟩ := Kd.R_slice HO236.out; subst eo12; obtain ⟨Ao13, co13, eo13⟩ := Kd.R_slice HO239.out; subst eo13; obtain ⟨Ao14, co14, eo14⟩ := Kd.S_slice HO242.out; subst eo14; obtain ⟨Ao15, co15, eo15⟩ := Kd.R_slice HO245.out; subst eo15) | ((with_reducible refine gate_dst (N := 6) rfl ?_); refine Kd.R_lit k34 _ 34 ?hg (N := 6) ?hd (xs := ([(⟨(⟨#[97]⟩ : ByteArray), (-1), 0⟩ : S34)] : List (S34))) (inner := [.string (⟨#[97]⟩ : ByteArray), .int .i64 (-1), .int .i64 0]) (ok := fun _ => True) (okp := fun _ => True) ?hr ?hp (fun _ hk => hk) trivial (Below.refl _ _) (Nat.le_refl _) (by simp) ?_; (case hd => rfl); (case hg => rfl); (case hr => first | (go_simp; done) | (go_simp; rfl)); (case hp => exact (Reps.c3 (show Kd.M k34 _ _ _ (⟨(⟨#[97]⟩ : ByteArray), (-1), 0⟩ : S34) [.string (⟨#[97]⟩ : ByteArray), .int .i64 (-1), .int .i64 0] from (k34_mkM _ _ _ (⟨(⟨#[97]⟩ : ByteArray), (-1), 0⟩ : S34) )) (Reps.none _ _))); intro v248 w16 ho17 hb hg_ hnew_; clear hg_ hnew_; (first | rw [← Ny247.out] at ho17 | (simp only [Int.reduceToNat] at ho17; rw [← Ny247.out] at ho17)); replace HO236 := am (Kd.R_below (by (with_reducible repeat first | apply rA | apply rN | apply rD); exact (Kd.R_mono (rf (rf (rf (rf (rf (rf (rf (rf (Kd.R_types HO236.out BK246.out (by decide)))))))))) (fun _ h_ => h_.1))) hb); replace HO239 := am (Kd.R_below (by (with_reducible repeat first | apply rA | apply rN | apply rD); exact (Kd.R_mono (rf (rf (rf (rf (rf (rf (rf (rf (Kd.R_types HO239.out BK246.out (by decide)))))))))) (fun _ h_ => h_.1))) hb); replace HO242 := am (Kd.S_below (by (with_reducible repeat (first | apply Kd.S_alloc | apply Kd.S_drewN | apply Kd.S_drew)); exact (Kd.S_mono (sf (sf (sf (sf (sf (sf (sf (sf (Kd.S_types HO242.out BK246.out (by decide)))))))))) (fun _ h_ => h_.1))) hb); replace HO245 := am (Kd.R_below (by (with_reducible repeat first | apply rA | apply rN | apply rD); exact (Kd.R_mono (rf (rf (rf (rf (rf (rf (rf (rf (Kd.R_types HO245.out BK246.out (by decide)))))))))) (fun _ h_ => h_.1))) hb); have HO249 := am (Kd.R_lower (Kd.R_new' ho17 (Kd.R_lt (by (with_reducible repeat first | apply rA | apply rN | apply rD); exact (Kd.R_mono (rf (rf (rf (rf (rf (rf (rf (rf (Kd.R_types HO233.out BK246.out (by decide)))))))))) (fun _ h_ => h_.1))))) (below_size bx)); replace HO233 := am (Kd.R_elder' (by (with_reducible repeat first | apply rA | apply rN | apply rD); exact (Kd.R_mono (rf (rf (rf (rf (rf (rf (rf (rf (Kd.R_types HO233.out BK246.out (by decide)))))))))) (fun _ h_ => h_.1))) (Kd.R_base ho17) hb); replace BK246 := am (blk_below (g := gb246) (o := .cells #[.int .i64 t228, .int .i64 t229, .int .i64 t230, .slice Ao11 t231.length co11, .slice Ao12 t234.length co12, .slice Ao13 t237.length co13, .slice Ao14 t240.length co14, .slice Ao15 t243.length co15] 28 (0, 0)) (by (iterate 5 ((with_reducible repeat first | apply kn | apply kd | apply ka); refine bp (.slice none 0 0) rfl ?_; simp only [List.set])); (iterate 3 ((with_reducible repeat first | apply kn | apply kd | apply ka); refine bp (.int .i64 0) rfl ?_; simp only [List.set])); (with_reducible repeat first | apply kn | apply kd | apply ka); exact BK246.out) hb); replace HB := am (below_step bx hb); clear hb ho17) | ((with_reducible refine gate_dst (N := 8) rfl ?_); refine Kd.R_lit k36 _ 36 ?hg (N := 8) ?hd (xs := ([(⟨0, 0, 9, 4, 1, 0⟩ : S36)] : List (S36))) (inner := [.int .i64 0, .int .i64 0, .int .i64 9, .int .i64 4, .int .i64 1, .int .i64 0]) (ok := fun _ => True) (okp := fun _ => True) ?hr ?hp (fun _ hk => hk) trivial (Below.refl _ _) (Nat.le_refl _) (by simp) ?_; (case hd => rfl); (case hg => rfl); (case hr => first | (go_simp; done) | (go_simp; rfl)); (case hp => exact (Reps.c6 (show Kd.M k36 _ _ _ (⟨0, 0, 9, 4, 1, 0⟩ : S36) [.int .i64 0, .int .i64 0, .int .i64 9, .int .i64 4, .int .i64 1, .int .i64 0] from (k36_mkM _ _ _ (⟨0, 0, 9, 4, 1, 0⟩ : S36) )) (Reps.none _ _))); intro v251 w18 ho19 hb hg_ hnew_; clear hg_ hnew_; (first | rw [← Ny250.out] at ho19 | (simp only [Int.reduceToNat] at ho19; rw [← Ny250.out] at ho19)); replace HO233 := am (Kd.R_below (rr HO233) hb); replace HO239 := am (Kd.R_below (rr HO239) hb); replace HO242 := am (Kd.S_below (by (with_reducible repeat (first | apply Kd.S_alloc | apply Kd.S_drewN | apply Kd.S_drew)); exact HO242.out) hb); replace HO245 := am (Kd.R_below (rr HO245) hb); replace HO249 := am (Kd.R_below (rr HO249) hb); have HO252 := am (Kd.R_lower (Kd.R_new' ho19 (Kd.R_lt (rr HO236))) (below_size bx)); replace HO236 := am (Kd.R_elder' (rr HO236) (Kd.R_base ho19) hb); replace BK246 := am (blk_below (kk BK246) hb); replace HB := am (below_step bx hb); clear hb ho19; obtain ⟨Ao20, co20, eo20⟩ := Kd.R_slice HO252.out; subst eo20; obtain ⟨Ao21, co21, eo21⟩ := Kd.R_slice HO249.out; subst eo21) | ((with_reducible refine gate_dst (N := 2) rfl ?_); refine be (N := 2) (cs := #[.int .i64 0, .int .i64 0, .int .i64 0, .slice none 0 0, .slice none 0 0, .slice none 0 0, .slice none 0 0, .slice none 0 0]) (t := 28) ?_; intro gb253 hg w22 hbox hb; replace HO233 := am (Kd.R_below (rr HO233) hb); replace HO236 := am (Kd.R_below (rr HO236) hb); replace HO239 := am (Kd.R_below (rr HO239) hb); replace HO242 := am (Kd.S_below (by (with_reducible repeat (first | apply Kd.S_alloc | apply Kd.S_drewN | apply Kd.S_drew)); exact HO242.out) hb); replace HO245 := am (Kd.R_below (rr HO245) hb); replace HO249 := am (Kd.R_below (rr HO249) hb); replace HO252 := am (Kd.R_below (rr HO252) hb); have BK253 := am (hbox); have GW253 := am ((by rw [hg]; exact (below_size bx) : w.heap.size ≤ gb253)); have GE253 := am ((by rw [hg]; exact (below_size bx) : w.heap.size ≤ gb253)); replace HB := am (below_step bx hb); have NB246_253 := am ((by rw [hg]; exact Nat.ne_of_lt (blk_lt (kk BK246)) : gb246 ≠ gb253)); have NB253_246 := am ((by rw [hg]; exact Nat.ne_of_gt (blk_lt (kk BK246)) : gb253 ≠ gb246)); replace BK246 := am (blk_below (kk BK246) hb); clear hb hbox hg; have hnb23 := NB253_246.out; have hnc23 := NB246_253.out; obtain ⟨_, _, _, _, _, _, _, _⟩ := c8 BK253.out; obtain ⟨_, _, _, _, _, _, _, _⟩ := f8 BK253.out) | ((with_reducible refine gate_dst (N := 3) rfl ?_); refine be (N := 3) (cs := #[.int .i64 0, .int .i64 0, .int .i64 0, .slice none 0 0, .slice none 0 0, .slice none 0 0, .slice none 0 0, .slice none 0 0]) (t := 28) ?_; intro gb254 hg w25 hbox hb; replace HO233 := am (Kd.R_below (by (with_reducible repeat first | apply rA | apply rN | apply rD); exact (Kd.R_mono (rf (rf (rf (rf (rf (rf (rf (rf (Kd.R_types HO233.out BK253.out (by decide)))))))))) (fun _ h_ => h_.1))) hb); replace HO236 := am (Kd.R_below (by (with_reducible repeat first | apply rA | apply rN | apply rD); exact (Kd.R_mono (rf (rf (rf (rf (rf (rf (rf (rf (Kd.R_types HO236.out BK253.out (by decide)))))))))) (fun _ h_ => h_.1))) hb); replace HO239 := am (Kd.R_below (by (with_reducible repeat first | apply rA | apply rN | apply rD); exact (Kd.R_mono (rf (rf (rf (rf (rf (rf (rf (rf (Kd.R_types HO239.out BK253.out (by decide)))))))))) (fun _ h_ => h_.1))) hb); replace HO242 := am (Kd.S_below (by (with_reducible repeat (first | apply Kd.S_alloc | apply Kd.S_drewN | apply Kd.S_drew)); exact (Kd.S_mono (sf (sf (sf (sf (sf (sf (sf (sf (Kd.S_types HO242.out BK253.out (by decide)))))))))) (fun _ h_ => h_.1))) hb); replace HO245 := am (Kd.R_below (by (with_reducible repeat first | apply rA | apply rN | apply rD); exact (Kd.R_mono (rf (rf (rf (rf (rf (rf (rf (rf (Kd.R_types HO245.out BK253.out (by decide)))))))))) (fun _ h_ => h_.1))) hb); replace HO249 := am (Kd.R_below (by (with_reducible repeat first | apply rA | apply rN | apply rD); exact (Kd.R_mono (rf (rf (rf (rf (rf (rf (rf (rf (Kd.R_types HO249.out BK253.out (by decide)))))))))) (fun _ h_ => h_.1))) hb); replace HO252 := am (Kd.R_below (by (with_reducible repeat first | apply rA | apply rN | apply rD); exact (Kd.R_mono (rf (rf (rf (rf (rf (rf (rf (rf (Kd.R_types HO252.out BK253.out (by decide)))))))))) (fun _ h_ => h_.1))) hb); have BK254 := am (hbox); have GW254 := am ((by rw [hg]; exact (below_size bx) : w.heap.size ≤ gb254)); have GE254 := am ((by rw [hg]; exact (below_size bx) : w.heap.size ≤ gb254)); replace HB := am (below_step bx hb); have NB246_254 := am ((by rw [hg]; exact Nat.ne_of_lt (blk_lt (g := gb246) (o := .cells #[.int .i64 t228, .int .i64 t229, .int .i64 t230, .slice Ao11 t231.length co11, .slice Ao12 t234.length co12, .slice Ao13 t237.length co13, .slice Ao14 t240.length co14, .slice Ao15 t243.length co15] 28 (0, 0)) (by (iterate 8 ((with_reducible repeat first | apply kn | apply kd | apply ka); refine blk_far ?_ NB246_253.out _)); (with_reducible repeat first | apply kn | apply kd | apply ka); exact BK246.out)) : gb246 ≠ gb254)); have NB254_246 := am ((by rw [hg]; exact Nat.ne_of_gt (blk_lt (g := gb246) (o := .cells #[.int .i64 t228, .int .i64 t229, .int .i64 t230, .slice Ao11 t231.length co11, .slice Ao12 t234.length co12, .slice Ao13 t237.length co13, .slice Ao14 t240.length co14, .slice Ao15 t243.length co15] 28 (0, 0)) (by (iterate 8 ((with_reducible repeat first | apply kn | apply kd | apply ka); refine blk_far ?_ NB246_253.out _)); (with_reducible repeat first | apply kn | apply kd | apply ka); exact BK246.out)) : gb254 ≠ gb246)); replace BK246 := am (blk_below (g := gb246) (o := .cells #[.int .i64 t228, .int .i64 t229, .int .i64 t230, .slice Ao11 t231.length co11, .slice Ao12 t234.length co12, .slice Ao13 t237.length co13, .slice Ao14 t240.length co14, .slice Ao15 t243.length co15] 28 (0, 0)) (by (iterate 8 ((with_reducible repeat first | apply kn | apply kd | apply ka); refine blk_far ?_ NB246_253.out _)); (with_reducible repeat first | apply kn | apply kd | apply ka); exact BK246.out) hb); have NB253_254 := am ((by rw [hg]; exact Nat.ne_of_lt (blk_lt (g := gb253) (o := .cells #[.int .i64 0, .int .i64 (-5), .int .i64 1, .slice Ao21 y247.length co21, .slice Ao20 y250.length co20, .slice none 0 0, .slice none 0 0, .slice none 0 0] 28 (0, 0)) (by (iterate 5 ((with_reducible repeat first | apply kn | apply kd | apply ka); refine bp (.slice none 0 0) rfl ?_; simp only [List.set])); (iterate 3 ((with_reducible repeat first | apply kn | apply kd | apply ka); refine bp (.int .i64 0) rfl ?_; simp only [List.set])); (with_reducible repeat first | apply kn | apply kd | apply ka); exact BK253.out)) : gb253 ≠ gb254)); have NB254_253 := am ((by rw [hg]; exact Nat.ne_of_gt (blk_lt (g := gb253) (o := .cells #[.int .i64 0, .int .i64 (-5), .int .i64 1, .slice Ao21 y247.length co21, .slice Ao20 y250.length co20, .slice none 0 0, .slice none 0 0, .slice none 0 0] 28 (0, 0)) (by (iterate 5 ((with_reducible repeat first | apply kn | apply kd | apply ka); refine bp (.slice none 0 0) rfl ?_; simp only [List.set])); (iterate 3 ((with_reducible repeat first | apply kn | apply kd | apply ka); refine bp (.int .i64 0) rfl ?_; simp only [List.set])); (with_reducible repeat first | apply kn | apply kd | apply ka); exact BK253.out)) : gb254 ≠ gb253)); replace BK253 := am (blk_below (g := gb253) (o := .cells #[.int .i64 0, .int .i64 (-5), .int .i64 1, .slice Ao21 y247.length co21, .slice Ao20 y250.length co20, .slice none 0 0, .slice none 0 0, .slice none 0 0] 28 (0, 0)) (by (iterate 5 ((with_reducible repeat first | apply kn | apply kd | apply ka); refine bp (.slice none 0 0) rfl ?_; simp only [List.set])); (iterate 3 ((with_reducible repeat first | apply kn | apply kd | apply ka); refine bp (.int .i64 0) rfl ?_; simp only [List.set])); (with_reducible repeat first | apply kn | apply kd | apply ka); exact BK253.out) hb); clear hb hbox hg; have hnb26 := NB254_246.out; have hnc26 := NB246_254.out; have hnb27 := NB254_253.out; have hnc27 := NB253_254.out; obtain ⟨_, _, _, _, _, _, _, _⟩ := c8 BK254.out; obtain ⟨_, _, _, _, _, _, _, _⟩ := f8 BK254.out; obtain ⟨_, _, _, _, _, _, _, _⟩ := c8 BK246.out; obtain ⟨_, _, _, _, _, _, _, _⟩ := f8 BK246.out) | (go_at_call 5; (with_reducible refine (sound_Broken.calls k t228 t229 t230 _ _ t231 _ _ t234 _ _ t237 _ _ t240 _ _ t243 0 t255 _ ?side1 ?side2 ?side3 ?side4 ?side5 ?side6 ?side7 ?side8 ?side9 ?side10 A3.out).mono ?_); (case side1 => refine (Kd.R_reads' (e := 34) (base := w.heap.size) (ok := fun k_ => (True ∧ some k_ ≠ (.slice Ao21 y247.length co21 : Value).ownBlock)) (n := t231.length) (c := co11) ?_).2.2; exact (by (with_reducible repeat first | apply rA | apply rN | apply rD); exact (Kd.R_mono (rf (rf (rf (rf (rf (rf (rf (rf (rf (Kd.R_types HO233.out BK254.out (by decide))))))))))) (fun _ h_ => h_.1)))); (case side2 => exact (Kd.R_reads' HO233.out).2.1); (case side3 => refine (Kd.R_reads' (e := 36) (base := w.heap.size) (ok := fun k_ => (True ∧ some k_ ≠ (.slice Ao20 y250.length co20 : Value).ownBlock)) (n := t234.length) (c := co12) ?_).2.2; exact (by (with_reducible repeat first | apply rA | apply rN | apply rD); exact (Kd.R_mono (rf (rf (rf (rf (rf (rf (rf (rf (rf (Kd.R_types HO236.out BK254.out (by decide))))))))))) (fun _ h_ => h_.1)))); (case side4 => exact (Kd.R_reads' HO236.out).2.1); (case side5 => refine (Kd.R_reads' (e := 68) (base := w.heap.size) (ok := fun k_ => True) (n := t237.length) (c := co13) ?_).2.2; exact (by (with_reducible repeat first | apply rA | apply rN | apply rD); exact (Kd.R_mono (rf (rf (rf (rf (rf (rf (rf (rf (rf (Kd.R_types HO239.out BK254.out (by decide))))))))))) (fun _ h_ => h_.1)))); (case side6 => exact (Kd.R_reads' HO239.out).2.1); (case side7 => refine (Kd.S_reads' (e := 50) (base := w.heap.size) (ok := fun k_ => True) (n := t240.length) (c := co14) ?_).2.2; exact (by (with_reducible repeat (first | apply Kd.S_alloc | apply Kd.S_drewN | apply Kd.S_drew)); exact (Kd.S_mono (sf (sf (sf (sf (sf (sf (sf (sf (sf (Kd.S_types HO242.out BK254.out (by decide))))))))))) (fun _ h_ => h_.1)))); (case side8 => exact (Kd.S_reads' HO242.out).2.1); (case side9 => refine (Kd.R_reads' (e := 9) (base := w.heap.size) (ok := fun k_ => True) (n := t243.length) (c := co15) ?_).2.2; exact (by (with_reducible repeat first | apply rA | apply rN | apply rD); exact (Kd.R_mono (rf (rf (rf (rf (rf (rf (rf (rf (rf (Kd.R_types HO245.out BK254.out (by decide))))))))))) (fun _ h_ => h_.1)))); (case side10 => exact (Kd.R_reads' HO245.out).2.1); rintro e w30 ⟨rfl, hb⟩; (try clear A3); replace HO233 := am (Kd.R_below (by (with_reducible repeat first | apply rA | apply rN | apply rD); exact (Kd.R_mono (rf (rf (rf (rf (rf (rf (rf (rf (rf (Kd.R_types HO233.out BK254.out (by decide))))))))))) (fun _ h_ => h_.1))) hb); replace HO236 := am (Kd.R_below (by (with_reducible repeat first | apply rA | apply rN | apply rD); exact (Kd.R_mono (rf (rf (rf (rf (rf (rf (rf (rf (rf (Kd.R_types HO236.out BK254.out (by decide))))))))))) (fun _ h_ => h_.1))) hb); replace HO239 := am (Kd.R_below (by (with_reducible repeat first | apply rA | apply rN | apply rD); exact (Kd.R_mono (rf (rf (rf (rf (rf (rf (rf (rf (rf (Kd.R_types HO239.out BK254.out (by decide))))))))))) (fun _ h_ => h_.1))) hb); replace HO242 := am (Kd.S_below (by (with_reducible repeat (first | apply Kd.S_alloc | apply Kd.S_drewN | apply Kd.S_drew)); exact (Kd.S_mono (sf (sf (sf (sf (sf (sf (sf (sf (sf (Kd.S_types HO242.out BK254.out (by decide))))))))))) (fun _ h_ => h_.1))) hb); replace HO245 := am (Kd.R_below (by (with_reducible repeat first | apply rA | apply rN | apply rD); exact (Kd.R_mono (rf (rf (rf (rf (rf (rf (rf (rf (rf (Kd.R_types HO245.out BK254.out (by decide))))))))))) (fun _ h_ => h_.1))) hb); replace HO249 := am (Kd.R_below (by (with_reducible repeat first | apply rA | apply rN | apply rD); exact (Kd.R_mono (rf (rf (rf (rf (rf (rf (rf (rf (rf (Kd.R_types HO249.out BK254.out (by decide))))))))))) (fun _ h_ => h_.1))) hb); replace HO252 := am (Kd.R_below (by (with_reducible repeat first | apply rA | apply rN | apply rD); exact (Kd.R_mono (rf (rf (rf (rf (rf (rf (rf (rf (rf (Kd.R_types HO252.out BK254.out (by decide))))))))))) (fun _ h_ => h_.1))) hb); replace BK246 := am (blk_below (g := gb246) (o := .cells #[.int .i64 t228, .int .i64 t229, .int .i64 t230, .slice Ao11 t231.length co11, .slice Ao12 t234.length co12, .slice Ao13 t237.length co13, .slice Ao14 t240.length co14, .slice Ao15 t243.length co15] 28 (0, 0)) (by (iterate 9 ((with_reducible repeat first | apply kn | apply kd | apply ka); refine blk_far ?_ NB246_254.out _)); (with_reducible repeat first | apply kn | apply kd | apply ka); exact BK246.out) hb); replace BK253 := am (blk_below (g := gb253) (o := .cells #[.int .i64 0, .int .i64 (-5), .int .i64 1, .slice Ao21 y247.length co21, .slice Ao20 y250.length co20, .slice none 0 0, .slice none 0 0, .slice none 0 0] 28 (0, 0)) (by (iterate 9 ((with_reducible repeat first | apply kn | apply kd | apply ka); refine blk_far ?_ NB253_254.out _)); (with_reducible repeat first | apply kn | apply kd | apply ka); exact BK253.out) hb); replace BK254 := am (blk_below (g := gb254) (o := .cells #[.int .i64 0, .int .i64 (-4), .int .i64 1, .slice Ao21 y247.length co21, .slice Ao20 y250.length co20, .slice none 0 0, .slice none 0 0, .slice none 0 0] 28 (0, 0)) (by (with_reducible repeat first | apply kn | apply kd | apply ka); refine bp (.int .i64 (-5)) rfl ?_; (iterate 5 (simp only [List.set]; (with_reducible repeat first | apply kn | apply kd | apply ka); refine bp (.slice none 0 0) rfl ?_)); (iterate 3 (simp only [List.set]; (with_reducible repeat first | apply kn | apply kd | apply ka); refine bp (.int .i64 0) rfl ?_)); simp only [List.set]; (with_reducible repeat first | apply kn | apply kd | apply ka); exact BK254.out) hb); replace HB := am (below_step bx hb); (try clear hb); (try clear hb2); (try clear hk); (try clear hi); obtain ⟨_, _, _, _, _, _, _, _⟩ := c8 BK253.out; obtain ⟨_, _, _, _, _, _, _, _⟩ := f8 BK253.out) | (go_at_call 5; (refine (sound_Broken.calls k 0 (-5) 1 _ _ y247 _ _ y250 _ _ ([] : List (S68)) _ _ ([] : List (S50)) _ _ ([] : List ByteArray) 0 t256 _ ?side1 ?side2 ?side3 ?side4 ?side5 ?side6 ?side7 ?side8 ?side9 ?side10 A5.out).mono ?_); (case side1 => repeat (first | exact (Kd.R_reads' HO249.out).2.2 | (with_reducible refine Kd.C_alloc ?_ _) | (with_reducible refine Kd.C_drewN ?_ _) | (with_reducible refine Kd.C_drew ?_))); (case side2 => exact (Kd.R_reads' HO249.out).2.1); (case side3 => repeat (first | exact (Kd.R_reads' HO252.out).2.2 | (with_reducible refine Kd.C_alloc ?_ _) | (with_reducible refine Kd.C_drewN ?_ _) | (with_reducible refine Kd.C_drew ?_))); (case side4 => exact (Kd.R_reads' HO252.out).2.1); (case side5 => exact Kd.C_nil _ _); (case side6 => exact Nat.le_refl _); (case side7 => exact Kd.C_nil _ _); (case side8 => exact Nat.le_refl _); (case side9 => exact Kd.C_nil _ _); (case side10 => exact Nat.le_refl _); rintro e w32 ⟨rfl, hb⟩; (try clear A5); replace HO233 := am (Kd.R_below (rr HO233) hb); replace HO236 := am (Kd.R_below (rr HO236) hb); replace HO239 := am (Kd.R_below (rr HO239) hb); replace HO242 := am (Kd.S_below (by (with_reducible repeat (first | apply Kd.S_alloc | apply Kd.S_drewN | apply Kd.S_drew)); exact HO242.out) hb); replace HO245 := am (Kd.R_below (rr HO245) hb); replace HO249 := am (Kd.R_below (rr HO249) hb); replace HO252 := am (Kd.R_below (rr HO252) hb); replace BK246 := am (blk_below (kk BK246) hb); replace BK253 := am (blk_below (kk BK253) hb); replace BK254 := am (blk_below (kk BK254) hb); replace HB := am (below_step bx hb); (try clear hb); (try clear hb2); (try clear hk); (try clear hi); obtain ⟨_, _, _, _, _, _, _, _⟩ := c8 BK254.out; obtain ⟨_, _, _, _, _, _, _, _⟩ := f8 BK254.out) | (go_at_call 5; (refine (sound_Broken.calls k 0 (-4) 1 _ _ y247 _ _ y250 _ _ ([] : List (S68)) _ _ ([] : List (S50)) _ _ ([] : List ByteArray) 0 t257 _ ?side1 ?side2 ?side3 ?side4 ?side5 ?side6 ?side7 ?side8 ?side9 ?side10 A7.out).mono ?_); (case side1 => repeat (first | exact (Kd.R_reads' HO249.out).2.2 | (with_reducible refine Kd.C_alloc ?_ _) | (with_reducible refine Kd.C_drewN ?_ _) | (with_reducible refine Kd.C_drew ?_))); (case side2 => exact (Kd.R_reads' HO249.out).2.1); (case side3 => repeat (first | exact (Kd.R_reads' HO252.out).2.2 | (with_reducible refine Kd.C_alloc ?_ _) | (with_reducible refine Kd.C_drewN ?_ _) | (with_reducible refine Kd.C_drew ?_))); (case side4 => exact (Kd.R_reads' HO252.out).2.1); (case side5 => exact Kd.C_nil _ _); (case side6 => exact Nat.le_refl _); (case side7 => exact Kd.C_nil _ _); (case side8 => exact Nat.le_refl _); (case side9 => exact Kd.C_nil _ _); (case side10 => exact Nat.le_refl _); rintro e w34 ⟨rfl, hb⟩; (try clear A7); replace HO233 := am (Kd.R_below (rr HO233) hb); replace HO236 := am (Kd.R_below (rr HO236) hb); replace HO239 := am (Kd.R_below (rr HO239) hb); replace HO242 := am (Kd.S_below (by (with_reducible repeat (first | apply Kd.S_alloc | apply Kd.S_drewN | apply Kd.S_drew)); exact HO242.out) hb); replace HO245 := am (Kd.R_below (rr HO245) hb); replace HO249 := am (Kd.R_below (rr HO249) hb); replace HO252 := am (Kd.R_below (rr HO252) hb); replace BK246 := am (blk_below (kk BK246) hb); replace BK253 := am (blk_below (kk BK253) hb); replace BK254 := am (blk_below (kk BK254) hb); replace HB := am (below_step bx hb); (try clear hb); (try clear hb2); (try clear hk); (try clear hi)))
    go_ret
    exact ⟨by first | rfl | (simp [*, errW_none, errW_some] <;> rfl), bx⟩
   ·rw [if_neg c6] at H
    have c6b0 : (t256 == 5) = false := beq_eq_false_iff_ne.mpr c6
    have c6b1 : (t256 != 5) = true := bne_iff_ne.mpr c6
    exact absurd (show some false = some true from hr ▸ H) (by simp)  -- 2
  ·rw [if_neg c4] at H
   have c4b0 : (t255 == 0) = false := beq_eq_false_iff_ne.mpr c4
   have c4b1 : (t255 != 0) = true := bne_iff_ne.mpr c4
   exact absurd (show some false = some true from hr ▸ H) (by simp)  -- 3
 ·rw [if_neg c2] at H
  have c2b0 : (t230 == 1) = false := beq_eq_false_iff_ne.mpr c2
  have c2b1 : (t230 != 1) = true := bne_iff_ne.mpr c2
  exact absurd (show some false = some true from hr ▸ H) (by simp)  -- 4
end Go.Proofs.Ytijeigiilgapdaa.QSoundTells
