/-
 tree.Path by its walk: a fund and those above it, whatever the funds are.
-/
import Derived.Laws.CopyOwn
import Derived.ArgAppend
import Derived.Below
import Derived.BigQuiet
import Derived.Deep.AppendLies
import Derived.Deep.CutBlock
import Derived.Deep.DeepCutAuto
import Derived.Deep.Draws
import Derived.Deep.LoopGhost
import Derived.Deep.OwnRows
import Derived.Deep.QuietTactic
import Derived.Deep.RegionHeld3
import Derived.Deep.WholeRow
import Derived.KernelRfl
import Derived.Laws.BitsLemmas
import Derived.Laws.BytesArg
import Derived.Laws.IdiomCopy
import Derived.Laws.MakeOwn
import Derived.Laws.OwnMore
import Derived.Laws.Rows
import Derived.Laws.Slices
import Derived.Lib.AppendStr
import Derived.Lib.ConvBytes
import Derived.Lib.Hide
import Derived.Maps.AppendAt
import Derived.OrdersHeld
import Derived.Outline
import Derived.OwnWalk
import Derived.RowKit
import Derived.RowKit3
import Derived.Tactics
import Derived.WalkKit
import Derived.WideLaws
import Derived.Test.YtijeigiilgapdaaProg
import Derived.Test.YtijeigiilgapdaaWAll

import Derived.Test.YtijeigiilgapdaaXBase
namespace Go.Proofs.Ytijeigiilgapdaa.XPath
open Go.RowKit Go.Proofs.YtijeigiilgapdaaW.PrintWords Go.Proofs.YtijeigiilgapdaaW.PrintLast Go.Proofs.YtijeigiilgapdaaW.PrintMore XBase
set_option linter.unusedVariables false
set_option linter.unusedSimpArgs false
/-- A fund, and those above it. -/
def pathN (par : Int → Int) (n : Int) : Nat → Int → List Int
 | 0, _ => []
 | k + 1, f => if 0 ≤ f ∧ f < n then f :: (if par f ≥ f then [] else pathN par n k (par f)) else []
theorem path_len (par : Int → Int) (n : Int) : ∀ k f, (pathN par n k f).length ≤ k
 | 0, _ => Nat.le_refl _
 | k + 1, f => by
  rw [pathN]
  split
  ·split
   ·simp
   ·have := path_len par n k (par f); simp; omega
  ·simp
/-- From where the number of rounds doesn't matter. -/
theorem path_more (par : Int → Int) (n : Int) : ∀ k f, f.toNat + 1 ≤ k → pathN par n k f = pathN par n (f.toNat + 1) f
 | 0, f, h => by omega
 | k + 1, f, h => by
  rw [pathN, pathN]
  split
  ·rename_i hf
   split
   ·rfl
   ·rename_i hp
    by_cases h0 : 0 ≤ par f
    ·rw [path_more par n k (par f) (by omega), path_more par n f.toNat (par f) (by omega)]
    ·have e : ∀ m, pathN par n m (par f) = [] := fun m => by
      cases m with
      | zero => rfl
      | succ m => rw [pathN, if_neg (fun h => h0 h.1)]
     rw [e, e]
  ·rfl
theorem path_zero (par : Int → Int) (n f : Int) : pathN par n 0 f = [] := rfl
theorem path_step (par : Int → Int) (n : Int) (k : Nat) (f : Int) : pathN par n (k + 1) f = if 0 ≤ f ∧ f < n then f :: (if par f ≥ f then [] else pathN par n k (par f)) else [] := rfl
theorem info_i64 : (Try.prog.info? 3).map (fun i => (i.zero, i.size, i.bytes)) = some (some (.int .i64 0), (Kd.int .i64).sz, 8) := by kernel_rfl
set_option maxHeartbeats 400000 in
theorem clipInt_walk (A : Option Addr) (c n : Nat) (w : World) (hl : n ≤ c) (hm : n ≤ 9223372036854775807) : Calls Try.prog 71 #[.slice A n c] w fun e w' => e = .returned (.slice A n n) ∧ w = w' := by
 have h1 : (n : Int) ≤ (c : Int) := by omega
 have h0 : (0 : Int) ≤ (n : Int) := by omega
 go_enter Try.func71, Try.ntmps71
 go_wp2
 go_ret
 exact ⟨rfl, rfl⟩
attribute [local irreducible] pathN
set_option maxHeartbeats 2000000 in
theorem path_walk (A : Option Addr) (n c : Nat) (par : Int → Int) (f : Int) (w : World) (hn : n ≤ 100000000)
  (hcell : ∀ i : Int, 0 ≤ i → i < n → ∃ ad, A = some ad ∧ w.cell? ⟨(ad.add (i.toNat * 3)).block, (ad.add (i.toNat * 3)).off + 1, none⟩ = some (.int .i64 (par i))) :
  Calls Try.prog 61 #[.slice A n c, .int .i64 f] w fun e w' => ∃ v : Value, e = .returned v ∧ Kd.V (Kd.int .i64) 3 w' w.heap.size (fun k_ => (w.heap.size ≤ k_)) v (pathN par n (f.toNat + 1) f) ∧ Below w.heap.size w w' := by
 have HC := Aside0.mk hcell
 clear hcell
 obtain ⟨tot, ht⟩ : ∃ t, pathN par n (f.toNat + 1) f = t := ⟨_, rfl⟩
 have HT := Aside0.mk (show ([] : List Int) ++ pathN par n (f.toNat + 1) f = tot by rw [List.nil_append]; exact ht)
 rw [ht]
 clear ht
 have hf0 : f.toNat + 0 ≤ f.toNat := Nat.le_refl _
 have HN0 := Aside0.mk (Kd.R_nil (Kd.int .i64) 3 w w.heap.size (fun _ => True))
 go_enter Try.func61, Try.ntmps61
 go_wp2
 go_loopw [1, 5] (fun v1 v5 wr => ∃ (g : Int) (acc : List Int), v1 = .int .i64 g ∧ (acc.length = 0 ∨ g + acc.length < n) ∧ acc.length ≤ n ∧ Aside0 (acc ++ pathN par n (g.toNat + 1) g = tot) ∧ Aside0 ((Kd.int .i64).R 3 wr w.heap.size (fun _ => True) v5 acc) ∧ Aside0 (Below w.heap.size w wr)) (fun v1 _ _ => (intOf v1 + 1).toNat)
 case atStart => exact ⟨f, [], rfl, .inl rfl, Nat.zero_le _, HT, HN0, Aside0.mk (Below.refl _ _)⟩
 case round =>
  clear HT HN0
  obtain ⟨g, acc, rfl, hga, hal, HT, HR, HB⟩ := hrel
  obtain ⟨A5, c5, rfl, hc5, -⟩ := Kd.R_reads HR.out
  by_cases h0 : 0 ≤ g
  ·by_cases h1 : g < (n : Int)
   ·have b1 : decide (g < (n : Int)) = true := decide_eq_true h1
    obtain ⟨ad, rfl, hcl⟩ := HC.out g h0 h1
    have HCL := Aside0.mk hcl
    have hst := HT.out
    rw [path_step, if_pos ⟨h0, h1⟩] at hst
    clear hcl HT
    by_cases hp : par g ≥ g
    ·have b2 : decide (g ≤ par g) = true := decide_eq_true hp
     rw [if_pos hp] at hst
     subst hst
     have CW := Aside0.mk (fun A5 c5 w' (hc5 : acc.length + 1 ≤ c5) => clipInt_walk A5 c5 (acc.length + 1) w' hc5 (by omega))
     go_wp2_with (first | (at_builtin; refine Kd.R_append (Kd.int .i64) (w0 := w) (W := wr) w.heap.size rfl (.tmp 15) (.tmp 17) 40 3 (.int .i64 0) 8 rfl Try.underlying40 info_i64 rfl (by decide) (by decide) (.slice A5 acc.length c5) acc g [.int .i64 g] (fun _ => True) (fun _ => False) rfl rfl rfl (fun _ h => h.elim) (fun _ _ => trivial) HR.out HB.out HB.out.size (by omega) ?_; intro v6 w6 hR6 hB6 _ _; obtain ⟨A6, c6, rfl, hc6, -⟩ := Kd.R_reads hR6; have hcell : w6.cell? ⟨(ad.add (g.toNat * 3)).block, (ad.add (g.toNat * 3)).off + 1, none⟩ = some (.int .i64 (par g)) := pw_cell_below hB6 HCL.out; have HR6 := Aside0.mk hR6; have HB6 := Aside0.mk hB6; rw [List.length_append, List.length_singleton] at hc6 ⊢; clear hR6 hB6) | (go_at_call 71; refine (CW.out _ _ _ hc6).mono ?_; rintro e w7 ⟨rfl, rfl⟩))
     go_ret
     exact ⟨_, rfl, (by rw [show acc.length + 1 = (acc ++ [g]).length from by simp]; exact Kd.V_mk (Nat.le_refl _) (Kd.R_F (Kd.R_mono (Kd.R_bound HR6.out) (fun k hk => hk.2.1)))), HB6.out⟩
    ·have b2 : decide (g ≤ par g) = false := decide_eq_false hp
     rw [if_neg hp] at hst
     have HT := Aside0.mk (show (acc ++ [g]) ++ pathN par n ((par g).toNat + 1) (par g) = tot by
      rw [← hst, List.append_assoc]
      congr 1
      by_cases h2 : 0 ≤ par g
      ·rw [path_more par n g.toNat (par g) (by omega)]; rfl
      ·rw [path_step, if_neg (by omega), show pathN par n g.toNat (par g) = [] from by
        cases g.toNat with
        | zero => rw [path_zero]
        | succ m => rw [path_step, if_neg (by omega)]]; rfl)
     clear hst
     go_wp2_with (at_builtin; refine Kd.R_append (Kd.int .i64) (w0 := w) (W := wr) w.heap.size rfl (.tmp 15) (.tmp 17) 40 3 (.int .i64 0) 8 rfl Try.underlying40 info_i64 rfl (by decide) (by decide) (.slice A5 acc.length c5) acc g [.int .i64 g] (fun _ => True) (fun _ => False) rfl rfl rfl (fun _ h => h.elim) (fun _ _ => trivial) HR.out HB.out HB.out.size (by omega) ?_; intro v6 w6 hR6 hB6 _ _; obtain ⟨A6, c6, rfl, hc6, -⟩ := Kd.R_reads hR6; have hcell : w6.cell? ⟨(ad.add (g.toNat * 3)).block, (ad.add (g.toNat * 3)).off + 1, none⟩ = some (.int .i64 (par g)) := pw_cell_below hB6 HCL.out; have HR6 := Aside0.mk hR6; have HB6 := Aside0.mk hB6; rw [List.length_append, List.length_singleton] at hc6 ⊢; clear hR6 hB6)
     go_roundw
     case rel => exact ⟨par g, acc ++ [g], rfl, .inr (by rw [List.length_append, List.length_singleton]; omega), by rw [List.length_append, List.length_singleton]; omega, HT, (by have h_ := HR6.out; rw [List.length_append, List.length_singleton] at h_; exact Aside0.mk h_), HB6⟩
     case measure => simp [intOf]; omega
   ·have b1 : decide (g < (n : Int)) = false := decide_eq_false h1
    have he : acc = tot := by
     have := HT.out
     rw [path_step, if_neg (by omega), List.append_nil] at this
     exact this
    subst he
    have CW := Aside0.mk (fun w' => clipInt_walk A5 c5 acc.length w' hc5 (by omega))
    go_wp2_with (go_at_call 71; refine (CW.out _).mono ?_; rintro e w1 ⟨rfl, rfl⟩)
    go_ret
    exact ⟨_, rfl, Kd.V_mk (Nat.le_refl _) (Kd.R_F (Kd.R_mono (Kd.R_bound HR.out) (fun k hk => hk.2.1))), HB.out⟩
  ·have b1 : decide ((0 : Int) ≤ g) = false := decide_eq_false h0
   have he : acc = tot := by
    have := HT.out
    rw [path_step, if_neg (by omega), List.append_nil] at this
    exact this
   subst he
   have CW := Aside0.mk (fun w' => clipInt_walk A5 c5 acc.length w' hc5 (by omega))
   go_wp2_with (go_at_call 71; refine (CW.out _).mono ?_; rintro e w1 ⟨rfl, rfl⟩)
   go_ret
   exact ⟨_, rfl, Kd.V_mk (Nat.le_refl _) (Kd.R_F (Kd.R_mono (Kd.R_bound HR.out) (fun k hk => hk.2.1))), HB.out⟩
end Go.Proofs.Ytijeigiilgapdaa.XPath
