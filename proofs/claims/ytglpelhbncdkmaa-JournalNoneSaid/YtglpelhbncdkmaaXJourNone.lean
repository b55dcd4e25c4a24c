/-
  prebendlaw07.JournalNone by its walk.
-/
import Derived.Laws.CopyOwn
import Derived.ArgAppend
import Derived.Below
import Derived.BigQuiet
import Derived.Deep.AppendLies
import Derived.Deep.CutBlock
import Derived.Deep.DeepCutAuto
import Derived.Deep.Draws
import Derived.Deep.LoopGhost
import Derived.Deep.OwnRows
import Derived.Deep.QuietTactic
import Derived.Deep.RegionHeld3
import Derived.Deep.WholeRow
import Derived.KernelRfl
import Derived.Laws.BitsLemmas
import Derived.Laws.BytesArg
import Derived.Laws.IdiomCopy
import Derived.Laws.MakeOwn
import Derived.Laws.OwnMore
import Derived.Laws.Rows
import Derived.Laws.Slices
import Derived.Lib.AppendStr
import Derived.Lib.ConvBytes
import Derived.Lib.Hide
import Derived.Maps.AppendAt
import Derived.OrdersHeld
import Derived.Outline
import Derived.OwnWalk
import Derived.RowKit
import Derived.RowKit3
import Derived.Tactics
import Derived.WalkKit
import Derived.WideLaws
import Derived.Test.YtglpelhbncdkmaaProg
import Derived.Test.YtglpelhbncdkmaaWApart
import Derived.Test.YtglpelhbncdkmaaWArr
import Derived.Test.YtglpelhbncdkmaaWAt
import Derived.Test.YtglpelhbncdkmaaWEqStruct
import Derived.Test.YtglpelhbncdkmaaWFoot
import Derived.Test.YtglpelhbncdkmaaWFootNe
import Derived.Test.YtglpelhbncdkmaaWFour
import Derived.Test.YtglpelhbncdkmaaWGuard
import Derived.Test.YtglpelhbncdkmaaWInv
import Derived.Test.YtglpelhbncdkmaaWInvWords
import Derived.Test.YtglpelhbncdkmaaWKept
import Derived.Test.YtglpelhbncdkmaaWLast
import Derived.Test.YtglpelhbncdkmaaWMore
import Derived.Test.YtglpelhbncdkmaaWN
import Derived.Test.YtglpelhbncdkmaaWNEv
import Derived.Test.YtglpelhbncdkmaaWQPut
import Derived.Test.YtglpelhbncdkmaaWRepsOne
import Derived.Test.YtglpelhbncdkmaaWShare
import Derived.Test.YtglpelhbncdkmaaWTab
import Derived.Test.YtglpelhbncdkmaaWWords
import Derived.Test.YtglpelhbncdkmaaWZeros
import Derived.Test.YtglpelhbncdkmaaXSlices

import Derived.Test.YtglpelhbncdkmaaXJour12
namespace Go.Proofs.Ytglpelhbncdkmaa.XJour
open Go.RowKit Go.Proofs.YtglpelhbncdkmaaW.PrintWords Go.Proofs.YtglpelhbncdkmaaW.PrintLast Go.Proofs.YtglpelhbncdkmaaW.PrintMore XDisk XChunk XUnpack XData
set_option linter.unusedVariables false
set_option linter.unusedSimpArgs false
theorem format_no (base g : Nat) (s : St) (slot : Int) (v : Value) (w : World) (h : DiskAt base w g s) (hm : mayF s slot = false) : Calls Try.prog 8 #[.pointer (some ⟨g, 0, none⟩), .int .i64 slot, v] w fun e w' => e = .returned (.int .i64 1) ∧ w = w' := by
  have MW := Aside0.mk (may_walk base g s slot w h)
  rw [hm] at MW
  clear h
  go_enter Try.func8, Try.ntmps8
  go_wp2_with (go_at_call 23; refine MW.out.mono ?_; rintro e w1 ⟨rfl, rfl⟩)
  go_ret
  exact ⟨rfl, rfl⟩
/-! ### a new disk has nothing -/
theorem now_fresh (m i : Nat) (h : i < m) : nowAt (fresh m) (i : Nat) = List.replicate 32 0 := by
  unfold nowAt
  have e : locF ((i : Nat) : Int) (fresh m).cache 0 = -1 := rfl
  rw [e, if_neg (by decide), Int.toNat_natCast]
  show (List.replicate m (List.replicate 32 (0 : Int))).getD i [] = _
  rw [List.getD_eq_getElem?_getD, List.getElem?_replicate, if_pos h]; rfl
theorem readAll_fresh (m a : Nat) : ∀ n, a + n ≤ m → readAll (fresh m) a n = List.replicate (32 * n) 0
  | 0, _ => rfl
  | n + 1, h => by
    rw [readAll, readAll_fresh m a n (by omega), now_fresh m (a + n) (by omega), List.replicate_append_replicate, Nat.mul_add, Nat.mul_one]
theorem unpack_zeros (n : Nat) (h : 32 ≤ n) : unpackF (List.replicate n 0) = bad := by
  have t : ∀ k, k ≤ 32 → (List.replicate n (0 : Int)).take k = List.replicate k 0 := fun k hk => by rw [List.take_replicate, Nat.min_eq_left (by omega)]
  have hd : dataF (List.replicate n 0) 1 = List.replicate 24 0 := by
    rw [dataF_all (fun i hi => by rw [show i = 0 from by omega]; unfold eqB; exact beq_self_eq_true _)]
    show [] ++ pieceAt _ 0 = _
    unfold pieceAt
    rw [List.nil_append, Nat.zero_mul, Nat.zero_add, t 24 (by decide), List.drop_zero]
  have u := unpackF_4 (l := List.replicate n 0) (n := 0) (m := 1) (d := List.replicate 24 0) (r := false) (by rw [List.length_replicate]; omega) (by rw [t 2 (by decide)]; rfl) rfl (by rw [List.length_replicate]; omega) hd (by rw [List.length_replicate]; decide) rfl rfl rfl rfl (by rw [t 28 (by decide), t 32 (by decide)]; decide +kernel)
  rw [u, if_neg (by decide)]
theorem openCk_fresh (m : Nat) (slot : Int) (h1 : 1 ≤ slot) (h2 : 2 * slot < (m : Int)) : (openCk (fresh m) slot).1 < 0 := by
  have hz : ∀ k, k < 2 → unpackF (readAll (fresh m) (k * slot.toNat) slot.toNat) = bad := fun k hk => by
    rw [readAll_fresh m _ _ (by have : k = 0 ∨ k = 1 := by omega
                                rcases this with rfl | rfl <;> omega)]
    exact unpack_zeros _ (by omega)
  have hb : ¬ (bad.2.2.2.2 = 0) := by decide
  unfold openCk
  rw [ckF, ckStep, hz 1 (by decide), if_neg (fun h => hb h.1), ckF, ckStep, hz 0 (by decide), if_neg (fun h => hb h.1), ckF]
  show (-1 : Int) < 0
  decide
theorem may_fresh (m : Nat) (slot : Int) (hm : m ≤ 100) : mayF (fresh m) slot = (decide (1 ≤ slot) && decide (2 * slot < (m : Int))) := by
  unfold mayF
  rw [show (fresh m).good.length = m from List.length_replicate ..]
  rw [Bool.eq_iff_iff]
  simp only [Bool.and_eq_true, decide_eq_true_eq]
  omega
attribute [local irreducible] mayF openCk openRec openJ fresh
set_option maxHeartbeats 8000000 in
theorem none_big (a0 a1 : Int) (A2 : Option Addr) (n2 c2 : Nat) (w : World) (h0 : 100 < a0) : Calls Try.prog 5 #[.int .i64 a0, .int .i64 a1, .slice A2 n2 c2] w fun e w' => e = .returned (.bool true) ∧ Below w.heap.size w w' := by
  obtain ⟨m, hmm⟩ : ∃ m : Nat, mx 0 (mn 100 1024) = (m : Int) := ⟨(mx 0 (mn 100 1024)).toNat, by unfold mx; split <;> omega⟩
  have hm : m ≤ 100 := by unfold mx mn at hmm; omega
  have NW := Aside0.mk (new_in 100 m hmm w)
  have SZ := Aside0.mk (show (fresh m).good.length = m by unfold fresh; exact List.length_replicate ..)
  have SZ1 := Aside0.mk (show (fresh m).good.length ≤ 1024 by rw [SZ.out]; omega)
  have hmf := may_fresh m a1 hm
  clear hmm
  by_cases h1 : 1 ≤ a1
  · by_cases h2 : 2 * a1 < (m : Int)
    · have MAY := Aside0.mk (show mayF (fresh m) a1 = true by rw [hmf, decide_eq_true h1, decide_eq_true h2]; rfl)
      have OC := Aside0.mk (openCk_fresh m a1 h1 h2)
      have b1 : decide (1 ≤ a1) = true := decide_eq_true h1
      have b2 : decide (a1 < 1000) = true := decide_eq_true (by omega)
      have b3 : decide (2 * a1 < (m : Int)) = true := decide_eq_true h2
      clear hmf
      go_enter Try.func5, Try.ntmps5
      go_wp2_with (first | (go_at_call 12; refine (append_nil _ _).mono ?_; rintro e w' ⟨rfl, rfl⟩) | (go_at_call 11; refine (commit_nil _).mono ?_; rintro e w' ⟨rfl, rfl⟩) | (go_at_call 10; refine (checkpoint_nil _ _).mono ?_; rintro e w' ⟨rfl, rfl⟩) | (go_at_call 17; refine (seq_nil _).mono ?_; rintro e w' ⟨rfl, rfl⟩) | (go_at_call 18; refine (epoch_nil _).mono ?_; rintro e w' ⟨rfl, rfl⟩) | (go_at_call 19; refine (room_nil _).mono ?_; rintro e w' ⟨rfl, rfl⟩) | (go_at_call 7; refine NW.out.mono ?_; rintro e w1 ⟨g, rfl, hD1, hB1⟩; have HD1 := Aside0.mk hD1; have HB1 := Aside0.mk hB1; clear hD1 hB1) | (go_at_call 20; refine (size_q w.heap.size g m (fresh m) _ SZ.out HD1.out).mono ?_; rintro e w' ⟨rfl, rfl⟩) | (go_at_call 9; refine (open_walk w.heap.size g (fresh m) a1 w1 HD1.out (fresh_fine m) SZ1.out MAY.out HB1.out.size).mono ?_; rintro e w2 ⟨hD2, hK2, (⟨-, rfl⟩ | ⟨hbad, -⟩)⟩; rotate_left; (exact absurd hbad (Int.not_le.2 OC.out)); have HD2 := Aside0.mk hD2; have HB2 := Aside0.mk (below_keepJ HB1.out HB1.out.size hK2); clear hD2 hK2))
      go_wp2_with (first | (go_at_call 15; refine (awake_walk _).mono ?_; rintro e w3 ⟨rfl, hB3⟩; have HB3 := Aside0.mk (below_step HB2.out hB3); clear hB3) | (go_at_call 8; (with_reducible refine (format_nil _ _ _).mono ?_); rintro e w' ⟨rfl, rfl⟩))
      go_ret
      exact ⟨rfl, HB3.out⟩
    · have MAY := Aside0.mk (show mayF (fresh m) a1 = false by rw [hmf, decide_eq_false h2, Bool.and_false])
      have b1 : decide (1 ≤ a1) = true := decide_eq_true h1
      clear hmf
      by_cases h3 : a1 < 1000
      · have b2 : decide (a1 < 1000) = true := decide_eq_true h3
        have b3 : decide (2 * a1 < (m : Int)) = false := decide_eq_false h2
        go_enter Try.func5, Try.ntmps5
        go_wp2_with (first | (go_at_call 12; refine (append_nil _ _).mono ?_; rintro e w' ⟨rfl, rfl⟩) | (go_at_call 11; refine (commit_nil _).mono ?_; rintro e w' ⟨rfl, rfl⟩) | (go_at_call 10; refine (checkpoint_nil _ _).mono ?_; rintro e w' ⟨rfl, rfl⟩) | (go_at_call 17; refine (seq_nil _).mono ?_; rintro e w' ⟨rfl, rfl⟩) | (go_at_call 18; refine (epoch_nil _).mono ?_; rintro e w' ⟨rfl, rfl⟩) | (go_at_call 19; refine (room_nil _).mono ?_; rintro e w' ⟨rfl, rfl⟩) | (go_at_call 7; refine NW.out.mono ?_; rintro e w1 ⟨g, rfl, hD1, hB1⟩; have HD1 := Aside0.mk hD1; have HB1 := Aside0.mk hB1; clear hD1 hB1) | (go_at_call 20; refine (size_q w.heap.size g m (fresh m) _ SZ.out HD1.out).mono ?_; rintro e w' ⟨rfl, rfl⟩) | (go_at_call 9; refine (open_no w.heap.size g (fresh m) a1 w1 HD1.out MAY.out).mono ?_; rintro e w2 ⟨rfl, rfl⟩))
        go_wp2_with (first | (go_at_call 15; refine (awake_walk _).mono ?_; rintro e w3 ⟨rfl, hB3⟩; have HD3 := Aside0.mk (disk_below HD1.out hB3); have HB3 := Aside0.mk (below_step HB1.out hB3); clear hB3) | (go_at_call 8; (with_reducible refine (format_nil _ _ _).mono ?_); rintro e w' ⟨rfl, rfl⟩) | (go_at_call 8; (with_reducible refine (format_no w.heap.size g (fresh m) a1 _ _ HD3.out MAY.out).mono ?_); rintro e w' ⟨rfl, rfl⟩))
        go_ret
        exact ⟨rfl, HB3.out⟩
      · have b2 : decide (a1 < 1000) = false := decide_eq_false h3
        go_enter Try.func5, Try.ntmps5
        go_wp2_with (first | (go_at_call 12; refine (append_nil _ _).mono ?_; rintro e w' ⟨rfl, rfl⟩) | (go_at_call 11; refine (commit_nil _).mono ?_; rintro e w' ⟨rfl, rfl⟩) | (go_at_call 10; refine (checkpoint_nil _ _).mono ?_; rintro e w' ⟨rfl, rfl⟩) | (go_at_call 17; refine (seq_nil _).mono ?_; rintro e w' ⟨rfl, rfl⟩) | (go_at_call 18; refine (epoch_nil _).mono ?_; rintro e w' ⟨rfl, rfl⟩) | (go_at_call 19; refine (room_nil _).mono ?_; rintro e w' ⟨rfl, rfl⟩) | (go_at_call 7; refine NW.out.mono ?_; rintro e w1 ⟨g, rfl, hD1, hB1⟩; have HD1 := Aside0.mk hD1; have HB1 := Aside0.mk hB1; clear hD1 hB1) | (go_at_call 20; refine (size_q w.heap.size g m (fresh m) _ SZ.out HD1.out).mono ?_; rintro e w' ⟨rfl, rfl⟩) | (go_at_call 9; refine (open_no w.heap.size g (fresh m) a1 w1 HD1.out MAY.out).mono ?_; rintro e w2 ⟨rfl, rfl⟩))
        go_wp2_with (first | (go_at_call 15; refine (awake_walk _).mono ?_; rintro e w3 ⟨rfl, hB3⟩; have HD3 := Aside0.mk (disk_below HD1.out hB3); have HB3 := Aside0.mk (below_step HB1.out hB3); clear hB3) | (go_at_call 8; (with_reducible refine (format_nil _ _ _).mono ?_); rintro e w' ⟨rfl, rfl⟩) | (go_at_call 8; (with_reducible refine (format_no w.heap.size g (fresh m) a1 _ _ HD3.out MAY.out).mono ?_); rintro e w' ⟨rfl, rfl⟩))
        go_ret
        exact ⟨rfl, HB3.out⟩
  · have MAY := Aside0.mk (show mayF (fresh m) a1 = false by rw [hmf, decide_eq_false h1, Bool.false_and])
    have b1 : decide (1 ≤ a1) = false := decide_eq_false h1
    clear hmf
    go_enter Try.func5, Try.ntmps5
    go_wp2_with (first | (go_at_call 12; refine (append_nil _ _).mono ?_; rintro e w' ⟨rfl, rfl⟩) | (go_at_call 11; refine (commit_nil _).mono ?_; rintro e w' ⟨rfl, rfl⟩) | (go_at_call 10; refine (checkpoint_nil _ _).mono ?_; rintro e w' ⟨rfl, rfl⟩) | (go_at_call 17; refine (seq_nil _).mono ?_; rintro e w' ⟨rfl, rfl⟩) | (go_at_call 18; refine (epoch_nil _).mono ?_; rintro e w' ⟨rfl, rfl⟩) | (go_at_call 19; refine (room_nil _).mono ?_; rintro e w' ⟨rfl, rfl⟩) | (go_at_call 7; refine NW.out.mono ?_; rintro e w1 ⟨g, rfl, hD1, hB1⟩; have HD1 := Aside0.mk hD1; have HB1 := Aside0.mk hB1; clear hD1 hB1) | (go_at_call 20; refine (size_q w.heap.size g m (fresh m) _ SZ.out HD1.out).mono ?_; rintro e w' ⟨rfl, rfl⟩) | (go_at_call 9; refine (open_no w.heap.size g (fresh m) a1 w1 HD1.out MAY.out).mono ?_; rintro e w2 ⟨rfl, rfl⟩))
    go_wp2_with (first | (go_at_call 15; refine (awake_walk _).mono ?_; rintro e w3 ⟨rfl, hB3⟩; have HD3 := Aside0.mk (disk_below HD1.out hB3); have HB3 := Aside0.mk (below_step HB1.out hB3); clear hB3) | (go_at_call 8; (with_reducible refine (format_nil _ _ _).mono ?_); rintro e w' ⟨rfl, rfl⟩) | (go_at_call 8; (with_reducible refine (format_no w.heap.size g (fresh m) a1 _ _ HD3.out MAY.out).mono ?_); rintro e w' ⟨rfl, rfl⟩))
    go_ret
    exact ⟨rfl, HB3.out⟩
set_option maxHeartbeats 8000000 in
theorem none_small (a0 a1 : Int) (A2 : Option Addr) (n2 c2 : Nat) (w : World) (h0 : a0 ≤ 100) : Calls Try.prog 5 #[.int .i64 a0, .int .i64 a1, .slice A2 n2 c2] w fun e w' => e = .returned (.bool true) ∧ Below w.heap.size w w' := by
  obtain ⟨m, hmm⟩ : ∃ m : Nat, mx 0 (mn a0 1024) = (m : Int) := ⟨(mx 0 (mn a0 1024)).toNat, by unfold mx; split <;> omega⟩
  have hm : m ≤ 100 := by unfold mx mn at hmm; omega
  have NW := Aside0.mk (new_in a0 m hmm w)
  have SZ := Aside0.mk (show (fresh m).good.length = m by unfold fresh; exact List.length_replicate ..)
  have SZ1 := Aside0.mk (show (fresh m).good.length ≤ 1024 by rw [SZ.out]; omega)
  have hmf := may_fresh m a1 hm
  clear hmm
  by_cases h1 : 1 ≤ a1
  · by_cases h2 : 2 * a1 < (m : Int)
    · have MAY := Aside0.mk (show mayF (fresh m) a1 = true by rw [hmf, decide_eq_true h1, decide_eq_true h2]; rfl)
      have OC := Aside0.mk (openCk_fresh m a1 h1 h2)
      have b1 : decide (1 ≤ a1) = true := decide_eq_true h1
      have b2 : decide (a1 < 1000) = true := decide_eq_true (by omega)
      have b3 : decide (2 * a1 < (m : Int)) = true := decide_eq_true h2
      clear hmf
      go_enter Try.func5, Try.ntmps5
      go_wp2_with (first | (go_at_call 12; refine (append_nil _ _).mono ?_; rintro e w' ⟨rfl, rfl⟩) | (go_at_call 11; refine (commit_nil _).mono ?_; rintro e w' ⟨rfl, rfl⟩) | (go_at_call 10; refine (checkpoint_nil _ _).mono ?_; rintro e w' ⟨rfl, rfl⟩) | (go_at_call 17; refine (seq_nil _).mono ?_; rintro e w' ⟨rfl, rfl⟩) | (go_at_call 18; refine (epoch_nil _).mono ?_; rintro e w' ⟨rfl, rfl⟩) | (go_at_call 19; refine (room_nil _).mono ?_; rintro e w' ⟨rfl, rfl⟩) | (go_at_call 7; refine NW.out.mono ?_; rintro e w1 ⟨g, rfl, hD1, hB1⟩; have HD1 := Aside0.mk hD1; have HB1 := Aside0.mk hB1; clear hD1 hB1) | (go_at_call 20; refine (size_q w.heap.size g m (fresh m) _ SZ.out HD1.out).mono ?_; rintro e w' ⟨rfl, rfl⟩) | (go_at_call 9; refine (open_walk w.heap.size g (fresh m) a1 w1 HD1.out (fresh_fine m) SZ1.out MAY.out HB1.out.size).mono ?_; rintro e w2 ⟨hD2, hK2, (⟨-, rfl⟩ | ⟨hbad, -⟩)⟩; rotate_left; (exact absurd hbad (Int.not_le.2 OC.out)); have HD2 := Aside0.mk hD2; have HB2 := Aside0.mk (below_keepJ HB1.out HB1.out.size hK2); clear hD2 hK2))
      go_wp2_with (first | (go_at_call 15; refine (awake_walk _).mono ?_; rintro e w3 ⟨rfl, hB3⟩; have HB3 := Aside0.mk (below_step HB2.out hB3); clear hB3) | (go_at_call 8; (with_reducible refine (format_nil _ _ _).mono ?_); rintro e w' ⟨rfl, rfl⟩))
      go_ret
      exact ⟨rfl, HB3.out⟩
    · have MAY := Aside0.mk (show mayF (fresh m) a1 = false by rw [hmf, decide_eq_false h2, Bool.and_false])
      have b1 : decide (1 ≤ a1) = true := decide_eq_true h1
      clear hmf
      by_cases h3 : a1 < 1000
      · have b2 : decide (a1 < 1000) = true := decide_eq_true h3
        have b3 : decide (2 * a1 < (m : Int)) = false := decide_eq_false h2
        go_enter Try.func5, Try.ntmps5
        go_wp2_with (first | (go_at_call 12; refine (append_nil _ _).mono ?_; rintro e w' ⟨rfl, rfl⟩) | (go_at_call 11; refine (commit_nil _).mono ?_; rintro e w' ⟨rfl, rfl⟩) | (go_at_call 10; refine (checkpoint_nil _ _).mono ?_; rintro e w' ⟨rfl, rfl⟩) | (go_at_call 17; refine (seq_nil _).mono ?_; rintro e w' ⟨rfl, rfl⟩) | (go_at_call 18; refine (epoch_nil _).mono ?_; rintro e w' ⟨rfl, rfl⟩) | (go_at_call 19; refine (room_nil _).mono ?_; rintro e w' ⟨rfl, rfl⟩) | (go_at_call 7; refine NW.out.mono ?_; rintro e w1 ⟨g, rfl, hD1, hB1⟩; have HD1 := Aside0.mk hD1; have HB1 := Aside0.mk hB1; clear hD1 hB1) | (go_at_call 20; refine (size_q w.heap.size g m (fresh m) _ SZ.out HD1.out).mono ?_; rintro e w' ⟨rfl, rfl⟩) | (go_at_call 9; refine (open_no w.heap.size g (fresh m) a1 w1 HD1.out MAY.out).mono ?_; rintro e w2 ⟨rfl, rfl⟩))
        go_wp2_with (first | (go_at_call 15; refine (awake_walk _).mono ?_; rintro e w3 ⟨rfl, hB3⟩; have HD3 := Aside0.mk (disk_below HD1.out hB3); have HB3 := Aside0.mk (below_step HB1.out hB3); clear hB3) | (go_at_call 8; (with_reducible refine (format_nil _ _ _).mono ?_); rintro e w' ⟨rfl, rfl⟩) | (go_at_call 8; (with_reducible refine (format_no w.heap.size g (fresh m) a1 _ _ HD3.out MAY.out).mono ?_); rintro e w' ⟨rfl, rfl⟩))
        go_ret
        exact ⟨rfl, HB3.out⟩
      · have b2 : decide (a1 < 1000) = false := decide_eq_false h3
        go_enter Try.func5, Try.ntmps5
        go_wp2_with (first | (go_at_call 12; refine (append_nil _ _).mono ?_; rintro e w' ⟨rfl, rfl⟩) | (go_at_call 11; refine (commit_nil _).mono ?_; rintro e w' ⟨rfl, rfl⟩) | (go_at_call 10; refine (checkpoint_nil _ _).mono ?_; rintro e w' ⟨rfl, rfl⟩) | (go_at_call 17; refine (seq_nil _).mono ?_; rintro e w' ⟨rfl, rfl⟩) | (go_at_call 18; refine (epoch_nil _).mono ?_; rintro e w' ⟨rfl, rfl⟩) | (go_at_call 19; refine (room_nil _).mono ?_; rintro e w' ⟨rfl, rfl⟩) | (go_at_call 7; refine NW.out.mono ?_; rintro e w1 ⟨g, rfl, hD1, hB1⟩; have HD1 := Aside0.mk hD1; have HB1 := Aside0.mk hB1; clear hD1 hB1) | (go_at_call 20; refine (size_q w.heap.size g m (fresh m) _ SZ.out HD1.out).mono ?_; rintro e w' ⟨rfl, rfl⟩) | (go_at_call 9; refine (open_no w.heap.size g (fresh m) a1 w1 HD1.out MAY.out).mono ?_; rintro e w2 ⟨rfl, rfl⟩))
        go_wp2_with (first | (go_at_call 15; refine (awake_walk _).mono ?_; rintro e w3 ⟨rfl, hB3⟩; have HD3 := Aside0.mk (disk_below HD1.out hB3); have HB3 := Aside0.mk (below_step HB1.out hB3); clear hB3) | (go_at_call 8; (with_reducible refine (format_nil _ _ _).mono ?_); rintro e w' ⟨rfl, rfl⟩) | (go_at_call 8; (with_reducible refine (format_no w.heap.size g (fresh m) a1 _ _ HD3.out MAY.out).mono ?_); rintro e w' ⟨rfl, rfl⟩))
        go_ret
        exact ⟨rfl, HB3.out⟩
  · have MAY := Aside0.mk (show mayF (fresh m) a1 = false by rw [hmf, decide_eq_false h1, Bool.false_and])
    have b1 : decide (1 ≤ a1) = false := decide_eq_false h1
    clear hmf
    go_enter Try.func5, Try.ntmps5
    go_wp2_with (first | (go_at_call 12; refine (append_nil _ _).mono ?_; rintro e w' ⟨rfl, rfl⟩) | (go_at_call 11; refine (commit_nil _).mono ?_; rintro e w' ⟨rfl, rfl⟩) | (go_at_call 10; refine (checkpoint_nil _ _).mono ?_; rintro e w' ⟨rfl, rfl⟩) | (go_at_call 17; refine (seq_nil _).mono ?_; rintro e w' ⟨rfl, rfl⟩) | (go_at_call 18; refine (epoch_nil _).mono ?_; rintro e w' ⟨rfl, rfl⟩) | (go_at_call 19; refine (room_nil _).mono ?_; rintro e w' ⟨rfl, rfl⟩) | (go_at_call 7; refine NW.out.mono ?_; rintro e w1 ⟨g, rfl, hD1, hB1⟩; have HD1 := Aside0.mk hD1; have HB1 := Aside0.mk hB1; clear hD1 hB1) | (go_at_call 20; refine (size_q w.heap.size g m (fresh m) _ SZ.out HD1.out).mono ?_; rintro e w' ⟨rfl, rfl⟩) | (go_at_call 9; refine (open_no w.heap.size g (fresh m) a1 w1 HD1.out MAY.out).mono ?_; rintro e w2 ⟨rfl, rfl⟩))
    go_wp2_with (first | (go_at_call 15; refine (awake_walk _).mono ?_; rintro e w3 ⟨rfl, hB3⟩; have HD3 := Aside0.mk (disk_below HD1.out hB3); have HB3 := Aside0.mk (below_step HB1.out hB3); clear hB3) | (go_at_call 8; (with_reducible refine (format_nil _ _ _).mono ?_); rintro e w' ⟨rfl, rfl⟩) | (go_at_call 8; (with_reducible refine (format_no w.heap.size g (fresh m) a1 _ _ HD3.out MAY.out).mono ?_); rintro e w' ⟨rfl, rfl⟩))
    go_ret
    exact ⟨rfl, HB3.out⟩
end Go.Proofs.Ytglpelhbncdkmaa.XJour
