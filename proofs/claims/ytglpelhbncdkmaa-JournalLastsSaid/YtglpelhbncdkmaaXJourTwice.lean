/-
  prebendlaw07.JournalTwice by its walk.
-/
import Derived.Laws.CopyOwn
import Derived.ArgAppend
import Derived.Below
import Derived.BigQuiet
import Derived.Deep.AppendLies
import Derived.Deep.CutBlock
import Derived.Deep.DeepCutAuto
import Derived.Deep.Draws
import Derived.Deep.LoopGhost
import Derived.Deep.OwnRows
import Derived.Deep.QuietTactic
import Derived.Deep.RegionHeld3
import Derived.Deep.WholeRow
import Derived.KernelRfl
import Derived.Laws.BitsLemmas
import Derived.Laws.BytesArg
import Derived.Laws.IdiomCopy
import Derived.Laws.MakeOwn
import Derived.Laws.OwnMore
import Derived.Laws.Rows
import Derived.Laws.Slices
import Derived.Lib.AppendStr
import Derived.Lib.ConvBytes
import Derived.Lib.Hide
import Derived.Maps.AppendAt
import Derived.OrdersHeld
import Derived.Outline
import Derived.OwnWalk
import Derived.RowKit
import Derived.RowKit3
import Derived.Tactics
import Derived.WalkKit
import Derived.WideLaws
import Derived.Test.YtglpelhbncdkmaaProg
import Derived.Test.YtglpelhbncdkmaaWApart
import Derived.Test.YtglpelhbncdkmaaWArr
import Derived.Test.YtglpelhbncdkmaaWAt
import Derived.Test.YtglpelhbncdkmaaWEqStruct
import Derived.Test.YtglpelhbncdkmaaWFoot
import Derived.Test.YtglpelhbncdkmaaWFootNe
import Derived.Test.YtglpelhbncdkmaaWFour
import Derived.Test.YtglpelhbncdkmaaWGuard
import Derived.Test.YtglpelhbncdkmaaWInv
import Derived.Test.YtglpelhbncdkmaaWInvWords
import Derived.Test.YtglpelhbncdkmaaWKept
import Derived.Test.YtglpelhbncdkmaaWLast
import Derived.Test.YtglpelhbncdkmaaWMore
import Derived.Test.YtglpelhbncdkmaaWN
import Derived.Test.YtglpelhbncdkmaaWNEv
import Derived.Test.YtglpelhbncdkmaaWQPut
import Derived.Test.YtglpelhbncdkmaaWRepsOne
import Derived.Test.YtglpelhbncdkmaaWShare
import Derived.Test.YtglpelhbncdkmaaWTab
import Derived.Test.YtglpelhbncdkmaaWWords
import Derived.Test.YtglpelhbncdkmaaWZeros
import Derived.Test.YtglpelhbncdkmaaXSlices

import Derived.Test.YtglpelhbncdkmaaXJourLaw
namespace Go.Proofs.Ytglpelhbncdkmaa.XJour
open Go.RowKit Go.Proofs.YtglpelhbncdkmaaW.PrintWords Go.Proofs.YtglpelhbncdkmaaW.PrintLast Go.Proofs.YtglpelhbncdkmaaW.PrintMore XDisk XChunk XUnpack XData
set_option linter.unusedVariables false
set_option linter.unusedSimpArgs false
/-- The acts of chapter 7 in memory: what is done, and the bytes. -/
def ActAt7 (w : World) (A : Option Addr) (n : Nat) (f : Nat → Int × List Int) : Prop :=
  ∀ i, i < n → ∃ ad Ab cb, A = some ad ∧ w.cell? (ad.add (i * 5)) = some (.int .u8 (f i).1) ∧ w.cell? ⟨(ad.add (i * 5)).block, (ad.add (i * 5)).off + 1, none⟩ = some (.slice Ab (f i).2.length cb) ∧ (f i).2.length ≤ cb ∧ Kd.C (Kd.int .u8) w Ab (f i).2.length (f i).2 ∧ (0 ≤ (f i).1 ∧ (f i).1 < 256) ∧ Bytes (f i).2
theorem ActAt7.below {w w' : World} {A : Option Addr} {n : Nat} {f : Nat → Int × List Int} (h : ActAt7 w A n f) (hb : Below w.heap.size w w') : ActAt7 w' A n f := fun i hi => by
  obtain ⟨ad, Ab, cb, e, h1, h2, h3, h4, h5⟩ := h i hi
  exact ⟨ad, Ab, cb, e, pw_cell_below hb h1, pw_cell_below hb h2, h3, Kd.C_below h4 hb, h5⟩
def t1 : St := (formatF (fresh 64) 2 []).2
def t2 : St := (checkpointF (openJ t1 2) t1 []).2.2
def k2 : Jr := (checkpointF (openJ t1 2) t1 []).2.1
theorem t1_e : (formatF (fresh 64) 2 []).2 = t1 := rfl
theorem t2_e : (checkpointF (openJ t1 2) t1 []).2.2 = t2 := rfl
theorem k2_e : (checkpointF (openJ t1 2) t1 []).2.1 = k2 := rfl
theorem twice_facts : (formatF (fresh 64) 2 []).1 = 0 ∧ 0 ≤ (openCk t1 2).1 ∧ mayF t1 2 = true ∧ 0 ≤ (openCk t2 2).1 ∧ t2.cache = [] ∧ k2.slot = 2 ∧ t2.good.length = 64 := by decide +kernel
theorem crash_mk (s : St) (a b c : Int) : ({ good := crashed a b c s.good s.cache s.cache.length, cache := [], fuse := -1 } : St) = Crash s a b c := rfl
theorem crash_f (s : St) (a b c : Int) : (Crash s a b c).fuse = -1 := rfl
theorem below_step' {B : Nat} {w w1 w2 : World} (h : Below B w w1) (k : Below w1.heap.size w1 w2) (hb : B ≤ w1.heap.size := by first | exact Below.size ‹_› | omega) : Below B w w2 := h.trans (k.mono hb)
theorem below_lower {B' : Nat} {w0 w w' : World} (h : Below w0.heap.size w w') (hs : w0.heap.size = B' + 1) : Below B' w w' := h.mono (by omega)
theorem room_any (base bd gj g : Nat) (j : Jr) (s : St) (w : World) (h : JrAt base w gj g j) (hd : DiskAt bd w g s) (h0 : 0 ≤ j.next ∧ j.next ≤ (s.good.length : Nat)) (hs : s.good.length ≤ 1024) : Calls Try.prog 19 #[.pointer (some ⟨gj, 0, none⟩)] w fun e w' => e = .returned (.int .i64 ((s.good.length : Nat) - j.next)) ∧ ∃ m, w' = w.drewN m := by
  obtain ⟨vg, vc, h1, h2, h3, h4⟩ := hd
  exact room_walk 0 gj g j s w ⟨h.1, Nat.zero_le _⟩ ⟨vg, vc, h1, Nat.zero_le _, Kd.R_lower h3 (Nat.zero_le _), Kd.R_lower h4 (Nat.zero_le _)⟩ h0 hs
attribute [local irreducible] t1 t2 k2 openJ openCk openRec formatF checkpointF appendF commitF Crash recs
theorem t1_ok : Fine t1 ∧ t1.good.length = 64 ∧ t1.fuse ≤ 9223372036854775807 := by
  have := format_fine (slot := 2) (l := []) (fresh_fine 64) (bytes_dec (by decide))
  rw [t1_e] at this
  exact ⟨this.1, this.2.1, Int.le_trans this.2.2 (by decide)⟩
theorem tk1 : JOk (openJ t1 2) t1 := open_ok t1_ok.1 (by rw [t1_ok.2.1]; decide) t1_ok.2.2 twice_facts.2.2.1 twice_facts.2.1
theorem tk2 : JOk k2 t2 := by have := checkpoint_ok (l := []) tk1 (bytes_dec (by decide)); rw [k2_e, t2_e] at this; exact this
theorem goes0 : Goes (t2.good.take 4) k2 t2 := ⟨tk2, ⟨rfl, fun x hx => by rw [twice_facts.2.2.2.2.1] at hx; cases hx⟩, twice_facts.2.2.2.2.2.1⟩
theorem goes_may {G : List (List Int)} {j : Jr} {s : St} (h : Goes G j s) (a b c : Int) : mayF (Crash s a b c) 2 = true := by
  have h1 := h.ok.slot
  rw [h.slot] at h1
  unfold mayF
  rw [(crash_fine h.ok.fine a b c).2, decide_eq_true (by omega), decide_eq_true (by omega), decide_eq_true (by omega)]; rfl
theorem C_nil (w : World) : Kd.C (Kd.int .u8) w none ([] : List Int).length [] := ⟨rfl, by decide, fun h => absurd h (by decide)⟩
set_option maxHeartbeats 8000000 in
set_option maxRecDepth 100000 in
theorem twice_walk (A : Option Addr) (n c : Nat) (f : Nat → Int × List Int) (x0 x2 x3 x4 : Int) (x1 : Value) (w : World) (hact : ActAt7 w A n f) (hm : n ≤ 9223372036854775807) :
    Calls Try.prog 3 #[.slice A n c, .agg #[.int .u8 x0, x1, .int .i64 x2, .int .i64 x3, .int .i64 x4]] w fun e w' => e = .returned (.bool true) ∧ Below w.heap.size w w' := by
  obtain ⟨f1, f2, f3, f4, -, -, -⟩ := twice_facts
  have ACT := Aside0.mk hact
  clear hact
  go_enter Try.func3, Try.ntmps3
  go_wp2_with fail
  have hx := blk_new w (.cells #[.int .u8 x0, x1, .int .i64 x2, .int .i64 x3, .int .i64 x4] 25)
  have hB0 := Below.alloc (Below.refl w.heap.size w) (Nat.le_refl _) (.cells #[.int .u8 x0, x1, .int .i64 x2, .int .i64 x3, .int .i64 x4] 25)
  have hsz : (w.alloc (.cells #[.int .u8 x0, x1, .int .i64 x2, .int .i64 x3, .int .i64 x4] 25)).heap.size = w.heap.size + 1 := by simp
  obtain ⟨w0, hw0⟩ : ∃ z, w.alloc (.cells #[.int .u8 x0, x1, .int .i64 x2, .int .i64 x3, .int .i64 x4] 25) = z := ⟨_, rfl⟩
  rw [hw0] at hx hB0 hsz ⊢
  clear hw0
  have ACT0 := Aside0.mk (ACT.out.below hB0)
  have hgx : w.heap.size < w0.heap.size := by omega
  obtain ⟨gx, hgxe⟩ : ∃ z, w.heap.size = z := ⟨_, rfl⟩
  rw [hgxe] at hx hgx
  refine (new_in 64 64 (by decide) w0).mono ?_
  rintro e w1 ⟨g, rfl, hD1, hB1⟩
  go_wp2_with fail
  refine (format_walk w0.heap.size g 0 (fresh 64) 2 none [] w1 hD1 (fresh_fine 64) (C_nil w1) (Nat.le_refl _) (bytes_dec (by decide)) (by decide) (by decide) hB1.size).mono ?_
  rintro e w2 ⟨rfl, hD2, hK2⟩
  rw [f1]
  rw [t1_e] at hD2
  have hB2 := below_keep hB1 hB1.size hK2
  clear hD1 hB1 hK2
  go_wp2_with fail
  refine (open_walk w0.heap.size g t1 2 w2 hD2 t1_ok.1 (by rw [t1_ok.2.1]; decide) f3 hB2.size).mono ?_
  rintro e w3 ⟨hD3, hK3, (⟨hbad, -⟩ | ⟨-, gj, v2, v3, rfl, -, -, -, hJ3⟩)⟩
  · omega
  have hB3 := below_keepJ hB2 hB2.size hK3
  clear hD2 hB2 hK3
  go_wp2_with fail
  refine (checkpoint_walk w0.heap.size gj g 0 (openJ t1 2) t1 none [] w3 hJ3 hD3 tk1 (C_nil w3) (Nat.le_refl _) (bytes_dec (by decide)) hB3.size).mono ?_
  rintro e w4 ⟨rfl, hJ4, hD4, hK4⟩
  rw [k2_e] at hJ4
  rw [t2_e] at hD4
  have hB4 := below_keepJ hB3 hB3.size hK4
  have HJ4 := Aside0.mk hJ4
  have HD4 := Aside0.mk hD4
  have HB4 := Aside0.mk hB4
  have HX := Aside0.mk hx
  clear hD3 hB3 hJ3 hK4 hJ4 hD4 hB4 hx
  obtain ⟨G, hG⟩ : ∃ G, t2.good.take 4 = G := ⟨_, rfl⟩
  have HG := Aside0.mk (hG ▸ goes0)
  have HGE := Aside0.mk hG
  clear hG
  go_wp2
  go_loopw [10] (fun v10 wr => ∃ (i : Nat) (j : Jr) (s : St), i ≤ 30 ∧ i ≤ n ∧ v10 = .int .i64 (i : Nat) ∧ Aside0 (JrAt w0.heap.size wr gj g j) ∧ Aside0 (DiskAt w0.heap.size wr g s) ∧ Aside0 (Goes G j s) ∧ Aside0 (Below w0.heap.size w0 wr)) (fun v10 _ => 30 - (intOf v10).toNat)
  case atStart => exact ⟨0, k2, t2, Nat.zero_le _, Nat.zero_le _, rfl, HJ4, HD4, HG, HB4⟩
  case round =>
    clear HJ4 HD4 HG HB4
    obtain ⟨i, j, s, hi30, hin, rfl, HJ, HD, HG, HB⟩ := hrel
    by_cases h1 : (i : Int) < (n : Int)
    · have b1 : decide ((i : Int) < (n : Int)) = true := decide_eq_true h1
      by_cases h2 : (i : Int) < 30
      · have b2 : decide ((i : Int) < 30) = true := decide_eq_true h2
        obtain ⟨ad, Ab, cb, rfl, hc0, hc1, hcb, hC, hr, hby⟩ := (ACT0.out.below HB.out) i (by omega)
        obtain ⟨d, hd⟩ : ∃ d, (f i).1 = d := ⟨_, rfl⟩
        obtain ⟨l, hl⟩ : ∃ l, (f i).2 = l := ⟨_, rfl⟩
        rw [hd] at hc0 hr
        rw [hl] at hc1 hcb hC hby
        have HC := Aside0.mk hC
        have HBY := Aside0.mk hby
        have hmax := hC.2.1
        clear hd hl hC hby
        have g0 : (0 : Int) ≤ (i : Int) := by omega
        have hdm : d.tmod 4 = d % 4 := Int.tmod_eq_emod_of_nonneg hr.1
        by_cases hq : d.tmod 4 = 0
        · have CW := Aside0.mk (commit_walk w0.heap.size gj g j s wr HJ.out HD.out HG.out.ok.fuse HG.out.ok.fine.inr)
          have HG2 := Aside0.mk (goes_commit HG.out)
          obtain ⟨r, hr2⟩ : ∃ r, commitF j s = r := ⟨_, rfl⟩
          rw [hr2] at CW HG2
          obtain ⟨ec, jc, sc⟩ := r
          clear hr2 HG HJ HD hdm
          go_wp2_with (go_at_call 11; refine CW.out.mono ?_; rintro e w5 ⟨rfl, hJ5, hD5, hK5⟩; have HJ5 := Aside0.mk hJ5; have HD5 := Aside0.mk hD5; have HB5 := Aside0.mk (below_keepJ HB.out HB.out.size hK5); clear hJ5 hD5 hK5)
          go_roundw
          case rel => exact ⟨i + 1, jc, sc, by omega, by omega, by go_num, HJ5, HD5, HG2, HB5⟩
          case measure => simp [intOf]; omega
        · have hq' : (d % 4 == 0) = false := by rw [hdm] at hq; simpa using hq
          have SW := Aside0.mk (show Calls Try.prog 13 #[.slice Ab l.length cb, .int .i64 60] wr _ from short_walk Ab cb 60 l wr hcb (by decide) hmax)
          have hbt : Bytes (l.take 60) := fun c hc => HBY.out c (List.mem_of_mem_take hc)
          have hlt60 : (l.take 60).length ≤ cb := Nat.le_trans (by rw [List.length_take]; omega) hcb
          have AW := Aside0.mk (append_walk w0.heap.size gj g cb j s Ab (l.take 60) wr HJ.out HD.out HG.out.ok (C_short HC.out 60) hlt60 hbt HB.out.size)
          have HG2 := Aside0.mk (goes_append (l := l.take 60) HG.out hbt)
          obtain ⟨r, hr2⟩ : ∃ r, appendF j s (l.take 60) = r := ⟨_, rfl⟩
          rw [hr2] at AW HG2
          obtain ⟨ec, jc, sc⟩ := r
          clear hr2 HG HJ HD hdm hbt hlt60
          generalize l.take 60 = lt at *
          go_wp2_with (first | (go_at_call 13; refine SW.out.mono ?_; rintro e w5 ⟨rfl, rfl⟩) | (go_at_call 12; refine AW.out.mono ?_; rintro e w5 ⟨rfl, hJ5, hD5, hK5⟩; have HJ5 := Aside0.mk hJ5; have HD5 := Aside0.mk hD5; have HB5 := Aside0.mk (below_keepJ HB.out HB.out.size hK5); clear hJ5 hD5 hK5))
          exact ⟨⟨i + 1, jc, sc, by omega, by omega, by go_num, HJ5, HD5, HG2, HB5⟩, by simp [intOf]; omega⟩
      · have b2 : decide ((i : Int) < 30) = false := decide_eq_false h2
        have hbx := (HB.out.block gx hgx).trans HX.out
        have hx2 : wr.cell? ⟨gx, 2, none⟩ = some (.int .i64 x2) := by rw [blk_cell hbx]; rfl
        have hx3 : wr.cell? ⟨gx, 3, none⟩ = some (.int .i64 x3) := by rw [blk_cell hbx]; rfl
        have hx4 : wr.cell? ⟨gx, 4, none⟩ = some (.int .i64 x4) := by rw [blk_cell hbx]; rfl
        have hcf := crash_fine HG.out.ok.fine x2 x3 x4
        have hmay := goes_may HG.out x2 x3 x4
        have hsz1 : (Crash s x2 x3 x4).good.length ≤ 1024 := by rw [hcf.2]; exact HG.out.ok.size
        have hck : 0 ≤ (openCk (Crash s x2 x3 x4) 2).1 := by
          have g0 := HGE.out ▸ goes0
          rw [low_open (low_crash HG.out.low x2 x3 x4) g0.low]; exact f4
        have hoj := open_ok hcf.1 hsz1 (by rw [crash_f]; decide) hmay hck
        clear hbx
        go_wp2_with fail
        refine (crash_walk w0.heap.size g s x2 x3 x4 wr HD.out HG.out.ok.fine.inr).mono ?_
        rintro e w5 ⟨rfl, hD5, hK5⟩
        rw [crash_mk] at hD5
        have hB5 := below_keep HB.out HB.out.size hK5
        obtain ⟨s1, hs1⟩ : ∃ z, Crash s x2 x3 x4 = z := ⟨_, rfl⟩
        have h11 := crash_twice s x2 x3 x4 x4 x2 x3
        rw [hs1] at hD5 hcf hmay hsz1 hck hoj h11
        clear hx2 hx3 hx4 hs1 hK5
        go_wp2_with fail
        refine (open_walk2 w0.heap.size g s1 2 w5 hD5 hcf.1 hsz1 hmay hB5.size).mono ?_
        rintro e w6 ⟨hD6, hB6, (⟨hbad, -⟩ | ⟨-, ga, v5, v6, rfl, hga, hS6, hL6, hJ6⟩)⟩
        · omega
        have hB6' := below_step' hB5 hB6
        have hbx := (hB6'.block gx hgx).trans HX.out
        have hx2 : w6.cell? ⟨gx, 2, none⟩ = some (.int .i64 x2) := by rw [blk_cell hbx]; rfl
        have hx3 : w6.cell? ⟨gx, 3, none⟩ = some (.int .i64 x3) := by rw [blk_cell hbx]; rfl
        have hx4 : w6.cell? ⟨gx, 4, none⟩ = some (.int .i64 x4) := by rw [blk_cell hbx]; rfl
        clear hbx hD5
        go_wp2_with fail
        refine (crash_walk w0.heap.size g s1 x4 x2 x3 w6 hD6 hcf.1.inr).mono ?_
        rintro e w7 ⟨rfl, hD7, hK7⟩
        rw [crash_mk, h11] at hD7
        have hB7 := below_keep hB6' hB6'.size hK7
        have hJ7 := jr_keep (base := w0.heap.size) ⟨hJ6.1, Nat.le_trans hB5.size hJ6.2⟩ hK7
        have hS7 := R_keepJ hS6 u8_jT (KeepJ.of_keep hK7)
        have hL7 := R_keepJ hL6 slu8_jT (KeepJ.of_keep hK7)
        clear hx2 hx3 hx4 hD6 hJ6 hS6 hL6 hB6 hB6' hK7
        go_wp2_with fail
        refine (open_walk2 w0.heap.size g s1 2 w7 hD7 hcf.1 hsz1 hmay hB7.size).mono ?_
        rintro e w8 ⟨hD8, hB8, (⟨hbad, -⟩ | ⟨-, gb, v7, v8, rfl, hgb, hT8, hM8, hK8⟩)⟩
        · omega
        have hB8' := below_step' hB7 hB8
        go_wp2_with fail
        refine (awake_walk w8).mono ?_
        rintro e w9 ⟨rfl, hB9⟩
        have hB9' := below_step' hB8' hB9
        have hJ9 := jr_below (jr_below hJ7 hB8) hB9
        have hK9 := jr_below hK8 hB9
        have hD9 := disk_below hD8 hB9
        obtain ⟨A5, c5, rfl, -, hS9⟩ := Kd.R_reads (Kd.R_below (Kd.R_below hS7 hB8) hB9)
        obtain ⟨A6, c6, rfl, -, hL9⟩ := Kd.R_reads (Kd.R_below (Kd.R_below hL7 hB8) hB9)
        obtain ⟨A7, c7, rfl, -, hT9⟩ := Kd.R_reads (Kd.R_below hT8 hB9)
        obtain ⟨A8, c8, rfl, -, hM9⟩ := Kd.R_reads (Kd.R_below hM8 hB9)
        have v1 := Kd.C_string (P := Try.prog) (A := A5) (c := c5) Try.underlying23 Try.underlying5 Try.underlying9 hS9
        have v2 := Kd.C_string (P := Try.prog) (A := A7) (c := c7) Try.underlying23 Try.underlying5 Try.underlying9 hT9
        have TX := Aside0.mk (texts_walk A6 A8 c6 c8 _ w9 hL9 hM9)
        have SA := Aside0.mk (fun n => seq_walk w0.heap.size ga g _ _ (jr_drewN hJ9 n))
        have SB := Aside0.mk (fun n => seq_walk w7.heap.size gb g _ _ (jr_drewN hK9 n))
        have EA := Aside0.mk (fun n => epoch_walk w0.heap.size ga g _ _ (jr_drewN hJ9 n))
        have EB := Aside0.mk (fun n => epoch_walk w7.heap.size gb g _ _ (jr_drewN hK9 n))
        have hnx := hoj.next
        have hsl := hoj.slot
        have RA := Aside0.mk (fun n => room_walk w0.heap.size ga g _ s1 _ (jr_drewN hJ9 n) (disk_drewN hD9 n) ⟨by omega, hnx.2⟩ hsz1)
        have RB := Aside0.mk (fun n => room_any w7.heap.size w0.heap.size gb g _ s1 _ (jr_drewN hK9 n) (disk_drewN hD9 n) ⟨by omega, hnx.2⟩ hsz1)
        have HB9 := Aside0.mk (hB0.trans (below_lower hB9' hsz))
        obtain ⟨q, hqq⟩ : ∃ q, openJ s1 2 = q := ⟨_, rfl⟩
        obtain ⟨rm, hrm⟩ : ∃ rm, ((s1.good.length : Nat) : Int) - q.next = rm := ⟨_, rfl⟩
        rw [hqq] at SA SB EA EB RA RB
        rw [hrm] at RA RB
        generalize (openCk s1 2).2.2.2 = ls at *
        generalize (openRec s1 2).1 = rs at *
        obtain ⟨qs, hqs⟩ : ∃ z, q.seq = z := ⟨_, rfl⟩
        obtain ⟨qe, hqe⟩ : ∃ z, q.epoch = z := ⟨_, rfl⟩
        rw [hqs] at SA SB
        rw [hqe] at EA EB
        clear hB8 hB9 hB8' hB9' hB7 hB5 hJ7 hJ9 hK8 hK9 hD7 hD8 hD9 hS7 hL7 hT8 hM8 hS9 hL9 hT9 hM9 hcf hmay hsz1 hck hoj h11 hnx hsl hqq hrm hqs hqe hga hgb
        go_wp2_with (first
          | (go_at_call 16; refine TX.out.mono ?_; rintro e w10 ⟨rfl, m1, rfl⟩)
          | (go_at_call 17; (with_reducible refine (SA.out _).mono ?_); rintro e w10 ⟨rfl, rfl⟩)
          | (go_at_call 17; (with_reducible refine (SB.out _).mono ?_); rintro e w10 ⟨rfl, rfl⟩)
          | (go_at_call 18; (with_reducible refine (EA.out _).mono ?_); rintro e w10 ⟨rfl, rfl⟩)
          | (go_at_call 18; (with_reducible refine (EB.out _).mono ?_); rintro e w10 ⟨rfl, rfl⟩)
          | (go_at_call 19; (with_reducible refine (RA.out _).mono ?_); rintro e w10 ⟨rfl, m2, rfl⟩)
          | (go_at_call 19; (with_reducible refine (RB.out _).mono ?_); rintro e w10 ⟨rfl, m3, rfl⟩))
        go_ret
        exact ⟨rfl, pw_below_drewN HB9.out _⟩
    · have b1 : decide ((i : Int) < (n : Int)) = false := decide_eq_false h1
      have hbx := (HB.out.block gx hgx).trans HX.out
      have hx2 : wr.cell? ⟨gx, 2, none⟩ = some (.int .i64 x2) := by rw [blk_cell hbx]; rfl
      have hx3 : wr.cell? ⟨gx, 3, none⟩ = some (.int .i64 x3) := by rw [blk_cell hbx]; rfl
      have hx4 : wr.cell? ⟨gx, 4, none⟩ = some (.int .i64 x4) := by rw [blk_cell hbx]; rfl
      have hcf := crash_fine HG.out.ok.fine x2 x3 x4
      have hmay := goes_may HG.out x2 x3 x4
      have hsz1 : (Crash s x2 x3 x4).good.length ≤ 1024 := by rw [hcf.2]; exact HG.out.ok.size
      have hck : 0 ≤ (openCk (Crash s x2 x3 x4) 2).1 := by
        have g0 := HGE.out ▸ goes0
        rw [low_open (low_crash HG.out.low x2 x3 x4) g0.low]; exact f4
      have hoj := open_ok hcf.1 hsz1 (by rw [crash_f]; decide) hmay hck
      clear hbx
      go_wp2_with fail
      refine (crash_walk w0.heap.size g s x2 x3 x4 wr HD.out HG.out.ok.fine.inr).mono ?_
      rintro e w5 ⟨rfl, hD5, hK5⟩
      rw [crash_mk] at hD5
      have hB5 := below_keep HB.out HB.out.size hK5
      obtain ⟨s1, hs1⟩ : ∃ z, Crash s x2 x3 x4 = z := ⟨_, rfl⟩
      have h11 := crash_twice s x2 x3 x4 x4 x2 x3
      rw [hs1] at hD5 hcf hmay hsz1 hck hoj h11
      clear hx2 hx3 hx4 hs1 hK5
      go_wp2_with fail
      refine (open_walk2 w0.heap.size g s1 2 w5 hD5 hcf.1 hsz1 hmay hB5.size).mono ?_
      rintro e w6 ⟨hD6, hB6, (⟨hbad, -⟩ | ⟨-, ga, v5, v6, rfl, hga, hS6, hL6, hJ6⟩)⟩
      · omega
      have hB6' := below_step' hB5 hB6
      have hbx := (hB6'.block gx hgx).trans HX.out
      have hx2 : w6.cell? ⟨gx, 2, none⟩ = some (.int .i64 x2) := by rw [blk_cell hbx]; rfl
      have hx3 : w6.cell? ⟨gx, 3, none⟩ = some (.int .i64 x3) := by rw [blk_cell hbx]; rfl
      have hx4 : w6.cell? ⟨gx, 4, none⟩ = some (.int .i64 x4) := by rw [blk_cell hbx]; rfl
      clear hbx hD5
      go_wp2_with fail
      refine (crash_walk w0.heap.size g s1 x4 x2 x3 w6 hD6 hcf.1.inr).mono ?_
      rintro e w7 ⟨rfl, hD7, hK7⟩
      rw [crash_mk, h11] at hD7
      have hB7 := below_keep hB6' hB6'.size hK7
      have hJ7 := jr_keep (base := w0.heap.size) ⟨hJ6.1, Nat.le_trans hB5.size hJ6.2⟩ hK7
      have hS7 := R_keepJ hS6 u8_jT (KeepJ.of_keep hK7)
      have hL7 := R_keepJ hL6 slu8_jT (KeepJ.of_keep hK7)
      clear hx2 hx3 hx4 hD6 hJ6 hS6 hL6 hB6 hB6' hK7
      go_wp2_with fail
      refine (open_walk2 w0.heap.size g s1 2 w7 hD7 hcf.1 hsz1 hmay hB7.size).mono ?_
      rintro e w8 ⟨hD8, hB8, (⟨hbad, -⟩ | ⟨-, gb, v7, v8, rfl, hgb, hT8, hM8, hK8⟩)⟩
      · omega
      have hB8' := below_step' hB7 hB8
      go_wp2_with fail
      refine (awake_walk w8).mono ?_
      rintro e w9 ⟨rfl, hB9⟩
      have hB9' := below_step' hB8' hB9
      have hJ9 := jr_below (jr_below hJ7 hB8) hB9
      have hK9 := jr_below hK8 hB9
      have hD9 := disk_below hD8 hB9
      obtain ⟨A5, c5, rfl, -, hS9⟩ := Kd.R_reads (Kd.R_below (Kd.R_below hS7 hB8) hB9)
      obtain ⟨A6, c6, rfl, -, hL9⟩ := Kd.R_reads (Kd.R_below (Kd.R_below hL7 hB8) hB9)
      obtain ⟨A7, c7, rfl, -, hT9⟩ := Kd.R_reads (Kd.R_below hT8 hB9)
      obtain ⟨A8, c8, rfl, -, hM9⟩ := Kd.R_reads (Kd.R_below hM8 hB9)
      have v1 := Kd.C_string (P := Try.prog) (A := A5) (c := c5) Try.underlying23 Try.underlying5 Try.underlying9 hS9
      have v2 := Kd.C_string (P := Try.prog) (A := A7) (c := c7) Try.underlying23 Try.underlying5 Try.underlying9 hT9
      have TX := Aside0.mk (texts_walk A6 A8 c6 c8 _ w9 hL9 hM9)
      have SA := Aside0.mk (fun n => seq_walk w0.heap.size ga g _ _ (jr_drewN hJ9 n))
      have SB := Aside0.mk (fun n => seq_walk w7.heap.size gb g _ _ (jr_drewN hK9 n))
      have EA := Aside0.mk (fun n => epoch_walk w0.heap.size ga g _ _ (jr_drewN hJ9 n))
      have EB := Aside0.mk (fun n => epoch_walk w7.heap.size gb g _ _ (jr_drewN hK9 n))
      have hnx := hoj.next
      have hsl := hoj.slot
      have RA := Aside0.mk (fun n => room_walk w0.heap.size ga g _ s1 _ (jr_drewN hJ9 n) (disk_drewN hD9 n) ⟨by omega, hnx.2⟩ hsz1)
      have RB := Aside0.mk (fun n => room_any w7.heap.size w0.heap.size gb g _ s1 _ (jr_drewN hK9 n) (disk_drewN hD9 n) ⟨by omega, hnx.2⟩ hsz1)
      have HB9 := Aside0.mk (hB0.trans (below_lower hB9' hsz))
      obtain ⟨q, hqq⟩ : ∃ q, openJ s1 2 = q := ⟨_, rfl⟩
      obtain ⟨rm, hrm⟩ : ∃ rm, ((s1.good.length : Nat) : Int) - q.next = rm := ⟨_, rfl⟩
      rw [hqq] at SA SB EA EB RA RB
      rw [hrm] at RA RB
      generalize (openCk s1 2).2.2.2 = ls at *
      generalize (openRec s1 2).1 = rs at *
      obtain ⟨qs, hqs⟩ : ∃ z, q.seq = z := ⟨_, rfl⟩
      obtain ⟨qe, hqe⟩ : ∃ z, q.epoch = z := ⟨_, rfl⟩
      rw [hqs] at SA SB
      rw [hqe] at EA EB
      clear hB8 hB9 hB8' hB9' hB7 hB5 hJ7 hJ9 hK8 hK9 hD7 hD8 hD9 hS7 hL7 hT8 hM8 hS9 hL9 hT9 hM9 hcf hmay hsz1 hck hoj h11 hnx hsl hqq hrm hqs hqe hga hgb
      go_wp2_with (first
        | (go_at_call 16; refine TX.out.mono ?_; rintro e w10 ⟨rfl, m1, rfl⟩)
        | (go_at_call 17; (with_reducible refine (SA.out _).mono ?_); rintro e w10 ⟨rfl, rfl⟩)
        | (go_at_call 17; (with_reducible refine (SB.out _).mono ?_); rintro e w10 ⟨rfl, rfl⟩)
        | (go_at_call 18; (with_reducible refine (EA.out _).mono ?_); rintro e w10 ⟨rfl, rfl⟩)
        | (go_at_call 18; (with_reducible refine (EB.out _).mono ?_); rintro e w10 ⟨rfl, rfl⟩)
        | (go_at_call 19; (with_reducible refine (RA.out _).mono ?_); rintro e w10 ⟨rfl, m2, rfl⟩)
        | (go_at_call 19; (with_reducible refine (RB.out _).mono ?_); rintro e w10 ⟨rfl, m3, rfl⟩))
      go_ret
      exact ⟨rfl, pw_below_drewN HB9.out _⟩
end Go.Proofs.Ytglpelhbncdkmaa.XJour
