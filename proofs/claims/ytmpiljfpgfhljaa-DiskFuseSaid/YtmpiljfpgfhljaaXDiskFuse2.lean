/-
  The law DiskFuse by its walk.
-/
import Derived.Laws.CopyOwn
import Derived.ArgAppend
import Derived.Below
import Derived.BigQuiet
import Derived.Deep.AppendLies
import Derived.Deep.CutBlock
import Derived.Deep.DeepCutAuto
import Derived.Deep.Draws
import Derived.Deep.LoopGhost
import Derived.Deep.OwnRows
import Derived.Deep.QuietTactic
import Derived.Deep.RegionHeld3
import Derived.Deep.WholeRow
import Derived.KernelRfl
import Derived.Laws.BitsLemmas
import Derived.Laws.BytesArg
import Derived.Laws.IdiomCopy
import Derived.Laws.MakeOwn
import Derived.Laws.OwnMore
import Derived.Laws.Rows
import Derived.Laws.Slices
import Derived.Lib.AppendStr
import Derived.Lib.ConvBytes
import Derived.Lib.Hide
import Derived.Maps.AppendAt
import Derived.OrdersHeld
import Derived.Outline
import Derived.OwnWalk
import Derived.RowKit
import Derived.RowKit3
import Derived.Tactics
import Derived.WalkKit
import Derived.WideLaws
import Derived.Test.YtmpiljfpgfhljaaProg
import Derived.Test.YtmpiljfpgfhljaaWApart
import Derived.Test.YtmpiljfpgfhljaaWArr
import Derived.Test.YtmpiljfpgfhljaaWAt
import Derived.Test.YtmpiljfpgfhljaaWEqStruct
import Derived.Test.YtmpiljfpgfhljaaWFoot
import Derived.Test.YtmpiljfpgfhljaaWFootNe
import Derived.Test.YtmpiljfpgfhljaaWFour
import Derived.Test.YtmpiljfpgfhljaaWGuard
import Derived.Test.YtmpiljfpgfhljaaWInv
import Derived.Test.YtmpiljfpgfhljaaWInvWords
import Derived.Test.YtmpiljfpgfhljaaWKept
import Derived.Test.YtmpiljfpgfhljaaWLast
import Derived.Test.YtmpiljfpgfhljaaWMore
import Derived.Test.YtmpiljfpgfhljaaWN
import Derived.Test.YtmpiljfpgfhljaaWNEv
import Derived.Test.YtmpiljfpgfhljaaWQPut
import Derived.Test.YtmpiljfpgfhljaaWRepsOne
import Derived.Test.YtmpiljfpgfhljaaWShare
import Derived.Test.YtmpiljfpgfhljaaWTab
import Derived.Test.YtmpiljfpgfhljaaWWords
import Derived.Test.YtmpiljfpgfhljaaWZeros
import Derived.Test.YtmpiljfpgfhljaaXSlices

import Derived.Test.YtmpiljfpgfhljaaXDiskAny
namespace Go.Proofs.Ytmpiljfpgfhljaa.XDisk
open Go.RowKit Go.Proofs.YtmpiljfpgfhljaaW.PrintWords Go.Proofs.YtmpiljfpgfhljaaW.PrintLast Go.Proofs.YtmpiljfpgfhljaaW.PrintMore
set_option linter.unusedVariables false
set_option linter.unusedSimpArgs false
open QDiskTorn (prebendlaw05_sector.f prebendlaw05_sector.calls)
theorem sector_f (c : Int) : ∃ r, prebendlaw05_sector.f 40 c = some r := ⟨List.replicate 32 c, by kernel_rfl⟩
theorem sector_one : prebendlaw05_sector.f 40 1 = some (List.replicate 32 1) := by decide +kernel
/-- Behind a crash a write and a flush are done. -/
theorem after_crash (s : St) (hg : s.good.length = 8) (hc : s.cache = []) (hf : s.fuse = -1) :
    (Write s 0 (List.replicate 32 1)).1 = 0 ∧ (Flush (Write s 0 (List.replicate 32 1)).2).1 = 0 ∧ (Write s 0 (List.replicate 32 1)).2.fuse ≤ 9223372036854775807 ∧ InR (Write s 0 (List.replicate 32 1)).2 := by
  have hB : Burn s = (true, s) := by unfold Burn; rw [if_neg (by rw [hf]; decide), if_neg (by rw [hf]; decide)]
  have hW : Write s 0 (List.replicate 32 1) = (0, { s with cache := put s.cache 0 (List.replicate 32 1) }) := by
    unfold Write
    rw [if_pos ⟨by rw [hg]; decide, List.length_replicate ..⟩, hB, if_pos rfl]
  have hk := (write_keeps s 0 (List.replicate 32 1) ⟨(by unfold InR; rw [hc]; intro x hx; cases hx), (by rw [hc]; trivial)⟩).1.inr
  refine ⟨by rw [hW], ?_, by rw [hW]; show s.fuse ≤ _; rw [hf]; decide, hk⟩
  rw [hW]
  have hB2 : Burn { s with cache := put s.cache 0 (List.replicate 32 1) } = (true, { s with cache := put s.cache 0 (List.replicate 32 1) }) := by
    unfold Burn; rw [if_neg (by show ¬ s.fuse = 0; rw [hf]; decide), if_neg (by show ¬ 0 < s.fuse; rw [hf]; decide)]
  unfold Flush
  rw [hB2]; rfl
/-- What an act has in memory: what is done, where, its byte. -/
def ActAt (w : World) (A : Option Addr) (n : Nat) (fd fa fc : Nat → Int) : Prop :=
  ∀ i, i < n → ∃ ad, A = some ad ∧ w.cell? (ad.add (i * 5)) = some (.int .u8 (fd i)) ∧ w.cell? ⟨(ad.add (i * 5)).block, (ad.add (i * 5)).off + 1, none⟩ = some (.int .i64 (fa i)) ∧ w.cell? ⟨(ad.add (i * 5)).block, (ad.add (i * 5)).off + 2, none⟩ = some (.int .u8 (fc i)) ∧ 0 ≤ fd i ∧ fd i < 256
theorem ActAt.below {w w' : World} {A : Option Addr} {n : Nat} {fd fa fc : Nat → Int} (h : ActAt w A n fd fa fc) (hb : Below w.heap.size w w') : ActAt w' A n fd fa fc := fun i hi => by
  obtain ⟨ad, e, h1, h2, h3, h4⟩ := h i hi
  exact ⟨ad, e, pw_cell_below hb h1, pw_cell_below hb h2, pw_cell_below hb h3, h4⟩
attribute [local irreducible] locF cacCells Flush Write readB readE nowAt over
def fuse5r.T12 : Bool × List (List Nat × List Nat) := (true, [([], []), ([], []), ([], []), ([1, 2], [1, 2]), ([3], [3]), ([4], [4]), ([], []), ([], []), ([6, 7], [6, 7]), ([8], [8]), ([9], [9]), ([10], [10]), ([0, 5, 11, 11], [0, 5, 11]), ([12, 12, 0, 1, 2, 3, 4, 5, 6, 7, 8, 9, 10, 11, 12], [12])])
def fuse5r.B12 : List Nat := [0, 0, 0, 6, 14, 30, 0, 0, 192, 448, 960, 1984, 4095, 8191]
theorem fuse5r.tab12 : rtab .any (opsOf Try.f6 12) = fuse5r.T12 := by kernel_rfl
theorem fuse5r.bits12 : waitsOk fuse5r.T12.2 fuse5r.B12 = true := by kernel_rfl
set_option maxRecDepth 100000 in
set_option maxHeartbeats 8000000 in
theorem fuse_law (nn : Int) (h0 : 0 ≤ nn) (h1 : nn < 256) (A : Option Addr) (n c : Nat) (fd fa fc : Nat → Int) (w : World) (hact : ActAt w A n fd fa fc) (hmx : n ≤ 9223372036854775807) :
    Calls Try.prog 6 #[.int .u8 nn, .slice A n c] w fun e w' => e = .returned (.bool true) ∧ Below w.heap.size w w' := by
  have HACT := Aside0.mk hact
  clear hact
  go_enter Try.func6, Try.ntmps6
  go_wp2_with fail
  refine (new_in 8 8 (by decide) _).mono ?_
  rintro e w1 ⟨g, rfl, hD1, hB1⟩
  have HD1 := Aside0.mk hD1
  have HB1 := Aside0.mk hB1
  clear hD1 hB1
  go_wp2_with fail
  refine (fuse_walk w.heap.size g (fresh 8) _ _ HD1.out).mono ?_
  rintro e w2 ⟨rfl, hD2, hK2⟩
  have HD2 := Aside0.mk hD2
  have HB2 := Aside0.mk (below_keep HB1.out HB1.out.size hK2)
  clear HD1 HB1 hD2 hK2
  go_wp2
  have hF0 : 0 ≤ nn % 30 := by omega
  have hF1 : nn % 30 < 30 := by omega
  have hs0 : ({ fresh 8 with fuse := mx (nn % 30) (-1) } : St) = { fresh 8 with fuse := nn % 30 } := by rw [show mx (nn % 30) (-1) = nn % 30 from by unfold mx; omega]
  have hD2 := HD2.out
  rw [hs0] at hD2
  clear HD2 hs0
  have HD2 := Aside0.mk hD2
  clear hD2
  go_loopw [6, 7] (fun v6 v7 wr => ∃ (i : Nat) (s : St), i ≤ n ∧ i ≤ 50 ∧ v7 = .int .i64 i ∧ v6 = .int .i64 (nn % 30 - s.fuse) ∧ 0 ≤ s.fuse ∧ s.fuse ≤ nn % 30 ∧ s.good.length = 8 ∧ Ok s ∧ s.cache.length ≤ i ∧ Aside0 (DiskAt w.heap.size wr g s) ∧ Aside0 (Below w.heap.size w wr)) (fun _ v7 _ => 50 - (intOf v7).toNat)
  case atStart => exact ⟨0, { fresh 8 with fuse := nn % 30 }, Nat.zero_le _, by decide, rfl, congrArg (Value.int .i64) (by show (0 : Int) = nn % 30 - nn % 30; omega), hF0, Int.le_refl _, List.length_replicate .., ⟨(fun x hx => by cases hx), trivial⟩, Nat.le_refl _, HD2, HB2⟩
  case round =>
    clear HD2 HB2
    obtain ⟨i, s, hin, hi50, rfl, rfl, hf0, hf1, hg, hok, hcl, HD, FB⟩ := hrel
    have HG := Aside0.mk hg
    have HOK := Aside0.mk hok
    clear hg hok
    generalize hFF : nn % 30 = F at *
    by_cases hlt : i < n ∧ i < 50
    · obtain ⟨hl1, hl2⟩ := hlt
      have hib : decide ((i : Int) < 50) = true := decide_eq_true (by omega)
      obtain ⟨ad, rfl, -⟩ := HACT.out i hl1
      have hcell : ∀ w', Below w.heap.size w w' → w'.cell? (ad.add (i * 5)) = some (.int .u8 (fd i)) ∧ w'.cell? ⟨(ad.add (i * 5)).block, (ad.add (i * 5)).off + 1, none⟩ = some (.int .i64 (fa i)) ∧ w'.cell? ⟨(ad.add (i * 5)).block, (ad.add (i * 5)).off + 2, none⟩ = some (.int .u8 (fc i)) := fun w' hb => by
        obtain ⟨ad', e, h1, h2, h3, -⟩ := HACT.out.below hb i hl1
        injection e with e
        subst e
        exact ⟨h1, h2, h3⟩
      have HCELL := Aside0.mk hcell
      clear hcell
      obtain ⟨r, hr⟩ := sector_f (fc i)
      have HSEC := Aside0.mk hr
      clear hr
      have hd0 := (HACT.out i hl1).choose_spec.2.2.2.2
      obtain ⟨hc0, hc1, hc2⟩ := HCELL.out _ FB.out
      go_wp2_with fail
      refine (read_any w.heap.size g s (fa i) _ HD.out).mono ?_
      rintro e w3 ⟨v1, rfl, hR1, hB1⟩
      clear hc0 hc1 hc2
      have HD1 := Aside0.mk (disk_below HD.out hB1)
      have HB1 := Aside0.mk (below_step FB.out hB1)
      have HR1 := Aside0.mk hR1
      obtain ⟨A1, c1, hv1⟩ := Kd.R_slice hR1
      subst hv1
      clear HD FB hR1 hB1
      go_wp2_with fail
      refine (flush_any w.heap.size g s _ HD1.out (by omega) HOK.out.inr).mono ?_
      rintro e w4 ⟨rfl, hD4, hK4⟩
      have FB := Aside0.mk (below_keep HB1.out HB1.out.size hK4)
      have FW := Aside0.mk (row_keep HR1.out hK4)
      have FD := Aside0.mk hD4
      clear HD1 HB1 HR1 hD4 hK4
      have hfl := flush_fuse s hf0
      have hkf := flush_keeps s HOK.out
      have hrd := flush_reads s HOK.out (fa i)
      obtain ⟨s1, hs1⟩ : ∃ z, (Flush s).2 = z := ⟨_, rfl⟩
      rw [hs1] at hfl hkf hrd FD
      clear hs1
      have HRD := Aside0.mk hrd
      have HKF := Aside0.mk hkf
      obtain ⟨hc0, hc1, hc2⟩ := HCELL.out _ FB.out
      by_cases hdo : 0 < fd i % 4
      · have hl1' : (s1.cache.length + 1) * 40 ≤ 140737488355328 := by have := HKF.out.2.2; omega
        have hls : s1.cache.length ≤ i := Nat.le_trans HKF.out.2.2 hcl
        have HL1 := Aside0.mk hl1'
        have HLS := Aside0.mk hls
        clear hl1' hls hrd hkf
        rcases hfl with ⟨he, hp, hf⟩ | ⟨he, hp, hf⟩
        · rw [he]
          have HFU := Aside0.mk (show s1.fuse ≤ 9223372036854775807 by omega)
          clear he HOK
          have hs1f : 0 ≤ s1.fuse := by omega
          go_wp2
          refine start_ (n := 14) (S := fun w' => True) (ds := []) #[false, false, false, false, false, false, false, false, false, false, false, false, false, false] (by kernel_rfl) rfl rfl trivial (fun hHeld => ?_)
          refine with_tabW fuse5r.tab12 fuse5r.bits12 (fun HT_ HW_ => ?_)
          refine inv_at [0, 1, 2, 3, 4, 5, 6, 7, 8, 9, 10, 11, 12, 13] (fun a0_ b a w' => ∃ (vs : Value), a = putSel a0_ b [(0, 52, .pointer (some ⟨g, 0, none⟩)), (1, 53, .slice (some ad) n c), (2, 54, .int .i64 ((i : Nat) : Int)), (3, 55, .pointer (some (ad.add (i * 5)))), (4, 56, .pointer (some ⟨(ad.add (i * 5)).block, (ad.add (i * 5)).off + 1, none⟩)), (5, 57, .int .i64 (fa i)), (6, 58, .slice (some ad) n c), (7, 59, .int .i64 ((i : Nat) : Int)), (8, 60, .pointer (some (ad.add (i * 5)))), (9, 61, .pointer (some ⟨(ad.add (i * 5)).block, (ad.add (i * 5)).off + 2, none⟩)), (10, 62, .int .u8 (fc i)), (11, 63, vs), (12, 64, .int .i64 (Write s1 (fa i) r).1), (13, 10, .int .i64 (Write s1 (fa i) r).1)] ∧ (b 12 = false → DiskAt w.heap.size w' g s1) ∧ (b 12 = true → DiskAt w.heap.size w' g (Write s1 (fa i) r).2) ∧ (Below w.heap.size w w') ∧ (Kd.R (Kd.int .u8) 5 w' wr.heap.size (fun _ => True) (.slice A1 (readB s (fa i)).length c1) (readB s (fa i))) ∧ (b 11 = true → b 12 = false → ∃ b_ : Nat, Kd.R (Kd.int .u8) 5 w' b_ (fun _ => True) vs r)) HT_.out HW_.out (by kernel_rfl) (by kernel_rfl) ?_ ?_ ?_
          · exact ⟨.bool false, by simp only [putSel, Bool.false_eq_true, if_false], fun _ => disk_drew FD.out, fun h_ => absurd h_ (by decide), below_drew FB.out, Kd.R_drewN FW.out 1, fun h_ => absurd h_ (by decide)⟩
          · skip
            clear FB FD FW
            refine steps_cons ?_ ?_
            · rintro b a w' ⟨vs, ha, Q_FD, Q_FD2, Q_FB, Q_FW, Q_FV⟩ hb_ hon hoff
              refine ⟨_, rfl, fun K hK => ?_⟩
              have e5 : a.tmps[5]? = some (.pointer (some ⟨g, 0, none⟩)) := by rw [ha]; exact (putSel_off rfl).trans rfl
              replace ha := Aside0.mk ha
              have FD := Aside0.mk (Q_FD (hoff 12 (by kernel_rfl)))
              have FB := Aside0.mk Q_FB
              have FW := Aside0.mk Q_FW
              refine value_ (w1 := w') (v := .pointer (some ⟨g, 0, none⟩)) (by rfl) rfl ?_ ?_
              · go_simp
                (try simp only [i64_w])
                try rfl
              refine hK.out _ _ ⟨vs, (by rw [ha.out]; exact putSel_upk 0 hb_ rfl rfl rfl), Q_FD, fun h0_ => absurd ((hoff 12 (by kernel_rfl)).symm.trans h0_) (by decide), Q_FB, Q_FW, Q_FV⟩
            refine steps_cons ?_ ?_
            · rintro b a w' ⟨vs, ha, Q_FD, Q_FD2, Q_FB, Q_FW, Q_FV⟩ hb_ hon hoff
              refine ⟨_, rfl, fun K hK => ?_⟩
              have e1 : a.tmps[1]? = some (.slice (some ad) n c) := by rw [ha]; exact (putSel_off rfl).trans rfl
              replace ha := Aside0.mk ha
              have FD := Aside0.mk (Q_FD (hoff 12 (by kernel_rfl)))
              have FB := Aside0.mk Q_FB
              have FW := Aside0.mk Q_FW
              refine value_ (w1 := w') (v := .slice (some ad) n c) (by rfl) rfl ?_ ?_
              · go_simp
                (try simp only [i64_w])
                try rfl
              refine hK.out _ _ ⟨vs, (by rw [ha.out]; exact putSel_upk 1 hb_ rfl rfl rfl), Q_FD, fun h0_ => absurd ((hoff 12 (by kernel_rfl)).symm.trans h0_) (by decide), Q_FB, Q_FW, Q_FV⟩
            refine steps_cons ?_ ?_
            · rintro b a w' ⟨vs, ha, Q_FD, Q_FD2, Q_FB, Q_FW, Q_FV⟩ hb_ hon hoff
              refine ⟨_, rfl, fun K hK => ?_⟩
              have e7 : a.tmps[7]? = some (.int .i64 ((i : Nat) : Int)) := by rw [ha]; exact (putSel_off rfl).trans rfl
              replace ha := Aside0.mk ha
              have FD := Aside0.mk (Q_FD (hoff 12 (by kernel_rfl)))
              have FB := Aside0.mk Q_FB
              have FW := Aside0.mk Q_FW
              refine value_ (w1 := w') (v := .int .i64 ((i : Nat) : Int)) (by rfl) rfl ?_ ?_
              · go_simp
                (try simp only [i64_w])
                try rfl
              refine hK.out _ _ ⟨vs, (by rw [ha.out]; exact putSel_upk 2 hb_ rfl rfl rfl), Q_FD, fun h0_ => absurd ((hoff 12 (by kernel_rfl)).symm.trans h0_) (by decide), Q_FB, Q_FW, Q_FV⟩
            refine steps_cons ?_ ?_
            · rintro b a w' ⟨vs, ha, Q_FD, Q_FD2, Q_FB, Q_FW, Q_FV⟩ hb_ hon hoff
              refine ⟨_, rfl, fun K hK => ?_⟩
              have e53 : a.tmps[53]? = some (.slice (some ad) n c) := by rw [ha]; exact putSel_on (e := (1, 53, .slice (some ad) n c)) 1 rfl rfl (hon 1 (by kernel_rfl)) rfl
              have e54 : a.tmps[54]? = some (.int .i64 ((i : Nat) : Int)) := by rw [ha]; exact putSel_on (e := (2, 54, .int .i64 ((i : Nat) : Int))) 2 rfl rfl (hon 2 (by kernel_rfl)) rfl
              replace ha := Aside0.mk ha
              have FD := Aside0.mk (Q_FD (hoff 12 (by kernel_rfl)))
              have FB := Aside0.mk Q_FB
              have FW := Aside0.mk Q_FW
              refine value_ (w1 := w') (v := .pointer (some (ad.add (i * 5)))) (by rfl) rfl ?_ ?_
              · go_simp
                (try simp only [i64_w])
                try rfl
              refine hK.out _ _ ⟨vs, (by rw [ha.out]; exact putSel_upk 3 hb_ rfl rfl rfl), Q_FD, fun h0_ => absurd ((hoff 12 (by kernel_rfl)).symm.trans h0_) (by decide), Q_FB, Q_FW, Q_FV⟩
            refine steps_cons ?_ ?_
            · rintro b a w' ⟨vs, ha, Q_FD, Q_FD2, Q_FB, Q_FW, Q_FV⟩ hb_ hon hoff
              refine ⟨_, rfl, fun K hK => ?_⟩
              have e55 : a.tmps[55]? = some (.pointer (some (ad.add (i * 5)))) := by rw [ha]; exact putSel_on (e := (3, 55, .pointer (some (ad.add (i * 5))))) 3 rfl rfl (hon 3 (by kernel_rfl)) rfl
              replace ha := Aside0.mk ha
              have FD := Aside0.mk (Q_FD (hoff 12 (by kernel_rfl)))
              have FB := Aside0.mk Q_FB
              have FW := Aside0.mk Q_FW
              refine value_ (w1 := w') (v := .pointer (some ⟨(ad.add (i * 5)).block, (ad.add (i * 5)).off + 1, none⟩)) (by rfl) rfl ?_ ?_
              · go_simp
                (try simp only [i64_w])
                try rfl
              refine hK.out _ _ ⟨vs, (by rw [ha.out]; exact putSel_upk 4 hb_ rfl rfl rfl), Q_FD, fun h0_ => absurd ((hoff 12 (by kernel_rfl)).symm.trans h0_) (by decide), Q_FB, Q_FW, Q_FV⟩
            refine steps_cons ?_ ?_
            · rintro b a w' ⟨vs, ha, Q_FD, Q_FD2, Q_FB, Q_FW, Q_FV⟩ hb_ hon hoff
              refine ⟨_, rfl, fun K hK => ?_⟩
              have e56 : a.tmps[56]? = some (.pointer (some ⟨(ad.add (i * 5)).block, (ad.add (i * 5)).off + 1, none⟩)) := by rw [ha]; exact putSel_on (e := (4, 56, .pointer (some ⟨(ad.add (i * 5)).block, (ad.add (i * 5)).off + 1, none⟩))) 4 rfl rfl (hon 4 (by kernel_rfl)) rfl
              replace ha := Aside0.mk ha
              have FD := Aside0.mk (Q_FD (hoff 12 (by kernel_rfl)))
              have FB := Aside0.mk Q_FB
              have FW := Aside0.mk Q_FW
              obtain ⟨hc0, hc1, hc2⟩ := HCELL.out _ FB.out
              refine value_ (w1 := w') (v := .int .i64 (fa i)) (by rfl) rfl ?_ ?_
              · go_simp
                (try simp only [i64_w])
                try rfl
              refine hK.out _ _ ⟨vs, (by rw [ha.out]; exact putSel_upk 5 hb_ rfl rfl rfl), Q_FD, fun h0_ => absurd ((hoff 12 (by kernel_rfl)).symm.trans h0_) (by decide), Q_FB, Q_FW, Q_FV⟩
            refine steps_cons ?_ ?_
            · rintro b a w' ⟨vs, ha, Q_FD, Q_FD2, Q_FB, Q_FW, Q_FV⟩ hb_ hon hoff
              refine ⟨_, rfl, fun K hK => ?_⟩
              have e1 : a.tmps[1]? = some (.slice (some ad) n c) := by rw [ha]; exact (putSel_off rfl).trans rfl
              replace ha := Aside0.mk ha
              have FD := Aside0.mk (Q_FD (hoff 12 (by kernel_rfl)))
              have FB := Aside0.mk Q_FB
              have FW := Aside0.mk Q_FW
              refine value_ (w1 := w') (v := .slice (some ad) n c) (by rfl) rfl ?_ ?_
              · go_simp
                (try simp only [i64_w])
                try rfl
              refine hK.out _ _ ⟨vs, (by rw [ha.out]; exact putSel_upk 6 hb_ rfl rfl rfl), Q_FD, fun h0_ => absurd ((hoff 12 (by kernel_rfl)).symm.trans h0_) (by decide), Q_FB, Q_FW, fun h0_ _ => absurd ((hoff 11 (by kernel_rfl)).symm.trans h0_) (by decide)⟩
            refine steps_cons ?_ ?_
            · rintro b a w' ⟨vs, ha, Q_FD, Q_FD2, Q_FB, Q_FW, Q_FV⟩ hb_ hon hoff
              refine ⟨_, rfl, fun K hK => ?_⟩
              have e7 : a.tmps[7]? = some (.int .i64 ((i : Nat) : Int)) := by rw [ha]; exact (putSel_off rfl).trans rfl
              replace ha := Aside0.mk ha
              have FD := Aside0.mk (Q_FD (hoff 12 (by kernel_rfl)))
              have FB := Aside0.mk Q_FB
              have FW := Aside0.mk Q_FW
              refine value_ (w1 := w') (v := .int .i64 ((i : Nat) : Int)) (by rfl) rfl ?_ ?_
              · go_simp
                (try simp only [i64_w])
                try rfl
              refine hK.out _ _ ⟨vs, (by rw [ha.out]; exact putSel_upk 7 hb_ rfl rfl rfl), Q_FD, fun h0_ => absurd ((hoff 12 (by kernel_rfl)).symm.trans h0_) (by decide), Q_FB, Q_FW, fun h0_ _ => absurd ((hoff 11 (by kernel_rfl)).symm.trans h0_) (by decide)⟩
            refine steps_cons ?_ ?_
            · rintro b a w' ⟨vs, ha, Q_FD, Q_FD2, Q_FB, Q_FW, Q_FV⟩ hb_ hon hoff
              refine ⟨_, rfl, fun K hK => ?_⟩
              have e58 : a.tmps[58]? = some (.slice (some ad) n c) := by rw [ha]; exact putSel_on (e := (6, 58, .slice (some ad) n c)) 6 rfl rfl (hon 6 (by kernel_rfl)) rfl
              have e59 : a.tmps[59]? = some (.int .i64 ((i : Nat) : Int)) := by rw [ha]; exact putSel_on (e := (7, 59, .int .i64 ((i : Nat) : Int))) 7 rfl rfl (hon 7 (by kernel_rfl)) rfl
              replace ha := Aside0.mk ha
              have FD := Aside0.mk (Q_FD (hoff 12 (by kernel_rfl)))
              have FB := Aside0.mk Q_FB
              have FW := Aside0.mk Q_FW
              refine value_ (w1 := w') (v := .pointer (some (ad.add (i * 5)))) (by rfl) rfl ?_ ?_
              · go_simp
                (try simp only [i64_w])
                try rfl
              refine hK.out _ _ ⟨vs, (by rw [ha.out]; exact putSel_upk 8 hb_ rfl rfl rfl), Q_FD, fun h0_ => absurd ((hoff 12 (by kernel_rfl)).symm.trans h0_) (by decide), Q_FB, Q_FW, fun h0_ _ => absurd ((hoff 11 (by kernel_rfl)).symm.trans h0_) (by decide)⟩
            refine steps_cons ?_ ?_
            · rintro b a w' ⟨vs, ha, Q_FD, Q_FD2, Q_FB, Q_FW, Q_FV⟩ hb_ hon hoff
              refine ⟨_, rfl, fun K hK => ?_⟩
              have e60 : a.tmps[60]? = some (.pointer (some (ad.add (i * 5)))) := by rw [ha]; exact putSel_on (e := (8, 60, .pointer (some (ad.add (i * 5))))) 8 rfl rfl (hon 8 (by kernel_rfl)) rfl
              replace ha := Aside0.mk ha
              have FD := Aside0.mk (Q_FD (hoff 12 (by kernel_rfl)))
              have FB := Aside0.mk Q_FB
              have FW := Aside0.mk Q_FW
              refine value_ (w1 := w') (v := .pointer (some ⟨(ad.add (i * 5)).block, (ad.add (i * 5)).off + 2, none⟩)) (by rfl) rfl ?_ ?_
              · go_simp
                (try simp only [i64_w])
                try rfl
              refine hK.out _ _ ⟨vs, (by rw [ha.out]; exact putSel_upk 9 hb_ rfl rfl rfl), Q_FD, fun h0_ => absurd ((hoff 12 (by kernel_rfl)).symm.trans h0_) (by decide), Q_FB, Q_FW, fun h0_ _ => absurd ((hoff 11 (by kernel_rfl)).symm.trans h0_) (by decide)⟩
            refine steps_cons ?_ ?_
            · rintro b a w' ⟨vs, ha, Q_FD, Q_FD2, Q_FB, Q_FW, Q_FV⟩ hb_ hon hoff
              refine ⟨_, rfl, fun K hK => ?_⟩
              have e61 : a.tmps[61]? = some (.pointer (some ⟨(ad.add (i * 5)).block, (ad.add (i * 5)).off + 2, none⟩)) := by rw [ha]; exact putSel_on (e := (9, 61, .pointer (some ⟨(ad.add (i * 5)).block, (ad.add (i * 5)).off + 2, none⟩))) 9 rfl rfl (hon 9 (by kernel_rfl)) rfl
              replace ha := Aside0.mk ha
              have FD := Aside0.mk (Q_FD (hoff 12 (by kernel_rfl)))
              have FB := Aside0.mk Q_FB
              have FW := Aside0.mk Q_FW
              obtain ⟨hc0, hc1, hc2⟩ := HCELL.out _ FB.out
              refine value_ (w1 := w') (v := .int .u8 (fc i)) (by rfl) rfl ?_ ?_
              · go_simp
                (try simp only [i64_w])
                try rfl
              refine hK.out _ _ ⟨vs, (by rw [ha.out]; exact putSel_upk 10 hb_ rfl rfl rfl), Q_FD, fun h0_ => absurd ((hoff 12 (by kernel_rfl)).symm.trans h0_) (by decide), Q_FB, Q_FW, fun h0_ _ => absurd ((hoff 11 (by kernel_rfl)).symm.trans h0_) (by decide)⟩
            refine steps_cons ?_ ?_
            · rintro b a w' ⟨vs, ha, Q_FD, Q_FD2, Q_FB, Q_FW, Q_FV⟩ hb_ hon hoff
              refine ⟨_, rfl, fun K hK => ?_⟩
              have e62 : a.tmps[62]? = some (.int .u8 (fc i)) := by rw [ha]; exact putSel_on (e := (10, 62, .int .u8 (fc i))) 10 rfl rfl (hon 10 (by kernel_rfl)) rfl
              replace ha := Aside0.mk ha
              have FD := Aside0.mk (Q_FD (hoff 12 (by kernel_rfl)))
              have FB := Aside0.mk Q_FB
              have FW := Aside0.mk Q_FW
              refine goes_ Try.func23 (by kernel_rfl) rfl #[.int .u8 (fc i)] (by rfl) rfl rfl (by first | (simp only [List.map_toArray, List.map_cons, List.map_nil, Act.eval, Array.getD_eq_getD_getElem?, Option.getD_some, e62]; done) | (simp only [List.map_toArray, List.map_cons, List.map_nil, Act.eval, Array.getD_eq_getD_getElem?, Option.getD_some, e62]; rfl)) ?_
              refine (prebendlaw05_sector.calls 40 (fc i) r _ HSEC.out).mono ?_
              rintro e w10 ⟨v10, rfl, hR10, hB10⟩
              refine ⟨v10, rfl, ?_⟩
              refine hK.out _ _ ⟨v10, (by rw [ha.out]; exact putSel_upk 11 hb_ rfl rfl rfl), fun _ => disk_below FD.out hB10, fun h0_ => absurd ((hoff 12 (by kernel_rfl)).symm.trans h0_) (by decide), below_step FB.out hB10, Kd.R_below FW.out hB10, fun _ _ => ⟨_, hR10⟩⟩
            refine steps_cons ?_ ?_
            · rintro b a w' ⟨vs, ha, Q_FD, Q_FD2, Q_FB, Q_FW, Q_FV⟩ hb_ hon hoff
              refine ⟨_, rfl, fun K hK => ?_⟩
              have e52 : a.tmps[52]? = some (.pointer (some ⟨g, 0, none⟩)) := by rw [ha]; exact putSel_on (e := (0, 52, .pointer (some ⟨g, 0, none⟩))) 0 rfl rfl (hon 0 (by kernel_rfl)) rfl
              have e57 : a.tmps[57]? = some (.int .i64 (fa i)) := by rw [ha]; exact putSel_on (e := (5, 57, .int .i64 (fa i))) 5 rfl rfl (hon 5 (by kernel_rfl)) rfl
              have e63 : a.tmps[63]? = some (vs) := by rw [ha]; exact putSel_on (e := (11, 63, vs)) 11 rfl rfl (hon 11 (by kernel_rfl)) rfl
              replace ha := Aside0.mk ha
              have FD := Aside0.mk (Q_FD hb_)
              have FB := Aside0.mk Q_FB
              have FW := Aside0.mk Q_FW
              have FV := Aside0.mk (Q_FV (hon 11 (by kernel_rfl)) hb_)
              obtain ⟨b_, hR_⟩ := FV.out
              obtain ⟨Av, cv, hvs_⟩ := Kd.R_slice hR_
              rw [hvs_] at e63
              rw [hvs_] at hR_
              refine goes_ Try.func12 (by kernel_rfl) rfl #[.pointer (some ⟨g, 0, none⟩), .int .i64 (fa i), .slice Av r.length cv] (by rfl) rfl rfl (by first | (simp only [List.map_toArray, List.map_cons, List.map_nil, Act.eval, Array.getD_eq_getD_getElem?, Option.getD_some, e52, e57, e63]; done) | (simp only [List.map_toArray, List.map_cons, List.map_nil, Act.eval, Array.getD_eq_getD_getElem?, Option.getD_some, e52, e57, e63]; rfl)) ?_
              refine (write_walk w.heap.size g s1 (fa i) Av cv r _ FD.out HFU.out HL1.out (FB.out).size (row_src hR_ _)).mono ?_
              rintro e w10 ⟨rfl, hD10, hK10⟩
              refine ⟨_, rfl, ?_⟩
              refine hK.out _ _ ⟨vs, (by rw [ha.out]; exact putSel_upk 12 hb_ rfl rfl rfl), fun h0_ => absurd ((up_self b 12).symm.trans h0_) (by decide), fun _ => hD10, below_keep FB.out (FB.out).size hK10, row_keep FW.out hK10, fun _ h1_ => absurd ((up_self b 12).symm.trans h1_) (by decide)⟩
            refine steps_cons ?_ ?_
            · rintro b a w' ⟨vs, ha, Q_FD, Q_FD2, Q_FB, Q_FW, Q_FV⟩ hb_ hon hoff
              refine ⟨_, rfl, fun K hK => ?_⟩
              have e64 : a.tmps[64]? = some (.int .i64 (Write s1 (fa i) r).1) := by rw [ha]; exact putSel_on (e := (12, 64, .int .i64 (Write s1 (fa i) r).1)) 12 rfl rfl (hon 12 (by kernel_rfl)) rfl
              replace ha := Aside0.mk ha
              have FD2 := Aside0.mk (Q_FD2 (hon 12 (by kernel_rfl)))
              have FB := Aside0.mk Q_FB
              have FW := Aside0.mk Q_FW
              refine value_ (w1 := w') (v := .int .i64 (Write s1 (fa i) r).1) (by rfl) rfl ?_ ?_
              · go_simp
                (try simp only [i64_w])
                try rfl
              refine hK.out _ _ ⟨vs, (by rw [ha.out]; exact putSel_upk 13 hb_ rfl rfl rfl), fun h0_ => absurd ((hon 12 (by kernel_rfl)).symm.trans h0_) (by decide), Q_FD2, Q_FB, Q_FW, fun _ h1_ => absurd ((hon 12 (by kernel_rfl)).symm.trans h1_) (by decide)⟩
            exact steps_nil
          · rintro b a w' hall ⟨vs, ha, Q_FD, Q_FD2, Q_FB, Q_FW, Q_FV⟩
            clear FB FD FW
            have hb0_ := hall 0 (by kernel_rfl)
            have hb1_ := hall 1 (by kernel_rfl)
            have hb2_ := hall 2 (by kernel_rfl)
            have hb3_ := hall 3 (by kernel_rfl)
            have hb4_ := hall 4 (by kernel_rfl)
            have hb5_ := hall 5 (by kernel_rfl)
            have hb6_ := hall 6 (by kernel_rfl)
            have hb7_ := hall 7 (by kernel_rfl)
            have hb8_ := hall 8 (by kernel_rfl)
            have hb9_ := hall 9 (by kernel_rfl)
            have hb10_ := hall 10 (by kernel_rfl)
            have hb11_ := hall 11 (by kernel_rfl)
            have hb12_ := hall 12 (by kernel_rfl)
            have hb13_ := hall 13 (by kernel_rfl)
            subst ha
            simp only [putSel, hb0_, hb1_, hb2_, hb3_, hb4_, hb5_, hb6_, hb7_, hb8_, hb9_, hb10_, hb11_, hb12_, hb13_, if_true, Act.put, List.setIfInBounds_toArray, List.set_cons_zero, List.set_cons_succ]
            clear Q_FD
            have FD2 := Aside0.mk (Q_FD2 hb12_)
            clear Q_FD2
            have FB := Aside0.mk Q_FB
            clear Q_FB
            have FW := Aside0.mk Q_FW
            clear Q_FW
            clear Q_FV
            clear hall hb0_ hb1_ hb2_ hb3_ hb4_ hb5_ hb6_ hb7_ hb8_ hb9_ hb10_ hb11_ hb12_ hb13_
            have hwf := write_fuse s1 (fa i) r hs1f
            have hwk := write_keeps s1 (fa i) r HKF.out.1
            have hws := write_same s1 (fa i) r
            obtain ⟨s2, hs2⟩ : ∃ z, (Write s1 (fa i) r).2 = z := ⟨_, rfl⟩
            rw [hs2] at hwf hwk hws FD2
            clear hs2
            have HG2 := Aside0.mk ((congrArg List.length hwk.2.1).trans (HKF.out.2.1.trans HG.out))
            have HO2 := Aside0.mk hwk.1
            have HL2 := Aside0.mk (Nat.le_trans hwk.2.2 (Nat.succ_le_succ HLS.out))
            clear hwk HG
            rcases hwf with ⟨he2, hp2, hf2⟩ | ⟨he2, hf2⟩ | ⟨he2, hp2, hf2⟩
            · rw [he2]
              clear he2 hws
              obtain ⟨hc0, hc1, hc2⟩ := HCELL.out _ FB.out
              go_wp2_with fail
              refine (read_any w.heap.size g (s2) (fa i) _ FD2.out).mono ?_
              rintro e w5 ⟨v5, rfl, hR5, hB5⟩
              have HB5 := Aside0.mk (below_step FB.out hB5)
              have HD5 := Aside0.mk (disk_below FD2.out hB5)
              have hW5 := Kd.R_below FW.out hB5
              clear hc0 hc1 hc2
              skip
              have hcv1 := own_string (P := Try.prog) Try.underlying29 Try.underlying5 Try.underlying9 (Kd.own_of_R hR5)
              have hcv2 := own_string (P := Try.prog) Try.underlying29 Try.underlying5 Try.underlying9 (Kd.own_of_R hW5)
              clear hR5 hW5 hB5 FD2 FB FW
              go_wp2
              go_roundw
              case rel => exact ⟨i + 1, s2, by omega, by omega, by go_num, congrArg (Value.int .i64) (by omega), by omega, by omega, HG2.out, HO2.out, HL2.out, HD5, HB5⟩
              case measure => simp [intOf]; omega
            · have hss := hws (by rw [he2]; decide)
              subst hss
              rw [he2]
              clear he2 hws
              obtain ⟨hc0, hc1, hc2⟩ := HCELL.out _ FB.out
              go_wp2_with fail
              refine (read_any w.heap.size g (s2) (fa i) _ FD2.out).mono ?_
              rintro e w5 ⟨v5, rfl, hR5, hB5⟩
              have HB5 := Aside0.mk (below_step FB.out hB5)
              have HD5 := Aside0.mk (disk_below FD2.out hB5)
              have hW5 := Kd.R_below FW.out hB5
              clear hc0 hc1 hc2
              rw [HRD.out] at hR5
              have hcv1 := own_string (P := Try.prog) Try.underlying29 Try.underlying5 Try.underlying9 (Kd.own_of_R hR5)
              have hcv2 := own_string (P := Try.prog) Try.underlying29 Try.underlying5 Try.underlying9 (Kd.own_of_R hW5)
              clear hR5 hW5 hB5 FD2 FB FW
              go_wp2
              go_roundw
              case rel => exact ⟨i + 1, s2, by omega, by omega, by go_num, congrArg (Value.int .i64) (by omega), by omega, by omega, HG2.out, HO2.out, HL2.out, HD5, HB5⟩
              case measure => simp [intOf]; omega
            · have hss := hws (by rw [he2]; decide)
              subst hss
              rw [he2]
              clear he2 hws
              obtain ⟨hc0, hc1, hc2⟩ := HCELL.out _ FB.out
              go_wp2_with fail
              refine (read_any w.heap.size g (s2) (fa i) _ FD2.out).mono ?_
              rintro e w5 ⟨v5, rfl, hR5, hB5⟩
              have HB5 := Aside0.mk (below_step FB.out hB5)
              have HD5 := Aside0.mk (disk_below FD2.out hB5)
              have hW5 := Kd.R_below FW.out hB5
              clear hc0 hc1 hc2
              rw [HRD.out] at hR5
              have hcv1 := own_string (P := Try.prog) Try.underlying29 Try.underlying5 Try.underlying9 (Kd.own_of_R hR5)
              have hcv2 := own_string (P := Try.prog) Try.underlying29 Try.underlying5 Try.underlying9 (Kd.own_of_R hW5)
              clear hR5 hW5 hB5 FD2 FB FW
              go_wp2
              go_roundw
              case rel => exact ⟨i + 1, s2, by omega, by omega, by go_num, congrArg (Value.int .i64) (by omega), by omega, by omega, HG2.out, HO2.out, HL2.out, HD5, HB5⟩
              case measure => simp [intOf]; omega
        · rw [he]
          have HFU := Aside0.mk (show s1.fuse ≤ 9223372036854775807 by omega)
          clear he HOK
          have hs1f : 0 ≤ s1.fuse := by omega
          go_wp2
          refine start_ (n := 14) (S := fun w' => True) (ds := []) #[false, false, false, false, false, false, false, false, false, false, false, false, false, false] (by kernel_rfl) rfl rfl trivial (fun hHeld => ?_)
          refine with_tabW fuse5r.tab12 fuse5r.bits12 (fun HT_ HW_ => ?_)
          refine inv_at [0, 1, 2, 3, 4, 5, 6, 7, 8, 9, 10, 11, 12, 13] (fun a0_ b a w' => ∃ (vs : Value), a = putSel a0_ b [(0, 52, .pointer (some ⟨g, 0, none⟩)), (1, 53, .slice (some ad) n c), (2, 54, .int .i64 ((i : Nat) : Int)), (3, 55, .pointer (some (ad.add (i * 5)))), (4, 56, .pointer (some ⟨(ad.add (i * 5)).block, (ad.add (i * 5)).off + 1, none⟩)), (5, 57, .int .i64 (fa i)), (6, 58, .slice (some ad) n c), (7, 59, .int .i64 ((i : Nat) : Int)), (8, 60, .pointer (some (ad.add (i * 5)))), (9, 61, .pointer (some ⟨(ad.add (i * 5)).block, (ad.add (i * 5)).off + 2, none⟩)), (10, 62, .int .u8 (fc i)), (11, 63, vs), (12, 64, .int .i64 (Write s1 (fa i) r).1), (13, 10, .int .i64 (Write s1 (fa i) r).1)] ∧ (b 12 = false → DiskAt w.heap.size w' g s1) ∧ (b 12 = true → DiskAt w.heap.size w' g (Write s1 (fa i) r).2) ∧ (Below w.heap.size w w') ∧ (Kd.R (Kd.int .u8) 5 w' wr.heap.size (fun _ => True) (.slice A1 (readB s (fa i)).length c1) (readB s (fa i))) ∧ (b 11 = true → b 12 = false → ∃ b_ : Nat, Kd.R (Kd.int .u8) 5 w' b_ (fun _ => True) vs r)) HT_.out HW_.out (by kernel_rfl) (by kernel_rfl) ?_ ?_ ?_
          · exact ⟨.bool false, by simp only [putSel, Bool.false_eq_true, if_false], fun _ => disk_drew FD.out, fun h_ => absurd h_ (by decide), below_drew FB.out, Kd.R_drewN FW.out 1, fun h_ => absurd h_ (by decide)⟩
          · skip
            clear FB FD FW
            refine steps_cons ?_ ?_
            · rintro b a w' ⟨vs, ha, Q_FD, Q_FD2, Q_FB, Q_FW, Q_FV⟩ hb_ hon hoff
              refine ⟨_, rfl, fun K hK => ?_⟩
              have e5 : a.tmps[5]? = some (.pointer (some ⟨g, 0, none⟩)) := by rw [ha]; exact (putSel_off rfl).trans rfl
              replace ha := Aside0.mk ha
              have FD := Aside0.mk (Q_FD (hoff 12 (by kernel_rfl)))
              have FB := Aside0.mk Q_FB
              have FW := Aside0.mk Q_FW
              refine value_ (w1 := w') (v := .pointer (some ⟨g, 0, none⟩)) (by rfl) rfl ?_ ?_
              · go_simp
                (try simp only [i64_w])
                try rfl
              refine hK.out _ _ ⟨vs, (by rw [ha.out]; exact putSel_upk 0 hb_ rfl rfl rfl), Q_FD, fun h0_ => absurd ((hoff 12 (by kernel_rfl)).symm.trans h0_) (by decide), Q_FB, Q_FW, Q_FV⟩
            refine steps_cons ?_ ?_
            · rintro b a w' ⟨vs, ha, Q_FD, Q_FD2, Q_FB, Q_FW, Q_FV⟩ hb_ hon hoff
              refine ⟨_, rfl, fun K hK => ?_⟩
              have e1 : a.tmps[1]? = some (.slice (some ad) n c) := by rw [ha]; exact (putSel_off rfl).trans rfl
              replace ha := Aside0.mk ha
              have FD := Aside0.mk (Q_FD (hoff 12 (by kernel_rfl)))
              have FB := Aside0.mk Q_FB
              have FW := Aside0.mk Q_FW
              refine value_ (w1 := w') (v := .slice (some ad) n c) (by rfl) rfl ?_ ?_
              · go_simp
                (try simp only [i64_w])
                try rfl
              refine hK.out _ _ ⟨vs, (by rw [ha.out]; exact putSel_upk 1 hb_ rfl rfl rfl), Q_FD, fun h0_ => absurd ((hoff 12 (by kernel_rfl)).symm.trans h0_) (by decide), Q_FB, Q_FW, Q_FV⟩
            refine steps_cons ?_ ?_
            · rintro b a w' ⟨vs, ha, Q_FD, Q_FD2, Q_FB, Q_FW, Q_FV⟩ hb_ hon hoff
              refine ⟨_, rfl, fun K hK => ?_⟩
              have e7 : a.tmps[7]? = some (.int .i64 ((i : Nat) : Int)) := by rw [ha]; exact (putSel_off rfl).trans rfl
              replace ha := Aside0.mk ha
              have FD := Aside0.mk (Q_FD (hoff 12 (by kernel_rfl)))
              have FB := Aside0.mk Q_FB
              have FW := Aside0.mk Q_FW
              refine value_ (w1 := w') (v := .int .i64 ((i : Nat) : Int)) (by rfl) rfl ?_ ?_
              · go_simp
                (try simp only [i64_w])
                try rfl
              refine hK.out _ _ ⟨vs, (by rw [ha.out]; exact putSel_upk 2 hb_ rfl rfl rfl), Q_FD, fun h0_ => absurd ((hoff 12 (by kernel_rfl)).symm.trans h0_) (by decide), Q_FB, Q_FW, Q_FV⟩
            refine steps_cons ?_ ?_
            · rintro b a w' ⟨vs, ha, Q_FD, Q_FD2, Q_FB, Q_FW, Q_FV⟩ hb_ hon hoff
              refine ⟨_, rfl, fun K hK => ?_⟩
              have e53 : a.tmps[53]? = some (.slice (some ad) n c) := by rw [ha]; exact putSel_on (e := (1, 53, .slice (some ad) n c)) 1 rfl rfl (hon 1 (by kernel_rfl)) rfl
              have e54 : a.tmps[54]? = some (.int .i64 ((i : Nat) : Int)) := by rw [ha]; exact putSel_on (e := (2, 54, .int .i64 ((i : Nat) : Int))) 2 rfl rfl (hon 2 (by kernel_rfl)) rfl
              replace ha := Aside0.mk ha
              have FD := Aside0.mk (Q_FD (hoff 12 (by kernel_rfl)))
              have FB := Aside0.mk Q_FB
              have FW := Aside0.mk Q_FW
              refine value_ (w1 := w') (v := .pointer (some (ad.add (i * 5)))) (by rfl) rfl ?_ ?_
              · go_simp
                (try simp only [i64_w])
                try rfl
              refine hK.out _ _ ⟨vs, (by rw [ha.out]; exact putSel_upk 3 hb_ rfl rfl rfl), Q_FD, fun h0_ => absurd ((hoff 12 (by kernel_rfl)).symm.trans h0_) (by decide), Q_FB, Q_FW, Q_FV⟩
            refine steps_cons ?_ ?_
            · rintro b a w' ⟨vs, ha, Q_FD, Q_FD2, Q_FB, Q_FW, Q_FV⟩ hb_ hon hoff
              refine ⟨_, rfl, fun K hK => ?_⟩
              have e55 : a.tmps[55]? = some (.pointer (some (ad.add (i * 5)))) := by rw [ha]; exact putSel_on (e := (3, 55, .pointer (some (ad.add (i * 5))))) 3 rfl rfl (hon 3 (by kernel_rfl)) rfl
              replace ha := Aside0.mk ha
              have FD := Aside0.mk (Q_FD (hoff 12 (by kernel_rfl)))
              have FB := Aside0.mk Q_FB
              have FW := Aside0.mk Q_FW
              refine value_ (w1 := w') (v := .pointer (some ⟨(ad.add (i * 5)).block, (ad.add (i * 5)).off + 1, none⟩)) (by rfl) rfl ?_ ?_
              · go_simp
                (try simp only [i64_w])
                try rfl
              refine hK.out _ _ ⟨vs, (by rw [ha.out]; exact putSel_upk 4 hb_ rfl rfl rfl), Q_FD, fun h0_ => absurd ((hoff 12 (by kernel_rfl)).symm.trans h0_) (by decide), Q_FB, Q_FW, Q_FV⟩
            refine steps_cons ?_ ?_
            · rintro b a w' ⟨vs, ha, Q_FD, Q_FD2, Q_FB, Q_FW, Q_FV⟩ hb_ hon hoff
              refine ⟨_, rfl, fun K hK => ?_⟩
              have e56 : a.tmps[56]? = some (.pointer (some ⟨(ad.add (i * 5)).block, (ad.add (i * 5)).off + 1, none⟩)) := by rw [ha]; exact putSel_on (e := (4, 56, .pointer (some ⟨(ad.add (i * 5)).block, (ad.add (i * 5)).off + 1, none⟩))) 4 rfl rfl (hon 4 (by kernel_rfl)) rfl
              replace ha := Aside0.mk ha
              have FD := Aside0.mk (Q_FD (hoff 12 (by kernel_rfl)))
              have FB := Aside0.mk Q_FB
              have FW := Aside0.mk Q_FW
              obtain ⟨hc0, hc1, hc2⟩ := HCELL.out _ FB.out
              refine value_ (w1 := w') (v := .int .i64 (fa i)) (by rfl) rfl ?_ ?_
              · go_simp
                (try simp only [i64_w])
                try rfl
              refine hK.out _ _ ⟨vs, (by rw [ha.out]; exact putSel_upk 5 hb_ rfl rfl rfl), Q_FD, fun h0_ => absurd ((hoff 12 (by kernel_rfl)).symm.trans h0_) (by decide), Q_FB, Q_FW, Q_FV⟩
            refine steps_cons ?_ ?_
            · rintro b a w' ⟨vs, ha, Q_FD, Q_FD2, Q_FB, Q_FW, Q_FV⟩ hb_ hon hoff
              refine ⟨_, rfl, fun K hK => ?_⟩
              have e1 : a.tmps[1]? = some (.slice (some ad) n c) := by rw [ha]; exact (putSel_off rfl).trans rfl
              replace ha := Aside0.mk ha
              have FD := Aside0.mk (Q_FD (hoff 12 (by kernel_rfl)))
              have FB := Aside0.mk Q_FB
              have FW := Aside0.mk Q_FW
              refine value_ (w1 := w') (v := .slice (some ad) n c) (by rfl) rfl ?_ ?_
              · go_simp
                (try simp only [i64_w])
                try rfl
              refine hK.out _ _ ⟨vs, (by rw [ha.out]; exact putSel_upk 6 hb_ rfl rfl rfl), Q_FD, fun h0_ => absurd ((hoff 12 (by kernel_rfl)).symm.trans h0_) (by decide), Q_FB, Q_FW, fun h0_ _ => absurd ((hoff 11 (by kernel_rfl)).symm.trans h0_) (by decide)⟩
            refine steps_cons ?_ ?_
            · rintro b a w' ⟨vs, ha, Q_FD, Q_FD2, Q_FB, Q_FW, Q_FV⟩ hb_ hon hoff
              refine ⟨_, rfl, fun K hK => ?_⟩
              have e7 : a.tmps[7]? = some (.int .i64 ((i : Nat) : Int)) := by rw [ha]; exact (putSel_off rfl).trans rfl
              replace ha := Aside0.mk ha
              have FD := Aside0.mk (Q_FD (hoff 12 (by kernel_rfl)))
              have FB := Aside0.mk Q_FB
              have FW := Aside0.mk Q_FW
              refine value_ (w1 := w') (v := .int .i64 ((i : Nat) : Int)) (by rfl) rfl ?_ ?_
              · go_simp
                (try simp only [i64_w])
                try rfl
              refine hK.out _ _ ⟨vs, (by rw [ha.out]; exact putSel_upk 7 hb_ rfl rfl rfl), Q_FD, fun h0_ => absurd ((hoff 12 (by kernel_rfl)).symm.trans h0_) (by decide), Q_FB, Q_FW, fun h0_ _ => absurd ((hoff 11 (by kernel_rfl)).symm.trans h0_) (by decide)⟩
            refine steps_cons ?_ ?_
            · rintro b a w' ⟨vs, ha, Q_FD, Q_FD2, Q_FB, Q_FW, Q_FV⟩ hb_ hon hoff
              refine ⟨_, rfl, fun K hK => ?_⟩
              have e58 : a.tmps[58]? = some (.slice (some ad) n c) := by rw [ha]; exact putSel_on (e := (6, 58, .slice (some ad) n c)) 6 rfl rfl (hon 6 (by kernel_rfl)) rfl
              have e59 : a.tmps[59]? = some (.int .i64 ((i : Nat) : Int)) := by rw [ha]; exact putSel_on (e := (7, 59, .int .i64 ((i : Nat) : Int))) 7 rfl rfl (hon 7 (by kernel_rfl)) rfl
              replace ha := Aside0.mk ha
              have FD := Aside0.mk (Q_FD (hoff 12 (by kernel_rfl)))
              have FB := Aside0.mk Q_FB
              have FW := Aside0.mk Q_FW
              refine value_ (w1 := w') (v := .pointer (some (ad.add (i * 5)))) (by rfl) rfl ?_ ?_
              · go_simp
                (try simp only [i64_w])
                try rfl
              refine hK.out _ _ ⟨vs, (by rw [ha.out]; exact putSel_upk 8 hb_ rfl rfl rfl), Q_FD, fun h0_ => absurd ((hoff 12 (by kernel_rfl)).symm.trans h0_) (by decide), Q_FB, Q_FW, fun h0_ _ => absurd ((hoff 11 (by kernel_rfl)).symm.trans h0_) (by decide)⟩
            refine steps_cons ?_ ?_
            · rintro b a w' ⟨vs, ha, Q_FD, Q_FD2, Q_FB, Q_FW, Q_FV⟩ hb_ hon hoff
              refine ⟨_, rfl, fun K hK => ?_⟩
              have e60 : a.tmps[60]? = some (.pointer (some (ad.add (i * 5)))) := by rw [ha]; exact putSel_on (e := (8, 60, .pointer (some (ad.add (i * 5))))) 8 rfl rfl (hon 8 (by kernel_rfl)) rfl
              replace ha := Aside0.mk ha
              have FD := Aside0.mk (Q_FD (hoff 12 (by kernel_rfl)))
              have FB := Aside0.mk Q_FB
              have FW := Aside0.mk Q_FW
              refine value_ (w1 := w') (v := .pointer (some ⟨(ad.add (i * 5)).block, (ad.add (i * 5)).off + 2, none⟩)) (by rfl) rfl ?_ ?_
              · go_simp
                (try simp only [i64_w])
                try rfl
              refine hK.out _ _ ⟨vs, (by rw [ha.out]; exact putSel_upk 9 hb_ rfl rfl rfl), Q_FD, fun h0_ => absurd ((hoff 12 (by kernel_rfl)).symm.trans h0_) (by decide), Q_FB, Q_FW, fun h0_ _ => absurd ((hoff 11 (by kernel_rfl)).symm.trans h0_) (by decide)⟩
            refine steps_cons ?_ ?_
            · rintro b a w' ⟨vs, ha, Q_FD, Q_FD2, Q_FB, Q_FW, Q_FV⟩ hb_ hon hoff
              refine ⟨_, rfl, fun K hK => ?_⟩
              have e61 : a.tmps[61]? = some (.pointer (some ⟨(ad.add (i * 5)).block, (ad.add (i * 5)).off + 2, none⟩)) := by rw [ha]; exact putSel_on (e := (9, 61, .pointer (some ⟨(ad.add (i * 5)).block, (ad.add (i * 5)).off + 2, none⟩))) 9 rfl rfl (hon 9 (by kernel_rfl)) rfl
              replace ha := Aside0.mk ha
              have FD := Aside0.mk (Q_FD (hoff 12 (by kernel_rfl)))
              have FB := Aside0.mk Q_FB
              have FW := Aside0.mk Q_FW
              obtain ⟨hc0, hc1, hc2⟩ := HCELL.out _ FB.out
              refine value_ (w1 := w') (v := .int .u8 (fc i)) (by rfl) rfl ?_ ?_
              · go_simp
                (try simp only [i64_w])
                try rfl
              refine hK.out _ _ ⟨vs, (by rw [ha.out]; exact putSel_upk 10 hb_ rfl rfl rfl), Q_FD, fun h0_ => absurd ((hoff 12 (by kernel_rfl)).symm.trans h0_) (by decide), Q_FB, Q_FW, fun h0_ _ => absurd ((hoff 11 (by kernel_rfl)).symm.trans h0_) (by decide)⟩
            refine steps_cons ?_ ?_
            · rintro b a w' ⟨vs, ha, Q_FD, Q_FD2, Q_FB, Q_FW, Q_FV⟩ hb_ hon hoff
              refine ⟨_, rfl, fun K hK => ?_⟩
              have e62 : a.tmps[62]? = some (.int .u8 (fc i)) := by rw [ha]; exact putSel_on (e := (10, 62, .int .u8 (fc i))) 10 rfl rfl (hon 10 (by kernel_rfl)) rfl
              replace ha := Aside0.mk ha
              have FD := Aside0.mk (Q_FD (hoff 12 (by kernel_rfl)))
              have FB := Aside0.mk Q_FB
              have FW := Aside0.mk Q_FW
              refine goes_ Try.func23 (by kernel_rfl) rfl #[.int .u8 (fc i)] (by rfl) rfl rfl (by first | (simp only [List.map_toArray, List.map_cons, List.map_nil, Act.eval, Array.getD_eq_getD_getElem?, Option.getD_some, e62]; done) | (simp only [List.map_toArray, List.map_cons, List.map_nil, Act.eval, Array.getD_eq_getD_getElem?, Option.getD_some, e62]; rfl)) ?_
              refine (prebendlaw05_sector.calls 40 (fc i) r _ HSEC.out).mono ?_
              rintro e w10 ⟨v10, rfl, hR10, hB10⟩
              refine ⟨v10, rfl, ?_⟩
              refine hK.out _ _ ⟨v10, (by rw [ha.out]; exact putSel_upk 11 hb_ rfl rfl rfl), fun _ => disk_below FD.out hB10, fun h0_ => absurd ((hoff 12 (by kernel_rfl)).symm.trans h0_) (by decide), below_step FB.out hB10, Kd.R_below FW.out hB10, fun _ _ => ⟨_, hR10⟩⟩
            refine steps_cons ?_ ?_
            · rintro b a w' ⟨vs, ha, Q_FD, Q_FD2, Q_FB, Q_FW, Q_FV⟩ hb_ hon hoff
              refine ⟨_, rfl, fun K hK => ?_⟩
              have e52 : a.tmps[52]? = some (.pointer (some ⟨g, 0, none⟩)) := by rw [ha]; exact putSel_on (e := (0, 52, .pointer (some ⟨g, 0, none⟩))) 0 rfl rfl (hon 0 (by kernel_rfl)) rfl
              have e57 : a.tmps[57]? = some (.int .i64 (fa i)) := by rw [ha]; exact putSel_on (e := (5, 57, .int .i64 (fa i))) 5 rfl rfl (hon 5 (by kernel_rfl)) rfl
              have e63 : a.tmps[63]? = some (vs) := by rw [ha]; exact putSel_on (e := (11, 63, vs)) 11 rfl rfl (hon 11 (by kernel_rfl)) rfl
              replace ha := Aside0.mk ha
              have FD := Aside0.mk (Q_FD hb_)
              have FB := Aside0.mk Q_FB
              have FW := Aside0.mk Q_FW
              have FV := Aside0.mk (Q_FV (hon 11 (by kernel_rfl)) hb_)
              obtain ⟨b_, hR_⟩ := FV.out
              obtain ⟨Av, cv, hvs_⟩ := Kd.R_slice hR_
              rw [hvs_] at e63
              rw [hvs_] at hR_
              refine goes_ Try.func12 (by kernel_rfl) rfl #[.pointer (some ⟨g, 0, none⟩), .int .i64 (fa i), .slice Av r.length cv] (by rfl) rfl rfl (by first | (simp only [List.map_toArray, List.map_cons, List.map_nil, Act.eval, Array.getD_eq_getD_getElem?, Option.getD_some, e52, e57, e63]; done) | (simp only [List.map_toArray, List.map_cons, List.map_nil, Act.eval, Array.getD_eq_getD_getElem?, Option.getD_some, e52, e57, e63]; rfl)) ?_
              refine (write_walk w.heap.size g s1 (fa i) Av cv r _ FD.out HFU.out HL1.out (FB.out).size (row_src hR_ _)).mono ?_
              rintro e w10 ⟨rfl, hD10, hK10⟩
              refine ⟨_, rfl, ?_⟩
              refine hK.out _ _ ⟨vs, (by rw [ha.out]; exact putSel_upk 12 hb_ rfl rfl rfl), fun h0_ => absurd ((up_self b 12).symm.trans h0_) (by decide), fun _ => hD10, below_keep FB.out (FB.out).size hK10, row_keep FW.out hK10, fun _ h1_ => absurd ((up_self b 12).symm.trans h1_) (by decide)⟩
            refine steps_cons ?_ ?_
            · rintro b a w' ⟨vs, ha, Q_FD, Q_FD2, Q_FB, Q_FW, Q_FV⟩ hb_ hon hoff
              refine ⟨_, rfl, fun K hK => ?_⟩
              have e64 : a.tmps[64]? = some (.int .i64 (Write s1 (fa i) r).1) := by rw [ha]; exact putSel_on (e := (12, 64, .int .i64 (Write s1 (fa i) r).1)) 12 rfl rfl (hon 12 (by kernel_rfl)) rfl
              replace ha := Aside0.mk ha
              have FD2 := Aside0.mk (Q_FD2 (hon 12 (by kernel_rfl)))
              have FB := Aside0.mk Q_FB
              have FW := Aside0.mk Q_FW
              refine value_ (w1 := w') (v := .int .i64 (Write s1 (fa i) r).1) (by rfl) rfl ?_ ?_
              · go_simp
                (try simp only [i64_w])
                try rfl
              refine hK.out _ _ ⟨vs, (by rw [ha.out]; exact putSel_upk 13 hb_ rfl rfl rfl), fun h0_ => absurd ((hon 12 (by kernel_rfl)).symm.trans h0_) (by decide), Q_FD2, Q_FB, Q_FW, fun _ h1_ => absurd ((hon 12 (by kernel_rfl)).symm.trans h1_) (by decide)⟩
            exact steps_nil
          · rintro b a w' hall ⟨vs, ha, Q_FD, Q_FD2, Q_FB, Q_FW, Q_FV⟩
            clear FB FD FW
            have hb0_ := hall 0 (by kernel_rfl)
            have hb1_ := hall 1 (by kernel_rfl)
            have hb2_ := hall 2 (by kernel_rfl)
            have hb3_ := hall 3 (by kernel_rfl)
            have hb4_ := hall 4 (by kernel_rfl)
            have hb5_ := hall 5 (by kernel_rfl)
            have hb6_ := hall 6 (by kernel_rfl)
            have hb7_ := hall 7 (by kernel_rfl)
            have hb8_ := hall 8 (by kernel_rfl)
            have hb9_ := hall 9 (by kernel_rfl)
            have hb10_ := hall 10 (by kernel_rfl)
            have hb11_ := hall 11 (by kernel_rfl)
            have hb12_ := hall 12 (by kernel_rfl)
            have hb13_ := hall 13 (by kernel_rfl)
            subst ha
            simp only [putSel, hb0_, hb1_, hb2_, hb3_, hb4_, hb5_, hb6_, hb7_, hb8_, hb9_, hb10_, hb11_, hb12_, hb13_, if_true, Act.put, List.setIfInBounds_toArray, List.set_cons_zero, List.set_cons_succ]
            clear Q_FD
            have FD2 := Aside0.mk (Q_FD2 hb12_)
            clear Q_FD2
            have FB := Aside0.mk Q_FB
            clear Q_FB
            have FW := Aside0.mk Q_FW
            clear Q_FW
            clear Q_FV
            clear hall hb0_ hb1_ hb2_ hb3_ hb4_ hb5_ hb6_ hb7_ hb8_ hb9_ hb10_ hb11_ hb12_ hb13_
            have hwf := write_fuse s1 (fa i) r hs1f
            have hwk := write_keeps s1 (fa i) r HKF.out.1
            have hws := write_same s1 (fa i) r
            obtain ⟨s2, hs2⟩ : ∃ z, (Write s1 (fa i) r).2 = z := ⟨_, rfl⟩
            rw [hs2] at hwf hwk hws FD2
            clear hs2
            have HG2 := Aside0.mk ((congrArg List.length hwk.2.1).trans (HKF.out.2.1.trans HG.out))
            have HO2 := Aside0.mk hwk.1
            have HL2 := Aside0.mk (Nat.le_trans hwk.2.2 (Nat.succ_le_succ HLS.out))
            clear hwk HG
            rcases hwf with ⟨he2, hp2, hf2⟩ | ⟨he2, hf2⟩ | ⟨he2, hp2, hf2⟩
            · omega
            · have hss := hws (by rw [he2]; decide)
              subst hss
              rw [he2]
              clear he2 hws
              obtain ⟨hc0, hc1, hc2⟩ := HCELL.out _ FB.out
              go_wp2_with fail
              refine (read_any w.heap.size g (s2) (fa i) _ FD2.out).mono ?_
              rintro e w5 ⟨v5, rfl, hR5, hB5⟩
              have HB5 := Aside0.mk (below_step FB.out hB5)
              have HD5 := Aside0.mk (disk_below FD2.out hB5)
              have hW5 := Kd.R_below FW.out hB5
              clear hc0 hc1 hc2
              rw [HRD.out] at hR5
              have hcv1 := own_string (P := Try.prog) Try.underlying29 Try.underlying5 Try.underlying9 (Kd.own_of_R hR5)
              have hcv2 := own_string (P := Try.prog) Try.underlying29 Try.underlying5 Try.underlying9 (Kd.own_of_R hW5)
              clear hR5 hW5 hB5 FD2 FB FW
              go_wp2
              go_roundw
              case rel => exact ⟨i + 1, s2, by omega, by omega, by go_num, congrArg (Value.int .i64) (by omega), by omega, by omega, HG2.out, HO2.out, HL2.out, HD5, HB5⟩
              case measure => simp [intOf]; omega
            · have hss := hws (by rw [he2]; decide)
              subst hss
              rw [he2]
              clear he2 hws
              obtain ⟨hc0, hc1, hc2⟩ := HCELL.out _ FB.out
              go_wp2_with fail
              refine (read_any w.heap.size g (s2) (fa i) _ FD2.out).mono ?_
              rintro e w5 ⟨v5, rfl, hR5, hB5⟩
              have HB5 := Aside0.mk (below_step FB.out hB5)
              have HD5 := Aside0.mk (disk_below FD2.out hB5)
              have hW5 := Kd.R_below FW.out hB5
              clear hc0 hc1 hc2
              rw [HRD.out] at hR5
              have hcv1 := own_string (P := Try.prog) Try.underlying29 Try.underlying5 Try.underlying9 (Kd.own_of_R hR5)
              have hcv2 := own_string (P := Try.prog) Try.underlying29 Try.underlying5 Try.underlying9 (Kd.own_of_R hW5)
              clear hR5 hW5 hB5 FD2 FB FW
              go_wp2
              go_roundw
              case rel => exact ⟨i + 1, s2, by omega, by omega, by go_num, congrArg (Value.int .i64) (by omega), by omega, by omega, HG2.out, HO2.out, HL2.out, HD5, HB5⟩
              case measure => simp [intOf]; omega
      · rcases hfl with ⟨he, hp, hf⟩ | ⟨he, hp, hf⟩
        · rw [he]
          have FD2 := FD
          have HG2 := Aside0.mk (HKF.out.2.1.trans HG.out)
          have HO2 := Aside0.mk HKF.out.1
          have HL2 := Aside0.mk (show s1.cache.length ≤ i + 1 by have := HKF.out.2.2; omega)
          clear FD hrd hkf he HOK HG
          obtain ⟨hc0, hc1, hc2⟩ := HCELL.out _ FB.out
          go_wp2_with fail
          refine (read_any w.heap.size g (s1) (fa i) _ FD2.out).mono ?_
          rintro e w5 ⟨v5, rfl, hR5, hB5⟩
          have HB5 := Aside0.mk (below_step FB.out hB5)
          have HD5 := Aside0.mk (disk_below FD2.out hB5)
          have hW5 := Kd.R_below FW.out hB5
          clear hc0 hc1 hc2
          skip
          have hcv1 := own_string (P := Try.prog) Try.underlying29 Try.underlying5 Try.underlying9 (Kd.own_of_R hR5)
          have hcv2 := own_string (P := Try.prog) Try.underlying29 Try.underlying5 Try.underlying9 (Kd.own_of_R hW5)
          clear hR5 hW5 hB5 FD2 FB FW
          go_wp2
          go_roundw
          case rel => exact ⟨i + 1, s1, by omega, by omega, by go_num, congrArg (Value.int .i64) (by omega), by omega, by omega, HG2.out, HO2.out, HL2.out, HD5, HB5⟩
          case measure => simp [intOf]; omega
        · rw [he]
          have FD2 := FD
          have HG2 := Aside0.mk (HKF.out.2.1.trans HG.out)
          have HO2 := Aside0.mk HKF.out.1
          have HL2 := Aside0.mk (show s1.cache.length ≤ i + 1 by have := HKF.out.2.2; omega)
          clear FD hrd hkf he HOK HG
          obtain ⟨hc0, hc1, hc2⟩ := HCELL.out _ FB.out
          go_wp2_with fail
          refine (read_any w.heap.size g (s1) (fa i) _ FD2.out).mono ?_
          rintro e w5 ⟨v5, rfl, hR5, hB5⟩
          have HB5 := Aside0.mk (below_step FB.out hB5)
          have HD5 := Aside0.mk (disk_below FD2.out hB5)
          have hW5 := Kd.R_below FW.out hB5
          clear hc0 hc1 hc2
          rw [HRD.out] at hR5
          have hcv1 := own_string (P := Try.prog) Try.underlying29 Try.underlying5 Try.underlying9 (Kd.own_of_R hR5)
          have hcv2 := own_string (P := Try.prog) Try.underlying29 Try.underlying5 Try.underlying9 (Kd.own_of_R hW5)
          clear hR5 hW5 hB5 FD2 FB FW
          go_wp2
          go_roundw
          case rel => exact ⟨i + 1, s1, by omega, by omega, by go_num, congrArg (Value.int .i64) (by omega), by omega, by omega, HG2.out, HO2.out, HL2.out, HD5, HB5⟩
          case measure => simp [intOf]; omega
    · have hB : Below w.heap.size w wr := FB.out
      by_cases hl1 : i < n
      · have hl2 : ¬ (i : Int) < 50 := by omega
        have hl3 : decide ((i : Int) < 50) = false := decide_eq_false hl2
        clear hB
        have hcr := crashed_len 0 0 0 s.good s.cache s.cache.length
        go_wp2_with fail
        refine (crash_walk w.heap.size g s 0 0 0 _ HD.out HOK.out.inr).mono ?_
        rintro e w3 ⟨rfl, hD3, hK3⟩
        have HB3 := Aside0.mk (below_keep FB.out FB.out.size hK3)
        obtain ⟨s3, hs3⟩ : ∃ z : St, ({ good := crashed 0 0 0 s.good s.cache s.cache.length, cache := [], fuse := -1 } : St) = z := ⟨_, rfl⟩
        have hg3 : s3.good.length = 8 ∧ s3.cache = [] ∧ s3.fuse = -1 := by rw [← hs3]; exact ⟨hcr.trans HG.out, rfl, rfl⟩
        rw [hs3] at hD3
        have HD3 := Aside0.mk hD3
        have HG3 := Aside0.mk hg3
        clear HD FB hD3 hK3 hs3 hg3 hcr HOK HG
        go_wp2_with fail
        refine (awake_walk _).mono ?_
        rintro e w4 ⟨rfl, hB4⟩
        have HD4 := Aside0.mk (disk_below HD3.out hB4)
        have HB4 := Aside0.mk (below_step HB3.out hB4)
        clear HD3 HB3 hB4
        go_wp2_with fail
        refine (prebendlaw05_sector.calls 40 1 (List.replicate 32 1) _ sector_one).mono ?_
        rintro e w5 ⟨v5, rfl, hR5, hB5⟩
        obtain ⟨A5, c5, hv5⟩ := Kd.R_slice hR5
        subst hv5
        have HD5 := Aside0.mk (disk_below HD4.out hB5)
        have HB5 := Aside0.mk (below_step HB4.out hB5)
        have HR5 := Aside0.mk hR5
        clear HD4 HB4 hR5 hB5
        go_wp2_with fail
        obtain ⟨hw1, hw2, hw3⟩ := after_crash s3 HG3.out.1 HG3.out.2.1 HG3.out.2.2
        have HW3 := Aside0.mk hw3
        have HF1 := Aside0.mk (show s3.fuse ≤ 9223372036854775807 by rw [HG3.out.2.2]; decide)
        have HF2 := Aside0.mk (show (s3.cache.length + 1) * 40 ≤ 140737488355328 by rw [HG3.out.2.1]; decide)
        refine (write_walk w.heap.size g s3 0 A5 c5 (List.replicate 32 1) _ HD5.out HF1.out HF2.out HB5.out.size (row_src HR5.out _)).mono ?_
        rintro e w6 ⟨rfl, hD6, hK6⟩
        rw [hw1]
        have HD6 := Aside0.mk hD6
        have HB6 := Aside0.mk (below_keep HB5.out HB5.out.size hK6)
        clear HD5 HB5 HR5 hD6 hK6 hw1
        go_wp2_with fail
        refine (flush_any w.heap.size g _ _ HD6.out HW3.out.1 HW3.out.2).mono ?_
        rintro e w7 ⟨rfl, hD7, hK7⟩
        rw [hw2]
        have HB7 := Aside0.mk (below_keep HB6.out HB6.out.size hK7)
        clear HD6 HB6 hD7 hK7 hw2
        go_wp2
        go_ret
        exact ⟨rfl, HB7.out⟩
      · have hl3 : decide (i < n) = false := decide_eq_false hl1
        clear hB
        have hcr := crashed_len 0 0 0 s.good s.cache s.cache.length
        go_wp2_with fail
        refine (crash_walk w.heap.size g s 0 0 0 _ HD.out HOK.out.inr).mono ?_
        rintro e w3 ⟨rfl, hD3, hK3⟩
        have HB3 := Aside0.mk (below_keep FB.out FB.out.size hK3)
        obtain ⟨s3, hs3⟩ : ∃ z : St, ({ good := crashed 0 0 0 s.good s.cache s.cache.length, cache := [], fuse := -1 } : St) = z := ⟨_, rfl⟩
        have hg3 : s3.good.length = 8 ∧ s3.cache = [] ∧ s3.fuse = -1 := by rw [← hs3]; exact ⟨hcr.trans HG.out, rfl, rfl⟩
        rw [hs3] at hD3
        have HD3 := Aside0.mk hD3
        have HG3 := Aside0.mk hg3
        clear HD FB hD3 hK3 hs3 hg3 hcr HOK HG
        go_wp2_with fail
        refine (awake_walk _).mono ?_
        rintro e w4 ⟨rfl, hB4⟩
        have HD4 := Aside0.mk (disk_below HD3.out hB4)
        have HB4 := Aside0.mk (below_step HB3.out hB4)
        clear HD3 HB3 hB4
        go_wp2_with fail
        refine (prebendlaw05_sector.calls 40 1 (List.replicate 32 1) _ sector_one).mono ?_
        rintro e w5 ⟨v5, rfl, hR5, hB5⟩
        obtain ⟨A5, c5, hv5⟩ := Kd.R_slice hR5
        subst hv5
        have HD5 := Aside0.mk (disk_below HD4.out hB5)
        have HB5 := Aside0.mk (below_step HB4.out hB5)
        have HR5 := Aside0.mk hR5
        clear HD4 HB4 hR5 hB5
        go_wp2_with fail
        obtain ⟨hw1, hw2, hw3⟩ := after_crash s3 HG3.out.1 HG3.out.2.1 HG3.out.2.2
        have HW3 := Aside0.mk hw3
        have HF1 := Aside0.mk (show s3.fuse ≤ 9223372036854775807 by rw [HG3.out.2.2]; decide)
        have HF2 := Aside0.mk (show (s3.cache.length + 1) * 40 ≤ 140737488355328 by rw [HG3.out.2.1]; decide)
        refine (write_walk w.heap.size g s3 0 A5 c5 (List.replicate 32 1) _ HD5.out HF1.out HF2.out HB5.out.size (row_src HR5.out _)).mono ?_
        rintro e w6 ⟨rfl, hD6, hK6⟩
        rw [hw1]
        have HD6 := Aside0.mk hD6
        have HB6 := Aside0.mk (below_keep HB5.out HB5.out.size hK6)
        clear HD5 HB5 HR5 hD6 hK6 hw1
        go_wp2_with fail
        refine (flush_any w.heap.size g _ _ HD6.out HW3.out.1 HW3.out.2).mono ?_
        rintro e w7 ⟨rfl, hD7, hK7⟩
        rw [hw2]
        have HB7 := Aside0.mk (below_keep HB6.out HB6.out.size hK7)
        clear HD6 HB6 hD7 hK7 hw2
        go_wp2
        go_ret
        exact ⟨rfl, HB7.out⟩
end Go.Proofs.Ytmpiljfpgfhljaa.XDisk
