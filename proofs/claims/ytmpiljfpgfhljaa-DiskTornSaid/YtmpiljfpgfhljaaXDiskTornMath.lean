/-
  What a crash leaves of each sector (plain): as it was for good, or as it was written, but for one that is torn.
-/
import Derived.Laws.CopyOwn
import Derived.ArgAppend
import Derived.Below
import Derived.BigQuiet
import Derived.Deep.AppendLies
import Derived.Deep.CutBlock
import Derived.Deep.DeepCutAuto
import Derived.Deep.Draws
import Derived.Deep.LoopGhost
import Derived.Deep.OwnRows
import Derived.Deep.QuietTactic
import Derived.Deep.RegionHeld3
import Derived.Deep.WholeRow
import Derived.KernelRfl
import Derived.Laws.BitsLemmas
import Derived.Laws.BytesArg
import Derived.Laws.IdiomCopy
import Derived.Laws.MakeOwn
import Derived.Laws.OwnMore
import Derived.Laws.Rows
import Derived.Laws.Slices
import Derived.Lib.AppendStr
import Derived.Lib.ConvBytes
import Derived.Lib.Hide
import Derived.Maps.AppendAt
import Derived.OrdersHeld
import Derived.Outline
import Derived.OwnWalk
import Derived.RowKit
import Derived.RowKit3
import Derived.Tactics
import Derived.WalkKit
import Derived.WideLaws
import Derived.Test.YtmpiljfpgfhljaaProg
import Derived.Test.YtmpiljfpgfhljaaWApart
import Derived.Test.YtmpiljfpgfhljaaWArr
import Derived.Test.YtmpiljfpgfhljaaWAt
import Derived.Test.YtmpiljfpgfhljaaWEqStruct
import Derived.Test.YtmpiljfpgfhljaaWFoot
import Derived.Test.YtmpiljfpgfhljaaWFootNe
import Derived.Test.YtmpiljfpgfhljaaWFour
import Derived.Test.YtmpiljfpgfhljaaWGuard
import Derived.Test.YtmpiljfpgfhljaaWInv
import Derived.Test.YtmpiljfpgfhljaaWInvWords
import Derived.Test.YtmpiljfpgfhljaaWKept
import Derived.Test.YtmpiljfpgfhljaaWLast
import Derived.Test.YtmpiljfpgfhljaaWMore
import Derived.Test.YtmpiljfpgfhljaaWN
import Derived.Test.YtmpiljfpgfhljaaWNEv
import Derived.Test.YtmpiljfpgfhljaaWQPut
import Derived.Test.YtmpiljfpgfhljaaWRepsOne
import Derived.Test.YtmpiljfpgfhljaaWShare
import Derived.Test.YtmpiljfpgfhljaaWTab
import Derived.Test.YtmpiljfpgfhljaaWWords
import Derived.Test.YtmpiljfpgfhljaaWZeros
import Derived.Test.YtmpiljfpgfhljaaXSlices

import Derived.Test.YtmpiljfpgfhljaaXDiskMade
namespace Go.Proofs.Ytmpiljfpgfhljaa.XDisk
open Go.RowKit Go.Proofs.YtmpiljfpgfhljaaW.PrintWords Go.Proofs.YtmpiljfpgfhljaaW.PrintLast Go.Proofs.YtmpiljfpgfhljaaW.PrintMore
set_option linter.unusedVariables false
set_option linter.unusedSimpArgs false
theorem once_ne : ∀ {xs : List (Int × List Int)}, Once xs → ∀ p q (hp : p < xs.length) (hq : q < xs.length), p ≠ q → (xs[p]).1 ≠ (xs[q]).1
  | [], _, p, q, hp, _, _ => absurd hp (Nat.not_lt_zero _)
  | x :: xs, h, 0, 0, _, _, hn => absurd rfl hn
  | x :: xs, h, 0, q + 1, _, hq, _ => fun e => h.1 _ (List.getElem_mem (by simpa using hq)) e.symm
  | x :: xs, h, p + 1, 0, hp, _, _ => fun e => h.1 _ (List.getElem_mem (by simpa using hp)) e
  | x :: xs, h, p + 1, q + 1, hp, hq, hn => once_ne h.2 p q (by simpa using hp) (by simpa using hq) (fun e => hn (by rw [e]))
/-- Between two places nobody touches the sector. -/
theorem crashed_between (keep torn cut : Int) (good : List (List Int)) (cs : List (Int × List Int)) (i : Nat) (j : Nat) : ∀ d, (∀ p, j ≤ p → p < j + d → 0 ≤ (cs.getD p (0, [])).1 ∧ (cs.getD p (0, [])).1 ≠ (i : Int)) →
    (crashed keep torn cut good cs (j + d)).getD i [] = (crashed keep torn cut good cs j).getD i []
  | 0, _ => rfl
  | d + 1, h => by
    show (hit keep torn cut (j + d) (cs.getD (j + d) (0, [])) (crashed keep torn cut good cs (j + d))).getD i [] = _
    have hp := h (j + d) (by omega) (by omega)
    rw [hit_other _ _ _ _ _ _ _ hp.1 hp.2]
    exact crashed_between keep torn cut good cs i j d (fun p h1 h2 => h p h1 (by omega))
theorem crash_at (s : St) (keep torn cut : Int) (hok : Ok s) (q : Nat) (hq : q < s.good.length) :
    readB (Crash s keep torn cut) q = s.good.getD q [] ∨ readB (Crash s keep torn cut) q = readB s q ∨
      ((∃ k, ∃ hk : k < s.cache.length, (k : Int) = torn ∧ (s.cache[k]).1 = (q : Int)) ∧ readB (Crash s keep torn cut) q = mixed (s.good.getD q []) (readB s q) (cutAt cut)) := by
  have hh : has s q = true := by unfold has; rw [Bool.and_eq_true]; exact ⟨decide_eq_true (by omega), decide_eq_true (by omega)⟩
  have hnow : readB s q = if 0 ≤ locF (q : Int) s.cache 0 then (s.cache.getD (locF (q : Int) s.cache 0).toNat (0, [])).2 else s.good.getD q [] := by
    unfold readB nowAt; rw [hh, if_pos rfl, Int.toNat_natCast]
  rw [readB_bare (Crash s keep torn cut) q rfl (by show q < (crashed _ _ _ _ _ _).length; rw [crashed_len]; exact hq)]
  show (crashed keep torn cut s.good s.cache s.cache.length).getD q [] = _ ∨ (crashed keep torn cut s.good s.cache s.cache.length).getD q [] = _ ∨ (_ ∧ (crashed keep torn cut s.good s.cache s.cache.length).getD q [] = _)
  rcases locF_range (q : Int) s.cache 0 with hl | ⟨j, hj, hl, hi⟩
  · left
    exact crashed_other _ _ _ _ _ _ (fun x hx => (hok.inr x hx).1) (locF_none hl) _ (Nat.le_refl _)
  · have hx : s.cache.getD j (0, []) = s.cache[j] := by rw [List.getD_eq_getElem?_getD, List.getElem?_eq_getElem hj]; rfl
    have hoth : ∀ p, p < s.cache.length → p ≠ j → 0 ≤ (s.cache.getD p (0, [])).1 ∧ (s.cache.getD p (0, [])).1 ≠ (q : Int) := fun p hp hne => by
      have hg : s.cache.getD p (0, []) = s.cache[p] := by rw [List.getD_eq_getElem?_getD, List.getElem?_eq_getElem hp]; rfl
      rw [hg]
      exact ⟨(hok.inr _ (List.getElem_mem hp)).1, fun e => once_ne hok.once p j hp hj hne (e.trans hi.symm)⟩
    have h1 := crashed_between keep torn cut s.good s.cache q 0 j (fun p _ hp => hoth p (by omega) (by omega))
    rw [Nat.zero_add] at h1
    have h2 := crashed_between keep torn cut s.good s.cache q (j + 1) (s.cache.length - (j + 1)) (fun p hp hp2 => hoth p (by omega) (by omega))
    rw [show j + 1 + (s.cache.length - (j + 1)) = s.cache.length from by omega] at h2
    have h0 : (crashed keep torn cut s.good s.cache 0).getD q [] = s.good.getD q [] := rfl
    rw [h0] at h1
    have hlen := crashed_len keep torn cut s.good s.cache j
    have hnw : readB s q = (s.cache[j]).2 := by rw [hnow, hl, if_pos (by omega), show ((0 + j : Nat) : Int).toNat = j from by omega, hx]
    have h3 : (crashed keep torn cut s.good s.cache (j + 1)) = hit keep torn cut j s.cache[j] (crashed keep torn cut s.good s.cache j) := by
      show hit _ _ _ _ (s.cache.getD j (0, [])) _ = _; rw [hx]
    rw [h2, h3]
    have hq' : (s.cache[j]).1.toNat = q := by rw [hi]; exact Int.toNat_natCast q
    have hset : ∀ b, ((crashed keep torn cut s.good s.cache j).set q b).getD q [] = b := fun b => by
      rw [List.getD_eq_getElem?_getD, List.getElem?_set_self (by omega)]; rfl
    unfold hit
    rw [hq']
    split
    · rename_i ht
      right; right
      exact ⟨⟨j, hj, ht, hi⟩, by rw [hset, h1, hnw]⟩
    · split
      · right; left; rw [hset, hnw]
      · left; exact h1
/-- Two sectors are not both torn. -/
theorem torn_one {s : St} {torn : Int} {q r : Nat} (hq : ∃ k, ∃ hk : k < s.cache.length, (k : Int) = torn ∧ (s.cache[k]).1 = (q : Int)) (hr : ∃ k, ∃ hk : k < s.cache.length, (k : Int) = torn ∧ (s.cache[k]).1 = (r : Int)) : q = r := by
  obtain ⟨k, hk, h1, h2⟩ := hq
  obtain ⟨k', hk', h1', h2'⟩ := hr
  obtain rfl : k = k' := by omega
  omega
/-- Of a torn sector: where it is not as it was written any more, the rest is as it was for good. -/
theorem mixed_drop (old new : List Int) (c k : Nat) (h : c ≤ k) (hn : c ≤ new.length) : (mixed old new c).drop k = old.drop k := by
  unfold mixed
  have hl : (new.take c).length = c := by rw [List.length_take]; omega
  rw [List.drop_append, List.drop_of_length_le (by omega), List.nil_append, List.drop_drop, hl]
  congr 1; omega
theorem mixed_get (old new : List Int) (c k : Nat) (h : k < c) (hn : c ≤ new.length) : (mixed old new c).getD k 0 = new.getD k 0 := by
  unfold mixed
  rw [List.getD_eq_getElem?_getD, List.getElem?_append_left (by rw [List.length_take]; omega), List.getElem?_take_of_lt h, List.getD_eq_getElem?_getD]
/-! ### two rows of rows, apart -/
theorem R_empty2 {α : Type} (d : Kd α) (W : World) (base e : Nat) (ok : Nat → Prop) (hb : base ≤ W.heap.size) (hok : ok W.heap.size) : d.R e (W.alloc (.cells #[] e)) base ok (.slice (some ⟨W.heap.size, 0, none⟩) 0 0) [] := by
  have h2 := World.ownsRow_lit (base := base) (e := e) (size := d.sz) W #[] 0 hb (by decide) (by simp)
  refine ⟨fun k hk => ?_, [], by simpa using h2, Reps.none _ _⟩
  have : W.heap.size = k := by simpa [Value.ownBlock] using hk
  subst this
  exact hok
theorem rows_apart {w : World} {base base' : Nat} {vo vn : Value} {xs ys : List (List Int)} (ho : rowsK.R 29 w base (fun _ => True) vo xs) (hn : rowsK.R 29 w base' (fun k => True ∧ some k ≠ vo.ownBlock) vn ys) :
    rowsK.R 29 w base (fun k => True ∧ some k ≠ vn.ownBlock) vo xs := by
  obtain ⟨h0, inner, hown, hr⟩ := ho
  refine ⟨fun k hk => ⟨trivial, fun e => (hn.1 k e.symm).2 hk.symm⟩, inner, hown, hr.imp_ (fun x cs hM => ?_)⟩
  refine rowsK.M_mono (fun k hk => ⟨⟨trivial, fun e => ?_⟩, hk.1.2⟩) (rowsK.M_bound hM)
  obtain ⟨-, -, -, q, hq, cells, hc⟩ := hk
  obtain ⟨cells', hc'⟩ := own_typed hn.2.choose_spec.1 k e.symm
  rw [hc] at hc'
  injection hc' with hc'
  injection hc' with _ h5 _
  simp [rowsK, Kd.slice, Kd.int, Kd.scalar] at hq
  rw [hq] at h5
  exact absurd h5 (by decide)
/-! ### what the law asks of a sector behind the crash -/
theorem readB_len {base g : Nat} {w : World} {s : St} (h : DiskAt base w g s) (q : Nat) (hq : q < s.good.length) : (readB s q).length = 32 := by
  have hh : has s q = true := by unfold has; rw [Bool.and_eq_true]; exact ⟨decide_eq_true (by omega), decide_eq_true (by omega)⟩
  obtain ⟨vg, vc, -, -, h3, h4⟩ := h
  unfold readB nowAt
  rw [hh, if_pos rfl]
  rcases locF_range (q : Int) s.cache 0 with hl | ⟨j, hj, hl, hi⟩
  · rw [hl, if_neg (by decide), Int.toNat_natCast]
    obtain ⟨gb, cg, -, -, -, hcc⟩ := R_front h3 (by omega)
    obtain ⟨cs, -, hK, -⟩ := hcc q hq
    rw [List.getD_eq_getElem?_getD, List.getElem?_eq_getElem hq]
    exact (secK_K hK).1
  · rw [hl, if_pos (by omega), show ((0 + j : Nat) : Int).toNat = j from by omega, List.getD_eq_getElem?_getD, List.getElem?_eq_getElem hj]
    obtain ⟨gb, cg, -, -, -, hcc⟩ := R_front h4 (by omega)
    obtain ⟨cs, -, hK, -⟩ := hcc j hj
    exact (cacK_K hK).1
/-- The sector that is torn, if there is one. -/
def TornAt (s : St) (torn : Int) (q : Nat) : Prop := ∃ k, ∃ hk : k < s.cache.length, (k : Int) = torn ∧ (s.cache[k]).1 = (q : Int)
/-- A sector behind the crash: as it was, as it was written, or torn; then behind the first byte that is not as it was written it is as it was. -/
theorem torn_law_at (s s3 : St) (keep torn cut : Int) (hok : Ok s) (hg : s.good = s3.good) (hc3 : s3.cache = []) (q : Nat) (hq : q < s3.good.length) (hlen : (readB s q).length = 32) :
    (readB (Crash s keep torn cut) q = readB s3 q ∨ readB (Crash s keep torn cut) q = readB s q) ∨
      (TornAt s torn q ∧ ∀ k, (∀ j, j < k → (readB (Crash s keep torn cut) q).getD j 0 = (readB s q).getD j 0) → (k = 32 ∨ (readB (Crash s keep torn cut) q).getD k 0 ≠ (readB s q).getD k 0) → (readB (Crash s keep torn cut) q).drop k = (readB s3 q).drop k) := by
  have h3 : readB s3 q = s.good.getD q [] := by rw [readB_bare s3 q hc3 hq, hg]
  rcases crash_at s keep torn cut hok q (by rw [hg]; exact hq) with h | h | ⟨ht, h⟩
  · exact .inl (.inl (h.trans h3.symm))
  · exact .inl (.inr h)
  · refine .inr ⟨ht, fun k _ hk => ?_⟩
    rw [h, h3]
    have hct : cutAt cut ≤ 32 := by unfold cutAt mx mn; omega
    refine mixed_drop _ _ _ _ ?_ (by rw [hlen]; exact hct)
    rcases hk with rfl | hk
    · exact hct
    · rcases Nat.lt_or_ge k (cutAt cut) with hlt | hge
      · rw [h, mixed_get _ _ _ _ hlt (by rw [hlen]; exact hct)] at hk
        exact absurd rfl hk
      · exact hge
theorem readE_in (s : St) (q : Nat) (hq : q < s.good.length) : readE s q = 0 := by
  have hh : has s q = true := by unfold has; rw [Bool.and_eq_true]; exact ⟨decide_eq_true (by omega), decide_eq_true (by omega)⟩
  unfold readE; rw [hh, if_pos rfl]
/-- A row of rows, an element, and its room. -/
theorem rows_cap {base : Nat} {w : World} {v : Value} {rs : List (List Int)} (h : rowsK.R 29 w base (fun _ => True) v rs) (j : Nat) (hj : j < rs.length) :
    ∃ gw cw A c, v = .slice (some ⟨gw, 0, none⟩) rs.length cw ∧ w.cell? ⟨gw, j, none⟩ = some (.slice A (rs.getD j []).length c) ∧ (rs.getD j []).length ≤ c ∧ Kd.C (Kd.int .u8) w A (rs.getD j []).length (rs.getD j []) := by
  obtain ⟨gw, cw, rfl, -, -, hcc⟩ := R_front h (by omega)
  obtain ⟨cs, hl, hK, hcell⟩ := hcc j hj
  obtain ⟨A, c, hcs, hlc, hC⟩ := hK
  have h0 := hcell 0 _ (by rw [hcs]; rfl)
  rw [show j * rowsK.sz + 0 = j from Nat.mul_one j] at h0
  have hx : rs.getD j [] = rs[j] := by rw [List.getD_eq_getElem?_getD, List.getElem?_eq_getElem hj]; rfl
  rw [hx]
  exact ⟨gw, cw, A, c, rfl, h0, hlc, hC⟩
theorem info_u8 : (Try.prog.info? 5).map (fun i => (i.zero, i.size, i.bytes)) = some (some (.int .u8 0), 1, 1) := by kernel_rfl
/-- 'xs[k:]' of bytes, as a string. -/
theorem drop_string {w : World} {A : Option Addr} {c k : Nat} {xs : List Int} (h : Kd.C (Kd.int .u8) w A xs.length xs) (hk : k ≤ xs.length) (hc : xs.length ≤ c) :
    ∃ A' c', (∀ W : World, (Instr.slice 29 (.slice A xs.length c) (some (.int .i64 (k : Int))) none none).run Try.prog W = .ok (.slice A' (xs.length - k) c') W) ∧
      ∀ m, (convert 29 9 (.slice A' (xs.length - k) c')).run Try.prog (w.drewN m) = .ok (.string (strOfNums (xs.drop k))) (w.drewN m) := by
  obtain ⟨i, hi, _, hsz, _⟩ := info_parts info_u8
  refine ⟨_, _, fun W => cut_from (P := Try.prog) 29 5 .i64 Try.underlying29 hi 1 hsz A xs.length c (k : Int) (by omega) (by omega) W, fun m => ?_⟩
  have hd := Kd.C_drop (m := k) (c := c) h hk hc
  have := Kd.C_string (P := Try.prog) (c := c - k) Try.underlying29 Try.underlying5 Try.underlying9 (Kd.C_drewN hd m)
  rw [List.length_drop] at this
  exact this
theorem str_ne {a b : List Int} (h : ((strOfNums a).toList == (strOfNums b).toList) = false) : a ≠ b := fun e => by
  subst e
  rw [beq_self_eq_true] at h
  cases h
theorem torn_case {b od nw : List Int} {P : Prop} {Q : Nat → Prop} {R : Nat → Prop} (h : (b = od ∨ b = nw) ∨ (P ∧ ∀ k, Q k → R k → b.drop k = od.drop k)) (h1 : b ≠ od) (h2 : b ≠ nw) : P ∧ ∀ k, Q k → R k → b.drop k = od.drop k := by
  rcases h with (h | h) | h
  · exact absurd h h1
  · exact absurd h h2
  · exact h
theorem drop_string2 {w : World} {A : Option Addr} {c k n : Nat} {xs : List Int} (h : Kd.C (Kd.int .u8) w A n xs) (hn : xs.length = n) (hk : k ≤ n) (hc : n ≤ c) :
    ∃ A' c', (∀ W : World, (Instr.slice 29 (.slice A n c) (some (.int .i64 (k : Int))) none none).run Try.prog W = .ok (.slice A' (n - k) c') W) ∧
      ∀ m, (convert 29 9 (.slice A' (n - k) c')).run Try.prog (w.drewN m) = .ok (.string (strOfNums (xs.drop k))) (w.drewN m) := by
  subst hn
  exact drop_string h hk hc
end Go.Proofs.Ytmpiljfpgfhljaa.XDisk
