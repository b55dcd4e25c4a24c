import Derived.Test.YtmpiljfpgfhljaaProg
import Derived.Test.YtmpiljfpgfhljaaWMore
import Derived.WalkKit
import Derived.WalkSpells
import Derived.KernelRfl
import Derived.Outline
import Derived.WalkMore
import Derived.Lib.Hide
namespace Go.Proofs.Ytmpiljfpgfhljaa.XSlices
set_option linter.unusedVariables false
open Go.RowKit Go.Proofs.YtmpiljfpgfhljaaW.PrintWords Go.Proofs.YtmpiljfpgfhljaaW.PrintLast Go.Proofs.YtmpiljfpgfhljaaW.PrintMore
theorem info_u8 : (Try.prog.info? 5).map (fun i => (i.zero, i.size, i.bytes)) = some (some (.int .u8 0), 1, 1) := by kernel_rfl
set_option maxHeartbeats 400000 in
theorem clip_walk (A : Option Addr) (c : Nat) (l : List Int) (w : World) (hl : l.length ≤ c) (hm : l.length ≤ 9223372036854775807) : Calls Try.prog 47 #[.slice A l.length c] w fun e w' => e = .returned (.slice A l.length l.length) ∧ w = w' := by
  have h1 : (l.length : Int) ≤ (c : Int) := by omega
  have h0 : (0 : Int) ≤ (l.length : Int) := by omega
  go_enter Try.func47, Try.ntmps47
  go_wp2
  go_ret
  exact ⟨rfl, rfl⟩
set_option maxHeartbeats 400000 in
theorem grow_walk (n : Int) (w : World) (h0 : 0 ≤ n) (hn : n ≤ 70368744177664) : Calls Try.prog 57 #[.slice none 0 0, .int .i64 n] w fun e w' => ∃ v, e = .returned v ∧ Kd.R (Kd.int .u8) 5 w' w.heap.size (fun _ => True) v [] ∧ Below w.heap.size w w' := by
  by_cases hz : n = 0
  · subst hz
    go_enter Try.func57, Try.ntmps57
    go_wp2
    go_ret
    exact ⟨_, rfl, Kd.R_nil _ _ _ _ _, Below.refl _ _⟩
  · have h1 : 0 < n := by omega
    go_enter Try.func57, Try.ntmps57
    go_wp2_with (at_builtin; refine Kd.R_append_zeros (Kd.int .u8) (w0 := w) w.heap.size rfl (.tmp 20) (.tmp 21) 29 3 5 (.int .u8 0) 1 rfl Try.underlying29 Try.underlying3 info_u8 rfl (by decide) (by decide) (.slice none 0 0) [] 0 n (fun _ => True) rfl rfl rfl (fun _ _ => trivial) (Kd.R_nil _ _ _ _ _) h0 (Below.refl _ _) (Nat.le_refl _) (by simp only [List.length_nil]; omega) ?_; intro v1 w1 hR hb _ _; obtain ⟨A1, c1, rfl⟩ := Kd.R_slice hR)
    go_ret
    exact ⟨_, rfl, Kd.R_take (m := 0) hR (Nat.zero_le _), hb⟩
/-- A row of rows of bytes, read. -/
theorem at_rows {w : World} {A : Option Addr} {ls : List (List Int)} (h : Kd.C (Kd.slice 5 (Kd.int .u8)) w A ls.length ls) (i : Nat) (hi : i < ls.length) :
    ∃ ad Ai ci, A = some ad ∧ w.cell? (ad.add i) = some (.slice Ai ls[i].length ci) ∧ ls[i].length ≤ ci ∧ (Kd.int .u8).C w Ai ls[i].length ls[i] := by
  obtain ⟨ad, c, e, _, hK, hc⟩ := Kd.C_get h [] (i : Int) (by omega) (by omega)
  rw [Int.toNat_natCast, List.getD_eq_getElem?_getD, List.getElem?_eq_getElem hi] at hK
  obtain ⟨Ai, ci, rfl, hl, hr⟩ := hK
  refine ⟨ad, Ai, ci, e, ?_, hl, hr⟩
  have := hc 0 _ rfl
  rw [Int.toNat_natCast] at this
  simpa [Kd.slice] using this
def total (ls : List (List Int)) : Nat := (ls.map List.length).sum
theorem total_snoc (ls : List (List Int)) (i : Nat) (h : i < ls.length) : total (ls.take (i + 1)) = total (ls.take i) + ls[i].length := by
  unfold total
  rw [List.take_succ_eq_append_getElem h, List.map_append, List.sum_append]
  simp only [List.map_cons, List.map_nil, List.sum_cons, List.sum_nil, Nat.add_zero]
theorem total_le (ls : List (List Int)) (i : Nat) : total (ls.take i) ≤ total ls := by
  have h : total ls = total (ls.take i) + total (ls.drop i) := by
    unfold total
    rw [← List.sum_append, ← List.map_append, List.take_append_drop]
  omega
theorem flat_snoc (ls : List (List Int)) (i : Nat) (h : i < ls.length) : (ls.take (i + 1)).flatten = (ls.take i).flatten ++ ls[i] := by
  rw [List.take_succ_eq_append_getElem h, List.flatten_append]
  simp only [List.flatten_cons, List.flatten_nil, List.append_nil]
theorem flat_len (ls : List (List Int)) : ls.flatten.length = total ls := by simp [total, List.length_flatten]
set_option maxHeartbeats 1000000 in
theorem concat_walk (A : Option Addr) (c : Nat) (ls : List (List Int)) (w : World) (hr : Kd.C (Kd.slice 5 (Kd.int .u8)) w A ls.length ls) (hs : total ls ≤ 70368744177664) :
    Calls Try.prog 45 #[.slice A ls.length c] w fun e w' => ∃ v, e = .returned v ∧ Kd.R (Kd.int .u8) 5 w' w.heap.size (fun _ => True) v ls.flatten ∧ Below w.heap.size w w' := by
  have hm := hr.2.1
  go_enter Try.func45, Try.ntmps45
  go_wp2
  go_loop [3, 11] (fun v3 v11 => ∃ i : Nat, i ≤ ls.length ∧ v11 = .int .i64 i ∧ v3 = .int .i64 (total (ls.take i) : Nat)) (fun _ v11 => ls.length - (intOf v11).toNat)
  case atStart => exact ⟨0, Nat.zero_le _, rfl, rfl⟩
  case round =>
    obtain ⟨i, hi, rfl, rfl⟩ := hrel
    by_cases hlt : i < ls.length
    · obtain ⟨ad, Ai, ci, rfl, hcell, hli, hri⟩ := at_rows hr i hlt
      have ht := total_snoc ls i hlt
      have hle := total_le ls (i + 1)
      rw [ht] at hle
      have HT := Lib.hid ht
      clear ht
      generalize total (ls.take i) = T at *
      generalize ls[i].length = m at *
      go_wp2
      exact ⟨⟨i + 1, by omega, by go_num, by rw [HT.out]; go_num⟩, by simp [intOf]; omega⟩
    · obtain rfl : i = ls.length := by omega
      have hT : total (ls.take ls.length) = total ls := by rw [List.take_length]
      have HT := Lib.hid hT
      rw [hT]
      clear hT
      have h0 : (0 : Int) ≤ ((total ls : Nat) : Int) := by omega
      go_wp2_with (go_at_call 57; refine (grow_walk _ _ (by omega) (by omega)).mono ?_; rintro e w1 ⟨v, rfl, hR, hB⟩)
      clear HT
      go_loopw [6, 27] (fun v6 v27 wr => ∃ i : Nat, i ≤ ls.length ∧ v27 = .int .i64 i ∧ Kd.R (Kd.int .u8) 5 wr w.heap.size (fun _ => True) v6 (ls.take i).flatten ∧ Below w.heap.size w wr) (fun _ v27 _ => ls.length - (intOf v27).toNat)
      case atStart => exact ⟨0, Nat.zero_le _, rfl, hR, hB⟩
      case round =>
        obtain ⟨i, hi, rfl, hRi, hBi⟩ := hrel
        by_cases hlt : i < ls.length
        · obtain ⟨ad, Ai, ci, hA, hcell, hli, hri⟩ := at_rows (Kd.C_below hr hBi) i hlt
          subst hA
          have ht := total_snoc ls i hlt
          have hle := total_le ls (i + 1)
          rw [ht] at hle
          have hfl : (ls.take i).flatten.length = total (ls.take i) := flat_len _
          have hlim : ((ls.take i).flatten.length + ls[i].length) * 1 ≤ 140737488355328 := by omega
          have HF := Lib.hid (flat_snoc ls i hlt)
          clear ht hle hfl
          generalize ls[i] = l at *
          generalize (ls.take i).flatten = done at *
          go_wp2_with (at_builtin; refine Kd.R_append_row (Value.int .u8) (0 : Int) (h1 := fun _ => rfl) (w0 := w) w.heap.size rfl (.tmp 31) (.tmp 32) 29 5 (.int .u8 0) 1 rfl Try.underlying29 info_u8 rfl (by decide) u6 done l Ai _ ci (fun _ => True) rfl rfl (fun _ _ => trivial) hRi hri hBi hBi.size hlim ?_; intro v1 w1 hR1 hB1 _ _)
          exact ⟨⟨i + 1, by omega, by go_num, by rw [HF.out]; exact hR1, hB1⟩, by simp [intOf]; omega⟩
        · obtain rfl : i = ls.length := by omega
          rw [List.take_length] at hRi
          go_wp2
          go_ret
          exact ⟨_, rfl, hRi, hBi⟩
set_option maxHeartbeats 400000 in
set_option maxRecDepth 100000 in
/-- slices.Clone of bytes: new memory (nil of nil). -/
theorem clone_walk (A : Option Addr) (c : Nat) (l : List Int) (w : World) (hr : Kd.C (Kd.int .u8) w A l.length l) (hs : l.length ≤ 140737488351232) :
    Calls Try.prog 36 #[.slice A l.length c] w fun e w' => ∃ v, e = .returned v ∧ Kd.R (Kd.int .u8) 5 w' w.heap.size (fun _ => True) v l ∧ Below w.heap.size w w' := by
  have hn := fun (w : World) (a : Option Addr) (n c n' c' : Nat) => Lib.run_eql_slice_nil (P := Try.prog) w 29 5 a n c n' c' Try.underlying29
  cases A with
  | none =>
    have hz : l = [] := by
      cases l with
      | nil => rfl
      | cons x l => obtain ⟨ad, h, _⟩ := hr.2.2 (by simp); cases h
    subst hz
    go_enter Try.func36, Try.ntmps36
    go_wp2
    go_ret
    exact ⟨_, rfl, Kd.R_nil _ _ _ _ _, Below.refl _ _⟩
  | some ad =>
    go_enter Try.func36, Try.ntmps36
    go_wp2_with (first
      | ((with_reducible refine gate_dst (N := 5) rfl ?_); refine Kd.R_lit (Kd.int .u8) w.heap.size 5 ?hg (N := 5) ?hd (xs := []) (inner := []) (ok := fun _ => True) (okp := fun _ => True) ?hr ?hp (fun _ hk => hk) trivial (Below.refl _ _) (Nat.le_refl _) (by simp) ?_; (case hd => rfl); (case hg => rfl); (case hr => first | (go_simp; done) | (go_simp; rfl)); (case hp => exact (Reps.none _ _)); intro v1 w1 hR1 hB1 _ _)
      | (at_builtin; refine Kd.R_append_row (Value.int .u8) (0 : Int) (h1 := fun _ => rfl) (w0 := w) w.heap.size rfl (.tmp 5) (.tmp 6) 29 5 (.int .u8 0) 1 rfl Try.underlying29 info_u8 rfl (by decide) v1 [] l (some ad) _ c (fun _ => True) rfl rfl (fun _ _ => trivial) hR1 (Kd.C_below hr hB1) hB1 hB1.size (by simp only [List.length_nil]; omega) ?_; intro v2 w2 hR2 hB2 _ _))
    go_ret
    exact ⟨_, rfl, hR2, hB2⟩
end Go.Proofs.Ytmpiljfpgfhljaa.XSlices
