/-
  frame.data by its walk: what lies in the first sectors, if all of them bear one stamp.
-/
import Derived.Test.YtglpelhbncdkmaaProg
import Derived.Below
import Derived.Deep.Draws
import Derived.Deep.AppendLies
import Derived.Maps.AppendAt
import Derived.OwnWalk
import Derived.Laws.BytesArg
import Derived.Laws.MakeOwn
import Derived.Laws.OwnMore
import Derived.Deep.OwnRows
import Derived.Tactics
import Derived.Lib.ConvBytes
import Derived.Laws.Slices
import Derived.WalkKit
import Derived.KernelRfl
import Derived.RowKit3
import Derived.Deep.LoopGhost
import Derived.Deep.QuietTactic
import Derived.BigQuiet
import Derived.WideLaws
import Derived.Deep.DeepCutAuto
import Derived.Deep.CutBlock
import Derived.Deep.RegionHeld3
import Derived.Laws.Rows
import Derived.Lib.AppendStr
import Derived.ArgAppend
import Derived.Laws.IdiomCopy
import Derived.OrdersHeld
import Derived.Laws.BitsLemmas
import Derived.RowKit
import Derived.Test.YtglpelhbncdkmaaWWords
import Derived.Test.YtglpelhbncdkmaaWLast
import Derived.Test.YtglpelhbncdkmaaWTab
import Derived.Test.YtglpelhbncdkmaaWFour
import Derived.Test.YtglpelhbncdkmaaWQPut
import Derived.Test.YtglpelhbncdkmaaWApart
import Derived.Test.YtglpelhbncdkmaaWArr
import Derived.Test.YtglpelhbncdkmaaWZeros
import Derived.Test.YtglpelhbncdkmaaWFoot
import Derived.Test.YtglpelhbncdkmaaWKept
import Derived.Test.YtglpelhbncdkmaaWShare
import Derived.Test.YtglpelhbncdkmaaWN
import Derived.Test.YtglpelhbncdkmaaWFootNe
import Derived.Test.YtglpelhbncdkmaaWAt
import Derived.Test.YtglpelhbncdkmaaWEqStruct
import Derived.Test.YtglpelhbncdkmaaWRepsOne
import Derived.Test.YtglpelhbncdkmaaWInv
import Derived.Test.YtglpelhbncdkmaaWInvWords
import Derived.Test.YtglpelhbncdkmaaWGuard
import Derived.Test.YtglpelhbncdkmaaWNEv
import Derived.Test.YtglpelhbncdkmaaWMore
import Derived.Test.YtglpelhbncdkmaaXSlices
namespace Go.Proofs.Ytglpelhbncdkmaa.XData
open Go.RowKit Go.Proofs.YtglpelhbncdkmaaW.PrintWords Go.Proofs.YtglpelhbncdkmaaW.PrintLast Go.Proofs.YtglpelhbncdkmaaW.PrintMore
set_option linter.unusedVariables false
set_option linter.unusedSimpArgs false
theorem info5 : (Try.prog.info? 5).map (fun i => (i.zero, i.size, i.bytes)) = some (some (.int .u8 0), 1, 1) := XSlices.info_u8
/-! ### bytes_Equal: function -/
def bytes_Equal.f (l0 : List Int) (l1 : List Int) : Option (Bool) := some ((strOfNums l0).toList == (strOfNums l1).toList)
set_option maxHeartbeats 8000000 in
set_option maxRecDepth 100000 in
theorem bytes_Equal.calls (A0 : Option Addr) (c0 : Nat) (l0 : List Int) (A1 : Option Addr) (c1 : Nat) (l1 : List Int) (r : Bool) (w : World) (hr0 : Kd.C (Kd.int .u8) w A0 l0.length l0) (hc0 : l0.length ≤ c0) (hr1 : Kd.C (Kd.int .u8) w A1 l1.length l1) (hc1 : l1.length ≤ c1) (h : bytes_Equal.f l0 l1 = some r) :
    Calls Try.prog 51 #[.slice A0 l0.length c0, .slice A1 l1.length c1] w fun e w' => e = .returned (.bool r) ∧ Drawn0 w w' := by
  have HR0 := Aside0.mk hr0
  have HC0 := Aside0.mk hc0
  clear hr0 hc0
  have HR1 := Aside0.mk hr1
  have HC1 := Aside0.mk hc1
  clear hr1 hc1
  have H : (some ((strOfNums l0).toList == (strOfNums l1).toList)) = some r := h
  clear h
  obtain rfl := Option.some.inj H
  have hcv3 := Kd.C_string (P := Try.prog) (A := A0) (c := c0) Try.underlying23 Try.underlying5 Try.underlying9 HR0.out
  have hcv4 := Kd.C_string (P := Try.prog) (A := A1) (c := c1) Try.underlying23 Try.underlying5 Try.underlying9 HR1.out
  go_enter Try.func51, Try.ntmps51
  go_wp2
  go_ret
  exact ⟨by first | rfl | (simp; done) | (simp [*]; done), by repeat (first | exact Drawn0.refl _ | apply Drawn0.step)⟩

def eqB (a b : List Int) : Bool := (strOfNums a).toList == (strOfNums b).toList
def stampAt (l : List Int) (n : Nat) : List Int := (l.take (n * 32 + 32)).drop (n * 32 + 24)
def pieceAt (l : List Int) (n : Nat) : List Int := (l.take (n * 32 + 24)).drop (n * 32)
def dataOf (l : List Int) : Nat → List Int
  | 0 => []
  | n + 1 => dataOf l n ++ pieceAt l n
theorem dataOf_len (l : List Int) (n : Nat) (h : 32 * n ≤ l.length) : (dataOf l n).length = 24 * n := by
  induction n with
  | zero => rfl
  | succ n ih => rw [dataOf, List.length_append, ih (by omega), pieceAt, List.length_drop, List.length_take]; omega
def dataF (l : List Int) (m : Nat) : List Int := if (List.range m).all (fun n => eqB (stampAt l n) (stampAt l 0)) = true then dataOf l m else []
theorem dataF_all {l : List Int} {m : Nat} (h : ∀ i, i < m → eqB (stampAt l i) (stampAt l 0) = true) : dataF l m = dataOf l m := by
  unfold dataF; rw [if_pos (List.all_eq_true.2 (fun i hi => h i (List.mem_range.1 hi)))]
theorem dataF_not {l : List Int} {m n : Nat} (hn : n < m) (h : eqB (stampAt l n) (stampAt l 0) = false) : dataF l m = [] := by
  unfold dataF; rw [if_neg]; intro hh
  have := List.all_eq_true.1 hh n (List.mem_range.2 hn)
  rw [h] at this; cases this
theorem dataOf_succ (l : List Int) (n : Nat) : dataOf l (n + 1) = dataOf l n ++ pieceAt l n := rfl
theorem eq_f {a b : List Int} {r : Bool} (h : eqB a b = r) : bytes_Equal.f a b = some r := by rw [← h]; rfl
attribute [local irreducible] dataOf eqB
set_option maxHeartbeats 4000000 in
set_option maxRecDepth 100000 in
theorem data_walk (A : Option Addr) (c : Nat) (l : List Int) (m : Nat) (w : World) (hr : Kd.C (Kd.int .u8) w A l.length l) (hc : l.length ≤ c) (hm : 32 * m ≤ l.length) (hl : l.length ≤ 140737488351232) :
    Calls Try.prog 49 #[.slice A l.length c, .int .i64 (m : Int)] w fun e w' => ∃ v0_ : Value, e = .returned (v0_) ∧ Kd.R (Kd.int .u8) 5 w' w.heap.size (fun _ => True) v0_ (dataF l m) ∧ Below w.heap.size w w' := by
  obtain ⟨i5, hi5, _, hsz, _⟩ := info_parts info5
  have HLF := Aside0.mk (fun h => dataF_all (l := l) (m := m) h)
  have HLN := Aside0.mk (fun n hn h => dataF_not (l := l) (m := m) (n := n) hn h)
  generalize dataF l m = out at HLF HLN ⊢
  go_enter Try.func49, Try.ntmps49
  go_wp2
  go_loopw [5, 9] (fun v5 v9 wr => ∃ n : Nat, n ≤ m ∧ v9 = .int .i64 n ∧ (∀ i, i < n → eqB (stampAt l i) (stampAt l 0) = true) ∧ Kd.R (Kd.int .u8) 5 wr w.heap.size (fun _ => True) v5 (dataOf l n) ∧ Below w.heap.size w wr)
    (fun _ v9 _ => m - (intOf v9).toNat)
  case atStart => exact ⟨0, Nat.zero_le _, rfl, fun i hi => by omega, by unfold dataOf; exact Kd.R_nil _ _ _ _ _, Below.refl _ _⟩
  case round =>
    obtain ⟨n, hn, rfl, hall, hR, hB⟩ := hrel
    have HALL := Aside0.mk hall
    have HR := Aside0.mk hR
    have HB := Aside0.mk hB
    clear hall hR hB
    by_cases hlt : n < m
    · have p1 : (0 : Int) ≤ (n : Int) * 32 + 24 := by omega
      have p2 : (n : Int) * 32 + 24 ≤ (n : Int) * 32 + 32 := by omega
      have p3 : (n : Int) * 32 + 32 ≤ (l.length : Int) := by omega
      have p4 : (0 : Int) ≤ (n : Int) * 32 := by omega
      have p5 : (n : Int) * 32 ≤ (n : Int) * 32 + 24 := by omega
      have p6 : (n : Int) * 32 + 24 ≤ (l.length : Int) := by omega
      have p7 : (32 : Int) ≤ (l.length : Int) := by omega
      obtain ⟨A1, hcut1, hA1, hC1⟩ := print_mid_of (P := Try.prog) (Value.int .u8) 0 23 5 .i64 .i64 Try.underlying23 hi5 hsz A c l ((n : Int) * 32 + 24) ((n : Int) * 32 + 32) p1 p2 p3 hc
      obtain ⟨A2, hcut2, hA2, hC2⟩ := print_mid_of (P := Try.prog) (Value.int .u8) 0 23 5 .i64 .i64 Try.underlying23 hi5 hsz A c l 24 32 (by decide) (by decide) p7 hc
      obtain ⟨A3, hcut3, hA3, hC3⟩ := print_mid_of (P := Try.prog) (Value.int .u8) 0 23 5 .i64 .i64 Try.underlying23 hi5 hsz A c l ((n : Int) * 32) ((n : Int) * 32 + 24) p4 p5 p6 hc
      have R1 := Aside0.mk (Kd.C_of_reads (h1 := fun _ => rfl) (hA1 _ (Kd.reads_of_C (Kd.C_below hr HB.out))))
      have R2 := Aside0.mk (Kd.C_of_reads (h1 := fun _ => rfl) (hA2 _ (Kd.reads_of_C (Kd.C_below hr HB.out))))
      have R3 := Aside0.mk (Kd.C_of_reads (h1 := fun _ => rfl) (hA3 _ (Kd.reads_of_C (Kd.C_below hr HB.out))))
      clear hA1 hA2 hA3
      have q1 : ((n : Int) * 32 + 24).toNat = n * 32 + 24 := by omega
      have q2 : ((n : Int) * 32 + 32).toNat = n * 32 + 32 := by omega
      have q3 : ((n : Int) * 32).toNat = n * 32 := by omega
      have q4 : (32 : Int).toNat = 32 := rfl
      have q5 : (24 : Int).toNat = 24 := rfl
      rw [q1, q2] at R1 hC1
      rw [q4, q5] at R2 hC2
      rw [q1, q3] at R3 hC3
      simp only [q1, q2] at hcut1
      simp only [q4, q5] at hcut2
      simp only [q1, q3] at hcut3
      clear q1 q2 q3 q4 q5
      have S1 : stampAt l n = (l.take (n * 32 + 32)).drop (n * 32 + 24) := rfl
      have S2 : stampAt l 0 = (l.take 32).drop 24 := rfl
      have S3 : pieceAt l n = (l.take (n * 32 + 24)).drop (n * 32) := rfl
      have L3 : (pieceAt l n).length = 24 := by rw [S3, List.length_drop, List.length_take]; omega
      have LD := dataOf_len l n (by omega)
      rw [← S1] at R1 hC1 hcut1
      rw [← S2] at R2 hC2 hcut2
      rw [← S3] at R3 hC3 hcut3
      have hk : ((dataOf l n).length + (pieceAt l n).length) * 1 ≤ 140737488355328 := by rw [LD, L3]; omega
      have HD := Aside0.mk (show dataOf l (n + 1) = dataOf l n ++ pieceAt l n from dataOf_succ l n)
      clear S1 S2 S3 L3 LD
      cases hq : eqB (stampAt l n) (stampAt l 0) with
      | true =>
        have EQ := Aside0.mk (show bytes_Equal.f (stampAt l n) (stampAt l 0) = some true from eq_f hq)
        have HQ := Aside0.mk hq
        clear hq
        obtain ⟨sa, hsa⟩ : ∃ z, stampAt l n = z := ⟨_, rfl⟩
        obtain ⟨sb, hsb⟩ : ∃ z, stampAt l 0 = z := ⟨_, rfl⟩
        obtain ⟨pc, hpc⟩ : ∃ z, pieceAt l n = z := ⟨_, rfl⟩
        obtain ⟨dn, hdn⟩ : ∃ z, dataOf l n = z := ⟨_, rfl⟩
        rw [hsa] at R1 hC1 hcut1 EQ
        rw [hsb] at R2 hC2 hcut2 EQ
        rw [hpc] at R3 hC3 hcut3 HD hk
        rw [hdn] at HR HD hk
        clear hsa hsb hpc hdn
        go_wp2
        go_quiet ((go_at_call 51; refine (bytes_Equal.calls _ _ sa _ _ sb true _ (by repeat (first | exact R1.out | refine Kd.C_drewN ?_ _ | refine Kd.C_drew ?_)) hC1 (by repeat (first | exact R2.out | refine Kd.C_drewN ?_ _ | refine Kd.C_drew ?_)) hC2 EQ.out).mono ?_; rintro e w' ⟨rfl, ⟨nd, rfl⟩⟩; first | exact ⟨rfl, _, World.drewN_drewN _ _ _⟩ | exact ⟨rfl, _, Eq.trans (World.drewN_drewN _ _ _) (congrArg (World.drewN _) (Nat.add_assoc _ _ _))⟩))
        go_wp2_with (at_builtin; refine Kd.R_append_row (Value.int .u8) (0 : Int) (h1 := fun _ => rfl) (w0 := w) w.heap.size rfl (.tmp 24) (.tmp 29) 23 5 (.int .u8 0) 1 rfl Try.underlying23 info5 rfl (by decide) _ dn pc A3 _ _ (fun _ => True) rfl rfl (fun _ _ => trivial) (Kd.R_drewN HR.out _) (Kd.C_drewN R3.out _) (pw_below_drewN HB.out _) (pw_below_drewN HB.out _).size hk ?_; intro v1 w1 hR1 hB1 _ _)
        exact ⟨⟨n + 1, hlt, by go_num, fun i hi => by
          rcases Nat.lt_or_ge i n with h | h
          · exact HALL.out i h
          · obtain rfl : i = n := by omega
            exact HQ.out, by rw [HD.out]; exact hR1, hB1⟩, by simp [intOf]; omega⟩
      | false =>
        have EQ := Aside0.mk (show bytes_Equal.f (stampAt l n) (stampAt l 0) = some false from eq_f hq)
        have hout := HLN.out n hlt hq
        clear hq HALL HD
        generalize stampAt l n = sa at *
        generalize stampAt l 0 = sb at *
        generalize pieceAt l n = pc at *
        generalize dataOf l n = dn at *
        go_wp2
        go_quiet ((go_at_call 51; refine (bytes_Equal.calls _ _ sa _ _ sb false _ (by repeat (first | exact R1.out | refine Kd.C_drewN ?_ _ | refine Kd.C_drew ?_)) hC1 (by repeat (first | exact R2.out | refine Kd.C_drewN ?_ _ | refine Kd.C_drew ?_)) hC2 EQ.out).mono ?_; rintro e w' ⟨rfl, ⟨nd, rfl⟩⟩; first | exact ⟨rfl, _, World.drewN_drewN _ _ _⟩ | exact ⟨rfl, _, Eq.trans (World.drewN_drewN _ _ _) (congrArg (World.drewN _) (Nat.add_assoc _ _ _))⟩))
        go_wp2
        go_ret
        exact ⟨_, rfl, by rw [hout]; exact Kd.R_nil _ _ _ _ _, pw_below_drewN HB.out _⟩
    · obtain rfl : n = m := by omega
      have hout := HLF.out HALL.out
      go_wp2
      go_ret
      exact ⟨_, rfl, by rw [hout]; exact HR.out, HB.out⟩
end Go.Proofs.Ytglpelhbncdkmaa.XData
