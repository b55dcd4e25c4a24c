/-
  text.Lines: its walk.
-/
import Derived.Laws.CopyOwn
import Derived.ArgAppend
import Derived.Below
import Derived.BigQuiet
import Derived.Deep.AppendLies
import Derived.Deep.CutBlock
import Derived.Deep.DeepCutAuto
import Derived.Deep.Draws
import Derived.Deep.LoopGhost
import Derived.Deep.OwnRows
import Derived.Deep.QuietTactic
import Derived.Deep.RegionHeld3
import Derived.Deep.WholeRow
import Derived.KernelRfl
import Derived.Laws.BitsLemmas
import Derived.Laws.BytesArg
import Derived.Laws.IdiomCopy
import Derived.Laws.MakeOwn
import Derived.Laws.OwnMore
import Derived.Laws.Rows
import Derived.Laws.Slices
import Derived.Lib.AppendStr
import Derived.Lib.ConvBytes
import Derived.Lib.Hide
import Derived.Maps.AppendAt
import Derived.OrdersHeld
import Derived.Outline
import Derived.OwnWalk
import Derived.RowKit
import Derived.RowKit3
import Derived.Tactics
import Derived.WalkKit
import Derived.WideLaws
import Derived.Test.YtkenihkjdbdlkaaDoorProg
import Derived.Test.YtkenihkjdbdlkaaDoorWApart
import Derived.Test.YtkenihkjdbdlkaaDoorWArr
import Derived.Test.YtkenihkjdbdlkaaDoorWAt
import Derived.Test.YtkenihkjdbdlkaaDoorWEqStruct
import Derived.Test.YtkenihkjdbdlkaaDoorWFoot
import Derived.Test.YtkenihkjdbdlkaaDoorWFootNe
import Derived.Test.YtkenihkjdbdlkaaDoorWFour
import Derived.Test.YtkenihkjdbdlkaaDoorWGuard
import Derived.Test.YtkenihkjdbdlkaaDoorWInv
import Derived.Test.YtkenihkjdbdlkaaDoorWInvWords
import Derived.Test.YtkenihkjdbdlkaaDoorWKept
import Derived.Test.YtkenihkjdbdlkaaDoorWLast
import Derived.Test.YtkenihkjdbdlkaaDoorWMore
import Derived.Test.YtkenihkjdbdlkaaDoorWN
import Derived.Test.YtkenihkjdbdlkaaDoorWNEv
import Derived.Test.YtkenihkjdbdlkaaDoorWQPut
import Derived.Test.YtkenihkjdbdlkaaDoorWRepsOne
import Derived.Test.YtkenihkjdbdlkaaDoorWShare
import Derived.Test.YtkenihkjdbdlkaaDoorWTab
import Derived.Test.YtkenihkjdbdlkaaDoorWWords
import Derived.Test.YtkenihkjdbdlkaaDoorWZeros
import Derived.Test.YtkenihkjdbdlkaaDoorShelf
import Derived.Test.YtkenihkjdbdlkaaDoorXWords
namespace Go.Proofs.YtkenihkjdbdlkaaDoor.XLines
open Go.RowKit Go.Proofs.YtkenihkjdbdlkaaDoorW.PrintWords Go.Proofs.YtkenihkjdbdlkaaDoorW.PrintLast Go.Proofs.YtkenihkjdbdlkaaDoorW.PrintMore XEsc XWords
set_option linter.unusedVariables false
set_option linter.unusedSimpArgs false
def nl : ByteArray := ⟨#[10]⟩
def pieces (s : ByteArray) : List ByteArray := Lib.splitB nl 0 (Lib.countB s nl) s
/-- Does a line say something? -/
def says (l : ByteArray) : Bool := match words l with
  | some (ws, e) => (e != 0) || decide (0 < ws.length)
  | none => false
def lines (s : ByteArray) : Option (List ByteArray) :=
  if s.size ≤ 1099511627776 ∧ (pieces s).length = Lib.countB s nl + 1 ∧ (pieces s).length ≤ 1099511627777 ∧ (pieces s).all (fun l => (words l).isSome) = true ∧ s.size < 4294967281 then some ((pieces s).filter says) else none
theorem below_cells {wr w1 : World} {b n : Nat} {f : Nat → Option Value} (h : ∀ j, j < n → wr.cell? ⟨b, j, none⟩ = f j) (hlt : b < wr.heap.size) (hb : Below wr.heap.size wr w1) : (∀ j, j < n → w1.cell? ⟨b, j, none⟩ = f j) ∧ b < w1.heap.size :=
  ⟨fun j hj => (hb.cell (p := ⟨b, j, none⟩) hlt).trans (h j hj), Nat.lt_of_lt_of_le hlt hb.size⟩
theorem grown_cells {wr w1 : World} {b n : Nat} {row : Option Nat} {f : Nat → Option Value} (h : ∀ j, j < n → wr.cell? ⟨b, j, none⟩ = f j) (hlt : b < wr.heap.size) (o : Obj) (hG : (wr.alloc o).grownBy w1 row) (hne : some b ≠ row) : (∀ j, j < n → w1.cell? ⟨b, j, none⟩ = f j) ∧ b < w1.heap.size := by
  have hb : Below wr.heap.size wr (wr.alloc o) := (Below.refl _ _).alloc (Nat.le_refl _) _
  have hs := hb.size
  refine ⟨fun j hj => ?_, Nat.lt_of_lt_of_le (Nat.lt_of_lt_of_le hlt hs) hG.size⟩
  have h1 : (wr.alloc o).cell? ⟨b, j, none⟩ = f j := (hb.cell (p := ⟨b, j, none⟩) hlt).trans (h j hj)
  rw [← h1]
  unfold World.cell?
  rw [hG.block b (Nat.lt_of_lt_of_le hlt hs) hne]
theorem grown_cells0 {wr w1 : World} {b n : Nat} {row : Option Nat} {f : Nat → Option Value} (h : ∀ j, j < n → wr.cell? ⟨b, j, none⟩ = f j) (hlt : b < wr.heap.size) (hG : wr.grownBy w1 row) (hne : some b ≠ row) : (∀ j, j < n → w1.cell? ⟨b, j, none⟩ = f j) ∧ b < w1.heap.size := by
  refine ⟨fun j hj => ?_, Nat.lt_of_lt_of_le hlt hG.size⟩
  rw [← h j hj]
  unfold World.cell?
  rw [hG.block b hlt hne]
theorem V_any {w : World} {base : Nat} {ok : Nat → Prop} {v : Value} {xs : List ByteArray} (h : Kd.R Kd.string 9 w base ok v xs) : Kd.V Kd.string 9 w base (fun k_ => base ≤ k_) v xs := Kd.R_V (Kd.R_mono (Kd.R_bound h) (fun k hk => hk.2.1))
theorem clip_any {A : Option Addr} {n c : Nat} {w : World} {base : Nat} {ok : Nat → Prop} {xs : List ByteArray} (h : Kd.R Kd.string 9 w base ok (.slice A n c) xs) : Kd.V Kd.string 9 w base (fun k_ => base ≤ k_) (.slice A n n) xs := by
  obtain ⟨hn, _, hF⟩ := Kd.V_at (V_any h)
  subst hn
  exact Kd.V_mk (Nat.le_refl _) hF
theorem filter_snoc (p : ByteArray → Bool) (l : List ByteArray) (k : Nat) (x : ByteArray) (h : l[k]? = some x) : (l.take (k + 1)).filter p = (l.take k).filter p ++ (if p x then [x] else []) := by
  rw [List.take_add_one, h, List.filter_append]
  cases hp : p x <;> simp [hp]
set_option maxRecDepth 1000000 in
set_option maxHeartbeats 8000000 in
theorem calls (a0 : ByteArray) (r : List ByteArray) (w : World) (h : lines a0 = some r) (hT : XTabs.Tabs w) :
    Calls Tryd.prog 31 #[.string a0] w fun e w' => ∃ v0_ : Value, e = .returned (v0_) ∧ Kd.V Kd.string 9 w' w.heap.size (fun k_ => (w.heap.size ≤ k_)) v0_ r ∧ Below w.heap.size w w' := by
  by_cases hh : a0.size ≤ 1099511627776 ∧ (pieces a0).length = Lib.countB a0 nl + 1 ∧ (pieces a0).length ≤ 1099511627777 ∧ (pieces a0).all (fun l => (words l).isSome) = true ∧ a0.size < 4294967281
  rotate_left
  · rw [lines, if_neg hh] at h; cases h
  rw [lines, if_pos hh] at h
  obtain rfl := Option.some.inj h
  obtain ⟨hs, hlen, hl1, hall, hs2⟩ := hh
  obtain ⟨m, hm⟩ := hT.len
  have hsp := Tryd.strings_Split a0 nl m w hs2 hm (by decide)
  have hpc : Lib.splitB nl 0 (Lib.countB a0 nl) a0 = pieces a0 := rfl
  rw [hpc, ← hlen] at hsp
  have HALL := Aside0.mk (List.all_eq_true.1 hall)
  clear hpc hlen hall hs hs2 hm hT h
  generalize pieces a0 = ps at *
  have HSP := Aside0.mk hsp
  have HL := Aside0.mk hl1
  have hl2 : ps.length ≤ 9223372036854775807 := by omega
  clear hsp
  have HB0 := Aside0.mk ((Below.refl w.heap.size w).alloc (Nat.le_refl _) (.cells (ps.map Value.string).toArray 9))
  have HC0 := Aside0.mk (fun (j : Nat) (hj : j < ps.length) => (show (w.alloc (.cells (ps.map Value.string).toArray 9)).cell? ⟨w.heap.size, j, none⟩ = (ps[j]?).map Value.string from by
    simp [World.cell?, World.alloc, -World.alloc_eq]))
  have HLT0 := Aside0.mk (show w.heap.size < (w.alloc (.cells (ps.map Value.string).toArray 9)).heap.size by simp)
  go_enter Tryd.func31, Tryd.ntmps31
  go_wp2_with fail
  refine HSP.out.mono ?_
  rintro e w1 ⟨rfl, rfl⟩
  clear HSP
  generalize w.alloc (.cells (ps.map Value.string).toArray 9) = w2 at *
  obtain ⟨b, hb⟩ : ∃ b, w.heap.size = b := ⟨_, rfl⟩
  have hbb : w.heap.size ≤ b := by omega
  rw [hb] at HC0 HLT0
  rw [show (⟨w.heap.size, 0, none⟩ : Addr) = ⟨b, 0, none⟩ by rw [hb]]
  clear hb
  go_wp2
  go_loopw [3, 11] (fun v3 v11 wr => ∃ k : Nat, k ≤ ps.length ∧ v11 = .int .i64 k ∧ Aside0 (Kd.R Kd.string 9 wr w.heap.size (fun q => q ≠ b) v3 ((ps.take k).filter says)) ∧ Aside0 (∀ j, j < ps.length → wr.cell? ⟨b, j, none⟩ = (ps[j]?).map Value.string) ∧ Aside0 (Below w.heap.size w wr) ∧ Aside0 (b < wr.heap.size)) (fun _ v11 _ => ps.length - (intOf v11).toNat)
  case atStart => exact ⟨0, Nat.zero_le _, rfl, ⟨Kd.R_nil _ _ _ _ _⟩, HC0, HB0, HLT0⟩
  case round =>
    clear HC0 HB0 HLT0
    obtain ⟨k, hk, rfl, HO, HC, HB, HLT⟩ := hrel
    by_cases hlt : k < ps.length
    · have hx := HC.out k hlt
      have hget : ps[k]? = some ps[k] := List.getElem?_eq_getElem hlt
      have hsn := filter_snoc says ps k _ hget
      have hw := HALL.out ps[k] (List.getElem_mem hlt)
      rw [hget] at hx
      have hlf : ((ps.take k).filter says).length ≤ k := Nat.le_trans (List.length_filter_le _ _) (List.length_take_le _ _)
      obtain ⟨l, hl⟩ : ∃ l, ps[k] = l := ⟨_, rfl⟩
      rw [hl] at hx hsn hw
      simp only [Option.map_some] at hx
      obtain ⟨⟨ws, er⟩, hwe⟩ := Option.isSome_iff_exists.1 hw
      have hsy : says l = ((er != 0) || decide (0 < ws.length)) := by unfold says; rw [hwe]
      have HW := fun W => XWords.calls l ws er W hwe
      have HSN := Aside0.mk hsn
      have HLK := Aside0.mk (show (((ps.take k).filter says).length + 1) * 16 ≤ 140737488355328 by omega)
      clear hget hsn hw hl hwe hlf
      generalize (ps.take k).filter says = outs at *
      go_wp2_with fail
      refine (HW _).mono ?_
      rintro e w5 ⟨v5, rfl, hV5, hB5⟩
      obtain ⟨A5, c5, hv5⟩ := Kd.V_slice hV5
      subst hv5
      have hbc := below_cells HC.out HLT.out hB5
      have HO5 := Aside0.mk (Kd.R_below HO.out hB5)
      have HC5 := Aside0.mk hbc.1
      have HLT5 := Aside0.mk hbc.2
      have HB5 := Aside0.mk (below_step HB.out hB5)
      have hl5 := (Kd.V_reads' hV5).2.2.2.1
      clear hV5 hB5 hbc HO HC HLT HB hx HW
      have hneb : some b ≠ (Value.ownBlock _) := fun e => HO5.out.1 b e.symm rfl
      obtain ⟨A3, c3, hv3⟩ := Kd.R_slice HO5.out
      subst hv3
      by_cases he : er = 0
      · have heb : (er == 0) = true := beq_iff_eq.2 he
        have heb2 : (er != 0) = false := by rw [he]; rfl
        by_cases hz : 0 < ws.length
        · have hz1 : decide (0 < ws.length) = true := decide_eq_true hz
          have hz2 : decide ((0 : Int) < (ws.length : Int)) = true := decide_eq_true (by omega)
          have HY := Aside0.mk (show (if says l = true then [l] else []) = [l] by rw [hsy, hz1, Bool.or_true]; rfl)
          clear hsy he hz
          go_wp2_with (at_builtin; refine Kd.R_append Kd.string (w0 := w) w.heap.size rfl (.tmp 27) (.tmp 29) 45 9 (.string ⟨#[]⟩) 16 rfl Tryd.underlying45 info9 rfl (by decide) (by decide) (.slice A3 outs.length c3) outs l [.string l] (fun q => q ≠ b) (fun _ => False) rfl rfl rfl (fun _ hk => hk.elim) (fun q hq => by have := HLT5.out; omega) HO5.out HB5.out (HB5.out).size HLK.out ?_; intro v1_ w1_ hR_ hB_ hG_ hat_; have hgc := grown_cells0 HC5.out HLT5.out hG_ hneb; have HO6 := Aside0.mk hR_; have HB6 := Aside0.mk hB_; have HC6 := Aside0.mk hgc.1; have HLT6 := Aside0.mk hgc.2; clear hR_ hB_ hG_ hat_ hgc)
          go_roundw
          case rel => exact ⟨k + 1, by omega, by go_num, ⟨by rw [HSN.out, HY.out]; exact HO6.out⟩, HC6, HB6, HLT6⟩
          case measure => simp [intOf]; omega
        · have hz1 : decide (0 < ws.length) = false := decide_eq_false hz
          have hz2 : decide ((0 : Int) < (ws.length : Int)) = false := decide_eq_false (by omega)
          have HY := Aside0.mk (show (if says l = true then [l] else []) = [] by rw [hsy, hz1, heb2]; rfl)
          clear hsy he hz
          go_wp2
          go_roundw
          case rel => exact ⟨k + 1, by omega, by go_num, ⟨by rw [HSN.out, HY.out, List.append_nil]; exact HO5.out⟩, HC5, HB5, HLT5⟩
          case measure => simp [intOf]; omega
      · have heb : (er == 0) = false := beq_eq_false_iff_ne.2 he
        have heb2 : (er != 0) = true := by unfold bne; rw [heb]; rfl
        have HY := Aside0.mk (show (if says l = true then [l] else []) = [l] by rw [hsy, heb2]; rfl)
        clear hsy he
        go_wp2_with (at_builtin; refine Kd.R_append Kd.string (w0 := w) w.heap.size rfl (.tmp 27) (.tmp 29) 45 9 (.string ⟨#[]⟩) 16 rfl Tryd.underlying45 info9 rfl (by decide) (by decide) (.slice A3 outs.length c3) outs l [.string l] (fun q => q ≠ b) (fun _ => False) rfl rfl rfl (fun _ hk => hk.elim) (fun q hq => by have := HLT5.out; omega) HO5.out HB5.out (HB5.out).size HLK.out ?_; intro v1_ w1_ hR_ hB_ hG_ hat_; have hgc := grown_cells0 HC5.out HLT5.out hG_ hneb; have HO6 := Aside0.mk hR_; have HB6 := Aside0.mk hB_; have HC6 := Aside0.mk hgc.1; have HLT6 := Aside0.mk hgc.2; clear hR_ hB_ hG_ hat_ hgc)
        go_roundw
        case rel => exact ⟨k + 1, by omega, by go_num, ⟨by rw [HSN.out, HY.out]; exact HO6.out⟩, HC6, HB6, HLT6⟩
        case measure => simp [intOf]; omega
    · obtain rfl : k = ps.length := by omega
      rw [List.take_length] at HO
      obtain ⟨A3, c3, hv3⟩ := Kd.R_slice HO.out
      subst hv3
      have hroom := (Kd.R_reads' HO.out).2.1
      go_wp2
      go_ret
      exact ⟨_, rfl, clip_any HO.out, HB.out⟩
end Go.Proofs.YtkenihkjdbdlkaaDoor.XLines
