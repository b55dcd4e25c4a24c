/-
  frame.Unpack by its walk (frame.value as the program mp.sh prints it): the record with which sectors begin.
-/
import Derived.Test.YtglpelhbncdkmaaProg
import Derived.Below
import Derived.Deep.Draws
import Derived.Deep.AppendLies
import Derived.Maps.AppendAt
import Derived.OwnWalk
import Derived.Laws.BytesArg
import Derived.Laws.MakeOwn
import Derived.Laws.OwnMore
import Derived.Deep.OwnRows
import Derived.Tactics
import Derived.Lib.ConvBytes
import Derived.Laws.Slices
import Derived.WalkKit
import Derived.KernelRfl
import Derived.RowKit3
import Derived.Deep.LoopGhost
import Derived.Deep.QuietTactic
import Derived.BigQuiet
import Derived.WideLaws
import Derived.Deep.DeepCutAuto
import Derived.Deep.CutBlock
import Derived.Deep.RegionHeld3
import Derived.Laws.Rows
import Derived.Lib.AppendStr
import Derived.ArgAppend
import Derived.Laws.IdiomCopy
import Derived.OrdersHeld
import Derived.Laws.BitsLemmas
import Derived.RowKit
import Derived.Test.YtglpelhbncdkmaaWWords
import Derived.Test.YtglpelhbncdkmaaWLast
import Derived.Test.YtglpelhbncdkmaaWTab
import Derived.Test.YtglpelhbncdkmaaWFour
import Derived.Test.YtglpelhbncdkmaaWQPut
import Derived.Test.YtglpelhbncdkmaaWApart
import Derived.Test.YtglpelhbncdkmaaWArr
import Derived.Test.YtglpelhbncdkmaaWZeros
import Derived.Test.YtglpelhbncdkmaaWFoot
import Derived.Test.YtglpelhbncdkmaaWKept
import Derived.Test.YtglpelhbncdkmaaWShare
import Derived.Test.YtglpelhbncdkmaaWN
import Derived.Test.YtglpelhbncdkmaaWFootNe
import Derived.Test.YtglpelhbncdkmaaWAt
import Derived.Test.YtglpelhbncdkmaaWEqStruct
import Derived.Test.YtglpelhbncdkmaaWRepsOne
import Derived.Test.YtglpelhbncdkmaaWInv
import Derived.Test.YtglpelhbncdkmaaWInvWords
import Derived.Test.YtglpelhbncdkmaaWGuard
import Derived.Test.YtglpelhbncdkmaaWNEv
import Derived.Test.YtglpelhbncdkmaaWMore
import Derived.Test.YtglpelhbncdkmaaXCheck
import Derived.Test.YtglpelhbncdkmaaXSlices
import Derived.Test.YtglpelhbncdkmaaXChunk
import Derived.Test.YtglpelhbncdkmaaXPack
import Derived.Test.YtglpelhbncdkmaaXData
namespace Go.Proofs.Ytglpelhbncdkmaa.XUnpack
open Go.RowKit Go.Proofs.YtglpelhbncdkmaaW.PrintWords Go.Proofs.YtglpelhbncdkmaaW.PrintLast Go.Proofs.YtglpelhbncdkmaaW.PrintMore
set_option linter.unusedVariables false
set_option linter.unusedSimpArgs false
theorem info5 : (Try.prog.info? 5).map (fun i => (i.zero, i.size, i.bytes)) = some (some (.int .u8 0), 1, 1) := XSlices.info_u8
section
attribute [local go_sem] max2_int min2_int max_two min_two max_three min_three max_four min_four
/-! ### frame_value: function -/
def frame_value.l0 : Nat → Int → List Int → Int → Int → Option (Int)
  | 0, _, _, _, _ => none
  | k + 1, x3, x6, x7, x8 => if x8 < x7 then (if 0 ≤ x8 then (if x8 < (x6.length : Int) then (frame_value.l0 k (Go.bits .or .i64 (wrap64 (x3 * 256)) (wrap64 (rd x6 x8))) x6 x7 (wrap64 (x8 + 1))) else (none)) else (none)) else (some x3)
def frame_value.f (k : Nat) (l0 : List Int) : Option (Int) := frame_value.l0 k 0 l0 (l0.length : Int) 0
theorem frame_value.mono_l : ∀ k, (∀ y0 y1 y2 y3, LeO (frame_value.l0 k y0 y1 y2 y3) (frame_value.l0 (k + 1) y0 y1 y2 y3))
  | 0 => fun _ _ _ _ r h => by simp [frame_value.l0] at h
  | k + 1 => by
    have ih0 := frame_value.mono_l k
    · intro y0 y1 y2 y3
      unfold frame_value.l0
      repeat' first
      | (with_reducible exact ih0 _ _ _ _)
      | (with_reducible exact LeO.refl _)
      | (with_reducible exact LeO.none _)
      | (with_reducible refine LeO.ite ?_ ?_)
      | (with_reducible refine LeO.bind ?_ (fun _ => ?_))
      | exact ih0 _ _ _ _
      | exact LeO.none _
      | refine LeO.ite ?_ ?_
      | refine LeO.bind ?_ (fun _ => ?_)
theorem frame_value.mono : ∀ a0 k, LeO (frame_value.f k a0) (frame_value.f (k + 1) a0) := by
  intro a0 k
  have ih0 := frame_value.mono_l k
  unfold frame_value.f
  repeat' first
      | (with_reducible exact ih0 _ _ _ _)
      | (with_reducible exact LeO.refl _)
      | (with_reducible exact LeO.none _)
      | (with_reducible refine LeO.ite ?_ ?_)
      | (with_reducible refine LeO.bind ?_ (fun _ => ?_))
      | exact ih0 _ _ _ _
      | exact LeO.none _
      | refine LeO.ite ?_ ?_
      | refine LeO.bind ?_ (fun _ => ?_)
set_option maxHeartbeats 8000000 in
set_option maxRecDepth 100000 in
theorem frame_value.calls (k : Nat) (A0 : Option Addr) (c0 : Nat) (l0 : List Int) (r : Int) (w : World) (hr0 : Kd.C (Kd.int .u8) w A0 l0.length l0) (hc0 : l0.length ≤ c0) (h : frame_value.f k l0 = some r) :
    Calls Try.prog 48 #[.slice A0 l0.length c0] w fun e w' => e = .returned (.int .i64 r) ∧ Drawn0 w w' := by
  have HR0 := Aside0.mk hr0
  have HC0 := Aside0.mk hc0
  clear hr0 hc0
  have H : (frame_value.l0 k 0 l0 (l0.length : Int) 0) = some r := h
  clear h
  have H' := Aside0.mk H
  clear H
  go_enter Try.func48, Try.ntmps48
  go_wp2
  go_loopg [3, 8] k (fun kq v3 v8 w' => ∃ (x3_1 : Int) (x8_1 : Int), v3 = .int .i64 x3_1 ∧ v8 = .int .i64 x8_1 ∧ Aside0 (frame_value.l0 kq x3_1 l0 (l0.length : Int) x8_1 = some r) ∧ Aside0 (kq ≤ k) ∧ Drawn0 w w')
  case atStart => exact ⟨(0), (0), (by first | rfl | (simp; done) | (simp [*]; done)), (by first | rfl | (simp; done) | (simp [*]; done)), H', ⟨Nat.le_refl _⟩, by repeat (first | exact Drawn0.refl _ | apply Drawn0.step)⟩
  case round =>
    clear H'
    obtain ⟨x3_1, x8_1, rfl, rfl, HA, HK1, ⟨m1, rfl⟩⟩ := hrel
    cases gk with
    | zero => exact absurd HA.out (by simp [frame_value.l0])
    | succ k1 =>
      have H := HA.out
      clear HA
      simp only [frame_value.l0] at H
      by_cases c2 : x8_1 < (l0.length : Int)
      · rw [if_pos c2] at H
        have c2b0 : decide (x8_1 < (l0.length : Int)) = true := decide_eq_true c2
        clear c2
        by_cases c3 : 0 ≤ x8_1
        · rw [if_pos c3] at H
          have c3b0 : decide (0 ≤ x8_1) = true := decide_eq_true c3
          clear c3
          by_cases c4 : x8_1 < (l0.length : Int)
          · rw [if_pos c4] at H
            have c4b0 : decide (x8_1 < (l0.length : Int)) = true := decide_eq_true c4
            clear c4
            have H' := Aside0.mk H
            clear H
            have p111 : 0 ≤ (x8_1 : Int) := of_decide_eq_true (by first | (with_reducible assumption) | assumption)
            have q111 : x8_1 < (l0.length : Int) := of_decide_eq_true (by first | (with_reducible assumption) | assumption)
            obtain ⟨ad111, e111, hx111_0⟩ := Kd.at_int HR0.out x8_1 p111 q111
            cases e111
            replace p111 := eq_true p111
            replace q111 := eq_true q111
            go_wp2
            go_roundg k1
            case measure => have := HK1.out; omega
            case rel => exact ⟨(Go.bits .or .i64 (wrap64 (x3_1 * 256)) (wrap64 (rd l0 x8_1))), (wrap64 (x8_1 + 1)), (by first | rfl | (simp; done) | (simp [*]; done)), (by first | rfl | (simp; done) | (simp [*]; done)), H', ⟨by have := HK1.out; omega⟩, by repeat (first | exact Drawn0.refl _ | apply Drawn0.step)⟩
          · rw [if_neg c4] at H
            exact absurd H (by simp)
        · rw [if_neg c3] at H
          exact absurd H (by simp)
      · rw [if_neg c2] at H
        have c2b0 : decide (x8_1 < (l0.length : Int)) = false := decide_eq_false c2
        clear c2
        obtain rfl := Option.some.inj H
        go_wp2
        go_ret
        exact ⟨by first | rfl | (simp; done) | (simp [*]; done), by repeat (first | exact Drawn0.refl _ | apply Drawn0.step)⟩

end
open XChunk XData
theorem or_256 (a b : Nat) (ha : a < 4294967296) (hb : b < 256) : Go.bits .or .i64 ((a : Int) * 256) (b : Int) = (a : Int) * 256 + b := by
  have h : a * 256 ||| b = a * 256 + b := by
    rw [show a * 256 = 2 ^ 8 * a from by omega, ← Nat.two_pow_add_eq_or_of_lt (by omega : b < 2 ^ 8)]
  have h1 : (a * 256) % 2 ^ 64 = a * 256 := Nat.mod_eq_of_lt (by omega)
  have h2 : b % 2 ^ 64 = b := Nat.mod_eq_of_lt (by omega)
  rw [show (a : Int) * 256 = ((a * 256 : Nat) : Int) from by omega]
  show IntKind.i64.wrap (((BitVec.ofInt 64 ((a * 256 : Nat) : Int) ||| BitVec.ofInt 64 (b : Int)).toNat : Nat) : Int) = _
  rw [BitVec.ofInt_natCast, BitVec.ofInt_natCast, BitVec.toNat_or, BitVec.toNat_ofNat, BitVec.toNat_ofNat, h1, h2, h, i64_w]
  unfold wrap64; omega
theorem value_go (k i : Nat) (x c : Int) (l : List Int) (hc : l[i]? = some c) (hr : 0 ≤ c ∧ c < 256) (h0 : 0 ≤ x) (hx : x < 4294967296) (his : i < 100 := by decide) :
    frame_value.l0 (k + 1) x l (l.length : Int) (i : Int) = frame_value.l0 k (x * 256 + c) l (l.length : Int) ((i + 1 : Nat) : Int) := by
  have hi : i < l.length := (List.getElem?_eq_some_iff.1 hc).1
  have hrd : rd l (i : Int) = c := by simp [rd, List.getD_eq_getElem?_getD, hc]
  have hw1 : wrap64 (x * 256) = x * 256 := by unfold wrap64; omega
  have hw2 : wrap64 c = c := by unfold wrap64; omega
  have hw3 : wrap64 ((i : Int) + 1) = ((i + 1 : Nat) : Int) := by unfold wrap64; omega
  have hor : Go.bits .or .i64 (x * 256) c = x * 256 + c := by
    obtain ⟨a, rfl⟩ : ∃ a : Nat, x = (a : Int) := ⟨x.toNat, by omega⟩
    obtain ⟨b, rfl⟩ : ∃ b : Nat, c = (b : Int) := ⟨c.toNat, by omega⟩
    exact or_256 a b (by omega) (by omega)
  have e1 : (i : Int) < (l.length : Int) := by omega
  have e2 : (0 : Int) ≤ (i : Int) := by omega
  rw [frame_value.l0, if_pos e1, if_pos e2, if_pos e1, hrd, hw1, hw2, hw3, hor]
theorem value_end (k n : Nat) (x : Int) (l : List Int) (hn : l.length = n) : frame_value.l0 (k + 1) x l (l.length : Int) (n : Int) = some x := by
  rw [frame_value.l0, hn, if_neg (Int.lt_irrefl _)]
theorem value_2 (a b : Int) (ha : 0 ≤ a ∧ a < 256) (hb : 0 ≤ b ∧ b < 256) : frame_value.f 6 [a, b] = some (a * 256 + b) := by
  rw [frame_value.f]
  refine (value_go 5 0 0 a [a, b] rfl ha (by decide) (by decide)).trans ?_
  refine (value_go 4 1 _ b [a, b] rfl hb (by omega) (by omega)).trans ?_
  rw [show (0 : Int) * 256 + a = a from by omega]
  exact value_end 3 2 _ [a, b] rfl
theorem value_4 (a b c d : Int) (ha : 0 ≤ a ∧ a < 256) (hb : 0 ≤ b ∧ b < 256) (hc : 0 ≤ c ∧ c < 256) (hd : 0 ≤ d ∧ d < 256) : frame_value.f 6 [a, b, c, d] = some (((a * 256 + b) * 256 + c) * 256 + d) := by
  rw [frame_value.f]
  refine (value_go 5 0 0 a [a, b, c, d] rfl ha (by decide) (by decide)).trans ?_
  refine (value_go 4 1 _ b [a, b, c, d] rfl hb (by omega) (by omega)).trans ?_
  refine (value_go 3 2 _ c [a, b, c, d] rfl hc (by omega) (by omega)).trans ?_
  refine (value_go 2 3 _ d [a, b, c, d] rfl hd (by omega) (by omega)).trans ?_
  rw [show (0 : Int) * 256 + a = a from by omega]
  exact value_end 1 4 _ [a, b, c, d] rfl
def val2 (l : List Int) : Int := l.getD 0 0 * 256 + l.getD 1 0
def val4 (l : List Int) : Int := ((l.getD 0 0 * 256 + l.getD 1 0) * 256 + l.getD 2 0) * 256 + l.getD 3 0
theorem value_2' (l : List Int) (h : l.length = 2) (hb : ∀ c ∈ l, 0 ≤ c ∧ c < 256) : frame_value.f 6 l = some (val2 l) ∧ 0 ≤ val2 l ∧ val2 l < 65536 := by
  match l, h, hb with
  | [a, b], _, hb =>
    have ha := hb a (by simp)
    have hb' := hb b (by simp)
    refine ⟨value_2 a b ha hb', ?_⟩
    show 0 ≤ a * 256 + b ∧ a * 256 + b < 65536
    omega
theorem value_4' (l : List Int) (h : l.length = 4) (hb : ∀ c ∈ l, 0 ≤ c ∧ c < 256) : frame_value.f 6 l = some (val4 l) ∧ 0 ≤ val4 l ∧ val4 l < 4294967296 := by
  match l, h, hb with
  | [a, b, c, d], _, hb =>
    have h1 := hb a (by simp)
    have h2 := hb b (by simp)
    have h3 := hb c (by simp)
    have h4 := hb d (by simp)
    refine ⟨value_4 a b c d h1 h2 h3 h4, ?_⟩
    show 0 ≤ ((a * 256 + b) * 256 + c) * 256 + d ∧ ((a * 256 + b) * 256 + c) * 256 + d < 4294967296
    omega
theorem piece_mem {l : List Int} {n : Nat} {c : Int} (h : c ∈ pieceAt l n) : c ∈ l := List.mem_of_mem_take (List.mem_of_mem_drop h)
theorem data_mem {l : List Int} {n : Nat} {c : Int} (h : c ∈ dataOf l n) : c ∈ l := by
  induction n with
  | zero => cases h
  | succ n ih => exact (List.mem_append.1 h).elim ih piece_mem
theorem dataF_mem {l : List Int} {n : Nat} {c : Int} (h : c ∈ dataF l n) : c ∈ l := by
  unfold dataF at h
  split at h
  · exact data_mem h
  · cases h
theorem dataF_len (l : List Int) (n : Nat) (h : 32 * n ≤ l.length) : (dataF l n).length ≤ 24 * n := by
  unfold dataF
  split
  · rw [dataOf_len l n h]; exact Nat.le_refl _
  · exact Nat.zero_le _
def bad : Int × Int × List Int × Int × Int := (0, 0, [], 0, 3)
def unpackF (l : List Int) : Int × Int × List Int × Int × Int :=
  if l.length < 32 then bad else
  if l.length < 32 * sectors (val2 (l.take 2)).toNat then bad else
  if (dataF l (sectors (val2 (l.take 2)).toNat)).length < 6 + (val2 (l.take 2)).toNat then bad else
  if eqB (packed (val4 ((l.take 28).drop 24)) (val4 ((l.take 32).drop 28)) (((dataF l (sectors (val2 (l.take 2)).toNat)).take (6 + (val2 (l.take 2)).toNat)).drop 6)) (l.take (32 * sectors (val2 (l.take 2)).toNat)) = true then
    (val4 ((l.take 28).drop 24), val4 ((l.take 32).drop 28), ((dataF l (sectors (val2 (l.take 2)).toNat)).take (6 + (val2 (l.take 2)).toNat)).drop 6, (sectors (val2 (l.take 2)).toNat : Nat), 0)
  else bad
attribute [local irreducible] dataF packed sectors val2 val4 eqB
set_option maxHeartbeats 4000000 in
set_option maxRecDepth 100000 in
theorem unpack_short (A : Option Addr) (c : Nat) (l : List Int) (w : World) (hm : l.length ≤ 9223372036854775807) (h : l.length < 32) :
    Calls Try.prog 37 #[.slice A l.length c] w fun e w' => e = .returned (.tuple #[.int .i64 0, .int .i64 0, .slice none 0 0, .int .i64 0, .int .i64 3]) ∧ Below w.heap.size w w' := by
  have h1 : ((l.length : Nat) : Int) < 32 := by omega
  go_enter Try.func37, Try.ntmps37
  go_wp2
  refine bodyPost_ret (results_list (rs := [.tmp 2, .tmp 3, .tmp 4, .tmp 5, .tmp 6]) rfl (by simp) (.tmp (.tmp (.tmp (.tmp (.tmp .nil)))))) rfl ?_
  exact ⟨rfl, Below.refl _ _⟩
theorem unpackF_1 {l : List Int} (h : l.length < 32) : unpackF l = bad := by unfold unpackF; rw [if_pos h]
theorem unpackF_2 {l : List Int} {n m : Nat} (h : ¬ l.length < 32) (hn : val2 (l.take 2) = (n : Int)) (hm : sectors n = m) (h2 : l.length < 32 * m) : unpackF l = bad := by
  unfold unpackF; rw [if_neg h, hn, Int.toNat_natCast, hm, if_pos h2]
theorem unpackF_3 {l d : List Int} {n m : Nat} (h : ¬ l.length < 32) (hn : val2 (l.take 2) = (n : Int)) (hm : sectors n = m) (h2 : ¬ l.length < 32 * m) (hd : dataF l m = d) (h3 : d.length < 6 + n) : unpackF l = bad := by
  unfold unpackF; rw [if_neg h, hn, Int.toNat_natCast, hm, if_neg h2, hd, if_pos h3]
theorem unpackF_4 {l d b p : List Int} {n m : Nat} {e s : Int} {r : Bool} (h : ¬ l.length < 32) (hn : val2 (l.take 2) = (n : Int)) (hm : sectors n = m) (h2 : ¬ l.length < 32 * m) (hd : dataF l m = d) (h3 : ¬ d.length < 6 + n)
    (he : val4 ((l.take 28).drop 24) = e) (hs : val4 ((l.take 32).drop 28) = s) (hb : (d.take (6 + n)).drop 6 = b) (hp : packed e s b = p) (hq : eqB p (l.take (32 * m)) = r) :
    unpackF l = if r = true then (e, s, b, ((m : Nat) : Int), 0) else bad := by
  unfold unpackF; rw [if_neg h, hn, Int.toNat_natCast, hm, if_neg h2, hd, if_neg h3, he, hs, hb, hp, hq]
set_option maxHeartbeats 4000000 in
set_option maxRecDepth 10000000 in
theorem unpack_walk (A : Option Addr) (c : Nat) (l : List Int) (w : World) (hr : Kd.C (Kd.int .u8) w A l.length l) (hc : l.length ≤ c) (hb : ∀ c ∈ l, 0 ≤ c ∧ c < 256) (hl : l.length ≤ 140737488351232) :
    Calls Try.prog 37 #[.slice A l.length c] w fun e w' => ∃ v2_ : Value, e = .returned (.tuple #[.int .i64 (unpackF l).1, .int .i64 (unpackF l).2.1, v2_, .int .i64 (unpackF l).2.2.2.1, .int .i64 (unpackF l).2.2.2.2]) ∧ Kd.R (Kd.int .u8) 5 w' w.heap.size (fun _ => True) v2_ (unpackF l).2.2.1 ∧ Below w.heap.size w w' := by
  by_cases h32 : l.length < 32
  · rw [unpackF_1 h32]
    refine (unpack_short A c l w hr.2.1 h32).mono ?_
    rintro e w' ⟨rfl, hB⟩
    exact ⟨_, rfl, Kd.R_nil _ _ _ _ _, hB⟩
  obtain ⟨out, hout⟩ : ∃ z, unpackF l = z := ⟨_, rfl⟩
  rw [hout]
  have HU := Aside0.mk hout
  clear hout
  obtain ⟨i5, hi5, _, hsz, _⟩ := info_parts info5
  have g1 : (2 : Int) ≤ (l.length : Int) := by omega
  obtain ⟨hcut1, hA1, hC1⟩ := print_take_of (P := Try.prog) (Value.int .u8) 0 23 5 .i64 Try.underlying23 hi5 hsz A c l 2 (by decide) g1 hc
  have R1 := Kd.C_of_reads (h1 := fun _ => rfl) (hA1 _ (Kd.reads_of_C hr))
  rw [show (2 : Int).toNat = 2 from rfl] at R1 hC1
  simp only [show (2 : Int).toNat = 2 from rfl] at hcut1
  obtain ⟨hv1, hv2, hv3⟩ := value_2' (l.take 2) (by rw [List.length_take]; omega) (fun x hx => hb x (List.mem_of_mem_take hx))
  obtain ⟨n, hn⟩ : ∃ n : Nat, val2 (l.take 2) = (n : Int) := ⟨(val2 (l.take 2)).toNat, by omega⟩
  have HN := Aside0.mk hn
  rw [hn] at hv1 hv2 hv3
  have hS := XPack.Sectors_f n (by omega)
  have hsl := sectors_le n
  have hsu : sectors n ≤ 3000 := by unfold sectors; omega
  obtain ⟨m, hm⟩ : ∃ m, sectors n = m := ⟨_, rfl⟩
  have HM := Aside0.mk hm
  rw [hm] at hS hsl hsu
  clear hn hm
  obtain ⟨t2, ht2⟩ : ∃ z, l.take 2 = z := ⟨_, rfl⟩
  rw [ht2] at R1 hC1 hcut1 hv1
  have V1 := Aside0.mk hv1
  clear hv1 hA1 ht2
  have k32 : ¬ ((l.length : Nat) : Int) < 32 := by omega
  have km0 : 0 ≤ (m : Int) * 32 := by omega
  have km1 : (m : Int) * 32 ≤ 96000 := by omega
  have hr' := Aside0.mk hr
  go_enter Try.func37, Try.ntmps37
  go_wp2_with fail
  refine (frame_value.calls 6 _ _ t2 _ _ R1 hC1 V1.out).mono ?_
  rintro e w1 ⟨rfl, ⟨n1, rfl⟩⟩
  go_wp2_with fail
  refine (XPack.frame_Sectors.calls _ _ _ hS).mono ?_
  rintro e w2 ⟨rfl, ⟨n2, rfl⟩⟩
  have hB2 : Below w.heap.size w ((w.drewN n1).drewN n2) := pw_below_drewN (pw_below_drewN (Below.refl _ _) _) _
  generalize (w.drewN n1).drewN n2 = w2 at hB2 ⊢
  clear R1 hC1 hcut1
  by_cases h2 : l.length < 32 * m
  · obtain rfl : out = bad := by rw [← HU.out]; exact unpackF_2 h32 HN.out HM.out h2
    have k2 : ((l.length : Nat) : Int) < (m : Int) * 32 := by omega
    go_wp2_with fail
    refine bodyPost_ret (results_list (rs := [.tmp 2, .tmp 3, .tmp 4, .tmp 5, .tmp 6]) rfl (by simp) (.tmp (.tmp (.tmp (.tmp (.tmp .nil)))))) rfl ?_
    exact ⟨_, rfl, Kd.R_nil _ _ _ _ _, hB2⟩
  have k2 : (m : Int) * 32 ≤ ((l.length : Nat) : Int) := by omega
  have H2 := Aside0.mk h2
  have HSL := Aside0.mk hsl
  clear h2 hsl hS hr
  have h32' := Aside0.mk h32
  clear h32
  go_wp2_with fail
  have hr := hr'.out
  have h2 := H2.out
  have hsl := HSL.out
  have h32 := h32'.out
  have hw := data_walk A c l m w2 (Kd.C_below hr hB2) hc (by omega) hl
  obtain ⟨d, hd⟩ : ∃ d, dataF l m = d := ⟨_, rfl⟩
  have hdl := dataF_len l m (by omega)
  have hdm : ∀ c ∈ dataF l m, 0 ≤ c ∧ c < 256 := fun x hx => hb x (dataF_mem hx)
  rw [hd] at hdl hdm hw
  have HD := Aside0.mk hd
  clear hd
  refine hw.mono ?_
  clear hw
  rintro e w3 ⟨v3, rfl, hR3, hB3⟩
  obtain ⟨Ad, cd, rfl⟩ := Kd.R_slice hR3
  have HR3 := Aside0.mk hR3
  have hB3' := below_step hB2 hB3
  clear hR3
  have g2 : (28 : Int) ≤ (l.length : Int) := by omega
  have g3 : (32 : Int) ≤ (l.length : Int) := by omega
  obtain ⟨A4, hcut4, hA4, hC4⟩ := print_mid_of (P := Try.prog) (Value.int .u8) 0 23 5 .i64 .i64 Try.underlying23 hi5 hsz A c l 24 28 (by decide) (by decide) g2 hc
  obtain ⟨A5, hcut5, hA5, hC5⟩ := print_mid_of (P := Try.prog) (Value.int .u8) 0 23 5 .i64 .i64 Try.underlying23 hi5 hsz A c l 28 32 (by decide) (by decide) g3 hc
  have R4 := Aside0.mk (Kd.C_of_reads (h1 := fun _ => rfl) (hA4 _ (Kd.reads_of_C (Kd.C_below hr hB3'))))
  have R5 := Aside0.mk (Kd.C_of_reads (h1 := fun _ => rfl) (hA5 _ (Kd.reads_of_C (Kd.C_below hr hB3'))))
  clear hA4 hA5
  have q1 : (28 : Int).toNat = 28 := rfl
  have q2 : (24 : Int).toNat = 24 := rfl
  have q3 : (32 : Int).toNat = 32 := rfl
  rw [q1, q2] at R4 hC4
  rw [q1, q3] at R5 hC5
  simp only [q1, q2] at hcut4
  simp only [q1, q3] at hcut5
  clear q1 q2 q3
  obtain ⟨ve, hve0, hve1⟩ := value_4' ((l.take 28).drop 24) (by rw [List.length_drop, List.length_take]; omega) (fun x hx => hb x (List.mem_of_mem_take (List.mem_of_mem_drop hx)))
  obtain ⟨vs, hvs0, hvs1⟩ := value_4' ((l.take 32).drop 28) (by rw [List.length_drop, List.length_take]; omega) (fun x hx => hb x (List.mem_of_mem_take (List.mem_of_mem_drop hx)))
  obtain ⟨ep, hep⟩ : ∃ z, val4 ((l.take 28).drop 24) = z := ⟨_, rfl⟩
  obtain ⟨sq, hsq⟩ : ∃ z, val4 ((l.take 32).drop 28) = z := ⟨_, rfl⟩
  have HE := Aside0.mk hep
  have HQ := Aside0.mk hsq
  rw [hep] at ve hve0 hve1
  rw [hsq] at vs hvs0 hvs1
  obtain ⟨t4, ht4⟩ : ∃ z, (l.take 28).drop 24 = z := ⟨_, rfl⟩
  obtain ⟨t5, ht5⟩ : ∃ z, (l.take 32).drop 28 = z := ⟨_, rfl⟩
  rw [ht4] at R4 hC4 hcut4 ve
  rw [ht5] at R5 hC5 hcut5 vs
  have VE := Aside0.mk ve
  have VS := Aside0.mk vs
  clear hep hsq ht4 ht5 ve vs
  go_wp2_with fail
  go_quiet (first
    | (go_at_call 48; (with_reducible refine (frame_value.calls 6 _ _ t4 _ _ ?side1 ?side2 VE.out).mono ?_); (case side1 => repeat (first | exact R4.out | (with_reducible refine Kd.C_drewN ?_ _) | (with_reducible refine Kd.C_drew ?_))); (case side2 => exact hC4); rintro e w' ⟨rfl, ⟨nd, rfl⟩⟩; first | exact ⟨rfl, _, World.drewN_drewN _ _ _⟩ | exact ⟨rfl, _, Eq.trans (World.drewN_drewN _ _ _) (congrArg (World.drewN _) (Nat.add_assoc _ _ _))⟩)
    | (go_at_call 48; (with_reducible refine (frame_value.calls 6 _ _ t5 _ _ ?side1 ?side2 VS.out).mono ?_); (case side1 => repeat (first | exact R5.out | (with_reducible refine Kd.C_drewN ?_ _) | (with_reducible refine Kd.C_drew ?_))); (case side2 => exact hC5); rintro e w' ⟨rfl, ⟨nd, rfl⟩⟩; first | exact ⟨rfl, _, World.drewN_drewN _ _ _⟩ | exact ⟨rfl, _, Eq.trans (World.drewN_drewN _ _ _) (congrArg (World.drewN _) (Nat.add_assoc _ _ _))⟩))
  have hR4 := Aside0.mk (Kd.R_drewN HR3.out nq)
  have hB4 := pw_below_drewN hB3' nq
  generalize w3.drewN nq = w4 at hR4 hB4 ⊢
  clear HR3 hB3 hB3' R4 R5 hC4 hC5 hcut4 hcut5 hB2
  by_cases h3 : d.length < 6 + n
  · obtain rfl : out = bad := by rw [← HU.out]; exact unpackF_3 h32 HN.out HM.out h2 HD.out h3
    have k3 : ((d.length : Nat) : Int) < 6 + (n : Int) := by omega
    go_wp2_with fail
    refine bodyPost_ret (results_list (rs := [.tmp 2, .tmp 3, .tmp 4, .tmp 5, .tmp 6]) rfl (by simp) (.tmp (.tmp (.tmp (.tmp (.tmp .nil)))))) rfl ?_
    exact ⟨_, rfl, Kd.R_nil _ _ _ _ _, hB4⟩
  have k3 : 6 + (n : Int) ≤ ((d.length : Nat) : Int) := by omega
  have k3a : (6 : Int) ≤ 6 + (n : Int) := by omega
  have k3b : 6 + (n : Int) ≤ 65542 := by omega
  obtain ⟨_, _, ed, hcd, hCd⟩ := Kd.R_reads hR4.out
  cases ed
  obtain ⟨A6, hcut6, hA6, hC6⟩ := print_mid_of (P := Try.prog) (Value.int .u8) 0 23 5 .i64 .i64 Try.underlying23 hi5 hsz Ad cd d 6 (6 + (n : Int)) (by decide) k3a k3 hcd
  have R6 := Kd.C_of_reads (h1 := fun _ => rfl) (hA6 _ (Kd.reads_of_C hCd))
  have q1 : (6 + (n : Int)).toNat = 6 + n := by omega
  have q2 : (6 : Int).toNat = 6 := rfl
  rw [q1, q2] at R6 hC6
  simp only [q1, q2] at hcut6
  obtain ⟨b, hbb⟩ : ∃ z, (d.take (6 + n)).drop 6 = z := ⟨_, rfl⟩
  have hbl : b.length = n := by rw [← hbb, List.length_drop, List.length_take]; omega
  have hbm : ∀ c ∈ b, 0 ≤ c ∧ c < 256 := fun x hx => hdm x (List.mem_of_mem_take (List.mem_of_mem_drop (by rw [hbb]; exact hx)))
  rw [hbb] at R6 hC6 hcut6
  have HBB := Aside0.mk hbb
  have HBL := Aside0.mk hbl
  obtain ⟨p, hp⟩ : ∃ z, packed ep sq b = z := ⟨_, rfl⟩
  have HP := Aside0.mk hp
  have hpl : p.length = 32 * m := by rw [← hp, packed_len, hbl, HM.out]
  have FP := Aside0.mk (show XChunk.frame_Pack.f ep sq b = some (p, 0) from by
    unfold XChunk.frame_Pack.f
    rw [if_pos ⟨hve0, hve1, hvs0, hvs1⟩, if_neg (by omega), if_pos (List.all_eq_true.2 (fun x hx => decide_eq_true (hbm x hx))), hp])
  clear hbb hp hA6 hCd q1 q2 hbm hdm
  have hbs : b.length ≤ 140737488351232 := by omega
  clear hbl
  have HPL := Aside0.mk hpl
  go_wp2_with fail
  refine (XSlices.clone_walk A6 _ b w4 R6 hbs).mono ?_
  rintro e w5 ⟨v5, rfl, hR5, hB5⟩
  obtain ⟨A7, c7, rfl⟩ := Kd.R_slice hR5
  obtain ⟨_, _, e5, hc7, hC7⟩ := Kd.R_reads hR5
  cases e5
  have HR5 := Aside0.mk hR5
  clear hR5 R6 hC6 hcut6
  go_wp2_with fail
  refine (XPack.frame_Pack.calls ep sq A7 c7 b p 0 w5 hC7 hc7 FP.out).mono ?_
  rintro e w6 ⟨v6, rfl, hV6, hB6⟩
  obtain ⟨A8, c8, rfl⟩ := Kd.V_slice hV6
  obtain ⟨-, hc8, hC8⟩ := Kd.V_reads' hV6
  have hB6' := below_step (below_step hB4 hB5) hB6
  have k4 : (0 : Int) ≤ ((p.length : Nat) : Int) := by omega
  have k5 : ((p.length : Nat) : Int) ≤ ((l.length : Nat) : Int) := by omega
  obtain ⟨hcut9, hA9, hC9⟩ := print_take_of (P := Try.prog) (Value.int .u8) 0 23 5 .i64 Try.underlying23 hi5 hsz A c l ((p.length : Nat) : Int) k4 k5 hc
  have R9 := Kd.C_of_reads (h1 := fun _ => rfl) (hA9 _ (Kd.reads_of_C (Kd.C_below hr hB6')))
  rw [Int.toNat_natCast] at R9 hC9
  simp only [Int.toNat_natCast] at hcut9
  obtain ⟨t9, ht9⟩ : ∃ z, l.take p.length = z := ⟨_, rfl⟩
  rw [ht9] at R9 hC9 hcut9
  obtain ⟨r, hq⟩ : ∃ z, eqB p t9 = z := ⟨_, rfl⟩
  have EQ := Aside0.mk (eq_f hq)
  have HO := Aside0.mk (show out = if r = true then (ep, sq, b, ((m : Nat) : Int), 0) else bad from by
    rw [← HU.out]; exact unpackF_4 h32 HN.out HM.out h2 HD.out h3 HE.out HQ.out HBB.out HP.out (by rw [← HPL.out, ht9]; exact hq))
  have hRf := Aside0.mk (Kd.R_lower (Kd.R_below HR5.out hB6) hB4.size)
  clear hq ht9 hA9 hpl h3 h2
  go_wp2_with fail
  refine (bytes_Equal.calls _ _ p _ _ t9 r w6 hC8 hc8 R9 hC9 EQ.out).mono ?_
  rintro e w7 ⟨rfl, ⟨n7, rfl⟩⟩
  cases r with
  | false =>
    obtain rfl : out = bad := HO.out.trans (if_neg (by decide))
    go_wp2_with fail
    refine bodyPost_ret (results_list (rs := [.tmp 2, .tmp 3, .tmp 4, .tmp 5, .tmp 6]) rfl (by simp) (.tmp (.tmp (.tmp (.tmp (.tmp .nil)))))) rfl ?_
    exact ⟨_, rfl, Kd.R_nil _ _ _ _ _, pw_below_drewN hB6' _⟩
  | true =>
    obtain rfl : out = (ep, sq, b, ((m : Nat) : Int), 0) := HO.out.trans (if_pos rfl)
    go_wp2_with fail
    refine bodyPost_ret (results_list (rs := [.tmp 2, .tmp 3, .tmp 4, .tmp 5, .tmp 6]) rfl (by simp) (.tmp (.tmp (.tmp (.tmp (.tmp .nil)))))) rfl ?_
    exact ⟨_, rfl, Kd.R_drewN hRf.out _, pw_below_drewN hB6' _⟩

end Go.Proofs.Ytglpelhbncdkmaa.XUnpack
