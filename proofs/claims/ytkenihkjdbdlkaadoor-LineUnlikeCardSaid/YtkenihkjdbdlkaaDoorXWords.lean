/-
  text.Words: its walk.
-/
import Derived.Laws.CopyOwn
import Derived.ArgAppend
import Derived.Below
import Derived.BigQuiet
import Derived.Deep.AppendLies
import Derived.Deep.CutBlock
import Derived.Deep.DeepCutAuto
import Derived.Deep.Draws
import Derived.Deep.LoopGhost
import Derived.Deep.OwnRows
import Derived.Deep.QuietTactic
import Derived.Deep.RegionHeld3
import Derived.Deep.WholeRow
import Derived.KernelRfl
import Derived.Laws.BitsLemmas
import Derived.Laws.BytesArg
import Derived.Laws.IdiomCopy
import Derived.Laws.MakeOwn
import Derived.Laws.OwnMore
import Derived.Laws.Rows
import Derived.Laws.Slices
import Derived.Lib.AppendStr
import Derived.Lib.ConvBytes
import Derived.Lib.Hide
import Derived.Maps.AppendAt
import Derived.OrdersHeld
import Derived.Outline
import Derived.OwnWalk
import Derived.RowKit
import Derived.RowKit3
import Derived.Tactics
import Derived.WalkKit
import Derived.WideLaws
import Derived.Test.YtkenihkjdbdlkaaDoorProg
import Derived.Test.YtkenihkjdbdlkaaDoorWApart
import Derived.Test.YtkenihkjdbdlkaaDoorWArr
import Derived.Test.YtkenihkjdbdlkaaDoorWAt
import Derived.Test.YtkenihkjdbdlkaaDoorWEqStruct
import Derived.Test.YtkenihkjdbdlkaaDoorWFoot
import Derived.Test.YtkenihkjdbdlkaaDoorWFootNe
import Derived.Test.YtkenihkjdbdlkaaDoorWFour
import Derived.Test.YtkenihkjdbdlkaaDoorWGuard
import Derived.Test.YtkenihkjdbdlkaaDoorWInv
import Derived.Test.YtkenihkjdbdlkaaDoorWInvWords
import Derived.Test.YtkenihkjdbdlkaaDoorWKept
import Derived.Test.YtkenihkjdbdlkaaDoorWLast
import Derived.Test.YtkenihkjdbdlkaaDoorWMore
import Derived.Test.YtkenihkjdbdlkaaDoorWN
import Derived.Test.YtkenihkjdbdlkaaDoorWNEv
import Derived.Test.YtkenihkjdbdlkaaDoorWQPut
import Derived.Test.YtkenihkjdbdlkaaDoorWRepsOne
import Derived.Test.YtkenihkjdbdlkaaDoorWShare
import Derived.Test.YtkenihkjdbdlkaaDoorWTab
import Derived.Test.YtkenihkjdbdlkaaDoorWWords
import Derived.Test.YtkenihkjdbdlkaaDoorWZeros
import Derived.Test.YtkenihkjdbdlkaaDoorShelf
import Derived.Test.YtkenihkjdbdlkaaDoorXWordsP
import Derived.Test.YtkenihkjdbdlkaaDoorXScope
namespace Go.Proofs.YtkenihkjdbdlkaaDoor.XWords
open Go.RowKit Go.Proofs.YtkenihkjdbdlkaaDoorW.PrintWords Go.Proofs.YtkenihkjdbdlkaaDoorW.PrintLast Go.Proofs.YtkenihkjdbdlkaaDoorW.PrintMore XEsc XWordsP XScope
set_option linter.unusedVariables false
set_option linter.unusedSimpArgs false
theorem info5 : (Tryd.prog.info? 5).map (fun i => (i.zero, i.size, i.bytes)) = some (some (.int .u8 0), 1, 1) := by kernel_rfl
theorem info9 : (Tryd.prog.info? 9).map (fun i => (i.zero, i.size, i.bytes)) = some (some (.string ⟨#[]⟩), 1, 16) := by kernel_rfl
abbrev words := XWordsP.words
theorem bare_any (c : Int) (w : World) : Calls Tryd.prog 41 #[.int .u8 c] w fun e w' => e = .returned (.bool (bareI c)) ∧ Drawn0 w w' := XBare.text_bare.calls c _ w (bare_f c)
theorem escape_any (s : ByteArray) (w : World) : Calls Tryd.prog 42 #[.string s] w fun e w' => e = .returned (.tuple #[.int .u8 (esc (bl s)).1, .int .i64 (esc (bl s)).2]) ∧ Drawn0 w w' := XBare.text_escape.calls 4 s _ _ w (escape_f s)
def Fin2 (base : Nat) (w0 : World) (r1 : List ByteArray) (r2 : Int) (e : Ending) (w' : World) : Prop := ∃ v0_ : Value, e = .returned (.tuple #[v0_, .int .i64 r2]) ∧ Kd.V Kd.string 9 w' base (fun k_ => base ≤ k_) v0_ r1 ∧ Below base w0 w'
def F0 (s : ByteArray) (v4 : Value) (i : Nat) (u : Nat → Value) : Array Value := #[.string s, (u 1), (u 2), (u 3), v4, (u 5), .int .i64 (i : Int), (u 7), (u 8), (u 9), (u 10), (u 11), (u 12), (u 13), (u 14), (u 15), (u 16), (u 17), (u 18), (u 19), (u 20), (u 21), (u 22), (u 23), (u 24), (u 25), (u 26), (u 27), (u 28), (u 29), (u 30), (u 31), (u 32), (u 33), (u 34), (u 35), (u 36), (u 37), (u 38), (u 39), (u 40), (u 41), (u 42), (u 43), (u 44), (u 45), (u 46), (u 47), (u 48), (u 49), (u 50), (u 51), (u 52), (u 53), (u 54), (u 55), (u 56), (u 57), (u 58), (u 59), (u 60), (u 61), (u 62), (u 63), (u 64), (u 65), (u 66), (u 67), (u 68), (u 69), (u 70), (u 71), (u 72), (u 73), (u 74), (u 75), (u 76), (u 77), (u 78), (u 79), (u 80), (u 81), (u 82), (u 83), (u 84), (u 85), (u 86), (u 87), (u 88), (u 89), (u 90), (u 91), (u 92), (u 93), (u 94), (u 95), (u 96), (u 97), (u 98), (u 99), (u 100), (u 101), (u 102), (u 103), (u 104), (u 105), (u 106), (u 107), (u 108), (u 109), (u 110), (u 111), (u 112), (u 113), (u 114), (u 115), (u 116), (u 117), (u 118), (u 119), (u 120), (u 121), (u 122), (u 123), (u 124), (u 125)]
def F1 (s : ByteArray) (v4 v5 : Value) (i : Nat) (u : Nat → Value) : Array Value := #[.string s, (u 1), (u 2), (u 3), v4, v5, .int .i64 (i : Int), (u 7), (u 8), (u 9), (u 10), (u 11), (u 12), (u 13), (u 14), (u 15), (u 16), (u 17), (u 18), (u 19), (u 20), (u 21), (u 22), (u 23), (u 24), (u 25), (u 26), (u 27), (u 28), (u 29), (u 30), (u 31), (u 32), (u 33), (u 34), (u 35), (u 36), (u 37), (u 38), (u 39), (u 40), (u 41), (u 42), (u 43), (u 44), (u 45), (u 46), (u 47), (u 48), (u 49), (u 50), (u 51), (u 52), (u 53), (u 54), (u 55), (u 56), (u 57), (u 58), (u 59), (u 60), (u 61), (u 62), (u 63), (u 64), (u 65), (u 66), (u 67), (u 68), (u 69), (u 70), (u 71), (u 72), (u 73), (u 74), (u 75), (u 76), (u 77), (u 78), (u 79), (u 80), (u 81), (u 82), (u 83), (u 84), (u 85), (u 86), (u 87), (u 88), (u 89), (u 90), (u 91), (u 92), (u 93), (u 94), (u 95), (u 96), (u 97), (u 98), (u 99), (u 100), (u 101), (u 102), (u 103), (u 104), (u 105), (u 106), (u 107), (u 108), (u 109), (u 110), (u 111), (u 112), (u 113), (u 114), (u 115), (u 116), (u 117), (u 118), (u 119), (u 120), (u 121), (u 122), (u 123), (u 124), (u 125)]
def F2 (s : ByteArray) (u : Nat → Value) : Array Value := #[.string s, (u 1), (u 2), (u 3), (u 4), (u 5), (u 6), (u 7), (u 8), (u 9), (u 10), (u 11), (u 12), (u 13), (u 14), (u 15), (u 16), (u 17), (u 18), (u 19), (u 20), (u 21), (u 22), (u 23), (u 24), (u 25), (u 26), (u 27), (u 28), (u 29), (u 30), (u 31), (u 32), (u 33), (u 34), (u 35), (u 36), (u 37), (u 38), (u 39), (u 40), (u 41), (u 42), (u 43), (u 44), (u 45), (u 46), (u 47), (u 48), (u 49), (u 50), (u 51), (u 52), (u 53), (u 54), (u 55), (u 56), (u 57), (u 58), (u 59), (u 60), (u 61), (u 62), (u 63), (u 64), (u 65), (u 66), (u 67), (u 68), (u 69), (u 70), (u 71), (u 72), (u 73), (u 74), (u 75), (u 76), (u 77), (u 78), (u 79), (u 80), (u 81), (u 82), (u 83), (u 84), (u 85), (u 86), (u 87), (u 88), (u 89), (u 90), (u 91), (u 92), (u 93), (u 94), (u 95), (u 96), (u 97), (u 98), (u 99), (u 100), (u 101), (u 102), (u 103), (u 104), (u 105), (u 106), (u 107), (u 108), (u 109), (u 110), (u 111), (u 112), (u 113), (u 114), (u 115), (u 116), (u 117), (u 118), (u 119), (u 120), (u 121), (u 122), (u 123), (u 124), (u 125)]
/-- What holds at a label. -/
def J (s : ByteArray) (w : World) (r1 : List ByteArray) (r2 : Int) : Nat → Nat → Act → World → Prop
  | 0, k, a, w' => ∃ (u : Nat → Value) (v4 : Value) (out : List ByteArray) (i : Nat), a = { tmps := F0 s v4 i u, defers := [] } ∧ i ≤ s.size ∧ out.length ≤ i ∧ Aside0 (bw k out ((bl s).drop i) = some (r1, r2)) ∧ Aside0 (Kd.R Kd.string 9 w' w.heap.size (fun _ => True) v4 out) ∧ Aside0 (Below w.heap.size w w')
  | 1, k, a, w' => ∃ (u : Nat → Value) (v4 v5 : Value) (out : List ByteArray) (ws : List Int) (i : Nat), a = { tmps := F1 s v4 v5 i u, defers := [] } ∧ i ≤ s.size ∧ out.length < i ∧ ws.length ≤ i ∧ Aside0 (qt k out ws ((bl s).drop i) = some (r1, r2)) ∧ Aside0 (Kd.R Kd.string 9 w' w.heap.size (fun _ => True) v4 out) ∧ Aside0 (Kd.R (Kd.int .u8) 5 w' w.heap.size (fun _ => True) v5 ws) ∧ Aside0 (Below w.heap.size w w')
  | 2, k, a, w' => ∃ (u : Nat → Value), a = { tmps := F2 s u, defers := [] } ∧ Aside0 ((([] : List ByteArray), (11 : Int)) = (r1, r2)) ∧ Aside0 (Below w.heap.size w w')
  | 3, k, a, w' => ∃ (u : Nat → Value) (v4 v5 : Value) (out : List ByteArray) (ws : List Int) (i : Nat), a = { tmps := F1 s v4 v5 i u, defers := [] } ∧ i ≤ s.size ∧ out.length < i ∧ ws.length ≤ i ∧ Aside0 (ed k out ws ((bl s).drop i) = some (r1, r2)) ∧ Aside0 (Kd.R Kd.string 9 w' w.heap.size (fun _ => True) v4 out) ∧ Aside0 (Kd.R (Kd.int .u8) 5 w' w.heap.size (fun _ => True) v5 ws) ∧ Aside0 (Below w.heap.size w w')
  | _, _, _, _ => False
theorem J0_mk {s : ByteArray} {w : World} {r1 : List ByteArray} {r2 : Int} {k : Nat} {T : Array Value} {w' : World} {v4 : Value} {out : List ByteArray} {i : Nat} (hT : T = F0 s v4 i (fun q => T.getD q undef)) (h1 : i ≤ s.size) (h2 : out.length ≤ i) (h3 : Aside0 (bw k out ((bl s).drop i) = some (r1, r2))) (h4 : Aside0 (Kd.R Kd.string 9 w' w.heap.size (fun _ => True) v4 out)) (h5 : Aside0 (Below w.heap.size w w')) : J s w r1 r2 0 k ⟨T, []⟩ w' :=
  ⟨_, v4, out, i, congrArg (fun t => (⟨t, []⟩ : Act)) hT, h1, h2, h3, h4, h5⟩
theorem J1_mk {s : ByteArray} {w : World} {r1 : List ByteArray} {r2 : Int} {k : Nat} {T : Array Value} {w' : World} {v4 v5 : Value} {out : List ByteArray} {ws : List Int} {i : Nat} (hT : T = F1 s v4 v5 i (fun q => T.getD q undef)) (h1 : i ≤ s.size) (h2 : out.length < i) (h2' : ws.length ≤ i) (h3 : Aside0 (qt k out ws ((bl s).drop i) = some (r1, r2))) (h4 : Aside0 (Kd.R Kd.string 9 w' w.heap.size (fun _ => True) v4 out)) (h4' : Aside0 (Kd.R (Kd.int .u8) 5 w' w.heap.size (fun _ => True) v5 ws)) (h5 : Aside0 (Below w.heap.size w w')) : J s w r1 r2 1 k ⟨T, []⟩ w' :=
  ⟨_, v4, v5, out, ws, i, congrArg (fun t => (⟨t, []⟩ : Act)) hT, h1, h2, h2', h3, h4, h4', h5⟩
theorem J3_mk {s : ByteArray} {w : World} {r1 : List ByteArray} {r2 : Int} {k : Nat} {T : Array Value} {w' : World} {v4 v5 : Value} {out : List ByteArray} {ws : List Int} {i : Nat} (hT : T = F1 s v4 v5 i (fun q => T.getD q undef)) (h1 : i ≤ s.size) (h2 : out.length < i) (h2' : ws.length ≤ i) (h3 : Aside0 (ed k out ws ((bl s).drop i) = some (r1, r2))) (h4 : Aside0 (Kd.R Kd.string 9 w' w.heap.size (fun _ => True) v4 out)) (h4' : Aside0 (Kd.R (Kd.int .u8) 5 w' w.heap.size (fun _ => True) v5 ws)) (h5 : Aside0 (Below w.heap.size w w')) : J s w r1 r2 3 k ⟨T, []⟩ w' :=
  ⟨_, v4, v5, out, ws, i, congrArg (fun t => (⟨t, []⟩ : Act)) hT, h1, h2, h2', h3, h4, h4', h5⟩
theorem J2_mk {s : ByteArray} {w : World} {r1 : List ByteArray} {r2 : Int} {k : Nat} {T : Array Value} {w' : World} (hT : T = F2 s (fun q => T.getD q undef)) (h3 : Aside0 ((([] : List ByteArray), (11 : Int)) = (r1, r2))) (h5 : Aside0 (Below w.heap.size w w')) : J s w r1 r2 2 k ⟨T, []⟩ w' :=
  ⟨_, congrArg (fun t => (⟨t, []⟩ : Act)) hT, h3, h5⟩
theorem drop_bl (s : ByteArray) (i : Nat) (h : i < s.size) : (bl s).drop i = (bl s).getD i 0 :: (bl s).drop (i + 1) := by
  rw [← bl_length] at h
  rw [List.drop_eq_getElem_cons h, List.getD_eq_getElem?_getD, List.getElem?_eq_getElem h]
  rfl
theorem byte_at (s : ByteArray) (i : Nat) (h : i < s.size) : ((s[i]'h).toNat : Int) = (bl s).getD i 0 := by
  have := bt_at s (i : Int) (by rw [Int.toNat_natCast]; exact h)
  rw [bt_bl] at this
  exact this
theorem byte_range (s : ByteArray) (i : Nat) (h : i < s.size) : 0 ≤ (bl s).getD i 0 ∧ (bl s).getD i 0 ≤ 255 := by
  rw [← byte_at s i h]
  have := (s[i]'h).toNat_lt
  omega
theorem span_at {l : List Int} {p : Int → Bool} : ∀ {n : Nat}, (∀ c ∈ l.take n, p c = true) → (l.drop n = [] ∨ ∃ c r, l.drop n = c :: r ∧ p c = false) → l.takeWhile p = l.take n ∧ l.dropWhile p = l.drop n := by
  induction l with
  | nil => intro n _ _; simp
  | cons x xs ih =>
    intro n hall hend
    cases n with
    | zero =>
      rcases hend with h | ⟨c, r, h, hc⟩
      · simp at h
      · simp at h
        obtain ⟨rfl, rfl⟩ := h
        simp [List.takeWhile_cons, List.dropWhile_cons, hc]
    | succ n =>
      have hx := hall x (by simp)
      obtain ⟨h1, h2⟩ := ih (n := n) (fun c hc => hall c (by simp [hc])) (by simpa using hend)
      simp [List.takeWhile_cons, List.dropWhile_cons, hx, h1, h2]
theorem V_of_R {w : World} {base : Nat} {v : Value} {xs : List ByteArray} (h : Kd.R Kd.string 9 w base (fun _ => True) v xs) : Kd.V Kd.string 9 w base (fun k_ => base ≤ k_) v xs := Kd.R_V (Kd.R_mono (Kd.R_bound h) (fun k hk => hk.2.1))
theorem clip_V {A : Option Addr} {n c : Nat} {w : World} {base : Nat} {xs : List ByteArray} (h : Kd.R Kd.string 9 w base (fun _ => True) (.slice A n c) xs) : Kd.V Kd.string 9 w base (fun k_ => base ≤ k_) (.slice A n n) xs := by
  obtain ⟨hn, _, hF⟩ := Kd.V_at (V_of_R h)
  subst hn
  exact Kd.V_mk (Nat.le_refl _) hF
theorem other_types {α β : Type} {d : Kd α} {d' : Kd β} {e e' base base' : Nat} {ok ok' : Nat → Prop} {W w1 : World} {v u : Value} {xs : List α} {ys : List β} (h : d.R e W base ok v xs) (hE : d.E = []) (hu : d'.R e' W base' ok' u ys) (he : e ≠ e') (hg : W.grownBy w1 u.ownBlock) : d.R e w1 base ok v xs :=
  Kd.R_grown2 h hE hg (fun k hk hv => by
    obtain ⟨c1, h1⟩ := own_typed h.2.choose_spec.1 k hv.symm
    obtain ⟨c2, h2⟩ := own_typed hu.2.choose_spec.1 k hk
    rw [h1] at h2
    injection h2 with h2
    injection h2 with _ h2 _
    exact he h2)
def theScope : Code → Option Code
  | .scope c => some c
  | .seq a b => match theScope a with
    | some c => some c
    | none => theScope b
  | _ => none
noncomputable def rest0 : Code := ((Tryd.f22.body.bind theScope).bind fun c => findLabel c 0).getD .skip
noncomputable def rest1 : Code := match rest0 with
  | .seq _ b => b
  | c => c
set_option maxRecDepth 1000000 in
set_option maxHeartbeats 8000000 in
theorem pass0 (s : ByteArray) (r1 : List ByteArray) (r2 : Int) (w : World) (hs : s.size ≤ 1099511627776) (k : Nat) (a : Act) (w1 : World) (hJ : J s w r1 r2 0 k a w1) :
    rest1.wp Tryd.prog (jumps (fun l' a' w' => ∃ k', k' < k ∧ J s w r1 r2 l' k' a' w') (bodyPost Tryd.prog Tryd.f22 (Fin2 w.heap.size w r1 r2))) a w1 := by
  have HS := Aside0.mk hs
  obtain ⟨u, v4, out, i, rfl, hi, ho, HA, HO, HB⟩ := hJ
  conv => arg 2; whnf
  unfold F0
  go_wp2
  go_loopw [6] (fun v6 wr => ∃ (j k' : Nat), j ≤ s.size ∧ i ≤ j ∧ k' ≤ k ∧ v6 = .int .i64 j ∧ Aside0 (bw k' out ((bl s).drop j) = some (r1, r2)) ∧ wr = w1) (fun v6 _ => s.size - (intOf v6).toNat)
  case atStart => exact ⟨i, k, hi, Nat.le_refl _, Nat.le_refl _, rfl, HA, rfl⟩
  case round =>
    obtain ⟨j, k', hj, hij, hk, rfl, HA, rfl⟩ := hrel
    cases k' with
    | zero => exact absurd HA.out (by simp [bw])
    | succ k' =>
      by_cases hlt : j < s.size
      · obtain ⟨c, hc⟩ : ∃ c, (bl s).getD j 0 = c := ⟨_, rfl⟩
        have hx := byte_at s j hlt
        have hcr := byte_range s j hlt
        have hA := HA.out
        rw [drop_bl s j hlt, hc] at hA
        rw [hc] at hx hcr
        have HX := Aside0.mk hx
        have HDJ := Aside0.mk (show (bl s).drop j = c :: (bl s).drop (j + 1) by rw [drop_bl s j hlt, hc])
        clear hc hx HA
        by_cases h32 : c = 32
        · subst h32
          have HA := Aside0.mk (show bw k' out ((bl s).drop (j + 1)) = some (r1, r2) by simpa [bw] using hA)
          have hx := HX.out
          clear hA
          go_wp2
          go_roundw
          case rel => exact ⟨j + 1, k', by omega, by omega, by omega, by go_num, HA, by first | rfl | trivial⟩
          case measure => simp [intOf]; omega
        · have hx := HX.out
          have h32b : (c == 32) = false := beq_eq_false_iff_ne.2 h32
          have hl : bw (k' + 1) out (c :: (bl s).drop (j + 1)) = (if c = 35 then some (out, 0) else if c = 34 then qt k' out [] ((bl s).drop (j + 1)) else
            if (c :: (bl s).drop (j + 1)).takeWhile bareI = [] then some ([], 11) else ed k' out ((c :: (bl s).drop (j + 1)).takeWhile bareI) ((c :: (bl s).drop (j + 1)).dropWhile bareI)) := by simp only [bw]; rw [if_neg h32]
          rw [hl] at hA
          clear hl
          have hjs : ((j : Int) == (s.size : Int)) = false := beq_eq_false_iff_ne.2 (by omega)
          by_cases h35 : c = 35
          · subst h35
            rw [if_pos rfl] at hA
            have h := Option.some.inj hA
            injection h with h1 h2
            subst h1 h2
            clear hA
            obtain ⟨A4, c4, hv4⟩ := Kd.R_slice HO.out
            subst hv4
            have hroom := (Kd.R_reads' HO.out).2.1
            go_wp2
            simp only [jumps]
            go_ret2
            exact ⟨_, rfl, clip_V HO.out, HB.out⟩
          · by_cases h34 : c = 34
            · subst h34
              rw [if_neg (by decide), if_pos rfl] at hA
              have HA := Aside0.mk hA
              clear hA
              go_wp2
              go_step3
              exact ⟨k', by omega, J1_mk (v5 := .slice none 0 0) (ws := []) (i := j + 1) rfl (by omega) (by omega) (by simp) HA HO ⟨Kd.R_nil _ _ _ _ _⟩ HB⟩
            · rw [if_neg h35, if_neg h34] at hA
              have h35b : (c == 35) = false := beq_eq_false_iff_ne.2 h35
              have h34b : (c == 34) = false := beq_eq_false_iff_ne.2 h34
              have HA := Aside0.mk hA
              clear hA h34 h35 h32
              go_wp2
              go_loopw [5, 6] (fun v5 v6 wr2 => ∃ q : Nat, j ≤ q ∧ q ≤ s.size ∧ v6 = .int .i64 q ∧ Aside0 (∀ c ∈ ((bl s).drop j).take (q - j), bareI c = true) ∧ Aside0 (Kd.R Kd.string 9 wr2 w.heap.size (fun _ => True) v4 out) ∧ Aside0 (Kd.R (Kd.int .u8) 5 wr2 w.heap.size (fun _ => True) v5 (((bl s).drop j).take (q - j))) ∧ Aside0 (Below w.heap.size w wr2)) (fun _ v6 _ => s.size - (intOf v6).toNat)
              case atStart => exact ⟨j, Nat.le_refl _, hj, rfl, ⟨by rw [Nat.sub_self]; intro c hc; simp at hc⟩, HO, ⟨by rw [Nat.sub_self]; exact Kd.R_nil _ _ _ _ _⟩, HB⟩
              case round =>
                clear HO HB
                obtain ⟨q, hjq, hq, rfl, HP, HO, HW, HB⟩ := hrel
                have HEND := Aside0.mk (fun hend => span_at (l := (bl s).drop j) (p := bareI) (n := q - j) HP.out hend)
                by_cases hlq : q < s.size
                · obtain ⟨d, hd⟩ : ∃ d, (bl s).getD q 0 = d := ⟨_, rfl⟩
                  have hxq := byte_at s q hlq
                  rw [hd] at hxq
                  have hdq := drop_bl s q hlq
                  rw [hd] at hdq
                  have HDQ := Aside0.mk hdq
                  clear hdq hd
                  cases hbd : bareI d with
                  | true =>
                    have hlen : (((bl s).drop j).take (q - j)).length = q - j := by rw [List.length_take, List.length_drop, bl_length]; omega
                    have hlk : ((((bl s).drop j).take (q - j)).length + 1) * 1 ≤ 140737488355328 := by rw [hlen]; have := HS.out; omega
                    have hsn : ((bl s).drop j).take (q - j) ++ [d] = ((bl s).drop j).take (q + 1 - j) := by
                      have h1 : (bl s).drop q = ((bl s).drop j).drop (q - j) := by rw [List.drop_drop]; congr 1; omega
                      rw [show q + 1 - j = (q - j) + 1 by omega, List.take_add_one]
                      congr 1
                      have h2 := HDQ.out
                      rw [h1] at h2
                      have h3 : ((bl s).drop j)[q - j]? = some d := by rw [← List.head?_drop, h2]; rfl
                      rw [h3]; rfl
                    have HLK := Aside0.mk hlk
                    have HSN := Aside0.mk hsn
                    have HP' := Aside0.mk (show ∀ c ∈ ((bl s).drop j).take (q + 1 - j), bareI c = true by
                      rw [← hsn]; intro c hc; rcases List.mem_append.1 hc with h | h
                      · exact HP.out c h
                      · rw [List.mem_singleton.1 h]; exact hbd)
                    clear hlen hlk hsn HEND HDQ HP
                    generalize ((bl s).drop j).take (q - j) = ws at *
                    obtain ⟨A5, c5, hv5⟩ := Kd.R_slice HW.out
                    subst hv5
                    go_wp2_with (first
                      | (go_at_call 41; refine (bare_any d _).mono ?_; rintro e w' ⟨rfl, nd, rfl⟩)
                      | (at_builtin; refine Kd.R_append (Kd.int .u8) (w0 := w) w.heap.size rfl (.tmp 49) (.tmp 53) 64 5 (.int .u8 0) 1 rfl Tryd.underlying64 info5 rfl (by decide) (by decide) (.slice A5 ws.length c5) ws d [.int .u8 d] (fun _ => True) (fun _ => False) rfl rfl rfl (fun _ hk => hk.elim) (fun _ _ => trivial) (Kd.R_drewN HW.out nd) (pw_below_drewN HB.out nd) ((pw_below_drewN HB.out nd)).size HLK.out ?_; intro v1_ w1_ hR_ hB_ hG_ hat_; have HW1 := Aside0.mk hR_; have HB1 := Aside0.mk hB_; have HO1 := Aside0.mk (other_types (Kd.R_drewN HO.out nd) rfl (Kd.R_drewN HW.out nd) (by decide) hG_); clear hR_ hB_ hG_ hat_))
                    go_roundw
                    case rel => exact ⟨q + 1, by omega, by omega, by go_num, HP', HO1, ⟨by rw [← HSN.out]; exact HW1.out⟩, HB1⟩
                    case measure => simp [intOf]; omega
                  | false =>
                    obtain ⟨ht, hd⟩ := HEND.out (.inr ⟨d, (bl s).drop (q + 1), by rw [← HDQ.out, List.drop_drop]; congr 1; omega, hbd⟩)
                    have hlen : (((bl s).drop j).take (q - j)).length = q - j := by rw [List.length_take, List.length_drop, bl_length]; omega
                    have hA0 := HA.out
                    rw [← HDJ.out, ht, hd, List.drop_drop, show j + (q - j) = q by omega] at hA0
                    by_cases hz : q = j
                    · have hw0 : ((bl s).drop j).take (q - j) = [] := by rw [hz, Nat.sub_self]; rfl
                      rw [if_pos hw0] at hA0
                      have HA2 := Aside0.mk (Option.some.inj hA0)
                      have hw1 : (((bl s).drop j).take (q - j)).length = 0 := by rw [hw0]; rfl
                      obtain ⟨A5, c5, hv5⟩ := Kd.R_slice HW.out
                      rw [hw1] at hv5
                      subst hv5
                      clear hA0 hw0 hw1 ht hd hlen HEND hz
                      go_wp2_with (go_at_call 41; refine (bare_any d _).mono ?_; rintro e w' ⟨rfl, nd, rfl⟩)
                      go_step3
                      exact ⟨0, by omega, J2_mk rfl HA2 ⟨(pw_below_drewN HB.out nd)⟩⟩
                    · have hw0 : ((bl s).drop j).take (q - j) ≠ [] := fun h => by rw [h] at hlen; simp at hlen; omega
                      rw [if_neg hw0] at hA0
                      have HA2 := Aside0.mk hA0
                      have hjq2 : j < q := by omega
                      have hlz : 0 < (((bl s).drop j).take (q - j)).length := by rw [hlen]; omega
                      have hlq2 : (((bl s).drop j).take (q - j)).length ≤ q := by rw [hlen]; omega
                      obtain ⟨A5, c5, hv5⟩ := Kd.R_slice HW.out
                      subst hv5
                      clear hA0 hw0 ht hd hlen HEND HA HDJ hz
                      generalize ((bl s).drop j).take (q - j) = ws at *
                      have hlzb : ((ws.length : Int) == 0) = false := beq_eq_false_iff_ne.2 (by omega)
                      go_wp2_with (go_at_call 41; refine (bare_any d _).mono ?_; rintro e w' ⟨rfl, nd, rfl⟩)
                      go_step3
                      exact ⟨k', by omega, J3_mk (ws := ws) rfl (by omega) (by omega) hlq2 HA2 ⟨(Kd.R_drewN HO.out nd)⟩ ⟨(Kd.R_drewN HW.out nd)⟩ ⟨(pw_below_drewN HB.out nd)⟩⟩
                · obtain rfl : q = s.size := by omega
                  have hnil : (bl s).drop s.size = [] := by rw [← bl_length]; exact List.drop_length ..
                  obtain ⟨ht, hd⟩ := HEND.out (.inl (by rw [List.drop_drop, show j + (s.size - j) = s.size by omega]; exact hnil))
                  have hlen : (((bl s).drop j).take (s.size - j)).length = s.size - j := by rw [List.length_take, List.length_drop, bl_length]; omega
                  have hA0 := HA.out
                  rw [← HDJ.out, ht, hd, List.drop_drop, show j + (s.size - j) = s.size by omega] at hA0
                  by_cases hz : s.size = j
                  · have hw0 : ((bl s).drop j).take (s.size - j) = [] := by rw [hz, Nat.sub_self]; rfl
                    rw [if_pos hw0] at hA0
                    have HA2 := Aside0.mk (Option.some.inj hA0)
                    have hw1 : (((bl s).drop j).take (s.size - j)).length = 0 := by rw [hw0]; rfl
                    obtain ⟨A5, c5, hv5⟩ := Kd.R_slice HW.out
                    rw [hw1] at hv5
                    subst hv5
                    clear hA0 hw0 hw1 ht hd hlen HEND hz
                    go_wp2
                    go_step3
                    exact ⟨0, by omega, J2_mk rfl HA2 ⟨HB.out⟩⟩
                  · have hw0 : ((bl s).drop j).take (s.size - j) ≠ [] := fun h => by rw [h] at hlen; simp at hlen; omega
                    rw [if_neg hw0] at hA0
                    have HA2 := Aside0.mk hA0
                    have hjq2 : j < s.size := by omega
                    have hlz : 0 < (((bl s).drop j).take (s.size - j)).length := by rw [hlen]; omega
                    have hlq2 : (((bl s).drop j).take (s.size - j)).length ≤ s.size := by rw [hlen]; omega
                    obtain ⟨A5, c5, hv5⟩ := Kd.R_slice HW.out
                    subst hv5
                    clear hA0 hw0 ht hd hlen HEND HA HDJ hz
                    generalize ((bl s).drop j).take (s.size - j) = ws at *
                    have hlzb : ((ws.length : Int) == 0) = false := beq_eq_false_iff_ne.2 (by omega)
                    go_wp2
                    go_step3
                    exact ⟨k', by omega, J3_mk (ws := ws) rfl (by omega) (by omega) hlq2 HA2 ⟨HO.out⟩ ⟨HW.out⟩ ⟨HB.out⟩⟩
      · obtain rfl : j = s.size := by omega
        have hnil : (bl s).drop s.size = [] := by rw [← bl_length]; exact List.drop_length ..
        have hA := HA.out
        rw [hnil] at hA
        simp only [bw] at hA
        have h := Option.some.inj hA
        injection h with h1 h2
        subst h1 h2
        clear hA hnil HA
        obtain ⟨A4, c4, hv4⟩ := Kd.R_slice HO.out
        subst hv4
        have hroom := (Kd.R_reads' HO.out).2.1
        go_wp2
        simp only [jumps]
        go_ret2
        exact ⟨_, rfl, clip_V HO.out, HB.out⟩
set_option maxRecDepth 1000000 in
set_option maxHeartbeats 8000000 in
theorem calls' (s : ByteArray) (r1 : List ByteArray) (r2 : Int) (w : World) (h : words s = some (r1, r2)) :
    Calls Tryd.prog 22 #[.string s] w (Fin2 w.heap.size w r1 r2) := by
  by_cases hs : s.size ≤ 1099511627776
  rotate_left
  · rw [words, XWordsP.words, if_neg hs] at h; cases h
  rw [words, XWordsP.words, if_pos hs] at h
  have H := Aside0.mk h
  have HS := Aside0.mk hs
  clear h
  go_enter Tryd.func22, Tryd.ntmps22
  go_wp2
  refine wp_scope_labels (J s w r1 r2) (4 * s.size + 4) ?_ ?_
  · have HA := Aside0.mk (show bw (4 * s.size + 4) [] ((bl s).drop 0) = some (r1, r2) by rw [List.drop_zero]; exact H.out)
    go_wp2
    refine wp_label ?_
    simp only [Exit.then]
    rename_i Q1 K1 hK1
    refine hK1 _ _ ?_
    subst Q1
    refine pass0 s r1 r2 w hs _ _ _ ?_
    exact J0_mk (v4 := .slice none 0 0) (out := []) (i := 0) rfl (Nat.zero_le _) (Nat.le_refl _) HA ⟨Kd.R_nil Kd.string 9 w w.heap.size (fun _ => True)⟩ ⟨Below.refl w.heap.size w⟩
  · intro l k a w1 hJ
    match l, hJ with
    | 0, hJ => exact ⟨_, rfl, wp_seq (wp_skip (pass0 s r1 r2 w hs k a w1 hJ))⟩
    | 1, hJ =>
      obtain ⟨u, v4, v5, out, ws, i, rfl, hi, ho, hwl, HA, HO, HW, HB⟩ := hJ
      refine ⟨_, rfl, ?_⟩
      unfold F1
      cases k with
      | zero => exact absurd HA.out (by simp [qt])
      | succ k =>
        by_cases hlt : i < s.size
        · obtain ⟨c, hc⟩ : ∃ c, (bl s).getD i 0 = c := ⟨_, rfl⟩
          have hx := byte_at s i hlt
          have hcr := byte_range s i hlt
          have hA := HA.out
          rw [drop_bl s i hlt, hc] at hA
          rw [hc] at hx hcr
          have hjs : ((i : Int) == (s.size : Int)) = false := beq_eq_false_iff_ne.2 (by omega)
          have hl : qt (k + 1) out ws (c :: (bl s).drop (i + 1)) = (if c < 32 ∨ 126 < c then some ([], 11) else if c = 34 then ed k out ws ((bl s).drop (i + 1)) else
            if c = 92 then (if (esc ((bl s).drop (i + 1))).2 = 0 then some ([], 11) else qt k out (ws ++ [(esc ((bl s).drop (i + 1))).1]) (((bl s).drop (i + 1)).drop (esc ((bl s).drop (i + 1))).2.toNat)) else qt k out (ws ++ [c]) ((bl s).drop (i + 1))) := by simp only [qt]
          rw [hl] at hA
          clear hl hc HA
          by_cases hbad : c < 32 ∨ 126 < c
          · rw [if_pos hbad] at hA
            have HA := Aside0.mk (Option.some.inj hA)
            clear hA
            rcases hbad with hbad | hbad
            · have hb1 : decide (c < 32) = true := decide_eq_true hbad
              go_wp2
              go_step3
              exact ⟨0, by omega, J2_mk rfl HA HB⟩
            · have hb1 : decide (c < 32) = false := decide_eq_false (by omega)
              have hb2 : decide (126 < c) = true := decide_eq_true hbad
              go_wp2
              go_step3
              exact ⟨0, by omega, J2_mk rfl HA HB⟩
          · rw [if_neg hbad] at hA
            have hb1 : decide (c < 32) = false := decide_eq_false (by omega)
            have hb2 : decide (126 < c) = false := decide_eq_false (by omega)
            clear hbad
            by_cases h34 : c = 34
            · subst h34
              rw [if_pos rfl] at hA
              have HA := Aside0.mk hA
              clear hA
              go_wp2
              go_step3
              exact ⟨k, by omega, J3_mk (i := i + 1) rfl (by omega) (by omega) (by omega) HA HO HW HB⟩
            · rw [if_neg h34] at hA
              have h34b : (c == 34) = false := beq_eq_false_iff_ne.2 h34
              clear h34
              by_cases h92 : c = 92
              · subst h92
                rw [if_pos rfl] at hA
                have HAA := Aside0.mk hA
                clear hA
                have hE := fun W => escape_any (s.extract (i + 1) s.size) W
                have hbe : bl (s.extract (i + 1) s.size) = (bl s).drop (i + 1) := by
                  rw [bl_extract, ← bl_length, List.take_length]
                rw [hbe] at hE
                have he1 := esc_len ((bl s).drop (i + 1))
                have he2 := esc_byte ((bl s).drop (i + 1)) (fun c hc => bl_range s c (List.mem_of_mem_drop hc))
                rw [List.length_drop, bl_length] at he1
                have hA := HAA.out
                rw [List.drop_drop] at hA
                generalize esc ((bl s).drop (i + 1)) = es at *
                obtain ⟨b, n⟩ := es
                simp only at hA hE he1 he2
                clear hbe HAA
                by_cases hn0 : n = 0
                · subst hn0
                  rw [if_pos rfl] at hA
                  have HA := Aside0.mk (Option.some.inj hA)
                  clear hA
                  go_wp2_with (go_at_call 42; refine (hE _).mono ?_; rintro e w' ⟨rfl, nd, rfl⟩)
                  go_step3
                  exact ⟨0, by omega, J2_mk rfl HA ⟨pw_below_drewN HB.out nd⟩⟩
                · rw [if_neg hn0] at hA
                  have hn0b : (n == 0) = false := beq_eq_false_iff_ne.2 hn0
                  obtain ⟨m, rfl⟩ : ∃ m : Nat, n = (m : Int) := ⟨n.toNat, by omega⟩
                  rw [Int.toNat_natCast, show i + 1 + m = i + (1 + m) by omega] at hA
                  have HA := Aside0.mk hA
                  have HLK := Aside0.mk (show (ws.length + 1) * 1 ≤ 140737488355328 by omega)
                  clear hA hn0
                  obtain ⟨A5, c5, hv5⟩ := Kd.R_slice HW.out
                  subst hv5
                  go_wp2_with (first
                    | (go_at_call 42; refine (hE _).mono ?_; rintro e w' ⟨rfl, nd, rfl⟩)
                    | (at_builtin; refine Kd.R_append (Kd.int .u8) (w0 := w) w.heap.size rfl (.tmp 103) (.tmp 105) 64 5 (.int .u8 0) 1 rfl Tryd.underlying64 info5 rfl (by decide) (by decide) (.slice A5 ws.length c5) ws b [.int .u8 b] (fun _ => True) (fun _ => False) rfl rfl rfl (fun _ hk => hk.elim) (fun _ _ => trivial) (Kd.R_drewN HW.out nd) (pw_below_drewN HB.out nd) ((pw_below_drewN HB.out nd)).size HLK.out ?_; intro v1_ w1_ hR_ hB_ hG_ hat_; have HW1 := Aside0.mk hR_; have HB1 := Aside0.mk hB_; have HO1 := Aside0.mk (other_types (Kd.R_drewN HO.out nd) rfl (Kd.R_drewN HW.out nd) (by decide) hG_); clear hR_ hB_ hG_ hat_))
                  go_step3
                  exact ⟨k, by omega, J1_mk (ws := ws ++ [b]) (i := i + (1 + m)) rfl (by omega) (by omega) (by rw [List.length_append, List.length_singleton]; omega) HA HO1 HW1 HB1⟩
              · rw [if_neg h92] at hA
                have h92b : (c == 92) = false := beq_eq_false_iff_ne.2 h92
                have HA := Aside0.mk hA
                have HLK := Aside0.mk (show (ws.length + 1) * 1 ≤ 140737488355328 by omega)
                clear hA h92
                obtain ⟨A5, c5, hv5⟩ := Kd.R_slice HW.out
                subst hv5
                go_wp2_with (at_builtin; refine Kd.R_append (Kd.int .u8) (w0 := w) w.heap.size rfl (.tmp 79) (.tmp 83) 64 5 (.int .u8 0) 1 rfl Tryd.underlying64 info5 rfl (by decide) (by decide) (.slice A5 ws.length c5) ws c [.int .u8 c] (fun _ => True) (fun _ => False) rfl rfl rfl (fun _ hk => hk.elim) (fun _ _ => trivial) HW.out HB.out (HB.out).size HLK.out ?_; intro v1_ w1_ hR_ hB_ hG_ hat_; have HW1 := Aside0.mk hR_; have HB1 := Aside0.mk hB_; have HO1 := Aside0.mk (other_types HO.out rfl HW.out (by decide) hG_); clear hR_ hB_ hG_ hat_)
                go_step3
                exact ⟨k, by omega, J1_mk (ws := ws ++ [c]) (i := i + 1) rfl (by omega) (by omega) (by rw [List.length_append, List.length_singleton]; omega) HA HO1 HW1 HB1⟩
        · obtain rfl : i = s.size := by omega
          have hnil : (bl s).drop s.size = [] := by rw [← bl_length]; exact List.drop_length ..
          have hA := HA.out
          rw [hnil] at hA
          simp only [qt] at hA
          have HA2 := Aside0.mk (Option.some.inj hA)
          clear hA hnil HA
          go_wp2
          go_step3
          exact ⟨0, by omega, J2_mk rfl HA2 HB⟩
    | 2, hJ =>
      obtain ⟨u, rfl, HA, HB⟩ := hJ
      refine ⟨_, rfl, ?_⟩
      unfold F2
      go_wp2
      simp only [jumps]
      go_ret2
      have h := HA.out
      injection h with h1 h2
      subst h1 h2
      exact ⟨_, rfl, V_of_R (Kd.R_nil _ _ _ _ _), HB.out⟩
    | 3, hJ =>
      obtain ⟨u, v4, v5, out, ws, i, rfl, hi, ho, hwl, HA, HO, HW, HB⟩ := hJ
      refine ⟨_, rfl, ?_⟩
      unfold F1
      cases k with
      | zero => exact absurd HA.out (by simp [ed])
      | succ k =>
        have hcv := own_string (P := Tryd.prog) Tryd.underlying64 Tryd.underlying5 Tryd.underlying9 (Kd.own_of_R HW.out)
        have hms : Kd.string.M w1 w.heap.size (fun _ => False) (strOfNums ws) [.string (strOfNums ws)] := rfl
        have HMS := Aside0.mk hms
        have HLK := Aside0.mk (show (out.length + 1) * 16 ≤ 140737488355328 by omega)
        obtain ⟨A4, c4, hv4⟩ := Kd.R_slice HO.out
        subst hv4
        clear hms
        by_cases hlt : i < s.size
        · obtain ⟨c, hc⟩ : ∃ c, (bl s).getD i 0 = c := ⟨_, rfl⟩
          have hx := byte_at s i hlt
          have hA := HA.out
          rw [drop_bl s i hlt, hc] at hA
          rw [hc] at hx
          have hdc : (bl s).drop i = c :: (bl s).drop (i + 1) := by rw [drop_bl s i hlt, hc]
          have hjs : ((i : Int) == (s.size : Int)) = false := beq_eq_false_iff_ne.2 (by omega)
          have hl : ed (k + 1) out ws (c :: (bl s).drop (i + 1)) = (if c = 32 then bw k (out ++ [strOfNums ws]) (c :: (bl s).drop (i + 1)) else some ([], 11)) := by simp only [ed]
          rw [hl, ← hdc] at hA
          clear hl hc HA hdc
          by_cases h32 : c = 32
          · subst h32
            rw [if_pos rfl] at hA
            have HA := Aside0.mk hA
            clear hA
            go_wp2_with (at_builtin; refine Kd.R_append Kd.string (w0 := w) w.heap.size rfl (.tmp 111) (.tmp 114) 45 9 (.string ⟨#[]⟩) 16 rfl Tryd.underlying45 info9 rfl (by decide) (by decide) (.slice A4 out.length c4) out (strOfNums ws) [.string (strOfNums ws)] (fun _ => True) (fun _ => False) rfl rfl HMS.out (fun _ hk => hk.elim) (fun _ _ => trivial) HO.out HB.out (HB.out).size HLK.out ?_; intro v1_ w1_ hR_ hB_ hG_ hat_; have HO1 := Aside0.mk hR_; have HB1 := Aside0.mk hB_; clear hR_ hB_ hG_ hat_)
            go_step3
            exact ⟨k, by omega, J0_mk (out := out ++ [strOfNums ws]) rfl (by omega) (by rw [List.length_append, List.length_singleton]; omega) HA HO1 HB1⟩
          · rw [if_neg h32] at hA
            have HA := Aside0.mk (Option.some.inj hA)
            have h32b : (c == 32) = false := beq_eq_false_iff_ne.2 h32
            clear hA h32
            go_wp2_with (at_builtin; refine Kd.R_append Kd.string (w0 := w) w.heap.size rfl (.tmp 111) (.tmp 114) 45 9 (.string ⟨#[]⟩) 16 rfl Tryd.underlying45 info9 rfl (by decide) (by decide) (.slice A4 out.length c4) out (strOfNums ws) [.string (strOfNums ws)] (fun _ => True) (fun _ => False) rfl rfl HMS.out (fun _ hk => hk.elim) (fun _ _ => trivial) HO.out HB.out (HB.out).size HLK.out ?_; intro v1_ w1_ hR_ hB_ hG_ hat_; have HO1 := Aside0.mk hR_; have HB1 := Aside0.mk hB_; clear hR_ hB_ hG_ hat_)
            have h := HA.out
            injection h with h1 h2
            subst h1 h2
            refine wp_label ?_
            go_wp2
            simp only [jumps]
            go_ret2
            exact ⟨_, rfl, V_of_R (Kd.R_nil _ _ _ _ _), HB1.out⟩
        · obtain rfl : i = s.size := by omega
          have hnil : (bl s).drop s.size = [] := by rw [← bl_length]; exact List.drop_length ..
          have hA := HA.out
          rw [hnil] at hA
          have hl : ed (k + 1) out ws [] = bw k (out ++ [strOfNums ws]) [] := by simp only [ed]
          rw [hl, ← hnil] at hA
          have HA := Aside0.mk hA
          clear hl hA hnil
          go_wp2_with (at_builtin; refine Kd.R_append Kd.string (w0 := w) w.heap.size rfl (.tmp 111) (.tmp 114) 45 9 (.string ⟨#[]⟩) 16 rfl Tryd.underlying45 info9 rfl (by decide) (by decide) (.slice A4 out.length c4) out (strOfNums ws) [.string (strOfNums ws)] (fun _ => True) (fun _ => False) rfl rfl HMS.out (fun _ hk => hk.elim) (fun _ _ => trivial) HO.out HB.out (HB.out).size HLK.out ?_; intro v1_ w1_ hR_ hB_ hG_ hat_; have HO1 := Aside0.mk hR_; have HB1 := Aside0.mk hB_; clear hR_ hB_ hG_ hat_)
          go_step3
          exact ⟨k, by omega, J0_mk (out := out ++ [strOfNums ws]) rfl (by omega) (by rw [List.length_append, List.length_singleton]; omega) HA HO1 HB1⟩
    | n + 4, hJ => exact absurd hJ (by unfold J; exact fun h => h)
theorem calls (s : ByteArray) (r1 : List ByteArray) (r2 : Int) (w : World) (h : words s = some (r1, r2)) :
    Calls Tryd.prog 22 #[.string s] w fun e w' => ∃ v0_ : Value, e = .returned (.tuple #[v0_, .int .i64 r2]) ∧ Kd.V Kd.string 9 w' w.heap.size (fun k_ => (w.heap.size ≤ k_)) v0_ r1 ∧ Below w.heap.size w w' := calls' s r1 r2 w h
end Go.Proofs.YtkenihkjdbdlkaaDoor.XWords
