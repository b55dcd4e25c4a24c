/-
  text.Quote: its walk.
-/
import Derived.Laws.CopyOwn
import Derived.ArgAppend
import Derived.Below
import Derived.BigQuiet
import Derived.Deep.AppendLies
import Derived.Deep.CutBlock
import Derived.Deep.DeepCutAuto
import Derived.Deep.Draws
import Derived.Deep.LoopGhost
import Derived.Deep.OwnRows
import Derived.Deep.QuietTactic
import Derived.Deep.RegionHeld3
import Derived.Deep.WholeRow
import Derived.KernelRfl
import Derived.Laws.BitsLemmas
import Derived.Laws.BytesArg
import Derived.Laws.IdiomCopy
import Derived.Laws.MakeOwn
import Derived.Laws.OwnMore
import Derived.Laws.Rows
import Derived.Laws.Slices
import Derived.Lib.AppendStr
import Derived.Lib.ConvBytes
import Derived.Lib.Hide
import Derived.Maps.AppendAt
import Derived.OrdersHeld
import Derived.Outline
import Derived.OwnWalk
import Derived.RowKit
import Derived.RowKit3
import Derived.Tactics
import Derived.WalkKit
import Derived.WideLaws
import Derived.Test.YtkenihkjdbdlkaaDoorProg
import Derived.Test.YtkenihkjdbdlkaaDoorWApart
import Derived.Test.YtkenihkjdbdlkaaDoorWArr
import Derived.Test.YtkenihkjdbdlkaaDoorWAt
import Derived.Test.YtkenihkjdbdlkaaDoorWEqStruct
import Derived.Test.YtkenihkjdbdlkaaDoorWFoot
import Derived.Test.YtkenihkjdbdlkaaDoorWFootNe
import Derived.Test.YtkenihkjdbdlkaaDoorWFour
import Derived.Test.YtkenihkjdbdlkaaDoorWGuard
import Derived.Test.YtkenihkjdbdlkaaDoorWInv
import Derived.Test.YtkenihkjdbdlkaaDoorWInvWords
import Derived.Test.YtkenihkjdbdlkaaDoorWKept
import Derived.Test.YtkenihkjdbdlkaaDoorWLast
import Derived.Test.YtkenihkjdbdlkaaDoorWMore
import Derived.Test.YtkenihkjdbdlkaaDoorWN
import Derived.Test.YtkenihkjdbdlkaaDoorWNEv
import Derived.Test.YtkenihkjdbdlkaaDoorWQPut
import Derived.Test.YtkenihkjdbdlkaaDoorWRepsOne
import Derived.Test.YtkenihkjdbdlkaaDoorWShare
import Derived.Test.YtkenihkjdbdlkaaDoorWTab
import Derived.Test.YtkenihkjdbdlkaaDoorWWords
import Derived.Test.YtkenihkjdbdlkaaDoorWZeros
import Derived.Test.YtkenihkjdbdlkaaDoorShelf
import Derived.Test.YtkenihkjdbdlkaaDoorXEsc
import Derived.Lib.AtoiErrMem
import Derived.StillTailTactics
namespace Go.Proofs.YtkenihkjdbdlkaaDoor.XQuote
open Go.RowKit Go.Proofs.YtkenihkjdbdlkaaDoorW.PrintWords Go.Proofs.YtkenihkjdbdlkaaDoorW.PrintLast Go.Proofs.YtkenihkjdbdlkaaDoorW.PrintMore XEsc
set_option linter.unusedVariables false
set_option linter.unusedSimpArgs false
theorem info5 : (Tryd.prog.info? 5).map (fun i => (i.zero, i.size, i.bytes)) = some (some (.int .u8 0), 1, 1) := by kernel_rfl
def hexd (n : Int) : Int := if n < 10 then 48 + n else 87 + n
/-- A byte in quotes. -/
def q1 (c : Int) : List Int := if c = 34 ∨ c = 92 then [92, c] else if 32 ≤ c ∧ c ≤ 126 then [c] else [92, 120, hexd (c / 16), hexd (c % 16)]
def quoteL (l : List Int) : List Int := if l ≠ [] ∧ l.all bareI = true then l else 34 :: l.flatMap q1 ++ [34]
def quote (s : ByteArray) : Option ByteArray := if s.size ≤ 1099511627776 then some (strOfNums (quoteL (bl s))) else none
theorem q1_len (c : Int) : (q1 c).length ≤ 4 := by unfold q1; split <;> (try split) <;> simp
theorem flat_len : ∀ l : List Int, (l.flatMap q1).length ≤ 4 * l.length
  | [] => by simp
  | c :: r => by
    rw [List.flatMap_cons, List.length_append, List.length_cons]
    have := flat_len r
    have := q1_len c
    omega
/-! ### rows -/
theorem lits_read (w : World) (xs : List Int) (hx : xs.length ≤ 9223372036854775807) : ReadsRow (fun x cs => cs = [Value.int .u8 x]) 1 (w.alloc (.cells (xs.map (Value.int .u8)).toArray 5)) (some ⟨w.heap.size, 0, none⟩) xs.length xs := by
  refine ⟨rfl, hx, fun _ => ⟨_, rfl, fun j p hp => ⟨[.int .u8 p], rfl, rfl, fun i u hu => ?_⟩⟩⟩
  have hi : i = 0 := by
    have := (List.getElem?_eq_some_iff.1 hu).1
    simp at this
    exact this
  subst hi
  simp at hu
  subst hu
  have hadd : (⟨w.heap.size, 0, none⟩ : Addr).add (j * 1 + 0) = ⟨w.heap.size, j, none⟩ := by unfold Addr.add; split <;> simp_all
  show (w.alloc _).cell? ((⟨w.heap.size, 0, none⟩ : Addr).add (j * 1 + 0)) = _
  rw [hadd]
  simp [World.cell?, World.alloc, -World.alloc_eq, hp]
theorem R_one (w : World) (base : Nat) (ok : Nat → Prop) (c : Int) (hb : base ≤ w.heap.size) (hok : ok w.heap.size) : Kd.R (Kd.int .u8) 5 (w.alloc (.cells #[.int .u8 c] 5)) base ok (.slice (some ⟨w.heap.size, 0, none⟩) 1 1) [c] := by
  have h2 := World.ownsRow_lit (base := base) (e := 5) (size := 1) w #[.int .u8 c] 1 hb (by decide) (by simp)
  refine Kd.R_of_own (enc := Value.int .u8) (h1 := fun _ => rfl) (xs := [c]) h2 (fun k hk => ?_)
  have : w.heap.size = k := by simpa [Value.ownBlock] using hk
  subst this
  exact hok
/-! ### is there a byte that may not? -/
def noBare (c : Int) : Bool := !bareI c
theorem bare_any (c : Int) (w : World) : Calls Tryd.prog 41 #[.int .u8 c] w fun e w' => e = .returned (.bool (bareI c)) ∧ Drawn0 w w' := XBare.text_bare.calls c _ w (bare_f c)
theorem not_any (c : Int) (w : World) : Calls Tryd.prog 48 #[.int .u8 c] w fun e w' => e = .returned (.bool (!bareI c)) ∧ ∃ n, w' = w.drewN n := by
  go_enter Tryd.func48, Tryd.ntmps48
  go_wp2_with (go_at_call 41; refine (bare_any c _).mono ?_; rintro e w' ⟨rfl, nd, rfl⟩)
  go_ret
  exact ⟨rfl, nd, rfl⟩
def Has (xs : List Int) (w : World) (e : Ending) (w' : World) : Prop := ∃ r : Int, e = .returned (.int .i64 r) ∧ decide (0 ≤ r) = xs.any noBare ∧ ∃ n, w' = w.drewN n
theorem index_walk (ad : Addr) (n c : Nat) (xs : List Int) (w : World) (hn : xs.length = n) (hl : n ≤ 9223372036854775807) (hcell : ∀ j, j < n → w.cell? (ad.add j) = some (.int .u8 (xs.getD j 0))) :
    Calls Tryd.prog 58 #[.slice (some ad) n c, .func (.func 48) #[] #[]] w (Has xs w) := by
  have HC := Aside0.mk hcell
  have HN := Aside0.mk hn
  clear hcell hn
  go_enter Tryd.func58, Tryd.ntmps58
  go_wp2
  go_loopw [5, 8] (fun v5 v8 wr => ∃ k nd : Nat, k ≤ n ∧ v8 = .int .i64 k ∧ Aside0 ((xs.take k).any noBare = false) ∧ wr = w.drewN nd) (fun _ v8 _ => n - (intOf v8).toNat)
  case atStart => exact ⟨0, 0, Nat.zero_le _, rfl, ⟨by simp⟩, rfl⟩
  case round =>
    obtain ⟨k, nd, hk, rfl, HA, rfl⟩ := hrel
    by_cases hlt : k < n
    · have hx := HC.out k hlt
      have hsn : xs.take (k + 1) = xs.take k ++ [xs.getD k 0] := by
        rw [List.take_add_one, List.getElem?_eq_getElem (by rw [HN.out]; exact hlt), List.getD_eq_getElem?_getD, List.getElem?_eq_getElem (by rw [HN.out]; exact hlt)]; rfl
      have hmem : xs.getD k 0 ∈ xs := by
        rw [List.getD_eq_getElem?_getD, List.getElem?_eq_getElem (by rw [HN.out]; exact hlt)]; exact List.getElem_mem _
      have HSN := Aside0.mk hsn
      have HMEM := Aside0.mk hmem
      clear hsn hmem
      generalize xs.getD k 0 = d at *
      cases hb : bareI d with
      | true =>
        have hb2 : (!bareI d) = false := by rw [hb]; rfl
        go_wp2_with (go_at_call 48; refine (not_any d _).mono ?_; rintro e w' ⟨rfl, n2, rfl⟩; rw [hb2])
        go_roundw
        case rel => exact ⟨k + 1, _, by omega, by go_num, ⟨by rw [HSN.out, List.any_append, HA.out]; simp [noBare, hb]⟩, rfl⟩
        case measure => simp [intOf]; omega
      | false =>
        have hb2 : (!bareI d) = true := by rw [hb]; rfl
        have HANY := Aside0.mk (show xs.any noBare = true from List.any_eq_true.2 ⟨d, HMEM.out, by unfold noBare; rw [hb]; rfl⟩)
        go_wp2_with (go_at_call 48; refine (not_any d _).mono ?_; rintro e w' ⟨rfl, n2, rfl⟩; rw [hb2])
        go_ret
        exact ⟨k, rfl, by rw [HANY.out]; exact decide_eq_true (by omega), _, rfl⟩
    · obtain rfl : k = n := by omega
      have HANY := Aside0.mk (show xs.any noBare = false by have := HA.out; rwa [← HN.out, List.take_length] at this)
      go_wp2
      go_ret
      exact ⟨-1, rfl, by rw [HANY.out]; rfl, _, rfl⟩
theorem contains_walk (ad : Addr) (n c : Nat) (xs : List Int) (w : World) (hn : xs.length = n) (hl : n ≤ 9223372036854775807) (hcell : ∀ j, j < n → w.cell? (ad.add j) = some (.int .u8 (xs.getD j 0))) :
    Calls Tryd.prog 47 #[.slice (some ad) n c, .func (.func 48) #[] #[]] w fun e w' => e = .returned (.bool (xs.any noBare)) ∧ ∃ n, w' = w.drewN n := by
  have hI := index_walk ad n c xs w hn hl hcell
  clear hcell hn
  go_enter Tryd.func47, Tryd.ntmps47
  go_wp2_with (go_at_call 58; refine hI.mono ?_; rintro e w' ⟨r, rfl, hr, nd, rfl⟩; have HR := Aside0.mk hr; clear hr)
  go_ret
  exact ⟨by rw [← HR.out]; rfl, nd, rfl⟩
/-! ### []byte(s) -/
theorem run_bytes (s : ByteArray) (W : World) : (convert 9 64 (.string s)).run Tryd.prog W = .ok (.slice (some ⟨W.heap.size, 0, none⟩) s.size (grownCap W s.size 0 5)) (Lib.bytesWorld W 5 s) :=
  Lib.run_convert_string_bytes W 9 64 5 s Tryd.underlying9 Tryd.underlying64 Tryd.underlying5
theorem bytes_cell (s : ByteArray) (W : World) (j : Nat) (hj : j < s.size) : (Lib.bytesWorld W 5 s).cell? ((⟨W.heap.size, 0, none⟩ : Addr).add j) = some (.int .u8 ((bl s).getD j 0)) := by
  rw [show (⟨W.heap.size, 0, none⟩ : Addr).add j = ⟨W.heap.size, j, none⟩ from by unfold Addr.add; split <;> simp_all, Lib.bytesWorld_cell W 5 s j hj]
  congr 2
  unfold bl
  rw [List.getD_eq_getElem?_getD, List.getD_eq_getElem?_getD, List.getElem?_map, List.getElem?_eq_getElem (by simpa using hj)]
  rfl
theorem add_zero (b j : Nat) : (⟨b, 0, none⟩ : Addr).add j = ⟨b, j, none⟩ := by unfold Addr.add; split <;> simp_all
set_option maxRecDepth 1000000 in
set_option maxHeartbeats 8000000 in
theorem calls_bare (s : ByteArray) (w : World) (hs : s.size ≤ 1099511627776) (h0 : s.toList ≠ []) (h1 : (bl s).any noBare = false) :
    Calls Tryd.prog 26 #[.string s] w fun e w' => e = .returned (.string s) ∧ Below w.heap.size w w' := by
  have hrun := run_bytes s
  have hne : (s.toList == []) = false := beq_eq_false_iff_ne.2 h0
  have hemp : s.toList.isEmpty = false := by cases h : s.toList with | nil => exact absurd h h0 | cons => rfl
  have HB := Aside0.mk (Lib.bytesWorld_below w 5 s)
  have H1 := Aside0.mk h1
  clear h0 h1
  go_enter Tryd.func26, Tryd.ntmps26
  go_wp2_with fail
  refine (contains_walk ⟨w.heap.size, 0, none⟩ s.size _ (bl s) _ (bl_length s) (by omega) (fun j hj => bytes_cell s w j hj)).mono ?_
  rintro e w1 ⟨rfl, n, rfl⟩
  rw [H1.out]
  go_wp2
  go_ret
  exact ⟨rfl, pw_below_drewN HB.out n⟩
theorem grown_cells {wr w1 : World} {b n : Nat} {row : Option Nat} {f : Nat → Option Value} (h : ∀ j, j < n → wr.cell? ⟨b, j, none⟩ = f j) (hlt : b < wr.heap.size) (o : Obj) (hG : (wr.alloc o).grownBy w1 row) (hne : some b ≠ row) : (∀ j, j < n → w1.cell? ⟨b, j, none⟩ = f j) ∧ b < w1.heap.size := by
  have hb : Below wr.heap.size wr (wr.alloc o) := (Below.refl _ _).alloc (Nat.le_refl _) _
  have hs := hb.size
  refine ⟨fun j hj => ?_, Nat.lt_of_lt_of_le (Nat.lt_of_lt_of_le hlt hs) hG.size⟩
  have h1 : (wr.alloc o).cell? ⟨b, j, none⟩ = f j := (hb.cell (p := ⟨b, j, none⟩) hlt).trans (h j hj)
  rw [← h1]
  unfold World.cell?
  rw [hG.block b (Nat.lt_of_lt_of_le hlt hs) hne]
theorem shr_nib (c : Int) (h : 0 ≤ c ∧ c ≤ 255) : 0 ≤ c / 16 ∧ c / 16 < 16 := by omega
theorem flat_snoc (l : List Int) (k : Nat) (hk : k < l.length) : 34 :: (l.take (k + 1)).flatMap q1 = (34 :: (l.take k).flatMap q1) ++ q1 (l.getD k 0) := by
  have h1 : l.take (k + 1) = l.take k ++ [l.getD k 0] := by
    rw [List.take_add_one, List.getElem?_eq_getElem hk, List.getD_eq_getElem?_getD, List.getElem?_eq_getElem hk]; rfl
  rw [h1, List.flatMap_append]
  simp
theorem band_all : ∀ n : Fin 256, Go.bits .and .u8 ((n.val : Nat) : Int) 15 = ((n.val : Nat) : Int) % 16 := by decide +kernel
theorem band15 (c : Int) (h : 0 ≤ c ∧ c ≤ 255) : Go.bits .and .u8 c 15 = c % 16 := by
  have := band_all ⟨c.toNat, by omega⟩
  simp only at this
  rwa [show ((c.toNat : Nat) : Int) = c from by omega] at this
def HEX : ByteArray := ⟨#[48, 49, 50, 51, 52, 53, 54, 55, 56, 57, 97, 98, 99, 100, 101, 102]⟩
theorem digits_at : ∀ n : Fin 16, bt HEX (n.val : Nat) = hexd (n.val : Nat) := by decide +kernel
theorem digit_at (n : Int) (h : 0 ≤ n ∧ n < 16) : bt HEX n = hexd n := by
  have := digits_at ⟨n.toNat, by omega⟩
  simp only at this
  rwa [show ((n.toNat : Nat) : Int) = n from by omega] at this
def quote7.T7 : Bool × List (List Nat × List Nat) := (true, [([], []), ([], []), ([1], [1]), ([2], [2]), ([], []), ([4], [4]), ([5], [5]), ([3, 6], [3, 6]), ([0, 7], [0, 7]), ([8, 8, 0, 1, 2, 3, 4, 5, 6, 7, 8], [0, 8])])
def quote7.B7 : List Nat := [0, 0, 2, 6, 0, 16, 48, 126, 255, 511]
theorem quote7.tab7 : rtab .any (opsOf Tryd.f26 7) = quote7.T7 := by kernel_rfl
theorem quote7.bits7 : waitsOk quote7.T7.2 quote7.B7 = true := by kernel_rfl
set_option maxRecDepth 1000000 in
set_option maxHeartbeats 8000000 in
theorem calls_in (s : ByteArray) (w : World) (hs : s.size ≤ 1099511627776) (h : s.toList = [] ∨ (s.toList ≠ [] ∧ (bl s).any noBare = true)) :
    Calls Tryd.prog 26 #[.string s] w fun e w' => e = .returned (.string (strOfNums (34 :: (bl s).flatMap q1 ++ [34]))) ∧ Below w.heap.size w w' := by
  have hrun := run_bytes s
  have HS := Aside0.mk hs
  rcases h with h0 | ⟨h0, h1⟩
  · have hne : (s.toList == []) = true := by rw [h0]; rfl
    clear h0
    have HB1 := Aside0.mk (Below.refl w.heap.size w)
    go_enter Tryd.func26, Tryd.ntmps26
    go_wp2
    have hs1 : (w.alloc (.cells #[.int .u8 34] 5)).heap.size = w.heap.size + 1 := by simp
    have HR3 := Aside0.mk (Kd.R_below (R_one w w.heap.size (fun q => q ≠ (w.heap.size + 1)) 34 HB1.out.size (by omega)) (Lib.bytesWorld_below (w.alloc (.cells #[.int .u8 34] 5)) 5 s))
    have HB3 := Aside0.mk (below_step (HB1.out.alloc HB1.out.size (.cells #[.int .u8 34] 5)) (Lib.bytesWorld_below (w.alloc (.cells #[.int .u8 34] 5)) 5 s))
    have hc0 := fun j hj => bytes_cell s (w.alloc (.cells #[.int .u8 34] 5)) j hj
    rw [hs1] at hc0
    have HC := Aside0.mk (fun (j : Nat) (hj : j < s.size) => (show (Lib.bytesWorld (w.alloc (.cells #[.int .u8 34] 5)) 5 s).cell? ⟨(w.heap.size + 1), j, none⟩ = some (.int .u8 ((bl s).getD j 0)) from by have := hc0 j hj; rwa [add_zero] at this))
    have HLT := Aside0.mk (show (w.heap.size + 1) < (Lib.bytesWorld (w.alloc (.cells #[.int .u8 34] 5)) 5 s).heap.size by rw [Lib.bytesWorld_size, hs1]; omega)
    clear hc0 hs1 hrun hne
    generalize grownCap (w.alloc (Obj.cells #[Value.int IntKind.u8 34] 5)) s.size 0 5 = cap at *
    generalize Lib.bytesWorld (w.alloc (.cells #[.int .u8 34] 5)) 5 s = w2 at *
    generalize w.heap.size + 1 = b at *
    go_loopw [3, 19] (fun v3 v19 wr => ∃ k : Nat, k ≤ s.size ∧ v19 = .int .i64 k ∧ Aside0 (Kd.R (Kd.int .u8) 5 wr w.heap.size (fun q => q ≠ b) v3 (34 :: ((bl s).take k).flatMap q1)) ∧ Aside0 (∀ j, j < s.size → wr.cell? ⟨b, j, none⟩ = some (.int .u8 ((bl s).getD j 0))) ∧ Aside0 (Below w.heap.size w wr) ∧ Aside0 (b < wr.heap.size)) (fun _ v19 _ => s.size - (intOf v19).toNat)
    case atStart => exact ⟨0, Nat.zero_le _, rfl, ⟨by simpa using HR3.out⟩, HC, HB3, HLT⟩
    case round =>
      clear HR3 HC HB3 HLT
      obtain ⟨k, hk, rfl, HO, HC, HB3, HLT⟩ := hrel
      have hlen : (34 :: ((bl s).take k).flatMap q1).length ≤ 1 + 4 * s.size := by have := flat_len ((bl s).take k); have h2 : ((bl s).take k).length ≤ k := List.length_take_le _ _; rw [List.length_cons]; omega
      have hneb : some b ≠ (Value.ownBlock _) := fun e => HO.out.1 b e.symm rfl
      by_cases hlt : k < s.size
      · have hx := HC.out k hlt
        have hcr : 0 ≤ (bl s).getD k 0 ∧ (bl s).getD k 0 ≤ 255 := bl_range s _ (by rw [List.getD_eq_getElem?_getD, List.getElem?_eq_getElem (by rw [bl_length]; exact hlt)]; exact List.getElem_mem _)
        have hsn := flat_snoc (bl s) k (by rw [bl_length]; exact hlt)
        have HSN := Aside0.mk hsn
        clear hsn
        generalize (bl s).getD k 0 = c at *
        generalize 34 :: ((bl s).take k).flatMap q1 = outs at *
        have HL4 := Aside0.mk (show (outs.length + 4) * 1 ≤ 140737488355328 by omega)
        have HL2 := Aside0.mk (show (outs.length + 2) * 1 ≤ 140737488355328 by omega)
        have HL1 := Aside0.mk (show (outs.length + 1) * 1 ≤ 140737488355328 by omega)
        obtain ⟨A3, c3, hv3⟩ := Kd.R_slice HO.out
        subst hv3
        clear hlen
        by_cases h34 : c = 34
        · have hb1 : (c == 34) = true := beq_iff_eq.2 h34
          have HQ := Aside0.mk (show q1 c = [92, c] by unfold q1; rw [if_pos (.inl h34)])
          clear h34
          go_wp2_with (at_builtin; refine Kd.R_append_rows (Kd.int .u8) (Rr := fun x cs => cs = [Value.int .u8 x]) (w0 := w) w.heap.size rfl (.tmp 39) (.tmp 41) 64 5 (.int .u8 0) 1 rfl Tryd.underlying64 info5 rfl (by decide) (by decide) (.slice A3 outs.length c3) outs [92, c] (some ⟨_, 0, none⟩) 2 2 (fun q => q ≠ b) (fun _ => False) rfl rfl (Kd.R_alloc HO.out _) (lits_read _ [92, c] (by simp)) (fun x cs h => h) (fun _ hk => hk.elim) (fun q hq => by have := HLT.out; simp at hq; omega) (HB3.out.alloc HB3.out.size _) (Nat.le_trans HB3.out.size (by simp)) HL2.out ?_; intro v1_ w1_ hR_ hB_ hG_ hat_; have hgc := grown_cells HC.out HLT.out _ hG_ hneb; have HO1 := Aside0.mk hR_; have HB4 := Aside0.mk hB_; have HC1 := Aside0.mk hgc.1; have HLT1 := Aside0.mk hgc.2; clear hR_ hB_ hG_ hat_ hgc)
          go_roundw
          case rel => exact ⟨k + 1, by omega, by go_num, ⟨by rw [HSN.out, HQ.out]; exact HO1.out⟩, HC1, HB4, HLT1⟩
          case measure => simp [intOf]; omega
        · have hb1 : (c == 34) = false := beq_eq_false_iff_ne.2 h34
          by_cases h92 : c = 92
          · have hb2 : (c == 92) = true := beq_iff_eq.2 h92
            have HQ := Aside0.mk (show q1 c = [92, c] by unfold q1; rw [if_pos (.inr h92)])
            clear h34 h92
            go_wp2_with (at_builtin; refine Kd.R_append_rows (Kd.int .u8) (Rr := fun x cs => cs = [Value.int .u8 x]) (w0 := w) w.heap.size rfl (.tmp 39) (.tmp 41) 64 5 (.int .u8 0) 1 rfl Tryd.underlying64 info5 rfl (by decide) (by decide) (.slice A3 outs.length c3) outs [92, c] (some ⟨_, 0, none⟩) 2 2 (fun q => q ≠ b) (fun _ => False) rfl rfl (Kd.R_alloc HO.out _) (lits_read _ [92, c] (by simp)) (fun x cs h => h) (fun _ hk => hk.elim) (fun q hq => by have := HLT.out; simp at hq; omega) (HB3.out.alloc HB3.out.size _) (Nat.le_trans HB3.out.size (by simp)) HL2.out ?_; intro v1_ w1_ hR_ hB_ hG_ hat_; have hgc := grown_cells HC.out HLT.out _ hG_ hneb; have HO1 := Aside0.mk hR_; have HB4 := Aside0.mk hB_; have HC1 := Aside0.mk hgc.1; have HLT1 := Aside0.mk hgc.2; clear hR_ hB_ hG_ hat_ hgc)
            go_roundw
            case rel => exact ⟨k + 1, by omega, by go_num, ⟨by rw [HSN.out, HQ.out]; exact HO1.out⟩, HC1, HB4, HLT1⟩
            case measure => simp [intOf]; omega
          · have hb2 : (c == 92) = false := beq_eq_false_iff_ne.2 h92
            by_cases h32 : 32 ≤ c ∧ c ≤ 126
            · have hb3 : decide (32 ≤ c) = true := decide_eq_true h32.1
              have hb4 : decide (c ≤ 126) = true := decide_eq_true h32.2
              have HQ := Aside0.mk (show q1 c = [c] by unfold q1; rw [if_neg (by omega), if_pos h32])
              clear h34 h92 h32
              go_wp2_with (at_builtin; refine Kd.R_append_rows (Kd.int .u8) (Rr := fun x cs => cs = [Value.int .u8 x]) (w0 := w) w.heap.size rfl (.tmp 50) (.tmp 52) 64 5 (.int .u8 0) 1 rfl Tryd.underlying64 info5 rfl (by decide) (by decide) (.slice A3 outs.length c3) outs [c] (some ⟨_, 0, none⟩) 1 1 (fun q => q ≠ b) (fun _ => False) rfl rfl (Kd.R_alloc HO.out _) (lits_read _ [c] (by simp)) (fun x cs h => h) (fun _ hk => hk.elim) (fun q hq => by have := HLT.out; simp at hq; omega) (HB3.out.alloc HB3.out.size _) (Nat.le_trans HB3.out.size (by simp)) HL1.out ?_; intro v1_ w1_ hR_ hB_ hG_ hat_; have hgc := grown_cells HC.out HLT.out _ hG_ hneb; have HO1 := Aside0.mk hR_; have HB4 := Aside0.mk hB_; have HC1 := Aside0.mk hgc.1; have HLT1 := Aside0.mk hgc.2; clear hR_ hB_ hG_ hat_ hgc)
              go_roundw
              case rel => exact ⟨k + 1, by omega, by go_num, ⟨by rw [HSN.out, HQ.out]; exact HO1.out⟩, HC1, HB4, HLT1⟩
              case measure => simp [intOf]; omega
            · have HQ := Aside0.mk (show q1 c = [92, 120, hexd (c / 16), hexd (c % 16)] by unfold q1; rw [if_neg (by omega), if_neg h32])
              have hex : (decide (32 ≤ c) = false) ∨ (decide (32 ≤ c) = true ∧ decide (c ≤ 126) = false) := by
                by_cases h : 32 ≤ c
                · exact .inr ⟨decide_eq_true h, decide_eq_false (by omega)⟩
                · exact .inl (decide_eq_false h)
              clear h34 h92 h32
              rcases hex with hb3 | ⟨hb3, hb4⟩
              all_goals
                have hp1 : 0 ≤ c / 16 := by omega
                have hp2 : c / 16 < 16 := by omega
                have hp3 : 0 ≤ c % 16 := by omega
                have hp4 : c % 16 < 16 := by omega
                have hx1 := bt_at HEX (c / 16)
                have hx2 := bt_at HEX (c % 16)
                rw [digit_at (c / 16) ⟨hp1, hp2⟩] at hx1
                rw [digit_at (c % 16) ⟨hp3, hp4⟩] at hx2
                unfold HEX at hx1 hx2
                have hband := band15 c hcr
                replace hp1 := eq_true hp1
                replace hp2 := eq_true hp2
                replace hp3 := eq_true hp3
                replace hp4 := eq_true hp4
                go_wp2
                have HO9 := Aside0.mk (Kd.R_drew HO.out)
                have HB9 := Aside0.mk (below_drew HB3.out)
                have HC9 := Aside0.mk (fun (j : Nat) (hj : j < s.size) => (show (World.drew wr).cell? ⟨b, j, none⟩ = some (.int .u8 ((bl s).getD j 0)) from HC.out j hj))
                have HLT9 := Aside0.mk (show b < (World.drew wr).heap.size from HLT.out)
                clear HO HB3 HC HLT hx
                refine start_ (n := 10) (S := fun w' => True) (ds := []) #[false, false, false, false, false, false, false, false, false, false] (by kernel_rfl) rfl rfl trivial (fun hHeld => ?_)
                refine with_tabW quote7.tab7 quote7.bits7 (fun HT_ HW_ => ?_)
                generalize World.drew _ = w9 at HO9 HB9 HC9 HLT9 hHeld ⊢
                refine pure_ (i := 0) (N := some 23) (v := ?_) (a' := ?_) #[true, false, false, false, false, false, false, false, false, false] rfl rfl (any_of HT_.out (by kernel_rfl)) (fun _ _ _ h => h) (Or.inl ⟨by rfl, ?_⟩) ?_ ?_
                rotate_left
                · intro w'
                  go_simp
                  with_reducible rfl
                rotate_left
                · simp only [Act.put, List.setIfInBounds_toArray, List.set_cons_zero, List.set_cons_succ, i64_w, i32_w]
                  rfl
                refine pure_ (i := 1) (N := some 24) (v := ?_) (a' := ?_) #[true, true, false, false, false, false, false, false, false, false] rfl rfl (any_of HT_.out (by kernel_rfl)) (fun _ _ _ h => h) (Or.inl ⟨by rfl, ?_⟩) ?_ ?_
                rotate_left
                · intro w'
                  go_simp
                  with_reducible rfl
                rotate_left
                · simp only [Act.put, List.setIfInBounds_toArray, List.set_cons_zero, List.set_cons_succ, i64_w, i32_w]
                  rfl
                refine pure_ (i := 2) (N := some 25) (v := ?_) (a' := ?_) #[true, true, true, false, false, false, false, false, false, false] rfl rfl (any_of HT_.out (by kernel_rfl)) (fun _ _ _ h => h) (Or.inl ⟨by rfl, ?_⟩) ?_ ?_
                rotate_left
                · intro w'
                  go_simp
                  with_reducible rfl
                rotate_left
                · simp only [Act.put, List.setIfInBounds_toArray, List.set_cons_zero, List.set_cons_succ, i64_w, i32_w]
                  rfl
                refine pure_ (i := 3) (N := some 26) (v := ?_) (a' := ?_) #[true, true, true, true, false, false, false, false, false, false] rfl rfl (any_of HT_.out (by kernel_rfl)) (fun _ _ _ h => h) (Or.inl ⟨by rfl, ?_⟩) ?_ ?_
                rotate_left
                · intro w'
                  go_simp
                  with_reducible rfl
                rotate_left
                · simp only [Act.put, List.setIfInBounds_toArray, List.set_cons_zero, List.set_cons_succ, i64_w, i32_w]
                  rfl
                refine pure_ (i := 4) (N := some 27) (v := ?_) (a' := ?_) #[true, true, true, true, true, false, false, false, false, false] rfl rfl (any_of HT_.out (by kernel_rfl)) (fun _ _ _ h => h) (Or.inl ⟨by rfl, ?_⟩) ?_ ?_
                rotate_left
                · intro w'
                  go_simp
                  with_reducible rfl
                rotate_left
                · simp only [Act.put, List.setIfInBounds_toArray, List.set_cons_zero, List.set_cons_succ, i64_w, i32_w]
                  rfl
                refine pure_ (i := 5) (N := some 28) (v := ?_) (a' := ?_) #[true, true, true, true, true, true, false, false, false, false] rfl rfl (any_of HT_.out (by kernel_rfl)) (fun _ _ _ h => h) (Or.inl ⟨by rfl, ?_⟩) ?_ ?_
                rotate_left
                · intro w'
                  go_simp
                  with_reducible rfl
                rotate_left
                · simp only [Act.put, List.setIfInBounds_toArray, List.set_cons_zero, List.set_cons_succ, i64_w, i32_w]
                  rfl
                refine pure_ (i := 6) (N := some 29) (v := ?_) (a' := ?_) #[true, true, true, true, true, true, true, false, false, false] rfl rfl (any_of HT_.out (by kernel_rfl)) (fun _ _ _ h => h) (Or.inl ⟨by rfl, ?_⟩) ?_ ?_
                rotate_left
                · intro w'
                  go_simp
                  with_reducible rfl
                rotate_left
                · simp only [Act.put, List.setIfInBounds_toArray, List.set_cons_zero, List.set_cons_succ, i64_w, i32_w]
                  rfl
                refine one_ (i := 7) (N := some 30) #[true, true, true, true, true, true, true, true, false, false] rfl rfl (one_of HT_.out (by kernel_rfl)) (by decide) (fun K hK => ?_)
                refine value_ (w1 := ?_) (v := ?_) (by rfl) rfl ?_ ?_
                rotate_left 2
                · go_simp
                  constructor
                  · rfl
                  · rfl
                refine hK.out _ _ trivial (fun hHeld => ?_)
                clear hK K
                refine norm_ (a' := ?_) ?_ ?_
                rotate_left
                · show Act.put _ (some 30) _ = _
                  simp only [Act.put, List.setIfInBounds_toArray, List.set_cons_zero, List.set_cons_succ, i64_w, i32_w]
                  rfl
                refine one_ (i := 8) (N := some 31) #[true, true, true, true, true, true, true, true, true, false] rfl rfl (one_of HT_.out (by kernel_rfl)) (by decide) (fun K hK => ?_)
                refine Kd.R_append_rows_step (Kd.int .u8) (Rr := fun x cs => cs = [Value.int .u8 x]) (w0 := w) w.heap.size (by rfl) (.tmp 23) (.tmp 30) 64 5 (.int .u8 0) 1 rfl Tryd.underlying64 info5 rfl (by decide) (by decide) (.slice A3 outs.length c3) outs [92, 120, hexd (c / 16), hexd (c % 16)] (some ⟨_, 0, none⟩) 4 4 (fun q => q ≠ b) (fun _ => False) rfl rfl (Kd.R_alloc HO9.out _) (lits_read _ [92, 120, hexd (c / 16), hexd (c % 16)] (by simp)) (fun x cs h => h) (fun _ hk => hk.elim) (fun q hq => by have := HLT9.out; simp at hq; omega) (HB9.out.alloc HB9.out.size _) (Nat.le_trans HB9.out.size (by simp)) HL4.out ?_
                intro v1_ w1_ hR_ hB_ hG_ hat_
                have hgc := grown_cells HC9.out HLT9.out _ hG_ hneb
                have HO1 := Aside0.mk hR_
                have HB4 := Aside0.mk hB_
                have HC1 := Aside0.mk hgc.1
                have HLT1 := Aside0.mk hgc.2
                clear hR_ hB_ hG_ hat_ hgc
                refine hK.out _ _ trivial (fun hHeld => ?_)
                clear hK K
                refine norm_ (a' := ?_) ?_ ?_
                rotate_left
                · show Act.put _ (some 31) _ = _
                  simp only [Act.put, List.setIfInBounds_toArray, List.set_cons_zero, List.set_cons_succ, i64_w, i32_w]
                  rfl
                refine pure_ (i := 9) (N := some 3) (v := ?_) (a' := ?_) #[true, true, true, true, true, true, true, true, true, true] rfl rfl (any_of HT_.out (by kernel_rfl)) (fun _ _ _ h => h) (Or.inl ⟨by rfl, ?_⟩) ?_ ?_
                rotate_left
                · intro w'
                  go_simp
                  with_reducible rfl
                rotate_left
                · simp only [Act.put, List.setIfInBounds_toArray, List.set_cons_zero, List.set_cons_succ, i64_w, i32_w]
                  rfl
                refine done_ (done_of HT_.out (by kernel_rfl)) ?_
                clear hx1 hx2 hp1 hp2 hp3 hp4 hband
                try go_wp2
                go_roundw
                case rel => exact ⟨k + 1, by omega, by go_num, ⟨by rw [HSN.out, HQ.out]; exact HO1.out⟩, HC1, HB4, HLT1⟩
                case measure => simp [intOf]; omega
      · obtain rfl : k = s.size := by omega
        rw [show (bl s).take s.size = bl s from by rw [← bl_length]; exact List.take_length] at HO hlen
        obtain ⟨outs, ho⟩ : ∃ o, 34 :: (bl s).flatMap q1 = o := ⟨_, rfl⟩
        rw [ho] at HO hlen
        have HFIN := Aside0.mk (show 34 :: (bl s).flatMap q1 ++ [34] = outs ++ [34] by rw [← ho])
        have HL1 := Aside0.mk (show (outs.length + 1) * 1 ≤ 140737488355328 by omega)
        obtain ⟨A3, c3, hv3⟩ := Kd.R_slice HO.out
        subst hv3
        clear hlen ho
        go_wp2_with (at_builtin; refine Kd.R_append_rows (Kd.int .u8) (Rr := fun x cs => cs = [Value.int .u8 x]) (w0 := w) w.heap.size rfl (.tmp 55) (.tmp 56) 64 5 (.int .u8 0) 1 rfl Tryd.underlying64 info5 rfl (by decide) (by decide) (.slice A3 outs.length c3) outs [34] (some ⟨_, 0, none⟩) 1 1 (fun q => q ≠ b) (fun _ => False) rfl rfl (Kd.R_alloc HO.out _) (lits_read _ [34] (by simp)) (fun x cs h => h) (fun _ hk => hk.elim) (fun q hq => by have := HLT.out; simp at hq; omega) (HB3.out.alloc HB3.out.size _) (Nat.le_trans HB3.out.size (by simp)) HL1.out ?_; intro v1_ w1_ hR_ hB_ hG_ hat_; have hgc := grown_cells HC.out HLT.out _ hG_ hneb; have HO1 := Aside0.mk hR_; have HB4 := Aside0.mk hB_; have HC1 := Aside0.mk hgc.1; have HLT1 := Aside0.mk hgc.2; clear hR_ hB_ hG_ hat_ hgc; have hcv := own_string (P := Tryd.prog) Tryd.underlying64 Tryd.underlying5 Tryd.underlying9 (Kd.own_of_R HO1.out))
        go_ret
        exact ⟨congrArg (fun l => Ending.returned (Value.string (strOfNums l))) HFIN.out.symm, HB4.out⟩
  · have hne : (s.toList == []) = false := beq_eq_false_iff_ne.2 h0
    have hemp : s.toList.isEmpty = false := by cases h : s.toList with | nil => exact absurd h h0 | cons => rfl
    have HB := Aside0.mk (Lib.bytesWorld_below w 5 s)
    have H1 := Aside0.mk h1
    clear h0 h1
    go_enter Tryd.func26, Tryd.ntmps26
    go_wp2_with fail
    refine (contains_walk ⟨w.heap.size, 0, none⟩ s.size _ (bl s) _ (bl_length s) (by omega) (fun j hj => bytes_cell s w j hj)).mono ?_
    rintro e w1 ⟨rfl, n, rfl⟩
    rw [H1.out]
    have HB1 := Aside0.mk (pw_below_drewN HB.out n)
    clear HB H1
    generalize (Lib.bytesWorld w 5 s).drewN n = w1 at *
    go_wp2
    have hs1 : (w1.alloc (.cells #[.int .u8 34] 5)).heap.size = w1.heap.size + 1 := by simp
    have HR3 := Aside0.mk (Kd.R_below (R_one w1 w.heap.size (fun q => q ≠ (w1.heap.size + 1)) 34 HB1.out.size (by omega)) (Lib.bytesWorld_below (w1.alloc (.cells #[.int .u8 34] 5)) 5 s))
    have HB3 := Aside0.mk (below_step (HB1.out.alloc HB1.out.size (.cells #[.int .u8 34] 5)) (Lib.bytesWorld_below (w1.alloc (.cells #[.int .u8 34] 5)) 5 s))
    have hc0 := fun j hj => bytes_cell s (w1.alloc (.cells #[.int .u8 34] 5)) j hj
    rw [hs1] at hc0
    have HC := Aside0.mk (fun (j : Nat) (hj : j < s.size) => (show (Lib.bytesWorld (w1.alloc (.cells #[.int .u8 34] 5)) 5 s).cell? ⟨(w1.heap.size + 1), j, none⟩ = some (.int .u8 ((bl s).getD j 0)) from by have := hc0 j hj; rwa [add_zero] at this))
    have HLT := Aside0.mk (show (w1.heap.size + 1) < (Lib.bytesWorld (w1.alloc (.cells #[.int .u8 34] 5)) 5 s).heap.size by rw [Lib.bytesWorld_size, hs1]; omega)
    clear hc0 hs1 hrun hne
    generalize grownCap (w1.alloc (Obj.cells #[Value.int IntKind.u8 34] 5)) s.size 0 5 = cap at *
    generalize Lib.bytesWorld (w1.alloc (.cells #[.int .u8 34] 5)) 5 s = w2 at *
    generalize w1.heap.size + 1 = b at *
    go_loopw [3, 19] (fun v3 v19 wr => ∃ k : Nat, k ≤ s.size ∧ v19 = .int .i64 k ∧ Aside0 (Kd.R (Kd.int .u8) 5 wr w.heap.size (fun q => q ≠ b) v3 (34 :: ((bl s).take k).flatMap q1)) ∧ Aside0 (∀ j, j < s.size → wr.cell? ⟨b, j, none⟩ = some (.int .u8 ((bl s).getD j 0))) ∧ Aside0 (Below w.heap.size w wr) ∧ Aside0 (b < wr.heap.size)) (fun _ v19 _ => s.size - (intOf v19).toNat)
    case atStart => exact ⟨0, Nat.zero_le _, rfl, ⟨by simpa using HR3.out⟩, HC, HB3, HLT⟩
    case round =>
      clear HR3 HC HB3 HLT
      obtain ⟨k, hk, rfl, HO, HC, HB3, HLT⟩ := hrel
      have hlen : (34 :: ((bl s).take k).flatMap q1).length ≤ 1 + 4 * s.size := by have := flat_len ((bl s).take k); have h2 : ((bl s).take k).length ≤ k := List.length_take_le _ _; rw [List.length_cons]; omega
      have hneb : some b ≠ (Value.ownBlock _) := fun e => HO.out.1 b e.symm rfl
      by_cases hlt : k < s.size
      · have hx := HC.out k hlt
        have hcr : 0 ≤ (bl s).getD k 0 ∧ (bl s).getD k 0 ≤ 255 := bl_range s _ (by rw [List.getD_eq_getElem?_getD, List.getElem?_eq_getElem (by rw [bl_length]; exact hlt)]; exact List.getElem_mem _)
        have hsn := flat_snoc (bl s) k (by rw [bl_length]; exact hlt)
        have HSN := Aside0.mk hsn
        clear hsn
        generalize (bl s).getD k 0 = c at *
        generalize 34 :: ((bl s).take k).flatMap q1 = outs at *
        have HL4 := Aside0.mk (show (outs.length + 4) * 1 ≤ 140737488355328 by omega)
        have HL2 := Aside0.mk (show (outs.length + 2) * 1 ≤ 140737488355328 by omega)
        have HL1 := Aside0.mk (show (outs.length + 1) * 1 ≤ 140737488355328 by omega)
        obtain ⟨A3, c3, hv3⟩ := Kd.R_slice HO.out
        subst hv3
        clear hlen
        by_cases h34 : c = 34
        · have hb1 : (c == 34) = true := beq_iff_eq.2 h34
          have HQ := Aside0.mk (show q1 c = [92, c] by unfold q1; rw [if_pos (.inl h34)])
          clear h34
          go_wp2_with (at_builtin; refine Kd.R_append_rows (Kd.int .u8) (Rr := fun x cs => cs = [Value.int .u8 x]) (w0 := w) w.heap.size rfl (.tmp 39) (.tmp 41) 64 5 (.int .u8 0) 1 rfl Tryd.underlying64 info5 rfl (by decide) (by decide) (.slice A3 outs.length c3) outs [92, c] (some ⟨_, 0, none⟩) 2 2 (fun q => q ≠ b) (fun _ => False) rfl rfl (Kd.R_alloc HO.out _) (lits_read _ [92, c] (by simp)) (fun x cs h => h) (fun _ hk => hk.elim) (fun q hq => by have := HLT.out; simp at hq; omega) (HB3.out.alloc HB3.out.size _) (Nat.le_trans HB3.out.size (by simp)) HL2.out ?_; intro v1_ w1_ hR_ hB_ hG_ hat_; have hgc := grown_cells HC.out HLT.out _ hG_ hneb; have HO1 := Aside0.mk hR_; have HB4 := Aside0.mk hB_; have HC1 := Aside0.mk hgc.1; have HLT1 := Aside0.mk hgc.2; clear hR_ hB_ hG_ hat_ hgc)
          go_roundw
          case rel => exact ⟨k + 1, by omega, by go_num, ⟨by rw [HSN.out, HQ.out]; exact HO1.out⟩, HC1, HB4, HLT1⟩
          case measure => simp [intOf]; omega
        · have hb1 : (c == 34) = false := beq_eq_false_iff_ne.2 h34
          by_cases h92 : c = 92
          · have hb2 : (c == 92) = true := beq_iff_eq.2 h92
            have HQ := Aside0.mk (show q1 c = [92, c] by unfold q1; rw [if_pos (.inr h92)])
            clear h34 h92
            go_wp2_with (at_builtin; refine Kd.R_append_rows (Kd.int .u8) (Rr := fun x cs => cs = [Value.int .u8 x]) (w0 := w) w.heap.size rfl (.tmp 39) (.tmp 41) 64 5 (.int .u8 0) 1 rfl Tryd.underlying64 info5 rfl (by decide) (by decide) (.slice A3 outs.length c3) outs [92, c] (some ⟨_, 0, none⟩) 2 2 (fun q => q ≠ b) (fun _ => False) rfl rfl (Kd.R_alloc HO.out _) (lits_read _ [92, c] (by simp)) (fun x cs h => h) (fun _ hk => hk.elim) (fun q hq => by have := HLT.out; simp at hq; omega) (HB3.out.alloc HB3.out.size _) (Nat.le_trans HB3.out.size (by simp)) HL2.out ?_; intro v1_ w1_ hR_ hB_ hG_ hat_; have hgc := grown_cells HC.out HLT.out _ hG_ hneb; have HO1 := Aside0.mk hR_; have HB4 := Aside0.mk hB_; have HC1 := Aside0.mk hgc.1; have HLT1 := Aside0.mk hgc.2; clear hR_ hB_ hG_ hat_ hgc)
            go_roundw
            case rel => exact ⟨k + 1, by omega, by go_num, ⟨by rw [HSN.out, HQ.out]; exact HO1.out⟩, HC1, HB4, HLT1⟩
            case measure => simp [intOf]; omega
          · have hb2 : (c == 92) = false := beq_eq_false_iff_ne.2 h92
            by_cases h32 : 32 ≤ c ∧ c ≤ 126
            · have hb3 : decide (32 ≤ c) = true := decide_eq_true h32.1
              have hb4 : decide (c ≤ 126) = true := decide_eq_true h32.2
              have HQ := Aside0.mk (show q1 c = [c] by unfold q1; rw [if_neg (by omega), if_pos h32])
              clear h34 h92 h32
              go_wp2_with (at_builtin; refine Kd.R_append_rows (Kd.int .u8) (Rr := fun x cs => cs = [Value.int .u8 x]) (w0 := w) w.heap.size rfl (.tmp 50) (.tmp 52) 64 5 (.int .u8 0) 1 rfl Tryd.underlying64 info5 rfl (by decide) (by decide) (.slice A3 outs.length c3) outs [c] (some ⟨_, 0, none⟩) 1 1 (fun q => q ≠ b) (fun _ => False) rfl rfl (Kd.R_alloc HO.out _) (lits_read _ [c] (by simp)) (fun x cs h => h) (fun _ hk => hk.elim) (fun q hq => by have := HLT.out; simp at hq; omega) (HB3.out.alloc HB3.out.size _) (Nat.le_trans HB3.out.size (by simp)) HL1.out ?_; intro v1_ w1_ hR_ hB_ hG_ hat_; have hgc := grown_cells HC.out HLT.out _ hG_ hneb; have HO1 := Aside0.mk hR_; have HB4 := Aside0.mk hB_; have HC1 := Aside0.mk hgc.1; have HLT1 := Aside0.mk hgc.2; clear hR_ hB_ hG_ hat_ hgc)
              go_roundw
              case rel => exact ⟨k + 1, by omega, by go_num, ⟨by rw [HSN.out, HQ.out]; exact HO1.out⟩, HC1, HB4, HLT1⟩
              case measure => simp [intOf]; omega
            · have HQ := Aside0.mk (show q1 c = [92, 120, hexd (c / 16), hexd (c % 16)] by unfold q1; rw [if_neg (by omega), if_neg h32])
              have hex : (decide (32 ≤ c) = false) ∨ (decide (32 ≤ c) = true ∧ decide (c ≤ 126) = false) := by
                by_cases h : 32 ≤ c
                · exact .inr ⟨decide_eq_true h, decide_eq_false (by omega)⟩
                · exact .inl (decide_eq_false h)
              clear h34 h92 h32
              rcases hex with hb3 | ⟨hb3, hb4⟩
              all_goals
                have hp1 : 0 ≤ c / 16 := by omega
                have hp2 : c / 16 < 16 := by omega
                have hp3 : 0 ≤ c % 16 := by omega
                have hp4 : c % 16 < 16 := by omega
                have hx1 := bt_at HEX (c / 16)
                have hx2 := bt_at HEX (c % 16)
                rw [digit_at (c / 16) ⟨hp1, hp2⟩] at hx1
                rw [digit_at (c % 16) ⟨hp3, hp4⟩] at hx2
                unfold HEX at hx1 hx2
                have hband := band15 c hcr
                replace hp1 := eq_true hp1
                replace hp2 := eq_true hp2
                replace hp3 := eq_true hp3
                replace hp4 := eq_true hp4
                go_wp2
                have HO9 := Aside0.mk (Kd.R_drew HO.out)
                have HB9 := Aside0.mk (below_drew HB3.out)
                have HC9 := Aside0.mk (fun (j : Nat) (hj : j < s.size) => (show (World.drew wr).cell? ⟨b, j, none⟩ = some (.int .u8 ((bl s).getD j 0)) from HC.out j hj))
                have HLT9 := Aside0.mk (show b < (World.drew wr).heap.size from HLT.out)
                clear HO HB3 HC HLT hx
                refine start_ (n := 10) (S := fun w' => True) (ds := []) #[false, false, false, false, false, false, false, false, false, false] (by kernel_rfl) rfl rfl trivial (fun hHeld => ?_)
                refine with_tabW quote7.tab7 quote7.bits7 (fun HT_ HW_ => ?_)
                generalize World.drew _ = w9 at HO9 HB9 HC9 HLT9 hHeld ⊢
                refine pure_ (i := 0) (N := some 23) (v := ?_) (a' := ?_) #[true, false, false, false, false, false, false, false, false, false] rfl rfl (any_of HT_.out (by kernel_rfl)) (fun _ _ _ h => h) (Or.inl ⟨by rfl, ?_⟩) ?_ ?_
                rotate_left
                · intro w'
                  go_simp
                  with_reducible rfl
                rotate_left
                · simp only [Act.put, List.setIfInBounds_toArray, List.set_cons_zero, List.set_cons_succ, i64_w, i32_w]
                  rfl
                refine pure_ (i := 1) (N := some 24) (v := ?_) (a' := ?_) #[true, true, false, false, false, false, false, false, false, false] rfl rfl (any_of HT_.out (by kernel_rfl)) (fun _ _ _ h => h) (Or.inl ⟨by rfl, ?_⟩) ?_ ?_
                rotate_left
                · intro w'
                  go_simp
                  with_reducible rfl
                rotate_left
                · simp only [Act.put, List.setIfInBounds_toArray, List.set_cons_zero, List.set_cons_succ, i64_w, i32_w]
                  rfl
                refine pure_ (i := 2) (N := some 25) (v := ?_) (a' := ?_) #[true, true, true, false, false, false, false, false, false, false] rfl rfl (any_of HT_.out (by kernel_rfl)) (fun _ _ _ h => h) (Or.inl ⟨by rfl, ?_⟩) ?_ ?_
                rotate_left
                · intro w'
                  go_simp
                  with_reducible rfl
                rotate_left
                · simp only [Act.put, List.setIfInBounds_toArray, List.set_cons_zero, List.set_cons_succ, i64_w, i32_w]
                  rfl
                refine pure_ (i := 3) (N := some 26) (v := ?_) (a' := ?_) #[true, true, true, true, false, false, false, false, false, false] rfl rfl (any_of HT_.out (by kernel_rfl)) (fun _ _ _ h => h) (Or.inl ⟨by rfl, ?_⟩) ?_ ?_
                rotate_left
                · intro w'
                  go_simp
                  with_reducible rfl
                rotate_left
                · simp only [Act.put, List.setIfInBounds_toArray, List.set_cons_zero, List.set_cons_succ, i64_w, i32_w]
                  rfl
                refine pure_ (i := 4) (N := some 27) (v := ?_) (a' := ?_) #[true, true, true, true, true, false, false, false, false, false] rfl rfl (any_of HT_.out (by kernel_rfl)) (fun _ _ _ h => h) (Or.inl ⟨by rfl, ?_⟩) ?_ ?_
                rotate_left
                · intro w'
                  go_simp
                  with_reducible rfl
                rotate_left
                · simp only [Act.put, List.setIfInBounds_toArray, List.set_cons_zero, List.set_cons_succ, i64_w, i32_w]
                  rfl
                refine pure_ (i := 5) (N := some 28) (v := ?_) (a' := ?_) #[true, true, true, true, true, true, false, false, false, false] rfl rfl (any_of HT_.out (by kernel_rfl)) (fun _ _ _ h => h) (Or.inl ⟨by rfl, ?_⟩) ?_ ?_
                rotate_left
                · intro w'
                  go_simp
                  with_reducible rfl
                rotate_left
                · simp only [Act.put, List.setIfInBounds_toArray, List.set_cons_zero, List.set_cons_succ, i64_w, i32_w]
                  rfl
                refine pure_ (i := 6) (N := some 29) (v := ?_) (a' := ?_) #[true, true, true, true, true, true, true, false, false, false] rfl rfl (any_of HT_.out (by kernel_rfl)) (fun _ _ _ h => h) (Or.inl ⟨by rfl, ?_⟩) ?_ ?_
                rotate_left
                · intro w'
                  go_simp
                  with_reducible rfl
                rotate_left
                · simp only [Act.put, List.setIfInBounds_toArray, List.set_cons_zero, List.set_cons_succ, i64_w, i32_w]
                  rfl
                refine one_ (i := 7) (N := some 30) #[true, true, true, true, true, true, true, true, false, false] rfl rfl (one_of HT_.out (by kernel_rfl)) (by decide) (fun K hK => ?_)
                refine value_ (w1 := ?_) (v := ?_) (by rfl) rfl ?_ ?_
                rotate_left 2
                · go_simp
                  constructor
                  · rfl
                  · rfl
                refine hK.out _ _ trivial (fun hHeld => ?_)
                clear hK K
                refine norm_ (a' := ?_) ?_ ?_
                rotate_left
                · show Act.put _ (some 30) _ = _
                  simp only [Act.put, List.setIfInBounds_toArray, List.set_cons_zero, List.set_cons_succ, i64_w, i32_w]
                  rfl
                refine one_ (i := 8) (N := some 31) #[true, true, true, true, true, true, true, true, true, false] rfl rfl (one_of HT_.out (by kernel_rfl)) (by decide) (fun K hK => ?_)
                refine Kd.R_append_rows_step (Kd.int .u8) (Rr := fun x cs => cs = [Value.int .u8 x]) (w0 := w) w.heap.size (by rfl) (.tmp 23) (.tmp 30) 64 5 (.int .u8 0) 1 rfl Tryd.underlying64 info5 rfl (by decide) (by decide) (.slice A3 outs.length c3) outs [92, 120, hexd (c / 16), hexd (c % 16)] (some ⟨_, 0, none⟩) 4 4 (fun q => q ≠ b) (fun _ => False) rfl rfl (Kd.R_alloc HO9.out _) (lits_read _ [92, 120, hexd (c / 16), hexd (c % 16)] (by simp)) (fun x cs h => h) (fun _ hk => hk.elim) (fun q hq => by have := HLT9.out; simp at hq; omega) (HB9.out.alloc HB9.out.size _) (Nat.le_trans HB9.out.size (by simp)) HL4.out ?_
                intro v1_ w1_ hR_ hB_ hG_ hat_
                have hgc := grown_cells HC9.out HLT9.out _ hG_ hneb
                have HO1 := Aside0.mk hR_
                have HB4 := Aside0.mk hB_
                have HC1 := Aside0.mk hgc.1
                have HLT1 := Aside0.mk hgc.2
                clear hR_ hB_ hG_ hat_ hgc
                refine hK.out _ _ trivial (fun hHeld => ?_)
                clear hK K
                refine norm_ (a' := ?_) ?_ ?_
                rotate_left
                · show Act.put _ (some 31) _ = _
                  simp only [Act.put, List.setIfInBounds_toArray, List.set_cons_zero, List.set_cons_succ, i64_w, i32_w]
                  rfl
                refine pure_ (i := 9) (N := some 3) (v := ?_) (a' := ?_) #[true, true, true, true, true, true, true, true, true, true] rfl rfl (any_of HT_.out (by kernel_rfl)) (fun _ _ _ h => h) (Or.inl ⟨by rfl, ?_⟩) ?_ ?_
                rotate_left
                · intro w'
                  go_simp
                  with_reducible rfl
                rotate_left
                · simp only [Act.put, List.setIfInBounds_toArray, List.set_cons_zero, List.set_cons_succ, i64_w, i32_w]
                  rfl
                refine done_ (done_of HT_.out (by kernel_rfl)) ?_
                clear hx1 hx2 hp1 hp2 hp3 hp4 hband
                try go_wp2
                go_roundw
                case rel => exact ⟨k + 1, by omega, by go_num, ⟨by rw [HSN.out, HQ.out]; exact HO1.out⟩, HC1, HB4, HLT1⟩
                case measure => simp [intOf]; omega
      · obtain rfl : k = s.size := by omega
        rw [show (bl s).take s.size = bl s from by rw [← bl_length]; exact List.take_length] at HO hlen
        obtain ⟨outs, ho⟩ : ∃ o, 34 :: (bl s).flatMap q1 = o := ⟨_, rfl⟩
        rw [ho] at HO hlen
        have HFIN := Aside0.mk (show 34 :: (bl s).flatMap q1 ++ [34] = outs ++ [34] by rw [← ho])
        have HL1 := Aside0.mk (show (outs.length + 1) * 1 ≤ 140737488355328 by omega)
        obtain ⟨A3, c3, hv3⟩ := Kd.R_slice HO.out
        subst hv3
        clear hlen ho
        go_wp2_with (at_builtin; refine Kd.R_append_rows (Kd.int .u8) (Rr := fun x cs => cs = [Value.int .u8 x]) (w0 := w) w.heap.size rfl (.tmp 55) (.tmp 56) 64 5 (.int .u8 0) 1 rfl Tryd.underlying64 info5 rfl (by decide) (by decide) (.slice A3 outs.length c3) outs [34] (some ⟨_, 0, none⟩) 1 1 (fun q => q ≠ b) (fun _ => False) rfl rfl (Kd.R_alloc HO.out _) (lits_read _ [34] (by simp)) (fun x cs h => h) (fun _ hk => hk.elim) (fun q hq => by have := HLT.out; simp at hq; omega) (HB3.out.alloc HB3.out.size _) (Nat.le_trans HB3.out.size (by simp)) HL1.out ?_; intro v1_ w1_ hR_ hB_ hG_ hat_; have hgc := grown_cells HC.out HLT.out _ hG_ hneb; have HO1 := Aside0.mk hR_; have HB4 := Aside0.mk hB_; have HC1 := Aside0.mk hgc.1; have HLT1 := Aside0.mk hgc.2; clear hR_ hB_ hG_ hat_ hgc; have hcv := own_string (P := Tryd.prog) Tryd.underlying64 Tryd.underlying5 Tryd.underlying9 (Kd.own_of_R HO1.out))
        go_ret
        exact ⟨congrArg (fun l => Ending.returned (Value.string (strOfNums l))) HFIN.out.symm, HB4.out⟩
theorem any_not (l : List Int) : l.any noBare = false ↔ l.all bareI = true := by
  induction l with
  | nil => simp
  | cons c r ih => simp [noBare, ih] at *
theorem calls (a0 : ByteArray) (r : ByteArray) (w : World) (h : quote a0 = some r) :
    Calls Tryd.prog 26 #[.string a0] w fun e w' => e = .returned (.string r) ∧ Below w.heap.size w w' := by
  by_cases hs : a0.size ≤ 1099511627776
  rotate_left
  · rw [quote, if_neg hs] at h; cases h
  rw [quote, if_pos hs] at h
  obtain rfl := Option.some.inj h
  have ht : a0.toList = [] ↔ bl a0 = [] := by
    rw [XTabs.toList_eq]
    unfold bl
    simp
  unfold quoteL
  by_cases hb : bl a0 ≠ [] ∧ (bl a0).all bareI = true
  · rw [if_pos hb, strOfNums_bl]
    exact calls_bare a0 w hs (fun e => hb.1 (ht.1 e)) ((any_not _).2 hb.2)
  · rw [if_neg hb]
    refine calls_in a0 w hs ?_
    by_cases he : a0.toList = []
    · exact .inl he
    · refine .inr ⟨he, ?_⟩
      cases hq : (bl a0).any noBare with
      | true => rfl
      | false => exact absurd ⟨fun e => he (ht.2 e), (any_not _).1 hq⟩ hb
end Go.Proofs.YtkenihkjdbdlkaaDoor.XQuote
