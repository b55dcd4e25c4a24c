/- Written by a program of this session (wip/tools/mp.sh): functions as Lean functions, with proofs that the calls come to what they say. Lean checks it. -/
import Derived.Test.YtmpiljfpgfhljaaQDiskFusex0
namespace Go.Proofs.Ytmpiljfpgfhljaa.QDiskFuse
open Go.RowKit Go.Proofs.YtmpiljfpgfhljaaW.PrintWords Go.Proofs.YtmpiljfpgfhljaaW.PrintLast Go.Proofs.YtmpiljfpgfhljaaW.PrintMore
attribute [local go_sem] max2_int min2_int max_two min_two max_three min_three max_four min_four   -- for this text's walks alone
set_option linter.unusedVariables false
set_option linter.unusedSimpArgs false

-- NOT PRINTED: function 11 (disk_New)

-- NOT PRINTED: function 24 (disk_Disk_Size)

-- NOT PRINTED: function 33 (disk_Disk_has)

-- NOT PRINTED: function 34 (disk_Disk_burn)

-- NOT PRINTED: function 53 (disk_cached)

-- NOT PRINTED: function 35 (disk_Disk_find)

-- NOT PRINTED: function 12 (disk_Disk_Write)

-- NOT PRINTED: function 14 (disk_Disk_Flush)

-- NOT PRINTED: function 36 (slices_Clone_byte_byte)

-- NOT PRINTED: function 16 (disk_Disk_Read)

-- NOT PRINTED: function 17 (disk_Disk_Crash)

-- NOT PRINTED: function 15 (disk_Disk_Cached)

/-! ### prebendlaw05_sector: function 23 -/
def prebendlaw05_sector.l0 : Nat → Int → List Int → Int → Option (List Int)
  | 0, _, _, _ => none
  | k + 1, x0, x3, x4 => if x4 < 32 then (if 0 ≤ x4 then (if x4 < (x3.length : Int) then (prebendlaw05_sector.l0 k x0 (x3.set (x4 : Int).toNat x0) (wrap64 (x4 + 1))) else (none)) else (none)) else (some x3)
def prebendlaw05_sector.f (k : Nat) (a0 : Int) : Option (List Int) := if 32 ≤ 281474976710656 then (prebendlaw05_sector.l0 k a0 (List.replicate 32 0) 0) else (none)
theorem prebendlaw05_sector.mono_l : ∀ k, (∀ y0 y1 y2, LeO (prebendlaw05_sector.l0 k y0 y1 y2) (prebendlaw05_sector.l0 (k + 1) y0 y1 y2))
  | 0 => fun _ _ _ r h => by simp [prebendlaw05_sector.l0] at h
  | k + 1 => by
    have ih0 := prebendlaw05_sector.mono_l k
    · intro y0 y1 y2
      unfold prebendlaw05_sector.l0
      repeat' first
      | (with_reducible exact ih0 _ _ _)
      | (with_reducible exact LeO.refl _)
      | (with_reducible exact LeO.none _)
      | (with_reducible refine LeO.ite ?_ ?_)
      | (with_reducible refine LeO.bind ?_ (fun _ => ?_))
      | exact ih0 _ _ _
      | exact LeO.none _
      | refine LeO.ite ?_ ?_
      | refine LeO.bind ?_ (fun _ => ?_)
theorem prebendlaw05_sector.mono : ∀ a0 k, LeO (prebendlaw05_sector.f k a0) (prebendlaw05_sector.f (k + 1) a0) := by
  intro a0 k
  have ih0 := prebendlaw05_sector.mono_l k
  unfold prebendlaw05_sector.f
  repeat' first
      | (with_reducible exact ih0 _ _ _)
      | (with_reducible exact LeO.refl _)
      | (with_reducible exact LeO.none _)
      | (with_reducible refine LeO.ite ?_ ?_)
      | (with_reducible refine LeO.bind ?_ (fun _ => ?_))
      | exact ih0 _ _ _
      | exact LeO.none _
      | refine LeO.ite ?_ ?_
      | refine LeO.bind ?_ (fun _ => ?_)
set_option maxHeartbeats 8000000 in
set_option maxRecDepth 100000 in
theorem prebendlaw05_sector.calls (k : Nat) (a0 : Int) (r : List Int) (w : World) (h : prebendlaw05_sector.f k a0 = some r) :
    Calls Try.prog 23 #[.int .u8 a0] w fun e w' => ∃ v0_ : Value, e = .returned (v0_) ∧ Kd.R (Kd.int .u8) 5 w' w.heap.size (fun _ => True) v0_ r ∧ Below w.heap.size w w' := by
  have HB := Aside0.mk (Below.refl w.heap.size w)
  have H : (if 32 ≤ 281474976710656 then (prebendlaw05_sector.l0 k a0 (List.replicate 32 0) 0) else (none)) = some r := h
  clear h
  by_cases c2 : 32 ≤ 281474976710656
  · rw [if_pos c2] at H
    have c2b0 := eq_true c2
    have c2b1 : decide (32 ≤ 281474976710656) = true := decide_eq_true c2
    clear c2
    obtain ⟨y101, hy101⟩ : ∃ y_ : List Int, y_ = (List.replicate 32 0) := ⟨_, rfl⟩
    replace H : (prebendlaw05_sector.l0 k a0 y101 0) = some r := by first | (rw [hy101]; with_reducible exact H) | (have H2_ := (Option.bind_some _ _).symm.trans H; rw [hy101]; with_reducible exact H2_) | (have H2_ := (Option.bind_some _ _).symm.trans H; with_reducible exact H2_) | with_reducible exact H | (rw [hy101]; exact H) | exact H
    have Ny101 := Aside0.mk hy101
    clear hy101
    have H' := Aside0.mk H
    clear H
    go_enter Try.func23, Try.ntmps23
    go_wp2_with (first | ((with_reducible refine gate_dst (N := 5) rfl ?_); refine Kd.R_make (Kd.int .u8) _ 5 rfl (N := 5) rfl 29 _ _ rfl 32 rfl rfl Try.underlying29 (.int .u8 0) 1 info5 rfl (by decide) (by omega) 0 (ok := fun _ => True) (okp := fun _ => True) rfl (fun _ hk => hk) trivial (by omega) (by omega) (Below.refl _ _) (Nat.le_refl _) ?_; intro v102 w3 ho4 hb hg_ hnew_; clear hg_ hnew_; (first | rw [← Ny101.out] at ho4 | (simp only [Int.reduceToNat] at ho4; rw [← Ny101.out] at ho4)); have n0_ := Aside0.mk (Kd.R_lower ho4 (below_size (by repeat (first | (with_reducible first | exact HB.out | apply below_alloc | apply pw_below_drewN | apply below_drew1) | exact HB.out)))); have n1_ := Aside0.mk (below_step (by repeat (first | (with_reducible first | exact HB.out | apply below_alloc | apply pw_below_drewN | apply below_drew1) | exact HB.out)) hb); clear HB; have HO103 := n0_; have HB := n1_; clear n0_ n1_; clear hb ho4))
    go_loopg [4] k (fun kq v4 w' => ∃ (x3_1 : List Int) (x4_1 : Int), v4 = .int .i64 x4_1 ∧ Aside0 (prebendlaw05_sector.l0 kq a0 x3_1 x4_1 = some r) ∧ Aside0 (kq ≤ k) ∧ Aside0 (Kd.R (Kd.int .u8) 5 w' w.heap.size (fun _ => True) v102 x3_1) ∧ Aside0 (Below w.heap.size w w'))
    case atStart => exact ⟨(y101), (0), (by first | rfl | (simp; done) | (simp [*]; done)), H', ⟨Nat.le_refl _⟩, ⟨by (with_reducible repeat (first | apply Kd.R_alloc | apply Kd.R_drewN | apply Kd.R_drew)); exact HO103.out⟩, ⟨by repeat (first | (with_reducible first | exact HB.out | apply below_alloc | apply pw_below_drewN | apply below_drew1) | exact HB.out)⟩⟩
    case round =>
      clear H'
      try clear c2
      try clear c2b0
      try clear c2b1
      try clear p2
      obtain ⟨x3_1, x4_1, rfl, HA, HK1, HO_3, HB⟩ := hrel
      cases gk with
      | zero => exact absurd HA.out (by simp [prebendlaw05_sector.l0])
      | succ k1 =>
        have H := HA.out
        clear HA
        simp only [prebendlaw05_sector.l0] at H
        by_cases c5 : x4_1 < 32
        · rw [if_pos c5] at H
          have c5b0 : decide (x4_1 < 32) = true := decide_eq_true c5
          clear c5
          by_cases c6 : 0 ≤ x4_1
          · rw [if_pos c6] at H
            have c6b0 : decide (0 ≤ x4_1) = true := decide_eq_true c6
            clear c6
            by_cases c7 : x4_1 < (x3_1.length : Int)
            · rw [if_pos c7] at H
              have c7b0 : decide (x4_1 < (x3_1.length : Int)) = true := decide_eq_true c7
              clear c7
              obtain ⟨y104, hy104⟩ : ∃ y_ : List Int, y_ = (x3_1.set (x4_1 : Int).toNat a0) := ⟨_, rfl⟩
              replace H : (prebendlaw05_sector.l0 k1 a0 y104 (wrap64 (x4_1 + 1))) = some r := by first | (rw [hy104]; with_reducible exact H) | (have H2_ := (Option.bind_some _ _).symm.trans H; rw [hy104]; with_reducible exact H2_) | (have H2_ := (Option.bind_some _ _).symm.trans H; with_reducible exact H2_) | with_reducible exact H | (rw [hy104]; exact H) | exact H
              have Ny104 := Aside0.mk hy104
              clear hy104
              have H' := Aside0.mk H
              clear H
              have p8 : 0 ≤ (x4_1 : Int) := of_decide_eq_true (by first | (with_reducible assumption) | assumption)
              have q8 : (x4_1 : Int) < ((x3_1.length : Int) : Int) := of_decide_eq_true (by first | (with_reducible assumption) | assumption)
              obtain ⟨go8, co8, eo8, gb8, gl8, cl8, HG8⟩ := Kd.R_form HO_3.out (by omega)
              (first | cases eo8 | (injection eo8 with ea_ en_ ec_; (first | subst ea_ | (injection ea_ with ea_; subst ea_)); subst ec_; clear en_))
              have GB8 := Aside0.mk gb8
              have GG8 := Aside0.mk HG8
              clear gb8 gl8 HG8
              obtain ⟨hx8_0, hf8_0⟩ := Kd.R_celln 0 HO_3.out (x4_1 : Int) p8 q8
              replace p8 := eq_true p8
              replace q8 := eq_true q8
              have HP9 := Kd.R_putg HO_3.out (x4_1 : Int) a0
              go_wp2_with (first | ((with_reducible refine gate_store (t := 5) (p := 13) rfl ?_); refine store_event (t := 5) (p := 13) (v := ?vo_w10) (w1 := (wr.setCell ⟨go8, (x4_1 : Int).toNat, none⟩ (.int .u8 a0))) ?hg ?ho ?hn ?hr ?_; (case ho => rfl); (case hg => rfl); (case hn => rfl); (case hr => first | (go_simp; done) | (go_simp; rfl)); intro w10 hw; have hg : wr.grownBy w10 (some go8) := (by rw [hw]; exact HP9.2); have hp_ : Kd.R (Kd.int .u8) 5 w10 w.heap.size (fun _ => True) (.slice (some ⟨go8, 0, none⟩) x3_1.length co8) y104 := (by rw [hw, Ny104.out]; exact HP9.1); clear HP9; have n0_ := Aside0.mk (hp_); have n1_ := Aside0.mk ((by rw [hw]; exact below_set (HB.out) GB8.out : Below w.heap.size w w10)); clear HO_3; clear HB; have HO_3 := n0_; have HB := n1_; clear n0_ n1_; clear hg hw hp_))
              go_roundg k1
              case measure => have := HK1.out; omega
              case rel => exact ⟨(y104), (wrap64 (x4_1 + 1)), (by first | rfl | (simp; done) | (simp [*]; done)), H', ⟨by have := HK1.out; omega⟩, ⟨by (with_reducible repeat (first | apply Kd.R_alloc | apply Kd.R_drewN | apply Kd.R_drew)); exact HO_3.out⟩, ⟨by repeat (first | (with_reducible first | exact HB.out | apply below_alloc | apply pw_below_drewN | apply below_drew1) | exact HB.out)⟩⟩
            · rw [if_neg c7] at H
              exact absurd H (by simp)
          · rw [if_neg c6] at H
            exact absurd H (by simp)
        · rw [if_neg c5] at H
          have c5b0 : decide (x4_1 < 32) = false := decide_eq_false c5
          clear c5
          obtain rfl := Option.some.inj H
          go_wp2
          go_ret
          exact ⟨_, by first | rfl | (simp [errW_none, errW_some] <;> rfl) | (simp [*, errW_none, errW_some] <;> rfl), by (with_reducible repeat (first | apply Kd.R_alloc | apply Kd.R_drewN | apply Kd.R_drew)); exact HO_3.out, by repeat (first | (with_reducible first | exact HB.out | apply below_alloc | apply pw_below_drewN | apply below_drew1) | exact HB.out)⟩
  · rw [if_neg c2] at H
    exact absurd H (by simp)

-- NOT PRINTED: function 18 (prebendlaw05_awake)

-- NOT PRINTED: function 22 (disk_Disk_Fuse)

/-! ### prebendlaw05_DiskFuse: function 6 -/
def wfS28 (x : S28) : Prop := (Lit.int .u8 x.f0).wf = true ∧ (Lit.int .i64 x.f1).wf = true ∧ (Lit.int .u8 x.f2).wf = true ∧ (Lit.int .i64 x.f3).wf = true ∧ (Lit.int .i64 x.f4).wf = true
def prebendlaw05_DiskFuse.f (a0 : Int) (l1 : List S28) : Option (Bool) := if 0 ≤ a0 ∧ a0 < 256 ∧ ∀ x ∈ l1, 0 ≤ x.f0 ∧ x.f0 < 256 then some true else none
theorem actAt {w : World} {A : Option Addr} {l : List S28} (h : Kd.C k28 w A l.length l) (hl : ∀ x ∈ l, 0 ≤ x.f0 ∧ x.f0 < 256) : XDisk.ActAt w A l.length (fun i => (rd_T28 l i).f0) (fun i => (rd_T28 l i).f1) (fun i => (rd_T28 l i).f2) := fun i hi => by
  obtain ⟨ad, e, h1, h2, h3, h4⟩ := at_T28 h (i : Int) (by omega) (by omega)
  rw [Int.toNat_natCast] at h1 h2 h3
  refine ⟨ad, e, h1, h2, h3, hl _ ?_⟩
  unfold rd_T28
  rw [Int.toNat_natCast, List.getD_eq_getElem?_getD, List.getElem?_eq_getElem hi]
  exact List.getElem_mem hi
theorem prebendlaw05_DiskFuse.calls (a0 : Int) (A1 : Option Addr) (c1 : Nat) (l1 : List S28) (r : Bool) (w : World) (hr1 : Kd.C k28 w A1 l1.length l1) (hc1 : l1.length ≤ c1) (h : prebendlaw05_DiskFuse.f a0 l1 = some r) :
    Calls Try.prog 6 #[.int .u8 a0, .slice A1 l1.length c1] w fun e w' => e = .returned (.bool r) ∧ Below w.heap.size w w' := by
  unfold prebendlaw05_DiskFuse.f at h
  split at h
  · rename_i hh
    obtain rfl := Option.some.inj h
    exact XDisk.fuse_law a0 hh.1 hh.2.1 A1 l1.length c1 _ _ _ w (actAt hr1 hh.2.2) hr1.2.1
  · cases h

def prebendlaw05_DiskFuse.Pure : Prop := ∀ (a0 : Int) (l1 : List (S28)), (Lit.int .u8 a0).wf = true → (l1.length * 40 ≤ 140737488351232 ∧ ∀ y ∈ l1, wfS28 y) → prebendlaw05_DiskFuse.f a0 l1 = some true
end Go.Proofs.Ytmpiljfpgfhljaa.QDiskFuse
