/-
  How arguments of any finite shape (whole numbers, bools, texts, slices and structs of these) are opened: what can be read as data is a value of the print's kinds, with its numbers in range and its slices and texts within the row's own reach. No condition of ours.
-/
import Derived.ChangeArms
import Derived.Deep.Slices
import Derived.SizedLaws
import Derived.Test.YtijeigiilgapdaaWAll
namespace Go.Proofs.Ytijeigiilgapdaa.RowData
open Go.RowKit Go.Deep Go.ChangeShapes Go.WideShapes Go.Proofs.YtijeigiilgapdaaW.PrintWords Go.Proofs.YtijeigiilgapdaaW.PrintLast Go.Proofs.YtijeigiilgapdaaW.PrintMore

/-- What reads as data of type t is a value of the kind d, of which Wf holds. -/
def Opn {α : Type} (P : Program) (t : TypeId) (d : Kd α) (Wf : α → Prop) : Prop :=
  ∀ (H : Type) (enc : TypeId × Value → H) (w : World) (base : Nat) (spare : Nat → Bool) (held : Bool) (fuel : Nat) (cs : List Value) (x : DataW H × List MemPlace),
    DataW.trod enc P w base spare held fuel t cs = some x → (x.1.weights P t).all (· ≤ reachBytes) = true → ∃ a, d.K w a cs ∧ Wf a

theorem Opn.int {P : Program} {t : TypeId} {k : IntKind} (hu : P.underlying t = some (.int k)) : Opn P t (Kd.int k) (fun n => (Lit.int k n).wf = true) := by
  intro H enc w base spare held fuel cs x h _
  obtain ⟨n, rfl, rfl, hw⟩ := DataW.trod_int hu h
  exact ⟨n, rfl, hw⟩
theorem Opn.bool {P : Program} {t : TypeId} (hu : P.underlying t = some .bool) : Opn P t Kd.bool (fun _ => True) := by
  intro H enc w base spare held fuel cs x h _
  obtain ⟨b, rfl, rfl⟩ := DataW.trod_bool hu h
  exact ⟨b, rfl, trivial⟩
theorem Opn.string {P : Program} {t : TypeId} (hu : P.underlying t = some .string) : Opn P t Kd.string (fun s => s.size ≤ 140737488351232) := by
  intro H enc w base spare held fuel cs x h hz
  obtain ⟨s, rfl, rfl, _⟩ := DataW.trod_string hu h
  refine ⟨s, rfl, ?_⟩
  have h1 := of_decide_eq_true (List.all_eq_true.1 hz s.data.toList.length (by simp [DataW.weights]))
  rw [Array.length_toList] at h1
  exact h1
theorem weightsAll_mem {H : Type} {P : Program} {e : TypeId} {ds : List (DataW H)} {d : DataW H} (hd : d ∈ ds) (n : Nat) (hn : n ∈ d.weights P e) : n ∈ DataW.weightsAll P e ds := by
  induction ds with
  | nil => cases hd
  | cons a r ih =>
    simp only [DataW.weightsAll, List.mem_append]
    rcases List.mem_cons.1 hd with rfl | h
    · exact Or.inl hn
    · exact Or.inr (ih h)
theorem cells?_get {w : World} {base : Nat} {a : Addr} {n : Nat} {cs : List Value} (h : w.cells? base a n = some cs) : cs.length = n ∧ ∀ i u, cs[i]? = some u → w.cell? (a.add i) = some u := by
  unfold World.cells? at h
  split at h
  · have hl := mapM_some_length h
    rw [List.length_range] at hl
    refine ⟨hl, fun i u hu => ?_⟩
    have hi : i < n := by
      rw [← hl]
      exact (List.getElem?_eq_some_iff.1 hu).1
    have := mapM_some_get h i i (by simp [hi])
    rw [this, hu]
  · exact absurd h (by simp)
theorem list_of_each {α : Type} {p : Nat → α → Prop} : ∀ {len : Nat}, (∀ i, i < len → ∃ y, p i y) → ∃ xs : List α, xs.length = len ∧ ∀ i y, xs[i]? = some y → p i y
  | 0, _ => ⟨[], rfl, fun i y h => by simp at h⟩
  | len + 1, each => by
    obtain ⟨xs, h1, h2⟩ := list_of_each (len := len) (fun i hi => each i (by omega))
    obtain ⟨y, hy⟩ := each len (by omega)
    refine ⟨xs ++ [y], by simp [h1], fun i z hz => ?_⟩
    by_cases hi : i < xs.length
    · rw [List.getElem?_append_left hi] at hz
      exact h2 i z hz
    · rw [List.getElem?_append_right (by omega)] at hz
      have h3 : i - xs.length = 0 := by
        have := (List.getElem?_eq_some_iff.1 hz).1
        simp at this
        omega
      rw [h3] at hz
      simp at hz
      subst hz
      rw [show i = len by omega]
      exact hy
theorem Opn.slice {α : Type} {P : Program} {t e : TypeId} {d : Kd α} {Wf : α → Prop} {B : Nat} (hu : P.underlying t = some (.slice e)) (he : Opn P e d Wf) (hs : P.cellsOf e = d.sz) (hB : P.bytesOf e = B) :
    Opn P t (Kd.slice e d) (fun xs => xs.length * B ≤ 140737488351232 ∧ ∀ x ∈ xs, Wf x) := by
  intro H enc w base spare held fuel cs x h hz
  rcases DataW.trod_slice hu h with ⟨rfl, rfl⟩ | ⟨a, len, cap, elems, rest, n, _, rfl, rfl, hb, hl, hm, hlen, hel, _, _⟩
  · exact ⟨[], ⟨none, 0, rfl, Nat.le_refl _, rfl, by simp, fun h => absurd h (Nat.lt_irrefl 0)⟩, by simp, by simp⟩
  · have hz' : ∀ n ∈ ((elems.map (·.1)).length * P.bytesOf e + (rest.map (·.1)).length * P.bytesOf e) :: (DataW.weightsAll P e (elems.map (·.1)) ++ DataW.weightsAll P e (rest.map (·.1))), n ≤ reachBytes := by
      intro n hn
      have := List.all_eq_true.1 hz n (by
        simp only [DataW.weights, hu]
        rw [Nat.add_mul]
        exact hn)
      simpa using this
    have each : ∀ i, i < len → ∃ y : α, (∃ c, d.K w y c ∧ w.cells? base (a.add (i * P.cellsOf e)) (P.cellsOf e) = some c) ∧ Wf y := by
      intro i hi
      have h1 := hel i hi
      rw [List.getElem?_eq_getElem (by omega)] at h1
      obtain ⟨c, h2, h3⟩ := Option.bind_eq_some_iff.1 h1
      obtain ⟨y, hy, hw⟩ := he H enc w base spare held n c _ h3 (by
        rw [List.all_eq_true]
        intro q hq
        have hmem : elems[i].1 ∈ elems.map (·.1) := List.mem_map.2 ⟨_, List.getElem_mem _, rfl⟩
        have := hz' q (List.mem_cons_of_mem _ (List.mem_append_left _ (weightsAll_mem hmem q hq)))
        simpa using this)
      exact ⟨y, ⟨c, hy, h2⟩, hw⟩
    obtain ⟨xs, hxl, hx⟩ := list_of_each each
    refine ⟨xs, ⟨some a, cap, by rw [hxl], by omega, ?_⟩, ?_, ?_⟩
    · refine ⟨rfl, by unfold maxLen at hm; omega, fun _ => ⟨a, rfl, fun j p hp => ?_⟩⟩
      obtain ⟨⟨c, hc, hcells⟩, _⟩ := hx j p hp
      obtain ⟨_, hg⟩ := cells?_get hcells
      refine ⟨c, d.K_len hc, hc, fun i u hu => ?_⟩
      have := hg i u hu
      rw [Deep.add_add, hs] at this
      exact this
    · have := hz' _ (List.mem_cons_self)
      rw [List.length_map, hlen, hB] at this
      rw [hxl]
      unfold reachBytes at this
      omega
    · intro x hx'
      obtain ⟨i, hi, rfl⟩ := List.getElem_of_mem hx'
      exact (hx i _ (List.getElem?_eq_getElem hi)).2

/-- Fields that lie behind one another, from off on. -/
def FOpn {α : Type} (P : Program) (fs : List Field) (off : Nat) (d : Kd α) (Wf : α → Prop) : Prop :=
  ∀ (H : Type) (enc : TypeId × Value → H) (w : World) (base : Nat) (spare : Nat → Bool) (held : Bool) (fuel : Nat) (cs : List Value) (xs : List (DataW H × List MemPlace)),
    xs.length = fs.length → (∀ (i : Nat) (f : Field), fs[i]? = some f → DataW.trod enc P w base spare held fuel f.type ((cs.drop f.offset).take (P.cellsOf f.type)) = xs[i]?) → cs.length = off + d.sz →
    (∀ n ∈ DataW.weightsEach P (fs.map (·.type)) (xs.map (·.1)), n ≤ reachBytes) → ∃ a, d.K w a (cs.drop off) ∧ Wf a
theorem FOpn.one {α : Type} {P : Program} {f : Field} {off : Nat} {d : Kd α} {Wf : α → Prop} (ho : f.offset = off) (hs : P.cellsOf f.type = d.sz) (h : Opn P f.type d Wf) : FOpn P [f] off d Wf := by
  intro H enc w base spare held fuel cs xs hl hx hc hz
  match xs, hl with
  | [x], _ =>
    have h1 := hx 0 f rfl
    rw [ho, hs, List.take_of_length_le (by rw [List.length_drop]; omega)] at h1
    exact h H enc w base spare held fuel _ x h1 (by
      rw [List.all_eq_true]
      intro n hn
      have := hz n (by simp [DataW.weightsEach, hn])
      simpa using this)
theorem FOpn.cons {α β : Type} {P : Program} {f : Field} {fs : List Field} {off off' : Nat} {d : Kd α} {d' : Kd β} {Wf : α → Prop} {Wf' : β → Prop} (ho : f.offset = off) (hs : P.cellsOf f.type = d.sz) (ho' : off + d.sz = off') (h : Opn P f.type d Wf) (hf : FOpn P fs off' d' Wf') :
    FOpn P (f :: fs) off (Kd.pair d d') (fun p => Wf p.1 ∧ Wf' p.2) := by
  subst ho'
  intro H enc w base spare held fuel cs xs hl hx hc hz
  match xs, hl with
  | x :: xs, hl =>
    have hc' : cs.length = off + (d.sz + d'.sz) := hc
    have h1 := hx 0 f rfl
    rw [ho, hs] at h1
    obtain ⟨a, ha, hwa⟩ := h H enc w base spare held fuel _ x h1 (by
      rw [List.all_eq_true]
      intro n hn
      have := hz n (by simp [DataW.weightsEach, hn])
      simpa using this)
    obtain ⟨b, hb, hwb⟩ := hf H enc w base spare held fuel cs xs (by simpa using hl) (fun i g hg => by
      have := hx (i + 1) g (by simpa using hg)
      simpa using this) (by omega) (fun n hn => hz n (by simp [DataW.weightsEach, hn]))
    refine ⟨(a, b), ⟨_, _, ?_, ha, hb⟩, hwa, hwb⟩
    rw [← List.drop_drop, List.take_append_drop]
theorem Opn.struct {α : Type} {P : Program} {t : TypeId} {fs : Array Field} {d : Kd α} {Wf : α → Prop} (hu : P.underlying t = some (.struct fs)) (hs : P.cellsOf t = d.sz) (h : FOpn P fs.toList 0 d Wf) : Opn P t d Wf := by
  intro H enc w base spare held fuel cs x hx hz
  obtain ⟨xs, n, _, rfl, hc, hl, hel⟩ := DataW.trod_struct hu hx
  have := h H enc w base spare held n cs xs (by simpa using hl) (fun i f hf => hel i f (by simpa using hf)) (by omega) (fun q hq => by
    have := List.all_eq_true.1 hz q (by
      simp only [DataW.weights, hu]
      exact hq)
    simpa using this)
  simpa using this
theorem Opn.iso {α β : Type} {P : Program} {t : TypeId} {d : Kd α} {Wf : α → Prop} (f : β → α) (g : α → β) (hfg : ∀ a, f (g a) = a) (h : Opn P t d Wf) : Opn P t (Kd.iso d f) (fun b => Wf (f b)) := by
  intro H enc w base spare held fuel cs x hx hz
  obtain ⟨a, ha, hw⟩ := h H enc w base spare held fuel cs x hx hz
  exact ⟨g a, by show d.K w (f (g a)) cs; rw [hfg]; exact ha, by show Wf (f (g a)); rw [hfg]; exact hw⟩
theorem Opn.imp {α : Type} {P : Program} {t : TypeId} {d : Kd α} {Wf Wf' : α → Prop} (h : Opn P t d Wf) (hw : ∀ a, Wf a → Wf' a) : Opn P t d Wf' := by
  intro H enc w base spare held fuel cs x hx hz
  obtain ⟨a, ha, h2⟩ := h H enc w base spare held fuel cs x hx hz
  exact ⟨a, ha, hw a h2⟩
/-- An argument, opened. -/
theorem Opn.arg {α H : Type} {enc : TypeId × Value → H} {P : Program} {w : World} {base : Nat} {spare : Nat → Bool} {held : Bool} {t : TypeId} {d : Kd α} {Wf : α → Prop} (ho : Opn P t d Wf)
    {v : Value} {x : DataW H} {ps : List MemPlace} {ts : List TypeId} {ds : List (DataW H)} {j : Nat}
    (hsz : (DataW.weightsEach P ts ds).all (· ≤ reachBytes) = true) (ht : ts[j]? = some t) (hd : ds[j]? = some x) (h : DataW.Trod enc P w base spare held t v x ps) : ∃ a, d.K w a v.cells.toList ∧ Wf a := by
  obtain ⟨fuel, hf⟩ := h
  refine ho H enc w base spare held fuel _ _ hf ?_
  rw [List.all_eq_true]
  intro n hn
  exact List.all_eq_true.1 hsz n (DataW.weights_mem_each ht hd n hn)
end Go.Proofs.Ytijeigiilgapdaa.RowData
