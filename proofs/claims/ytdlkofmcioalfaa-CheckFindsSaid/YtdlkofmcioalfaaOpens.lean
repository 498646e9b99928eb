/- What reads as data of a type is of the type's kind: whole numbers, bools, strings, slices, structs, one inside the other. -/
import Derived.ChangeArms
import Derived.Deep.Slices
import Derived.DataReads
import Derived.SizedLaws
import Derived.WideShapes
import Derived.Test.YtdlkofmcioalfaaWMore
namespace Go.Proofs.Ytdlkofmcioalfaa.Op
open Go Go.RowKit Go.ChangeShapes Go.WideShapes Go.Proofs.YtdlkofmcioalfaaW.PrintWords Go.Proofs.YtdlkofmcioalfaaW.PrintLast Go.Proofs.YtdlkofmcioalfaaW.PrintMore
set_option linter.unusedVariables false
set_option linter.unusedSimpArgs false

/-- What reads as data of type t, no heavier than the form lets, is of this kind; Q tells more of it. -/
def Opens {α : Type} (P : Program) (t : TypeId) (d : Kd α) (Q : α → Prop) : Prop :=
  P.cellsOf t = d.sz ∧ ∀ {H : Type} (enc : TypeId × Value → H) (w : World) (base : Nat) (spare : Nat → Bool) (held : Bool) (fuel : Nat) (cs : List Value) (x : DataW H × List MemPlace),
    DataW.trod enc P w base spare held fuel t cs = some x → (∀ n ∈ x.1.weights P t, n ≤ reachBytes) → ∃ a : α, d.K w a cs ∧ Q a

section
variable {P : Program} {t : TypeId}
theorem opens_int {k : IntKind} (ht : P.underlying t = some (.int k)) (hc : P.cellsOf t = 1) : Opens P t (Kd.int k) (fun a => (Lit.int k a).wf = true) := by
  refine ⟨hc, fun enc w base spare held fuel cs x h _ => ?_⟩
  obtain ⟨n, rfl, _, hw⟩ := DataW.trod_int ht h
  exact ⟨n, rfl, hw⟩
theorem opens_bool (ht : P.underlying t = some .bool) (hc : P.cellsOf t = 1) : Opens P t Kd.bool (fun _ => True) := by
  refine ⟨hc, fun enc w base spare held fuel cs x h _ => ?_⟩
  obtain ⟨b, rfl, _⟩ := DataW.trod_bool ht h
  exact ⟨b, rfl, trivial⟩
theorem opens_string (ht : P.underlying t = some .string) (hc : P.cellsOf t = 1) : Opens P t Kd.string (fun s => s.size ≤ 140737488351232) := by
  refine ⟨hc, fun enc w base spare held fuel cs x h hx => ?_⟩
  obtain ⟨s, rfl, rfl, _⟩ := DataW.trod_string ht h
  refine ⟨s, rfl, ?_⟩
  have := hx s.data.toList.length (by simp [DataW.weights])
  rw [Array.length_toList] at this
  exact this
theorem mem_weightsAll {H : Type} {P : Program} {e : TypeId} : ∀ {ds : List (DataW H)} {d : DataW H}, d ∈ ds → ∀ n ∈ d.weights P e, n ∈ DataW.weightsAll P e ds
  | d0 :: ds, d, h, n, hn => by
    simp only [DataW.weightsAll, List.mem_append]
    rcases List.mem_cons.1 h with rfl | h
    · exact .inl hn
    · exact .inr (mem_weightsAll h n hn)
theorem opens_slice {e : TypeId} {α : Type} {d : Kd α} {Q : α → Prop} {B : Nat} (ht : P.underlying t = some (.slice e)) (hc : P.cellsOf t = 1) (hB : P.bytesOf e = B) (hd : Opens P e d Q) :
    Opens P t (Kd.slice e d) (fun xs => xs.length * B ≤ 140737488351232 ∧ ∀ y ∈ xs, Q y) := by
  refine ⟨hc, fun enc w base spare held fuel cs x h hx => ?_⟩
  rcases Go.Deep.open_slice ht h with ⟨rfl, rfl⟩ | ⟨a, len, cap, m, n, D, Pl, rfl, hb, hl, hm, hmm, rfl, hi⟩
  · exact ⟨[], ⟨none, 0, rfl, Nat.le_refl _, ⟨rfl, by simp, fun h => by simp at h⟩⟩, by simp, by simp⟩
  · have hml : len ≤ m := by rw [hmm]; split <;> omega
    simp only [DataW.weights, ht] at hx
    have key : ∀ i, i < len → ∃ (y : α) (cs' : List Value), w.cells? base (a.add (i * P.cellsOf e)) (P.cellsOf e) = some cs' ∧ d.K w y cs' ∧ Q y := by
      intro i hil
      obtain ⟨cs', h1, h2⟩ := hi i (by omega)
      obtain ⟨y, hK, hQ⟩ := hd.2 enc w base spare held n cs' _ h2 (fun q hq => hx q (List.mem_cons_of_mem _ (List.mem_append_left _ (mem_weightsAll (List.mem_map.2 ⟨i, List.mem_range.2 hil, rfl⟩) q hq))))
      exact ⟨y, cs', h1, hK, hQ⟩
    have hne : ∀ i, i < len → Nonempty α := fun i hil => let ⟨y, _⟩ := key i hil; ⟨y⟩
    rcases Nat.eq_zero_or_pos len with h0 | h0
    · subst h0
      exact ⟨[], ⟨some a, cap, rfl, Nat.zero_le _, ⟨rfl, by simp, fun h => by simp at h⟩⟩, by simp, by simp⟩
    · have : Nonempty α := hne 0 h0
      let f : Nat → α := fun i => if hil : i < len then (key i hil).choose else Classical.choice this
      have hf : ∀ i, i < len → ∃ cs', w.cells? base (a.add (i * P.cellsOf e)) (P.cellsOf e) = some cs' ∧ d.K w (f i) cs' ∧ Q (f i) := by
        intro i hil
        have := (key i hil).choose_spec
        simp only [f, dif_pos hil]
        exact this
      have hlen : ((List.range len).map f).length = len := by simp
      refine ⟨(List.range len).map f, ⟨some a, cap, by rw [hlen], by rw [hlen]; exact hl, ⟨rfl, by rw [hlen]; simp only [maxLen] at hm; omega, fun _ => ⟨a, rfl, fun j p hj => ?_⟩⟩⟩, ?_, ?_⟩
      · have hjl : j < len := by
          have := (List.getElem?_eq_some_iff.1 hj).1
          rw [hlen] at this
          exact this
        have hp : f j = p := by
          rw [List.getElem?_map, List.getElem?_range hjl] at hj
          exact Option.some.inj hj
        obtain ⟨cs', h1, hK, _⟩ := hf j hjl
        obtain ⟨_, h2, h3⟩ := World.cells?_some h1
        refine ⟨cs', d.K_len hK, hp ▸ hK, fun i u hu => ?_⟩
        have hil : i < P.cellsOf e := by
          have := (List.getElem?_eq_some_iff.1 hu).1
          omega
        have := h3 i hil
        rw [Go.Deep.add_add, hd.1, hu] at this
        exact this
      · have := hx _ (List.mem_cons_self)
        rw [hB] at this
        simp only [List.length_map, List.length_range] at this
        rw [hlen]
        have h4 : len * B ≤ (len + (m - len)) * B := Nat.mul_le_mul_right _ (by omega)
        simp only [reachBytes] at this
        omega
      · intro y hy
        obtain ⟨i, hir, rfl⟩ := List.mem_map.1 hy
        obtain ⟨_, _, _, hQ⟩ := hf i (List.mem_range.1 hir)
        exact hQ
/-- A struct's fields, from a place on. -/
def OpensF {α : Type} (P : Program) (fl : List Field) (off : Nat) (d : Kd α) (Q : α → Prop) : Prop :=
  ∀ {H : Type} (enc : TypeId × Value → H) (w : World) (base : Nat) (spare : Nat → Bool) (held : Bool) (n : Nat) (cs : List Value) (ys : List (DataW H × List MemPlace)),
    ys.length = fl.length → (∀ (i : Nat) (f : Field), fl[i]? = some f → DataW.trod enc P w base spare held n f.type ((cs.drop f.offset).take (P.cellsOf f.type)) = ys[i]?) →
    (∀ q ∈ DataW.weightsEach P (fl.map (·.type)) (ys.map (·.1)), q ≤ reachBytes) → ∃ a : α, d.K w a ((cs.drop off).take d.sz) ∧ Q a
theorem opensF_one {f : Field} {off : Nat} {α : Type} {d : Kd α} {Q : α → Prop} (ho : f.offset = off) (h : Opens P f.type d Q) : OpensF P [f] off d Q := by
  intro H enc w base spare held n cs ys hl hf hx
  match ys, hl with
  | [y], _ =>
    have := hf 0 f rfl
    rw [ho, h.1] at this
    refine h.2 enc w base spare held n _ y this (fun q hq => hx q ?_)
    simp only [List.map_cons, List.map_nil, DataW.weightsEach, List.append_nil]
    exact hq
theorem opensF_cons {f : Field} {fl : List Field} {off : Nat} {α β : Type} {d : Kd α} {d' : Kd β} {Q : α → Prop} {Q' : β → Prop} (ho : f.offset = off) (h : Opens P f.type d Q) (h' : OpensF P fl (off + d.sz) d' Q') :
    OpensF P (f :: fl) off (Kd.pair d d') (fun x => Q x.1 ∧ Q' x.2) := by
  intro H enc w base spare held n cs ys hl hf hx
  match ys, hl with
  | y :: ys, hl =>
    have h0 := hf 0 f rfl
    rw [ho, h.1] at h0
    simp only [List.map_cons, DataW.weightsEach, List.mem_append] at hx
    obtain ⟨a, hK, hQ⟩ := h.2 enc w base spare held n _ y h0 (fun q hq => hx q (.inl hq))
    obtain ⟨b, hK', hQ'⟩ := h' enc w base spare held n cs ys (by simpa using hl) (fun i f hi => hf (i + 1) f (by simpa using hi)) (fun q hq => hx q (.inr hq))
    refine ⟨(a, b), ⟨_, _, ?_, hK, hK'⟩, hQ, hQ'⟩
    show (cs.drop off).take (d.sz + d'.sz) = _
    rw [List.take_add, List.drop_drop]
theorem opens_struct {fs : Array Field} {fl : List Field} {α β : Type} {d : Kd α} {Q : α → Prop} (f : β → α) (g : α → β) (hg : ∀ a, f (g a) = a) (ht : P.underlying t = some (.struct fs)) (hfl : fs.toList = fl) (hc : P.cellsOf t = d.sz) (h : OpensF P fl 0 d Q) :
    Opens P t (Kd.iso d f) (fun b => Q (f b)) := by
  refine ⟨hc, fun enc w base spare held fuel cs x hx hw => ?_⟩
  obtain ⟨xs, n, _, rfl, hl, hxl, hf⟩ := DataW.trod_struct ht hx
  simp only [DataW.weights, ht] at hw
  have hfl' : fl.length = fs.size := by rw [← hfl, Array.length_toList]
  obtain ⟨a, hK, hQ⟩ := h enc w base spare held n cs xs (by omega) (fun i fd hi => hf i fd (by rw [← hfl] at hi; simpa using hi)) (by rw [← hfl]; exact hw)
  refine ⟨g a, ?_, by show Q (f (g a)); rw [hg]; exact hQ⟩
  show d.K w (f (g a)) cs
  rw [hg]
  have : (cs.drop 0).take d.sz = cs := by rw [List.drop_zero, ← hc, ← hl, List.take_length]
  rw [this] at hK
  exact hK
theorem Opens.imp {α : Type} {d : Kd α} {Q Q' : α → Prop} (h : Opens P t d Q) (hq : ∀ a, Q a → Q' a) : Opens P t d Q' :=
  ⟨h.1, fun enc w base spare held fuel cs x hx hw => let ⟨a, hK, hQ⟩ := h.2 enc w base spare held fuel cs x hx hw; ⟨a, hK, hq a hQ⟩⟩
/-- At a law's own argument. -/
theorem Opens.arg {α : Type} {d : Kd α} {Q : α → Prop} (h : Opens P t d Q) {H : Type} {enc : TypeId × Value → H} {W : World} {spare : Nat → Bool} {held : Bool} {v : Value} {x : DataW H} {p : List MemPlace} {ts : List TypeId} {ds : List (DataW H)} {j : Nat}
    (hsz : (DataW.weightsEach P ts ds).all (· ≤ reachBytes) = true) (hj : ts[j]? = some t) (hx : ds[j]? = some x) (ht : DataW.Trod enc P W 0 spare held t v x p) : ∃ a : α, d.K W a v.cells.toList ∧ Q a := by
  obtain ⟨fuel, hf⟩ := ht
  refine h.2 enc W 0 spare held fuel _ _ hf (fun n hn => ?_)
  have := List.all_eq_true.1 hsz n (DataW.weights_mem_each hj hx n hn)
  simpa using this
end
end Go.Proofs.Ytdlkofmcioalfaa.Op
