/- What reads as data of a type is of the type's kind: whole numbers, bools, strings, slices, structs, one inside the other. -/
import Derived.ChangeArms
import Derived.Deep.Slices
import Derived.DataReads
import Derived.SizedLaws
import Derived.WideShapes
import Derived.Test.YtdlkofmcioalfaaQWGuard
import Derived.Test.YtdlkofmcioalfaaRows
import Derived.Test.YtdlkofmcioalfaaProg
import Derived.Below
import Derived.Deep.Draws
import Derived.Deep.AppendLies
import Derived.Maps.AppendAt
import Derived.OwnWalk
import Derived.Laws.BytesArg
import Derived.Laws.MakeOwn
import Derived.Laws.OwnMore
import Derived.Deep.OwnRows
import Derived.Tactics
import Derived.Lib.ConvBytes
import Derived.Laws.Slices
import Derived.WalkKit
import Derived.KernelRfl
import Derived.RowKit3
import Derived.Deep.LoopGhost
import Derived.Deep.QuietTactic
import Derived.BigQuiet
import Derived.WideLaws
import Derived.Deep.DeepCutAuto
import Derived.Deep.CutBlock
import Derived.Deep.RegionHeld3
import Derived.Laws.Rows
import Derived.Lib.AppendStr
import Derived.ArgAppend
import Derived.Laws.IdiomCopy
import Derived.OrdersHeld
import Derived.Laws.BitsLemmas
import Derived.RowKit
import Derived.Laws.Externs
import Derived.Lib.SlBytesConst
import Derived.Lib.LazyBuf
import Derived.LoopN
import Derived.StillTailTactics
import Derived.RegionTactic
import Derived.BigRegion
import Derived.Lib.BufferWrite
import Derived.Test.YtdlkofmcioalfaaQWNEv
namespace Go.Proofs.Ytdlkofmcioalfaa.Op
open Go Go.RowKit Go.ChangeShapes Go.WideShapes Go.Proofs.YtdlkofmcioalfaaW.PrintWords Go.Proofs.YtdlkofmcioalfaaW.PrintLast Go.Proofs.YtdlkofmcioalfaaW.PrintMore
set_option linter.unusedVariables false
set_option linter.unusedSimpArgs false

/-- What reads as data of type t, no heavier than the form lets, is of this kind; Q tells more of it. -/
def Opens {α : Type} (P : Program) (t : TypeId) (d : Kd α) (Q : α → Prop) : Prop :=
  P.cellsOf t = d.sz ∧ ∀ {H : Type} (enc : TypeId × Value → H) (w : World) (base : Nat) (spare : Nat → Bool) (held : Bool) (fuel : Nat) (cs : List Value) (x : DataW H × List MemPlace),
    DataW.trod enc P w base spare held fuel t cs = some x → (∀ n ∈ x.1.weights P t, n ≤ reachBytes) → ∃ a : α, d.K w a cs ∧ Q a

section
variable {P : Program} {t : TypeId}
theorem opens_int {k : IntKind} (ht : P.underlying t = some (.int k)) (hc : P.cellsOf t = 1) : Opens P t (Kd.int k) (fun a => (Lit.int k a).wf = true) := by
  refine ⟨hc, fun enc w base spare held fuel cs x h _ => ?_⟩
  obtain ⟨n, rfl, _, hw⟩ := DataW.trod_int ht h
  exact ⟨n, rfl, hw⟩
theorem opens_bool (ht : P.underlying t = some .bool) (hc : P.cellsOf t = 1) : Opens P t Kd.bool (fun _ => True) := by
  refine ⟨hc, fun enc w base spare held fuel cs x h _ => ?_⟩
  obtain ⟨b, rfl, _⟩ := DataW.trod_bool ht h
  exact ⟨b, rfl, trivial⟩
theorem opens_string (ht : P.underlying t = some .string) (hc : P.cellsOf t = 1) : Opens P t Kd.string (fun s => s.size ≤ 140737488351232) := by
  refine ⟨hc, fun enc w base spare held fuel cs x h hx => ?_⟩
  obtain ⟨s, rfl, rfl, _⟩ := DataW.trod_string ht h
  refine ⟨s, rfl, ?_⟩
  have := hx s.data.toList.length (by simp [DataW.weights])
  rw [Array.length_toList] at this
  exact this
theorem mem_weightsAll {H : Type} {P : Program} {e : TypeId} : ∀ {ds : List (DataW H)} {d : DataW H}, d ∈ ds → ∀ n ∈ d.weights P e, n ∈ DataW.weightsAll P e ds
  | d0 :: ds, d, h, n, hn => by
    simp only [DataW.weightsAll, List.mem_append]
    rcases List.mem_cons.1 h with rfl | h
    · exact .inl hn
    · exact .inr (mem_weightsAll h n hn)
theorem opens_slice {e : TypeId} {α : Type} {d : Kd α} {Q : α → Prop} {B : Nat} (ht : P.underlying t = some (.slice e)) (hc : P.cellsOf t = 1) (hB : P.bytesOf e = B) (hd : Opens P e d Q) :
    Opens P t (Kd.slice e d) (fun xs => xs.length * B ≤ 140737488351232 ∧ ∀ y ∈ xs, Q y) := by
  refine ⟨hc, fun enc w base spare held fuel cs x h hx => ?_⟩
  rcases Go.Deep.open_slice ht h with ⟨rfl, rfl⟩ | ⟨a, len, cap, m, n, D, Pl, rfl, hb, hl, hm, hmm, rfl, hi⟩
  · exact ⟨[], ⟨none, 0, rfl, Nat.le_refl _, ⟨rfl, by simp, fun h => by simp at h⟩⟩, by simp, by simp⟩
  · have hml : len ≤ m := by rw [hmm]; split <;> omega
    simp only [DataW.weights, ht] at hx
    have key : ∀ i, i < len → ∃ (y : α) (cs' : List Value), w.cells? base (a.add (i * P.cellsOf e)) (P.cellsOf e) = some cs' ∧ d.K w y cs' ∧ Q y := by
      intro i hil
      obtain ⟨cs', h1, h2⟩ := hi i (by omega)
      obtain ⟨y, hK, hQ⟩ := hd.2 enc w base spare held n cs' _ h2 (fun q hq => hx q (List.mem_cons_of_mem _ (List.mem_append_left _ (mem_weightsAll (List.mem_map.2 ⟨i, List.mem_range.2 hil, rfl⟩) q hq))))
      exact ⟨y, cs', h1, hK, hQ⟩
    have hne : ∀ i, i < len → Nonempty α := fun i hil => let ⟨y, _⟩ := key i hil; ⟨y⟩
    rcases Nat.eq_zero_or_pos len with h0 | h0
    · subst h0
      exact ⟨[], ⟨some a, cap, rfl, Nat.zero_le _, ⟨rfl, by simp, fun h => by simp at h⟩⟩, by simp, by simp⟩
    · have : Nonempty α := hne 0 h0
      let f : Nat → α := fun i => if hil : i < len then (key i hil).choose else Classical.choice this
      have hf : ∀ i, i < len → ∃ cs', w.cells? base (a.add (i * P.cellsOf e)) (P.cellsOf e) = some cs' ∧ d.K w (f i) cs' ∧ Q (f i) := by
        intro i hil
        have := (key i hil).choose_spec
        simp only [f, dif_pos hil]
        exact this
      have hlen : ((List.range len).map f).length = len := by simp
      refine ⟨(List.range len).map f, ⟨some a, cap, by rw [hlen], by rw [hlen]; exact hl, ⟨rfl, by rw [hlen]; simp only [maxLen] at hm; omega, fun _ => ⟨a, rfl, fun j p hj => ?_⟩⟩⟩, ?_, ?_⟩
      · have hjl : j < len := by
          have := (List.getElem?_eq_some_iff.1 hj).1
          rw [hlen] at this
          exact this
        have hp : f j = p := by
          rw [List.getElem?_map, List.getElem?_range hjl] at hj
          exact Option.some.inj hj
        obtain ⟨cs', h1, hK, _⟩ := hf j hjl
        obtain ⟨_, h2, h3⟩ := World.cells?_some h1
        refine ⟨cs', d.K_len hK, hp ▸ hK, fun i u hu => ?_⟩
        have hil : i < P.cellsOf e := by
          have := (List.getElem?_eq_some_iff.1 hu).1
          omega
        have := h3 i hil
        rw [Go.Deep.add_add, hd.1, hu] at this
        exact this
      · have := hx _ (List.mem_cons_self)
        rw [hB] at this
        simp only [List.length_map, List.length_range] at this
        rw [hlen]
        have h4 : len * B ≤ (len + (m - len)) * B := Nat.mul_le_mul_right _ (by omega)
        simp only [reachBytes] at this
        omega
      · intro y hy
        obtain ⟨i, hir, rfl⟩ := List.mem_map.1 hy
        obtain ⟨_, _, _, hQ⟩ := hf i (List.mem_range.1 hir)
        exact hQ
/-- A struct's fields, from a place on. -/
def OpensF {α : Type} (P : Program) (fl : List Field) (off : Nat) (d : Kd α) (Q : α → Prop) : Prop :=
  ∀ {H : Type} (enc : TypeId × Value → H) (w : World) (base : Nat) (spare : Nat → Bool) (held : Bool) (n : Nat) (cs : List Value) (ys : List (DataW H × List MemPlace)),
    ys.length = fl.length → (∀ (i : Nat) (f : Field), fl[i]? = some f → DataW.trod enc P w base spare held n f.type ((cs.drop f.offset).take (P.cellsOf f.type)) = ys[i]?) →
    (∀ q ∈ DataW.weightsEach P (fl.map (·.type)) (ys.map (·.1)), q ≤ reachBytes) → ∃ a : α, d.K w a ((cs.drop off).take d.sz) ∧ Q a
theorem opensF_one {f : Field} {off : Nat} {α : Type} {d : Kd α} {Q : α → Prop} (ho : f.offset = off) (h : Opens P f.type d Q) : OpensF P [f] off d Q := by
  intro H enc w base spare held n cs ys hl hf hx
  match ys, hl with
  | [y], _ =>
    have := hf 0 f rfl
    rw [ho, h.1] at this
    refine h.2 enc w base spare held n _ y this (fun q hq => hx q ?_)
    simp only [List.map_cons, List.map_nil, DataW.weightsEach, List.append_nil]
    exact hq
theorem opensF_cons {f : Field} {fl : List Field} {off : Nat} {α β : Type} {d : Kd α} {d' : Kd β} {Q : α → Prop} {Q' : β → Prop} (ho : f.offset = off) (h : Opens P f.type d Q) (h' : OpensF P fl (off + d.sz) d' Q') :
    OpensF P (f :: fl) off (Kd.pair d d') (fun x => Q x.1 ∧ Q' x.2) := by
  intro H enc w base spare held n cs ys hl hf hx
  match ys, hl with
  | y :: ys, hl =>
    have h0 := hf 0 f rfl
    rw [ho, h.1] at h0
    simp only [List.map_cons, DataW.weightsEach, List.mem_append] at hx
    obtain ⟨a, hK, hQ⟩ := h.2 enc w base spare held n _ y h0 (fun q hq => hx q (.inl hq))
    obtain ⟨b, hK', hQ'⟩ := h' enc w base spare held n cs ys (by simpa using hl) (fun i f hi => hf (i + 1) f (by simpa using hi)) (fun q hq => hx q (.inr hq))
    refine ⟨(a, b), ⟨_, _, ?_, hK, hK'⟩, hQ, hQ'⟩
    show (cs.drop off).take (d.sz + d'.sz) = _
    rw [List.take_add, List.drop_drop]
theorem opens_struct {fs : Array Field} {fl : List Field} {α β : Type} {d : Kd α} {Q : α → Prop} (f : β → α) (g : α → β) (hg : ∀ a, f (g a) = a) (ht : P.underlying t = some (.struct fs)) (hfl : fs.toList = fl) (hc : P.cellsOf t = d.sz) (h : OpensF P fl 0 d Q) :
    Opens P t (Kd.iso d f) (fun b => Q (f b)) := by
  refine ⟨hc, fun enc w base spare held fuel cs x hx hw => ?_⟩
  obtain ⟨xs, n, _, rfl, hl, hxl, hf⟩ := DataW.trod_struct ht hx
  simp only [DataW.weights, ht] at hw
  have hfl' : fl.length = fs.size := by rw [← hfl, Array.length_toList]
  obtain ⟨a, hK, hQ⟩ := h enc w base spare held n cs xs (by omega) (fun i fd hi => hf i fd (by rw [← hfl] at hi; simpa using hi)) (by rw [← hfl]; exact hw)
  refine ⟨g a, ?_, by show Q (f (g a)); rw [hg]; exact hQ⟩
  show d.K w (f (g a)) cs
  rw [hg]
  have : (cs.drop 0).take d.sz = cs := by rw [List.drop_zero, ← hc, ← hl, List.take_length]
  rw [this] at hK
  exact hK
theorem Opens.imp {α : Type} {d : Kd α} {Q Q' : α → Prop} (h : Opens P t d Q) (hq : ∀ a, Q a → Q' a) : Opens P t d Q' :=
  ⟨h.1, fun enc w base spare held fuel cs x hx hw => let ⟨a, hK, hQ⟩ := h.2 enc w base spare held fuel cs x hx hw; ⟨a, hK, hq a hQ⟩⟩
/-- At a law's own argument. -/
theorem Opens.arg {α : Type} {d : Kd α} {Q : α → Prop} (h : Opens P t d Q) {H : Type} {enc : TypeId × Value → H} {W : World} {spare : Nat → Bool} {held : Bool} {v : Value} {x : DataW H} {p : List MemPlace} {ts : List TypeId} {ds : List (DataW H)} {j : Nat}
    (hsz : (DataW.weightsEach P ts ds).all (· ≤ reachBytes) = true) (hj : ts[j]? = some t) (hx : ds[j]? = some x) (ht : DataW.Trod enc P W 0 spare held t v x p) : ∃ a : α, d.K W a v.cells.toList ∧ Q a := by
  obtain ⟨fuel, hf⟩ := ht
  refine h.2 enc W 0 spare held fuel _ _ hf (fun n hn => ?_)
  have := List.all_eq_true.1 hsz n (DataW.weights_mem_each hj hx n hn)
  simpa using this
end
end Go.Proofs.Ytdlkofmcioalfaa.Op

/- What an argument's reading weighs (the second form's bulk) is at least what it tells. -/
namespace Go.Proofs.Ytdlkofmcioalfaa.Op
open Go Go.RowKit Go.ChangeShapes Go.WideShapes Go.Proofs.YtdlkofmcioalfaaW.PrintWords Go.Proofs.YtdlkofmcioalfaaW.PrintLast Go.Proofs.YtdlkofmcioalfaaW.PrintMore
set_option linter.unusedVariables false
set_option linter.unusedSimpArgs false
def Bulk {α : Type} (P : Program) (t : TypeId) (d : Kd α) (m : α → Nat) : Prop :=
  P.cellsOf t = d.sz ∧ ∀ {H : Type} (enc : TypeId × Value → H) (w : World) (base : Nat) (spare : Nat → Bool) (held : Bool) (fuel : Nat) (cs : List Value) (x : DataW H × List MemPlace) (a : α),
    DataW.trod enc P w base spare held fuel t cs = some x → d.K w a cs → m a ≤ Rows.uptoBulk x.1
section
variable {P : Program} {t : TypeId}
theorem one_bulk {H : Type} (d : DataW H) : 1 ≤ Rows.uptoBulk d := by
  cases d with
  | lit l => cases l <;> simp [Rows.uptoBulk]
  | nil => simp [Rows.uptoBulk]
  | ptr d => simp [Rows.uptoBulk]
  | slice elems spare => simp [Rows.uptoBulk]
  | agg parts => simp [Rows.uptoBulk]
  | iface t d => simp [Rows.uptoBulk]
  | map entries => simp [Rows.uptoBulk]
  | held h => simp [Rows.uptoBulk]
theorem bulk_one {α : Type} {d : Kd α} (hc : P.cellsOf t = d.sz) : Bulk P t d (fun _ => 1) := ⟨hc, fun enc w base spare held fuel cs x a _ _ => one_bulk _⟩
theorem bulk_int {k : IntKind} (hc : P.cellsOf t = 1) : Bulk P t (Kd.int k) (fun _ => 1) := bulk_one hc
theorem bulk_bool (hc : P.cellsOf t = 1) : Bulk P t Kd.bool (fun _ => 1) := bulk_one hc
theorem bulk_string (ht : P.underlying t = some .string) (hc : P.cellsOf t = 1) : Bulk P t Kd.string (fun s => s.size + 1) := by
  refine ⟨hc, fun enc w base spare held fuel cs x a h hK => ?_⟩
  obtain ⟨s, rfl, rfl, _⟩ := DataW.trod_string ht h
  have e : [Value.string s] = [Value.string a] := hK
  injection e with e _
  injection e with e
  subst e
  simp only [Rows.uptoBulk, Array.length_toList]
  exact Nat.le_refl _
theorem sum_bulk {H α : Type} {m : α → Nat} : ∀ (xs : List α) (D : Nat → DataW H), (∀ i x, xs[i]? = some x → m x ≤ Rows.uptoBulk (D i)) → (xs.map m).sum ≤ Rows.uptoBulkAll ((List.range xs.length).map D)
  | [], D, _ => by simp [Rows.uptoBulkAll]
  | x :: xs, D, h => by
    have h1 := h 0 x rfl
    have h2 := sum_bulk xs (fun i => D (i + 1)) (fun i y hy => h (i + 1) y hy)
    rw [List.length_cons, List.range_succ_eq_map, List.map_cons, List.map_cons, List.sum_cons, List.map_map, Rows.uptoBulkAll]
    exact Nat.add_le_add h1 h2
theorem bulk_slice {e : TypeId} {α : Type} {d : Kd α} {m : α → Nat} (ht : P.underlying t = some (.slice e)) (hc : P.cellsOf t = 1) (hd : Bulk P e d m) : Bulk P t (Kd.slice e d) (fun xs => (xs.map m).sum + 1) := by
  refine ⟨hc, fun enc w base spare held fuel cs x xs h hK => ?_⟩
  obtain ⟨A, c, e1, hl, hC⟩ := hK
  rcases Go.Deep.open_slice ht h with ⟨rfl, rfl⟩ | ⟨a, len, cap, q, n, D, Pl, rfl, hb, hl2, hm, hmm, rfl, hi⟩
  · injection e1 with e1 _
    injection e1 with _ e1 _
    have : xs = [] := List.eq_nil_of_length_eq_zero e1.symm
    subst this
    simp [Rows.uptoBulk]
  · injection e1 with e1 _
    injection e1 with e0 e1 _
    subst e0
    subst e1
    have hq : xs.length ≤ q := by rw [hmm]; split <;> omega
    simp only [Rows.uptoBulk]
    have := sum_bulk (m := m) xs D (fun i x hx => by
      have hil : i < xs.length := (List.getElem?_eq_some_iff.1 hx).1
      obtain ⟨ad, e2, hcell⟩ := hC.2.2 (by omega)
      cases e2
      obtain ⟨c1, k1, k2, k3⟩ := hcell i x hx
      obtain ⟨cs', h1, h2⟩ := hi i (by omega)
      obtain ⟨_, h3, h4⟩ := World.cells?_some h1
      have ec : cs' = c1 := by
        refine List.ext_getElem? fun j => ?_
        by_cases hj : j < P.cellsOf e
        · have h5 := h4 j hj
          rw [Go.Deep.add_add, hd.1] at h5
          have hj2 : j < c1.length := by rw [k1, ← hd.1]; exact hj
          rw [← h5]
          rw [k3 j _ (List.getElem?_eq_getElem hj2), List.getElem?_eq_getElem hj2]
        · rw [List.getElem?_eq_none (by omega), List.getElem?_eq_none (by rw [k1, ← hd.1]; omega)]
      subst ec
      exact hd.2 enc w base spare held n cs' _ x h2 k2)
    omega
def BulkF {α : Type} (P : Program) (fl : List Field) (off : Nat) (d : Kd α) (m : α → Nat) : Prop :=
  ∀ {H : Type} (enc : TypeId × Value → H) (w : World) (base : Nat) (spare : Nat → Bool) (held : Bool) (n : Nat) (cs : List Value) (ys : List (DataW H × List MemPlace)) (a : α),
    ys.length = fl.length → (∀ (i : Nat) (f : Field), fl[i]? = some f → DataW.trod enc P w base spare held n f.type ((cs.drop f.offset).take (P.cellsOf f.type)) = ys[i]?) →
    d.K w a ((cs.drop off).take d.sz) → m a ≤ Rows.uptoBulkAll (ys.map (·.1))
theorem bulkF_one {f : Field} {off : Nat} {α : Type} {d : Kd α} {m : α → Nat} (ho : f.offset = off) (h : Bulk P f.type d m) : BulkF P [f] off d m := by
  intro H enc w base spare held n cs ys a hl hf hK
  match ys, hl with
  | [y], _ =>
    have := hf 0 f rfl
    rw [ho, h.1] at this
    have h1 := h.2 enc w base spare held n _ y a this hK
    simp only [List.map_cons, List.map_nil, Rows.uptoBulkAll]
    omega
theorem bulkF_cons {f : Field} {fl : List Field} {off : Nat} {α β : Type} {d : Kd α} {d' : Kd β} {m : α → Nat} {m' : β → Nat} (ho : f.offset = off) (h : Bulk P f.type d m) (h' : BulkF P fl (off + d.sz) d' m') :
    BulkF P (f :: fl) off (Kd.pair d d') (fun x => m x.1 + m' x.2) := by
  intro H enc w base spare held n cs ys a hl hf hK
  match ys, hl with
  | y :: ys, hl =>
    have h0 := hf 0 f rfl
    rw [ho, h.1] at h0
    obtain ⟨c0, c1, e, k0, k1⟩ := hK
    have e2 : (cs.drop off).take (Kd.pair d d').sz = (cs.drop off).take d.sz ++ (cs.drop (off + d.sz)).take d'.sz := by
      show (cs.drop off).take (d.sz + d'.sz) = _
      rw [List.take_add, List.drop_drop]
    have hlen := congrArg List.length e
    rw [List.length_append, d.K_len k0, d'.K_len k1, List.length_take, List.length_drop] at hlen
    have hs : (Kd.pair d d').sz = d.sz + d'.sz := rfl
    rw [e2] at e
    obtain ⟨ea, eb⟩ := List.append_inj e (by rw [d.K_len k0, List.length_take, List.length_drop]; omega)
    subst ea
    subst eb
    have h1 := h.2 enc w base spare held n _ y a.1 h0 k0
    have h2 := h' enc w base spare held n cs ys a.2 (by simpa using hl) (fun i f hi => hf (i + 1) f (by simpa using hi)) k1
    simp only [List.map_cons, Rows.uptoBulkAll]
    omega
theorem bulk_struct {fs : Array Field} {fl : List Field} {α β : Type} {d : Kd α} {m : α → Nat} (f : β → α) (ht : P.underlying t = some (.struct fs)) (hfl : fs.toList = fl) (hc : P.cellsOf t = d.sz) (h : BulkF P fl 0 d m) : Bulk P t (Kd.iso d f) (fun b => m (f b) + 1) := by
  refine ⟨hc, fun enc w base spare held fuel cs x a hx hK => ?_⟩
  obtain ⟨xs, n, _, rfl, hl, hxl, hf⟩ := DataW.trod_struct ht hx
  have hfl' : fl.length = fs.size := by rw [← hfl, Array.length_toList]
  have e : (cs.drop 0).take d.sz = cs := by rw [List.drop_zero, ← hc, ← hl, List.take_length]
  have h1 := h enc w base spare held n cs xs (f a) (by omega) (fun i fd hi => hf i fd (by rw [← hfl] at hi; simpa using hi)) (by rw [e]; exact hK)
  simp only [Rows.uptoBulk]
  omega
/-- At a law's own argument. -/
theorem Bulk.arg {α : Type} {d : Kd α} {m : α → Nat} (h : Bulk P t d m) {H : Type} {enc : TypeId × Value → H} {W : World} {spare : Nat → Bool} {held : Bool} {v : Value} {x : DataW H} {p : List MemPlace} {a : α}
    (ht : DataW.Trod enc P W 0 spare held t v x p) (hK : d.K W a v.cells.toList) : m a ≤ Rows.uptoBulk x := by
  obtain ⟨fuel, hf⟩ := ht
  exact h.2 enc W 0 spare held fuel _ _ a hf hK
end
end Go.Proofs.Ytdlkofmcioalfaa.Op

-- written by a program of this session (wip/tools/pr.py, over the kit's printer): not by hand
namespace Go.Proofs.Ytdlkofmcioalfaa.PCk
open Go.RowKit Go.Proofs.YtdlkofmcioalfaaW.PrintWords Go.Proofs.YtdlkofmcioalfaaW.PrintLast Go.Proofs.YtdlkofmcioalfaaW.PrintMore
attribute [local go_sem] max2_int min2_int max_two min_two max_three min_three max_four min_four   -- for this text's walks alone
set_option linter.unusedVariables false
set_option linter.unusedSimpArgs false



def errW : Option Int → Value
  | none => .nilIface
  | some c => .iface 0 (.int .i64 c)
theorem errW_none : errW none = .nilIface := rfl
theorem errW_some (c : Int) : errW (some c) = .iface 0 (.int .i64 c) := rfl

section
variable {P : Program} {ops : Array Oper} {rest : List Oper} {o : Oper} {a : Act} {Q : Exit → Act → World → Prop} {Kc : Act → World → Prop}
end

theorem ne_empty {α : Type} [BEq α] (l : List α) : (!l.isEmpty) = (l != []) := by cases l <;> rfl
theorem eq_empty {α : Type} [BEq α] (l : List α) : l.isEmpty = (l == []) := by cases l <;> rfl
/-! #### struct type 48 -/
structure S48 where
  f0 : Bool
  f1 : ByteArray
  f2 : Bool
  f3 : ByteArray
  f4 : Int
  f5 : Int
def z48 : S48 := ⟨false, (⟨#[]⟩ : ByteArray), false, (⟨#[]⟩ : ByteArray), (0 : Int), (0 : Int)⟩
def k48 : Kd S48 := Kd.iso (Kd.pair Kd.bool (Kd.pair Kd.string (Kd.pair Kd.bool (Kd.pair Kd.string (Kd.pair (Kd.int .i64) (Kd.int .i64)))))) (fun x : S48 => (x.f0, x.f1, x.f2, x.f3, x.f4, x.f5))
theorem k48_open {w : World} {x : S48} {cs : List Value} (h : k48.K w x cs) : cs = [.bool x.f0, .string x.f1, .bool x.f2, .string x.f3, .int .i64 x.f4, .int .i64 x.f5] := by
  obtain ⟨_, _, rfl, rfl, ⟨_, _, rfl, rfl, ⟨_, _, rfl, rfl, ⟨_, _, rfl, rfl, ⟨_, _, rfl, rfl, rfl⟩⟩⟩⟩⟩ := h
  exact rfl
theorem k48_mkM (w : World) (base : Nat) (ok : Nat → Prop) (x : S48)  : k48.M w base ok x [.bool x.f0, .string x.f1, .bool x.f2, .string x.f3, .int .i64 x.f4, .int .i64 x.f5] := ⟨[.bool x.f0], [.string x.f1, .bool x.f2, .string x.f3, .int .i64 x.f4, .int .i64 x.f5], rfl, rfl, ⟨[.string x.f1], [.bool x.f2, .string x.f3, .int .i64 x.f4, .int .i64 x.f5], rfl, rfl, ⟨[.bool x.f2], [.string x.f3, .int .i64 x.f4, .int .i64 x.f5], rfl, rfl, ⟨[.string x.f3], [.int .i64 x.f4, .int .i64 x.f5], rfl, rfl, ⟨[.int .i64 x.f4], [.int .i64 x.f5], rfl, rfl, rfl⟩⟩⟩⟩⟩
def rd_T48 (xs : List S48) (i : Int) : S48 := xs.getD i.toNat z48
theorem at_T48 {w : World} {A : Option Addr} {n : Nat} {xs : List S48} (h : Kd.C k48 w A n xs) (i : Int) (h0 : 0 ≤ i) (h1 : i < n) : ∃ ad , A = some ad ∧ w.cell? (ad.add (i.toNat * 6)) = some (.bool (rd_T48 xs i).f0) ∧ w.cell? ⟨(ad.add (i.toNat * 6)).block, (ad.add (i.toNat * 6)).off + 1, none⟩ = some (.string (rd_T48 xs i).f1) ∧ w.cell? ⟨(ad.add (i.toNat * 6)).block, (ad.add (i.toNat * 6)).off + 2, none⟩ = some (.bool (rd_T48 xs i).f2) ∧ w.cell? ⟨(ad.add (i.toNat * 6)).block, (ad.add (i.toNat * 6)).off + 3, none⟩ = some (.string (rd_T48 xs i).f3) ∧ w.cell? ⟨(ad.add (i.toNat * 6)).block, (ad.add (i.toNat * 6)).off + 4, none⟩ = some (.int .i64 (rd_T48 xs i).f4) ∧ w.cell? ⟨(ad.add (i.toNat * 6)).block, (ad.add (i.toNat * 6)).off + 5, none⟩ = some (.int .i64 (rd_T48 xs i).f5) := by
  obtain ⟨ad, c, e, _, hK, hc0⟩ := Kd.C_get h z48 i h0 h1
  have hc : ∀ j u, c[j]? = some u → w.cell? (ad.add (i.toNat * 6 + j)) = some u := hc0
  obtain rfl := k48_open hK
  exact ⟨ad, e, hc 0 _ rfl, by rw [← add_field _ _ 1 (by omega)]; exact hc 1 _ rfl, by rw [← add_field _ _ 2 (by omega)]; exact hc 2 _ rfl, by rw [← add_field _ _ 3 (by omega)]; exact hc 3 _ rfl, by rw [← add_field _ _ 4 (by omega)]; exact hc 4 _ rfl, by rw [← add_field _ _ 5 (by omega)]; exact hc 5 _ rfl⟩

/-! #### struct type 61 -/
structure S61 where
  f0 : Int
  f1 : Int
  f2 : Int
  f3 : Int
  f4 : (List S48)
def z61 : S61 := ⟨(0 : Int), (0 : Int), (0 : Int), (0 : Int), ([] : List S48)⟩
def k61 : Kd S61 := Kd.iso (Kd.pair (Kd.int .i64) (Kd.pair (Kd.int .i64) (Kd.pair (Kd.int .i64) (Kd.pair (Kd.int .i64) (Kd.slice 48 k48))))) (fun x : S61 => (x.f0, x.f1, x.f2, x.f3, x.f4))
theorem k61_open {w : World} {x : S61} {cs : List Value} (h : k61.K w x cs) : ∃ A4 c4, cs = [.int .i64 x.f0, .int .i64 x.f1, .int .i64 x.f2, .int .i64 x.f3, .slice A4 x.f4.length c4] ∧ x.f4.length ≤ c4 ∧ k48.C w A4 x.f4.length x.f4 := by
  obtain ⟨_, _, rfl, rfl, ⟨_, _, rfl, rfl, ⟨_, _, rfl, rfl, ⟨_, _, rfl, rfl, ⟨A4, c4, rfl, l4, g4⟩⟩⟩⟩⟩ := h
  exact ⟨A4, c4, rfl, l4, g4⟩
theorem k61_mkM (w : World) (base : Nat) (ok : Nat → Prop) (x : S61) {v4 : Value} (g4 : k48.R 48 w base ok v4 x.f4) : k61.M w base ok x [.int .i64 x.f0, .int .i64 x.f1, .int .i64 x.f2, .int .i64 x.f3, v4] := ⟨[.int .i64 x.f0], [.int .i64 x.f1, .int .i64 x.f2, .int .i64 x.f3, v4], rfl, rfl, ⟨[.int .i64 x.f1], [.int .i64 x.f2, .int .i64 x.f3, v4], rfl, rfl, ⟨[.int .i64 x.f2], [.int .i64 x.f3, v4], rfl, rfl, ⟨[.int .i64 x.f3], [v4], rfl, rfl, ⟨v4, rfl, g4⟩⟩⟩⟩⟩
def rd_T61 (xs : List S61) (i : Int) : S61 := xs.getD i.toNat z61
theorem at_T61 {w : World} {A : Option Addr} {n : Nat} {xs : List S61} (h : Kd.C k61 w A n xs) (i : Int) (h0 : 0 ≤ i) (h1 : i < n) : ∃ ad A4 c4, A = some ad ∧ w.cell? (ad.add (i.toNat * 5)) = some (.int .i64 (rd_T61 xs i).f0) ∧ w.cell? ⟨(ad.add (i.toNat * 5)).block, (ad.add (i.toNat * 5)).off + 1, none⟩ = some (.int .i64 (rd_T61 xs i).f1) ∧ w.cell? ⟨(ad.add (i.toNat * 5)).block, (ad.add (i.toNat * 5)).off + 2, none⟩ = some (.int .i64 (rd_T61 xs i).f2) ∧ w.cell? ⟨(ad.add (i.toNat * 5)).block, (ad.add (i.toNat * 5)).off + 3, none⟩ = some (.int .i64 (rd_T61 xs i).f3) ∧ w.cell? ⟨(ad.add (i.toNat * 5)).block, (ad.add (i.toNat * 5)).off + 4, none⟩ = some (.slice A4 (rd_T61 xs i).f4.length c4) ∧ (rd_T61 xs i).f4.length ≤ c4 ∧ k48.C w A4 (rd_T61 xs i).f4.length (rd_T61 xs i).f4 := by
  obtain ⟨ad, c, e, _, hK, hc0⟩ := Kd.C_get h z61 i h0 h1
  have hc : ∀ j u, c[j]? = some u → w.cell? (ad.add (i.toNat * 5 + j)) = some u := hc0
  obtain ⟨A4, c4, rfl, l4, g4⟩ := k61_open hK
  exact ⟨ad, A4, c4, e, hc 0 _ rfl, by rw [← add_field _ _ 1 (by omega)]; exact hc 1 _ rfl, by rw [← add_field _ _ 2 (by omega)]; exact hc 2 _ rfl, by rw [← add_field _ _ 3 (by omega)]; exact hc 3 _ rfl, by rw [← add_field _ _ 4 (by omega)]; exact hc 4 _ rfl, l4, g4⟩

/-! #### struct type 35 -/
structure S35 where
  f0 : ByteArray
  f1 : Int
  f2 : Int
  f3 : Int
  f4 : Int
  f5 : (List S61)
def z35 : S35 := ⟨(⟨#[]⟩ : ByteArray), (0 : Int), (0 : Int), (0 : Int), (0 : Int), ([] : List S61)⟩
def k35 : Kd S35 := Kd.iso (Kd.pair Kd.string (Kd.pair (Kd.int .i64) (Kd.pair (Kd.int .i64) (Kd.pair (Kd.int .i64) (Kd.pair (Kd.int .i64) (Kd.slice 61 k61)))))) (fun x : S35 => (x.f0, x.f1, x.f2, x.f3, x.f4, x.f5))
theorem k35_open {w : World} {x : S35} {cs : List Value} (h : k35.K w x cs) : ∃ A5 c5, cs = [.string x.f0, .int .i64 x.f1, .int .i64 x.f2, .int .i64 x.f3, .int .i64 x.f4, .slice A5 x.f5.length c5] ∧ x.f5.length ≤ c5 ∧ k61.C w A5 x.f5.length x.f5 := by
  obtain ⟨_, _, rfl, rfl, ⟨_, _, rfl, rfl, ⟨_, _, rfl, rfl, ⟨_, _, rfl, rfl, ⟨_, _, rfl, rfl, ⟨A5, c5, rfl, l5, g5⟩⟩⟩⟩⟩⟩ := h
  exact ⟨A5, c5, rfl, l5, g5⟩
theorem k35_mk (w : World) (x : S35) {A5 : Option Addr} {c5 : Nat} (l5 : x.f5.length ≤ c5) (g5 : k61.C w A5 x.f5.length x.f5) : k35.K w x [.string x.f0, .int .i64 x.f1, .int .i64 x.f2, .int .i64 x.f3, .int .i64 x.f4, .slice A5 x.f5.length c5] := ⟨[.string x.f0], [.int .i64 x.f1, .int .i64 x.f2, .int .i64 x.f3, .int .i64 x.f4, .slice A5 x.f5.length c5], rfl, rfl, ⟨[.int .i64 x.f1], [.int .i64 x.f2, .int .i64 x.f3, .int .i64 x.f4, .slice A5 x.f5.length c5], rfl, rfl, ⟨[.int .i64 x.f2], [.int .i64 x.f3, .int .i64 x.f4, .slice A5 x.f5.length c5], rfl, rfl, ⟨[.int .i64 x.f3], [.int .i64 x.f4, .slice A5 x.f5.length c5], rfl, rfl, ⟨[.int .i64 x.f4], [.slice A5 x.f5.length c5], rfl, rfl, ⟨A5, c5, rfl, l5, g5⟩⟩⟩⟩⟩⟩
def rd_T35 (xs : List S35) (i : Int) : S35 := xs.getD i.toNat z35
theorem at_T35 {w : World} {A : Option Addr} {n : Nat} {xs : List S35} (h : Kd.C k35 w A n xs) (i : Int) (h0 : 0 ≤ i) (h1 : i < n) : ∃ ad A5 c5, A = some ad ∧ w.cell? (ad.add (i.toNat * 6)) = some (.string (rd_T35 xs i).f0) ∧ w.cell? ⟨(ad.add (i.toNat * 6)).block, (ad.add (i.toNat * 6)).off + 1, none⟩ = some (.int .i64 (rd_T35 xs i).f1) ∧ w.cell? ⟨(ad.add (i.toNat * 6)).block, (ad.add (i.toNat * 6)).off + 2, none⟩ = some (.int .i64 (rd_T35 xs i).f2) ∧ w.cell? ⟨(ad.add (i.toNat * 6)).block, (ad.add (i.toNat * 6)).off + 3, none⟩ = some (.int .i64 (rd_T35 xs i).f3) ∧ w.cell? ⟨(ad.add (i.toNat * 6)).block, (ad.add (i.toNat * 6)).off + 4, none⟩ = some (.int .i64 (rd_T35 xs i).f4) ∧ w.cell? ⟨(ad.add (i.toNat * 6)).block, (ad.add (i.toNat * 6)).off + 5, none⟩ = some (.slice A5 (rd_T35 xs i).f5.length c5) ∧ (rd_T35 xs i).f5.length ≤ c5 ∧ k61.C w A5 (rd_T35 xs i).f5.length (rd_T35 xs i).f5 := by
  obtain ⟨ad, c, e, _, hK, hc0⟩ := Kd.C_get h z35 i h0 h1
  have hc : ∀ j u, c[j]? = some u → w.cell? (ad.add (i.toNat * 6 + j)) = some u := hc0
  obtain ⟨A5, c5, rfl, l5, g5⟩ := k35_open hK
  exact ⟨ad, A5, c5, e, hc 0 _ rfl, by rw [← add_field _ _ 1 (by omega)]; exact hc 1 _ rfl, by rw [← add_field _ _ 2 (by omega)]; exact hc 2 _ rfl, by rw [← add_field _ _ 3 (by omega)]; exact hc 3 _ rfl, by rw [← add_field _ _ 4 (by omega)]; exact hc 4 _ rfl, by rw [← add_field _ _ 5 (by omega)]; exact hc 5 _ rfl, l5, g5⟩

/-! #### struct type 86 -/
end Go.Proofs.Ytdlkofmcioalfaa.PCk

-- written by a program of this session (wip/tools/pr.py, over the kit's printer): not by hand
namespace Go.Proofs.Ytdlkofmcioalfaa.PCk
open Go.RowKit Go.Proofs.YtdlkofmcioalfaaW.PrintWords Go.Proofs.YtdlkofmcioalfaaW.PrintLast Go.Proofs.YtdlkofmcioalfaaW.PrintMore
attribute [local go_sem] max2_int min2_int max_two min_two max_three min_three max_four min_four   -- for this text's walks alone
set_option linter.unusedVariables false
set_option linter.unusedSimpArgs false

-- NOT PRINTED: function 12 (bollardref21_Check_Saw)

/-! ### bollardlaw24_CheckSaw -/
open Classical in
noncomputable def bollardlaw24_CheckSaw.f (_ : Nat) (l0 : List (S35)) : Option Bool := if ((l0.length * 72 ≤ 140737488351232 ∧ ∀ y0 ∈ l0, (y0.f0.size ≤ 140737488351232 ∧ ((Lit.int .i64 y0.f1).wf = true ∧ ((Lit.int .i64 y0.f2).wf = true ∧ ((Lit.int .i64 y0.f3).wf = true ∧ ((Lit.int .i64 y0.f4).wf = true ∧ (y0.f5.length * 56 ≤ 140737488351232 ∧ ∀ y1 ∈ y0.f5, ((Lit.int .i64 y1.f0).wf = true ∧ ((Lit.int .i64 y1.f1).wf = true ∧ ((Lit.int .i64 y1.f2).wf = true ∧ ((Lit.int .i64 y1.f3).wf = true ∧ (y1.f4.length * 64 ≤ 140737488351232 ∧ ∀ y2 ∈ y1.f4, (True ∧ (y2.f1.size ≤ 140737488351232 ∧ (True ∧ (y2.f3.size ≤ 140737488351232 ∧ ((Lit.int .i64 y2.f4).wf = true ∧ (Lit.int .i64 y2.f5).wf = true)))))))))))))))))) ∧ ((((l0.map (fun y0 => (((y0.f0.size + 1) + (1 + (1 + (1 + (1 + ((y0.f5.map (fun y1 => ((1 + (1 + (1 + (1 + ((y1.f4.map (fun y2 => ((1 + ((y2.f1.size + 1) + (1 + ((y2.f3.size + 1) + (1 + 1))))) + 1))).sum + 1))))) + 1))).sum + 1)))))) + 1))).sum + 1) + 0) ≤ 1048576) then some true else none

/-- THE ONE PURE STATEMENT of bollardlaw24_CheckSaw: mine. -/
def bollardlaw24_CheckSaw.Pure : Prop := ∀ (l0 : List (S35)), (l0.length * 72 ≤ 140737488351232 ∧ ∀ y0 ∈ l0, (y0.f0.size ≤ 140737488351232 ∧ ((Lit.int .i64 y0.f1).wf = true ∧ ((Lit.int .i64 y0.f2).wf = true ∧ ((Lit.int .i64 y0.f3).wf = true ∧ ((Lit.int .i64 y0.f4).wf = true ∧ (y0.f5.length * 56 ≤ 140737488351232 ∧ ∀ y1 ∈ y0.f5, ((Lit.int .i64 y1.f0).wf = true ∧ ((Lit.int .i64 y1.f1).wf = true ∧ ((Lit.int .i64 y1.f2).wf = true ∧ ((Lit.int .i64 y1.f3).wf = true ∧ (y1.f4.length * 64 ≤ 140737488351232 ∧ ∀ y2 ∈ y1.f4, (True ∧ (y2.f1.size ≤ 140737488351232 ∧ (True ∧ (y2.f3.size ≤ 140737488351232 ∧ ((Lit.int .i64 y2.f4).wf = true ∧ (Lit.int .i64 y2.f5).wf = true))))))))))))))))) → (((l0.map (fun y0 => (((y0.f0.size + 1) + (1 + (1 + (1 + (1 + ((y0.f5.map (fun y1 => ((1 + (1 + (1 + (1 + ((y1.f4.map (fun y2 => ((1 + ((y2.f1.size + 1) + (1 + ((y2.f3.size + 1) + (1 + 1))))) + 1))).sum + 1))))) + 1))).sum + 1)))))) + 1))).sum + 1) + 0) ≤ 1048576 → ∃ k, bollardlaw24_CheckSaw.f k l0 = some true

/-! ### bollardlaw24_CheckAlone -/
open Classical in
noncomputable def bollardlaw24_CheckAlone.f (_ : Nat) (l0 : List (S35)) : Option Bool := if ((l0.length * 72 ≤ 140737488351232 ∧ ∀ y0 ∈ l0, (y0.f0.size ≤ 140737488351232 ∧ ((Lit.int .i64 y0.f1).wf = true ∧ ((Lit.int .i64 y0.f2).wf = true ∧ ((Lit.int .i64 y0.f3).wf = true ∧ ((Lit.int .i64 y0.f4).wf = true ∧ (y0.f5.length * 56 ≤ 140737488351232 ∧ ∀ y1 ∈ y0.f5, ((Lit.int .i64 y1.f0).wf = true ∧ ((Lit.int .i64 y1.f1).wf = true ∧ ((Lit.int .i64 y1.f2).wf = true ∧ ((Lit.int .i64 y1.f3).wf = true ∧ (y1.f4.length * 64 ≤ 140737488351232 ∧ ∀ y2 ∈ y1.f4, (True ∧ (y2.f1.size ≤ 140737488351232 ∧ (True ∧ (y2.f3.size ≤ 140737488351232 ∧ ((Lit.int .i64 y2.f4).wf = true ∧ (Lit.int .i64 y2.f5).wf = true)))))))))))))))))) then some true else none

/-! ### bollardalike_Round: function 14 -/
/-! ### bollardlaw24_CheckFinds -/
/-! ### bollardlaw24_CheckAfter -/
open Classical in
noncomputable def bollardlaw24_CheckAfter.f (_ : Nat) (l0 : List (S35)) (a1_0 : ByteArray) (a1_1 : Int) (a1_2 : Int) (a1_3 : Int) (a1_4 : Int) (l1_5 : List (S61)) : Option Bool := if ((l0.length * 72 ≤ 140737488351232 ∧ ∀ y0 ∈ l0, (y0.f0.size ≤ 140737488351232 ∧ ((Lit.int .i64 y0.f1).wf = true ∧ ((Lit.int .i64 y0.f2).wf = true ∧ ((Lit.int .i64 y0.f3).wf = true ∧ ((Lit.int .i64 y0.f4).wf = true ∧ (y0.f5.length * 56 ≤ 140737488351232 ∧ ∀ y1 ∈ y0.f5, ((Lit.int .i64 y1.f0).wf = true ∧ ((Lit.int .i64 y1.f1).wf = true ∧ ((Lit.int .i64 y1.f2).wf = true ∧ ((Lit.int .i64 y1.f3).wf = true ∧ (y1.f4.length * 64 ≤ 140737488351232 ∧ ∀ y2 ∈ y1.f4, (True ∧ (y2.f1.size ≤ 140737488351232 ∧ (True ∧ (y2.f3.size ≤ 140737488351232 ∧ ((Lit.int .i64 y2.f4).wf = true ∧ (Lit.int .i64 y2.f5).wf = true)))))))))))))))))) ∧ (a1_0.size ≤ 140737488351232) ∧ ((Lit.int .i64 a1_1).wf = true) ∧ ((Lit.int .i64 a1_2).wf = true) ∧ ((Lit.int .i64 a1_3).wf = true) ∧ ((Lit.int .i64 a1_4).wf = true) ∧ ((l1_5.length * 56 ≤ 140737488351232 ∧ ∀ y0 ∈ l1_5, ((Lit.int .i64 y0.f0).wf = true ∧ ((Lit.int .i64 y0.f1).wf = true ∧ ((Lit.int .i64 y0.f2).wf = true ∧ ((Lit.int .i64 y0.f3).wf = true ∧ (y0.f4.length * 64 ≤ 140737488351232 ∧ ∀ y1 ∈ y0.f4, (True ∧ (y1.f1.size ≤ 140737488351232 ∧ (True ∧ (y1.f3.size ≤ 140737488351232 ∧ ((Lit.int .i64 y1.f4).wf = true ∧ (Lit.int .i64 y1.f5).wf = true)))))))))))) ∧ ((((l0.map (fun y0 => (((y0.f0.size + 1) + (1 + (1 + (1 + (1 + ((y0.f5.map (fun y1 => ((1 + (1 + (1 + (1 + ((y1.f4.map (fun y2 => ((1 + ((y2.f1.size + 1) + (1 + ((y2.f3.size + 1) + (1 + 1))))) + 1))).sum + 1))))) + 1))).sum + 1)))))) + 1))).sum + 1) + ((((a1_0.size + 1) + (1 + (1 + (1 + (1 + ((l1_5.map (fun y3 => ((1 + (1 + (1 + (1 + ((y3.f4.map (fun y4 => ((1 + ((y4.f1.size + 1) + (1 + ((y4.f3.size + 1) + (1 + 1))))) + 1))).sum + 1))))) + 1))).sum + 1)))))) + 1) + 0)) ≤ 1048576) then some true else none

/-- THE ONE PURE STATEMENT of bollardlaw24_CheckAfter: mine. -/
def bollardlaw24_CheckAfter.Pure : Prop := ∀ (l0 : List (S35)) (a1_0 : ByteArray) (a1_1 : Int) (a1_2 : Int) (a1_3 : Int) (a1_4 : Int) (l1_5 : List (S61)), (l0.length * 72 ≤ 140737488351232 ∧ ∀ y0 ∈ l0, (y0.f0.size ≤ 140737488351232 ∧ ((Lit.int .i64 y0.f1).wf = true ∧ ((Lit.int .i64 y0.f2).wf = true ∧ ((Lit.int .i64 y0.f3).wf = true ∧ ((Lit.int .i64 y0.f4).wf = true ∧ (y0.f5.length * 56 ≤ 140737488351232 ∧ ∀ y1 ∈ y0.f5, ((Lit.int .i64 y1.f0).wf = true ∧ ((Lit.int .i64 y1.f1).wf = true ∧ ((Lit.int .i64 y1.f2).wf = true ∧ ((Lit.int .i64 y1.f3).wf = true ∧ (y1.f4.length * 64 ≤ 140737488351232 ∧ ∀ y2 ∈ y1.f4, (True ∧ (y2.f1.size ≤ 140737488351232 ∧ (True ∧ (y2.f3.size ≤ 140737488351232 ∧ ((Lit.int .i64 y2.f4).wf = true ∧ (Lit.int .i64 y2.f5).wf = true))))))))))))))))) → a1_0.size ≤ 140737488351232 → (Lit.int .i64 a1_1).wf = true → (Lit.int .i64 a1_2).wf = true → (Lit.int .i64 a1_3).wf = true → (Lit.int .i64 a1_4).wf = true → (l1_5.length * 56 ≤ 140737488351232 ∧ ∀ y0 ∈ l1_5, ((Lit.int .i64 y0.f0).wf = true ∧ ((Lit.int .i64 y0.f1).wf = true ∧ ((Lit.int .i64 y0.f2).wf = true ∧ ((Lit.int .i64 y0.f3).wf = true ∧ (y0.f4.length * 64 ≤ 140737488351232 ∧ ∀ y1 ∈ y0.f4, (True ∧ (y1.f1.size ≤ 140737488351232 ∧ (True ∧ (y1.f3.size ≤ 140737488351232 ∧ ((Lit.int .i64 y1.f4).wf = true ∧ (Lit.int .i64 y1.f5).wf = true))))))))))) → (((l0.map (fun y0 => (((y0.f0.size + 1) + (1 + (1 + (1 + (1 + ((y0.f5.map (fun y1 => ((1 + (1 + (1 + (1 + ((y1.f4.map (fun y2 => ((1 + ((y2.f1.size + 1) + (1 + ((y2.f3.size + 1) + (1 + 1))))) + 1))).sum + 1))))) + 1))).sum + 1)))))) + 1))).sum + 1) + ((((a1_0.size + 1) + (1 + (1 + (1 + (1 + ((l1_5.map (fun y3 => ((1 + (1 + (1 + (1 + ((y3.f4.map (fun y4 => ((1 + ((y4.f1.size + 1) + (1 + ((y4.f3.size + 1) + (1 + 1))))) + 1))).sum + 1))))) + 1))).sum + 1)))))) + 1) + 0)) ≤ 1048576 → ∃ k, bollardlaw24_CheckAfter.f k l0 a1_0 a1_1 a1_2 a1_3 a1_4 l1_5 = some true

end Go.Proofs.Ytdlkofmcioalfaa.PCk

-- written by a program of this session (wip/tools/pr.py, over the kit's printer): not by hand
namespace Go.Proofs.Ytdlkofmcioalfaa.PCk
open Go.RowKit Go.Proofs.YtdlkofmcioalfaaW.PrintWords Go.Proofs.YtdlkofmcioalfaaW.PrintLast Go.Proofs.YtdlkofmcioalfaaW.PrintMore
attribute [local go_sem] max2_int min2_int max_two min_two max_three min_three max_four min_four   -- for this text's walks alone
set_option linter.unusedVariables false
set_option linter.unusedSimpArgs false

-- NOT PRINTED: function 10 (check_New)

-- NOT PRINTED: function 41 (api_Record_41)

-- NOT PRINTED: function 25 (api_Record_25)

-- NOT PRINTED: function 42 (check_sent_int_42)

-- NOT PRINTED: function 26 (check_sent_int_26)

-- NOT PRINTED: function 50 (bits_Add64)

/-! ### check.sum -/
theorem run_add64c (x y c : Int) (hx : 0 ≤ x) (hy : 0 ≤ y) (hc0 : 0 ≤ c) (hc : c ≤ 1) (w : World) : (callFunc 50 #[.int .u64 x, .int .u64 y, .int .u64 c]).run Try.prog w =
    .ok (.value (.tuple #[.int .u64 ((x + y + c) % 18446744073709551616), .int .u64 ((x + y + c) / 18446744073709551616)])) w := by
  rw [run_callFunc_extern (P := Try.prog) (f := 50) (fn := Try.f50) Try.func50 (by kernel_rfl) (by kernel_rfl) (by kernel_rfl) (e := add64Entry) (by kernel_rfl), run_add64 x y c hx hy hc0 hc]
  rfl
theorem run_add64c_0 (x y : Int) (hx : 0 ≤ x) (hy : 0 ≤ y) (w : World) : (callFunc 50 #[.int .u64 x, .int .u64 y, .int .u64 0]).run Try.prog w =
    .ok (.value (.tuple #[.int .u64 ((x + y) % 18446744073709551616), .int .u64 ((x + y) / 18446744073709551616)])) w := by
  simpa using run_add64c x y 0 hx hy (Int.le_refl 0) (by decide) w
theorem u64_mod (x : Int) : IntKind.u64.wrap x = x % 18446744073709551616 := IntKind.wrap_u64 x
theorem wf_rng {x : Int} (h : (Lit.int .i64 x).wf = true) : -9223372036854775808 ≤ x ∧ x ≤ 9223372036854775807 := by
  simp [Lit.wf, IntKind.min, IntKind.max, IntKind.signed, IntKind.bits] at h
  omega
theorem wf_of {f : Int} (h : -9223372036854775808 ≤ f ∧ f ≤ 9223372036854775807) : (Lit.int .i64 f).wf = true := by
  simp [Lit.wf, IntKind.min, IntKind.max, IntKind.signed, IntKind.bits]
  omega
def check_sum.f (a b : Int) : Option (Int × Int) := if (Lit.int .i64 a).wf = true ∧ (Lit.int .i64 b).wf = true then some ((a + b) / 18446744073709551616, (a + b) % 18446744073709551616) else none
set_option maxHeartbeats 4000000 in
set_option maxRecDepth 100000 in
theorem check_sum.calls (a0 a1 : Int) (r1 r2 : Int) (w : World) (h : check_sum.f a0 a1 = some (r1, r2)) :
    Calls Try.prog 44 #[.int .i64 a0, .int .i64 a1] w fun e w' => e = .returned (.agg #[.int .i64 r1, .int .u64 r2]) ∧ Below w.heap.size w w' := by
  unfold check_sum.f at h
  split at h
  case isFalse => cases h
  rename_i hcond
  obtain ⟨h0, h1⟩ := hcond
  injection h with h
  injection h with hr1 hr2
  have u0 : ∀ x, 0 ≤ IntKind.u64.wrap x := fun x => by rw [u64_mod]; omega
  have k0 : 0 ≤ (IntKind.u64.wrap a0 + IntKind.u64.wrap a1) / 18446744073709551616 := by rw [u64_mod, u64_mod]; omega
  have k1 : (IntKind.u64.wrap a0 + IntKind.u64.wrap a1) / 18446744073709551616 ≤ 1 := by rw [u64_mod, u64_mod]; omega
  have R := wf_rng h0
  have R1 := wf_rng h1
  have e2 : (IntKind.u64.wrap a0 + IntKind.u64.wrap a1) % 18446744073709551616 = r2 := by rw [← hr2, u64_mod, u64_mod]; omega
  have e1 : wrap64 ((IntKind.u64.wrap (a0 / 9223372036854775808) + IntKind.u64.wrap (a1 / 9223372036854775808) + (IntKind.u64.wrap a0 + IntKind.u64.wrap a1) / 18446744073709551616) % 18446744073709551616) = r1 := by
    have q0 : a0 / 9223372036854775808 = if a0 < 0 then -1 else 0 := by split <;> omega
    have q1 : a1 / 9223372036854775808 = if a1 < 0 then -1 else 0 := by split <;> omega
    have m0 : a0 % 18446744073709551616 = if a0 < 0 then a0 + 18446744073709551616 else a0 := by split <;> omega
    have m1 : a1 % 18446744073709551616 = if a1 < 0 then a1 + 18446744073709551616 else a1 := by split <;> omega
    rw [← hr1, u64_mod, u64_mod, u64_mod, u64_mod, q0, q1, m0, m1]
    have n1 : (-1 : Int) % 18446744073709551616 = 18446744073709551615 := by decide
    have n0 : (0 : Int) % 18446744073709551616 = 0 := by decide
    split <;> split <;> simp only [n1, n0]
    · obtain ⟨q, hq⟩ : ∃ q, q = (a0 + 18446744073709551616 + (a1 + 18446744073709551616)) / 18446744073709551616 := ⟨_, rfl⟩
      have : q = (a0 + a1) / 18446744073709551616 + 2 := by omega
      rw [← hq, this]
      obtain ⟨p, hp⟩ : ∃ p, p = (a0 + a1) / 18446744073709551616 := ⟨_, rfl⟩
      rw [← hp]
      have hp1 : p = -1 := by omega
      subst hp1
      unfold wrap64
      decide
    · obtain ⟨q, hq⟩ : ∃ q, q = (a0 + 18446744073709551616 + a1) / 18446744073709551616 := ⟨_, rfl⟩
      have : q = (a0 + a1) / 18446744073709551616 + 1 := by omega
      rw [← hq, this]
      obtain ⟨p, hp⟩ : ∃ p, p = (a0 + a1) / 18446744073709551616 := ⟨_, rfl⟩
      rw [← hp]
      have hp1 : p = -1 ∨ p = 0 := by omega
      rcases hp1 with rfl | rfl <;> (unfold wrap64; decide)
    · obtain ⟨q, hq⟩ : ∃ q, q = (a0 + (a1 + 18446744073709551616)) / 18446744073709551616 := ⟨_, rfl⟩
      have : q = (a0 + a1) / 18446744073709551616 + 1 := by omega
      rw [← hq, this]
      obtain ⟨p, hp⟩ : ∃ p, p = (a0 + a1) / 18446744073709551616 := ⟨_, rfl⟩
      rw [← hp]
      have hp1 : p = -1 ∨ p = 0 := by omega
      rcases hp1 with rfl | rfl <;> (unfold wrap64; decide)
    · obtain ⟨p, hp⟩ : ∃ p, p = (a0 + a1) / 18446744073709551616 := ⟨_, rfl⟩
      rw [← hp]
      have hp1 : p = 0 := by omega
      subst hp1
      unfold wrap64
      decide
  clear hr1 hr2
  have E1 := Aside0.mk e1
  have E2 := Aside0.mk e2
  clear e1 e2 R R1 h0 h1
  go_enter Try.func44, Try.ntmps44
  go_wp2_with (first | simp only [run_add64c_0 _ _ (u0 a0) (u0 a1)] | simp only [run_add64c _ _ _ (u0 _) (u0 _) k0 k1])
  simp only [E2.out]
  simp [bodyPost, results, Try.results44, go_sem]
  exact ⟨E1.out, (Below.refl _ _).alloc (Nat.le_refl _) _⟩

/-! ### cmp_Or_int: function 55 -/
def cmp_Or_int.l0 : Nat → Int → List Int → Int → Int → Option (Int)
  | 0, _, _, _, _ => none
  | k + 1, x3, x6, x7, x8 => if x8 < x7 then (if 0 ≤ x8 then (if x8 < (x6.length : Int) then (if (rd x6 x8) = x3 then (cmp_Or_int.l0 k x3 x6 x7 (wrap64 (x8 + 1))) else (some (rd x6 x8))) else (none)) else (none)) else (some x3)
def cmp_Or_int.f (k : Nat) (l0 : List Int) : Option (Int) := cmp_Or_int.l0 k 0 l0 (l0.length : Int) 0
set_option maxHeartbeats 8000000 in
set_option maxRecDepth 100000 in
theorem cmp_Or_int.calls (k : Nat) (A0 : Option Addr) (c0 : Nat) (l0 : List Int) (r : Int) (w : World) (hr0 : Kd.C (Kd.int .i64) w A0 l0.length l0) (hc0 : l0.length ≤ c0) (h : cmp_Or_int.f k l0 = some r) :
    Calls Try.prog 55 #[.slice A0 l0.length c0] w fun e w' => e = .returned (.int .i64 r) ∧ Drawn0 w w' := by
  have HR0 := Aside0.mk hr0
  have HC0 := Aside0.mk hc0
  clear hr0 hc0
  have H : (cmp_Or_int.l0 k 0 l0 (l0.length : Int) 0) = some r := h
  clear h
  have H' := Aside0.mk H
  clear H
  go_enter Try.func55, Try.ntmps55
  go_wp2
  go_loopg [8] k (fun kq v8 w' => ∃ (x8_1 : Int), v8 = .int .i64 x8_1 ∧ Aside0 (cmp_Or_int.l0 kq 0 l0 (l0.length : Int) x8_1 = some r) ∧ Aside0 (kq ≤ k) ∧ Drawn0 w w')
  case atStart => exact ⟨(0), (by first | rfl | (simp; done) | (simp [*]; done) | exact congrArg Value.bool (ne_empty _) | exact congrArg Value.bool (eq_empty _)), H', ⟨Nat.le_refl _⟩, by repeat (first | exact Drawn0.refl _ | apply Drawn0.step)⟩
  case round =>
    clear H'
    obtain ⟨x8_1, rfl, HA, HK1, ⟨m1, rfl⟩⟩ := hrel
    cases gk with
    | zero => exact absurd HA.out (by first | (intro h_; exact nomatch (show (none : Option _) = some r from h_)) | simp [cmp_Or_int.l0])
    | succ k1 =>
      have H := HA.out
      clear HA
      simp only [cmp_Or_int.l0] at H
      by_cases c2 : x8_1 < (l0.length : Int)
      · rw [if_pos c2] at H
        have c2b0 : decide (x8_1 < (l0.length : Int)) = true := decide_eq_true c2
        clear c2
        by_cases c3 : 0 ≤ x8_1
        · rw [if_pos c3] at H
          have c3b0 : decide (0 ≤ x8_1) = true := decide_eq_true c3
          clear c3
          by_cases c4 : x8_1 < (l0.length : Int)
          · rw [if_pos c4] at H
            have c4b0 : decide (x8_1 < (l0.length : Int)) = true := decide_eq_true c4
            clear c4
            by_cases c5 : (rd l0 x8_1) = 0
            · rw [if_pos c5] at H
              have c5b0 : ((rd l0 x8_1) == 0) = true := beq_iff_eq.mpr c5
              have c5b1 : ((rd l0 x8_1) != 0) = false := bne_eq_false_iff_eq.mpr c5
              clear c5
              have H' := Aside0.mk H
              clear H
              have p110 : 0 ≤ (x8_1 : Int) := of_decide_eq_true (by first | (with_reducible assumption) | assumption)
              have q110 : x8_1 < (l0.length : Int) := of_decide_eq_true (by first | (with_reducible assumption) | assumption)
              obtain ⟨ad110, e110, hx110_0⟩ := Kd.at_int HR0.out x8_1 p110 q110
              cases e110
              replace p110 := eq_true p110
              replace q110 := eq_true q110
              go_wp2
              go_roundg k1
              case measure => have := HK1.out; omega
              case rel => exact ⟨(wrap64 (x8_1 + 1)), (by first | rfl | (simp; done) | (simp [*]; done) | exact congrArg Value.bool (ne_empty _) | exact congrArg Value.bool (eq_empty _)), H', ⟨by have := HK1.out; omega⟩, by repeat (first | exact Drawn0.refl _ | apply Drawn0.step)⟩
            · rw [if_neg c5] at H
              have c5b0 : ((rd l0 x8_1) == 0) = false := beq_eq_false_iff_ne.mpr c5
              have c5b1 : ((rd l0 x8_1) != 0) = true := bne_iff_ne.mpr c5
              obtain rfl := Option.some.inj H
              have p110 : 0 ≤ (x8_1 : Int) := of_decide_eq_true (by first | (with_reducible assumption) | assumption)
              have q110 : x8_1 < (l0.length : Int) := of_decide_eq_true (by first | (with_reducible assumption) | assumption)
              obtain ⟨ad110, e110, hx110_0⟩ := Kd.at_int HR0.out x8_1 p110 q110
              cases e110
              replace p110 := eq_true p110
              replace q110 := eq_true q110
              go_wp2
              go_ret
              exact ⟨by first | rfl | (simp; done) | (simp [*]; done) | exact congrArg Value.bool (ne_empty _) | exact congrArg Value.bool (eq_empty _), by repeat (first | exact Drawn0.refl _ | apply Drawn0.step)⟩
          · rw [if_neg c4] at H
            exact absurd H (by simp)
        · rw [if_neg c3] at H
          exact absurd H (by simp)
      · rw [if_neg c2] at H
        have c2b0 : decide (x8_1 < (l0.length : Int)) = false := decide_eq_false c2
        clear c2
        obtain rfl := Option.some.inj H
        go_wp2
        go_ret
        exact ⟨by first | rfl | (simp; done) | (simp [*]; done) | exact congrArg Value.bool (ne_empty _) | exact congrArg Value.bool (eq_empty _), by repeat (first | exact Drawn0.refl _ | apply Drawn0.step)⟩

/-! ### cmp_isNaN_int: function 61 -/
def cmp_isNaN_int.f (a0 : Int) : Option (Bool) := some (a0 != a0)
set_option maxHeartbeats 8000000 in
set_option maxRecDepth 100000 in
theorem cmp_isNaN_int.calls (a0 : Int) (r : Bool) (w : World) (h : cmp_isNaN_int.f a0 = some r) :
    Calls Try.prog 61 #[.int .i64 a0] w fun e w' => e = .returned (.bool r) ∧ Drawn0 w w' := by
  have H : (some (a0 != a0)) = some r := h
  clear h
  obtain rfl := Option.some.inj H
  go_enter Try.func61, Try.ntmps61
  go_wp2
  go_ret
  exact ⟨by first | rfl | (simp; done) | (simp [*]; done) | exact congrArg Value.bool (ne_empty _) | exact congrArg Value.bool (eq_empty _), by repeat (first | exact Drawn0.refl _ | apply Drawn0.step)⟩

/-! ### cmp_Compare_int: function 56 -/
def cmp_Compare_int.f (a0 : Int) (a1 : Int) : Option (Int) := (cmp_isNaN_int.f a0).bind fun t111 => ((cmp_isNaN_int.f a1).bind fun t112 => (if t111 = true then (if t112 = true then (some 0) else (some (-1))) else (if t112 = true then (some 1) else (if a0 < a1 then (some (-1)) else (if a0 > a1 then (some 1) else (some 0))))))
set_option maxHeartbeats 8000000 in
set_option maxRecDepth 100000 in
theorem cmp_Compare_int.calls (a0 : Int) (a1 : Int) (r : Int) (w : World) (h : cmp_Compare_int.f a0 a1 = some r) :
    Calls Try.prog 56 #[.int .i64 a0, .int .i64 a1] w fun e w' => e = .returned (.int .i64 r) ∧ Drawn0 w w' := by
  have H : ((cmp_isNaN_int.f a0).bind fun t111 => ((cmp_isNaN_int.f a1).bind fun t112 => (if t111 = true then (if t112 = true then (some 0) else (some (-1))) else (if t112 = true then (some 1) else (if a0 < a1 then (some (-1)) else (if a0 > a1 then (some 1) else (some 0))))))) = some r := h
  clear h
  replace H := Option.bind_eq_some_iff.mp H
  obtain ⟨t111, A30, H⟩ := H
  replace H : ((cmp_isNaN_int.f a1).bind fun t112 => (if t111 = true then (if t112 = true then (some 0) else (some (-1))) else (if t112 = true then (some 1) else (if a0 < a1 then (some (-1)) else (if a0 > a1 then (some 1) else (some 0)))))) = some r := H
  have A3 := Aside0.mk A30
  clear A30
  replace H := Option.bind_eq_some_iff.mp H
  obtain ⟨t112, A40, H⟩ := H
  replace H : (if t111 = true then (if t112 = true then (some 0) else (some (-1))) else (if t112 = true then (some 1) else (if a0 < a1 then (some (-1)) else (if a0 > a1 then (some 1) else (some 0))))) = some r := H
  have A4 := Aside0.mk A40
  clear A40
  by_cases c5 : t111 = true
  · subst c5
    have H1 : (if t112 = true then (some 0) else (some (-1))) = some r := by rw [if_pos rfl] at H; exact H
    clear H
    have H := H1
    clear H1
    by_cases c6 : t112 = true
    · subst c6
      have H1 : (some 0) = some r := by rw [if_pos rfl] at H; exact H
      clear H
      have H := H1
      clear H1
      obtain rfl := Option.some.inj H
      go_enter Try.func56, Try.ntmps56
      go_wp2_with (first | ((with_reducible refine gate_callee (f := 61) rfl ?_); refine goesL_ (some 8) rfl rfl Try.func61 (by kernel_rfl) rfl #[.int .i64 a0] rfl (by (try simp only [List.map_toArray, List.map_cons, List.map_nil]); first | done | rfl | (simp only [List.length_drop, List.length_take]; rfl)) ?_; (with_reducible refine (cmp_isNaN_int.calls a0 true _ A3.out).mono ?_); rintro e w' ⟨rfl, ⟨nd, rfl⟩⟩; refine ⟨_, rfl, ?_⟩) | ((with_reducible refine gate_callee (f := 61) rfl ?_); refine goesL_ (some 10) rfl rfl Try.func61 (by kernel_rfl) rfl #[.int .i64 a1] rfl (by (try simp only [List.map_toArray, List.map_cons, List.map_nil]); first | done | rfl | (simp only [List.length_drop, List.length_take]; rfl)) ?_; (with_reducible refine (cmp_isNaN_int.calls a1 true _ A4.out).mono ?_); rintro e w' ⟨rfl, ⟨nd, rfl⟩⟩; refine ⟨_, rfl, ?_⟩))
      go_ret
      exact ⟨by first | rfl | (simp; done) | (simp [*]; done) | exact congrArg Value.bool (ne_empty _) | exact congrArg Value.bool (eq_empty _), by repeat (first | exact Drawn0.refl _ | apply Drawn0.step)⟩
    · replace c6 := Bool.eq_false_iff.mpr c6
      subst c6
      have H1 : (some (-1)) = some r := by rw [if_neg (show ¬ (false = true) by decide)] at H; exact H
      clear H
      have H := H1
      clear H1
      obtain rfl := Option.some.inj H
      go_enter Try.func56, Try.ntmps56
      go_wp2_with (first | ((with_reducible refine gate_callee (f := 61) rfl ?_); refine goesL_ (some 8) rfl rfl Try.func61 (by kernel_rfl) rfl #[.int .i64 a0] rfl (by (try simp only [List.map_toArray, List.map_cons, List.map_nil]); first | done | rfl | (simp only [List.length_drop, List.length_take]; rfl)) ?_; (with_reducible refine (cmp_isNaN_int.calls a0 true _ A3.out).mono ?_); rintro e w' ⟨rfl, ⟨nd, rfl⟩⟩; refine ⟨_, rfl, ?_⟩) | ((with_reducible refine gate_callee (f := 61) rfl ?_); refine goesL_ (some 10) rfl rfl Try.func61 (by kernel_rfl) rfl #[.int .i64 a1] rfl (by (try simp only [List.map_toArray, List.map_cons, List.map_nil]); first | done | rfl | (simp only [List.length_drop, List.length_take]; rfl)) ?_; (with_reducible refine (cmp_isNaN_int.calls a1 false _ A4.out).mono ?_); rintro e w' ⟨rfl, ⟨nd, rfl⟩⟩; refine ⟨_, rfl, ?_⟩))
      go_ret
      exact ⟨by first | rfl | (simp; done) | (simp [*]; done) | exact congrArg Value.bool (ne_empty _) | exact congrArg Value.bool (eq_empty _), by repeat (first | exact Drawn0.refl _ | apply Drawn0.step)⟩
  · replace c5 := Bool.eq_false_iff.mpr c5
    subst c5
    have H1 : (if t112 = true then (some 1) else (if a0 < a1 then (some (-1)) else (if a0 > a1 then (some 1) else (some 0)))) = some r := by rw [if_neg (show ¬ (false = true) by decide)] at H; exact H
    clear H
    have H := H1
    clear H1
    by_cases c7 : t112 = true
    · subst c7
      have H1 : (some 1) = some r := by rw [if_pos rfl] at H; exact H
      clear H
      have H := H1
      clear H1
      obtain rfl := Option.some.inj H
      go_enter Try.func56, Try.ntmps56
      go_wp2_with (first | ((with_reducible refine gate_callee (f := 61) rfl ?_); refine goesL_ (some 8) rfl rfl Try.func61 (by kernel_rfl) rfl #[.int .i64 a0] rfl (by (try simp only [List.map_toArray, List.map_cons, List.map_nil]); first | done | rfl | (simp only [List.length_drop, List.length_take]; rfl)) ?_; (with_reducible refine (cmp_isNaN_int.calls a0 false _ A3.out).mono ?_); rintro e w' ⟨rfl, ⟨nd, rfl⟩⟩; refine ⟨_, rfl, ?_⟩) | ((with_reducible refine gate_callee (f := 61) rfl ?_); refine goesL_ (some 10) rfl rfl Try.func61 (by kernel_rfl) rfl #[.int .i64 a1] rfl (by (try simp only [List.map_toArray, List.map_cons, List.map_nil]); first | done | rfl | (simp only [List.length_drop, List.length_take]; rfl)) ?_; (with_reducible refine (cmp_isNaN_int.calls a1 true _ A4.out).mono ?_); rintro e w' ⟨rfl, ⟨nd, rfl⟩⟩; refine ⟨_, rfl, ?_⟩))
      go_ret
      exact ⟨by first | rfl | (simp; done) | (simp [*]; done) | exact congrArg Value.bool (ne_empty _) | exact congrArg Value.bool (eq_empty _), by repeat (first | exact Drawn0.refl _ | apply Drawn0.step)⟩
    · replace c7 := Bool.eq_false_iff.mpr c7
      subst c7
      have H1 : (if a0 < a1 then (some (-1)) else (if a0 > a1 then (some 1) else (some 0))) = some r := by rw [if_neg (show ¬ (false = true) by decide)] at H; exact H
      clear H
      have H := H1
      clear H1
      by_cases c8 : a0 < a1
      · rw [if_pos c8] at H
        have c8b0 : decide (a0 < a1) = true := decide_eq_true c8
        clear c8
        obtain rfl := Option.some.inj H
        go_enter Try.func56, Try.ntmps56
        go_wp2_with (first | ((with_reducible refine gate_callee (f := 61) rfl ?_); refine goesL_ (some 8) rfl rfl Try.func61 (by kernel_rfl) rfl #[.int .i64 a0] rfl (by (try simp only [List.map_toArray, List.map_cons, List.map_nil]); first | done | rfl | (simp only [List.length_drop, List.length_take]; rfl)) ?_; (with_reducible refine (cmp_isNaN_int.calls a0 false _ A3.out).mono ?_); rintro e w' ⟨rfl, ⟨nd, rfl⟩⟩; refine ⟨_, rfl, ?_⟩) | ((with_reducible refine gate_callee (f := 61) rfl ?_); refine goesL_ (some 10) rfl rfl Try.func61 (by kernel_rfl) rfl #[.int .i64 a1] rfl (by (try simp only [List.map_toArray, List.map_cons, List.map_nil]); first | done | rfl | (simp only [List.length_drop, List.length_take]; rfl)) ?_; (with_reducible refine (cmp_isNaN_int.calls a1 false _ A4.out).mono ?_); rintro e w' ⟨rfl, ⟨nd, rfl⟩⟩; refine ⟨_, rfl, ?_⟩))
        go_ret
        exact ⟨by first | rfl | (simp; done) | (simp [*]; done) | exact congrArg Value.bool (ne_empty _) | exact congrArg Value.bool (eq_empty _), by repeat (first | exact Drawn0.refl _ | apply Drawn0.step)⟩
      · rw [if_neg c8] at H
        have c8b0 : decide (a0 < a1) = false := decide_eq_false c8
        clear c8
        by_cases c9 : a0 > a1
        · rw [if_pos c9] at H
          have c9b0 : decide (a1 < a0) = true := decide_eq_true c9
          clear c9
          obtain rfl := Option.some.inj H
          go_enter Try.func56, Try.ntmps56
          go_wp2_with (first | ((with_reducible refine gate_callee (f := 61) rfl ?_); refine goesL_ (some 8) rfl rfl Try.func61 (by kernel_rfl) rfl #[.int .i64 a0] rfl (by (try simp only [List.map_toArray, List.map_cons, List.map_nil]); first | done | rfl | (simp only [List.length_drop, List.length_take]; rfl)) ?_; (with_reducible refine (cmp_isNaN_int.calls a0 false _ A3.out).mono ?_); rintro e w' ⟨rfl, ⟨nd, rfl⟩⟩; refine ⟨_, rfl, ?_⟩) | ((with_reducible refine gate_callee (f := 61) rfl ?_); refine goesL_ (some 10) rfl rfl Try.func61 (by kernel_rfl) rfl #[.int .i64 a1] rfl (by (try simp only [List.map_toArray, List.map_cons, List.map_nil]); first | done | rfl | (simp only [List.length_drop, List.length_take]; rfl)) ?_; (with_reducible refine (cmp_isNaN_int.calls a1 false _ A4.out).mono ?_); rintro e w' ⟨rfl, ⟨nd, rfl⟩⟩; refine ⟨_, rfl, ?_⟩))
          go_ret
          exact ⟨by first | rfl | (simp; done) | (simp [*]; done) | exact congrArg Value.bool (ne_empty _) | exact congrArg Value.bool (eq_empty _), by repeat (first | exact Drawn0.refl _ | apply Drawn0.step)⟩
        · rw [if_neg c9] at H
          have c9b0 : decide (a1 < a0) = false := decide_eq_false c9
          clear c9
          obtain rfl := Option.some.inj H
          go_enter Try.func56, Try.ntmps56
          go_wp2_with (first | ((with_reducible refine gate_callee (f := 61) rfl ?_); refine goesL_ (some 8) rfl rfl Try.func61 (by kernel_rfl) rfl #[.int .i64 a0] rfl (by (try simp only [List.map_toArray, List.map_cons, List.map_nil]); first | done | rfl | (simp only [List.length_drop, List.length_take]; rfl)) ?_; (with_reducible refine (cmp_isNaN_int.calls a0 false _ A3.out).mono ?_); rintro e w' ⟨rfl, ⟨nd, rfl⟩⟩; refine ⟨_, rfl, ?_⟩) | ((with_reducible refine gate_callee (f := 61) rfl ?_); refine goesL_ (some 10) rfl rfl Try.func61 (by kernel_rfl) rfl #[.int .i64 a1] rfl (by (try simp only [List.map_toArray, List.map_cons, List.map_nil]); first | done | rfl | (simp only [List.length_drop, List.length_take]; rfl)) ?_; (with_reducible refine (cmp_isNaN_int.calls a1 false _ A4.out).mono ?_); rintro e w' ⟨rfl, ⟨nd, rfl⟩⟩; refine ⟨_, rfl, ?_⟩))
          go_ret
          exact ⟨by first | rfl | (simp; done) | (simp [*]; done) | exact congrArg Value.bool (ne_empty _) | exact congrArg Value.bool (eq_empty _), by repeat (first | exact Drawn0.refl _ | apply Drawn0.step)⟩

/-! ### cmp_isNaN_uint64: function 62 -/
def cmp_isNaN_uint64.f (a0 : Int) : Option (Bool) := some (a0 != a0)
set_option maxHeartbeats 8000000 in
set_option maxRecDepth 100000 in
theorem cmp_isNaN_uint64.calls (a0 : Int) (r : Bool) (w : World) (h : cmp_isNaN_uint64.f a0 = some r) :
    Calls Try.prog 62 #[.int .u64 a0] w fun e w' => e = .returned (.bool r) ∧ Drawn0 w w' := by
  have H : (some (a0 != a0)) = some r := h
  clear h
  obtain rfl := Option.some.inj H
  go_enter Try.func62, Try.ntmps62
  go_wp2
  go_ret
  exact ⟨by first | rfl | (simp; done) | (simp [*]; done) | exact congrArg Value.bool (ne_empty _) | exact congrArg Value.bool (eq_empty _), by repeat (first | exact Drawn0.refl _ | apply Drawn0.step)⟩

/-! ### cmp_Compare_uint64: function 57 -/
def cmp_Compare_uint64.f (a0 : Int) (a1 : Int) : Option (Int) := (cmp_isNaN_uint64.f a0).bind fun t113 => ((cmp_isNaN_uint64.f a1).bind fun t114 => (if t113 = true then (if t114 = true then (some 0) else (some (-1))) else (if t114 = true then (some 1) else (if a0 < a1 then (some (-1)) else (if a0 > a1 then (some 1) else (some 0))))))
set_option maxHeartbeats 8000000 in
set_option maxRecDepth 100000 in
theorem cmp_Compare_uint64.calls (a0 : Int) (a1 : Int) (r : Int) (w : World) (h : cmp_Compare_uint64.f a0 a1 = some r) :
    Calls Try.prog 57 #[.int .u64 a0, .int .u64 a1] w fun e w' => e = .returned (.int .i64 r) ∧ Drawn0 w w' := by
  have H : ((cmp_isNaN_uint64.f a0).bind fun t113 => ((cmp_isNaN_uint64.f a1).bind fun t114 => (if t113 = true then (if t114 = true then (some 0) else (some (-1))) else (if t114 = true then (some 1) else (if a0 < a1 then (some (-1)) else (if a0 > a1 then (some 1) else (some 0))))))) = some r := h
  clear h
  replace H := Option.bind_eq_some_iff.mp H
  obtain ⟨t113, A30, H⟩ := H
  replace H : ((cmp_isNaN_uint64.f a1).bind fun t114 => (if t113 = true then (if t114 = true then (some 0) else (some (-1))) else (if t114 = true then (some 1) else (if a0 < a1 then (some (-1)) else (if a0 > a1 then (some 1) else (some 0)))))) = some r := H
  have A3 := Aside0.mk A30
  clear A30
  replace H := Option.bind_eq_some_iff.mp H
  obtain ⟨t114, A40, H⟩ := H
  replace H : (if t113 = true then (if t114 = true then (some 0) else (some (-1))) else (if t114 = true then (some 1) else (if a0 < a1 then (some (-1)) else (if a0 > a1 then (some 1) else (some 0))))) = some r := H
  have A4 := Aside0.mk A40
  clear A40
  by_cases c5 : t113 = true
  · subst c5
    have H1 : (if t114 = true then (some 0) else (some (-1))) = some r := by rw [if_pos rfl] at H; exact H
    clear H
    have H := H1
    clear H1
    by_cases c6 : t114 = true
    · subst c6
      have H1 : (some 0) = some r := by rw [if_pos rfl] at H; exact H
      clear H
      have H := H1
      clear H1
      obtain rfl := Option.some.inj H
      go_enter Try.func57, Try.ntmps57
      go_wp2_with (first | ((with_reducible refine gate_callee (f := 62) rfl ?_); refine goesL_ (some 8) rfl rfl Try.func62 (by kernel_rfl) rfl #[.int .u64 a0] rfl (by (try simp only [List.map_toArray, List.map_cons, List.map_nil]); first | done | rfl | (simp only [List.length_drop, List.length_take]; rfl)) ?_; (with_reducible refine (cmp_isNaN_uint64.calls a0 true _ A3.out).mono ?_); rintro e w' ⟨rfl, ⟨nd, rfl⟩⟩; refine ⟨_, rfl, ?_⟩) | ((with_reducible refine gate_callee (f := 62) rfl ?_); refine goesL_ (some 10) rfl rfl Try.func62 (by kernel_rfl) rfl #[.int .u64 a1] rfl (by (try simp only [List.map_toArray, List.map_cons, List.map_nil]); first | done | rfl | (simp only [List.length_drop, List.length_take]; rfl)) ?_; (with_reducible refine (cmp_isNaN_uint64.calls a1 true _ A4.out).mono ?_); rintro e w' ⟨rfl, ⟨nd, rfl⟩⟩; refine ⟨_, rfl, ?_⟩))
      go_ret
      exact ⟨by first | rfl | (simp; done) | (simp [*]; done) | exact congrArg Value.bool (ne_empty _) | exact congrArg Value.bool (eq_empty _), by repeat (first | exact Drawn0.refl _ | apply Drawn0.step)⟩
    · replace c6 := Bool.eq_false_iff.mpr c6
      subst c6
      have H1 : (some (-1)) = some r := by rw [if_neg (show ¬ (false = true) by decide)] at H; exact H
      clear H
      have H := H1
      clear H1
      obtain rfl := Option.some.inj H
      go_enter Try.func57, Try.ntmps57
      go_wp2_with (first | ((with_reducible refine gate_callee (f := 62) rfl ?_); refine goesL_ (some 8) rfl rfl Try.func62 (by kernel_rfl) rfl #[.int .u64 a0] rfl (by (try simp only [List.map_toArray, List.map_cons, List.map_nil]); first | done | rfl | (simp only [List.length_drop, List.length_take]; rfl)) ?_; (with_reducible refine (cmp_isNaN_uint64.calls a0 true _ A3.out).mono ?_); rintro e w' ⟨rfl, ⟨nd, rfl⟩⟩; refine ⟨_, rfl, ?_⟩) | ((with_reducible refine gate_callee (f := 62) rfl ?_); refine goesL_ (some 10) rfl rfl Try.func62 (by kernel_rfl) rfl #[.int .u64 a1] rfl (by (try simp only [List.map_toArray, List.map_cons, List.map_nil]); first | done | rfl | (simp only [List.length_drop, List.length_take]; rfl)) ?_; (with_reducible refine (cmp_isNaN_uint64.calls a1 false _ A4.out).mono ?_); rintro e w' ⟨rfl, ⟨nd, rfl⟩⟩; refine ⟨_, rfl, ?_⟩))
      go_ret
      exact ⟨by first | rfl | (simp; done) | (simp [*]; done) | exact congrArg Value.bool (ne_empty _) | exact congrArg Value.bool (eq_empty _), by repeat (first | exact Drawn0.refl _ | apply Drawn0.step)⟩
  · replace c5 := Bool.eq_false_iff.mpr c5
    subst c5
    have H1 : (if t114 = true then (some 1) else (if a0 < a1 then (some (-1)) else (if a0 > a1 then (some 1) else (some 0)))) = some r := by rw [if_neg (show ¬ (false = true) by decide)] at H; exact H
    clear H
    have H := H1
    clear H1
    by_cases c7 : t114 = true
    · subst c7
      have H1 : (some 1) = some r := by rw [if_pos rfl] at H; exact H
      clear H
      have H := H1
      clear H1
      obtain rfl := Option.some.inj H
      go_enter Try.func57, Try.ntmps57
      go_wp2_with (first | ((with_reducible refine gate_callee (f := 62) rfl ?_); refine goesL_ (some 8) rfl rfl Try.func62 (by kernel_rfl) rfl #[.int .u64 a0] rfl (by (try simp only [List.map_toArray, List.map_cons, List.map_nil]); first | done | rfl | (simp only [List.length_drop, List.length_take]; rfl)) ?_; (with_reducible refine (cmp_isNaN_uint64.calls a0 false _ A3.out).mono ?_); rintro e w' ⟨rfl, ⟨nd, rfl⟩⟩; refine ⟨_, rfl, ?_⟩) | ((with_reducible refine gate_callee (f := 62) rfl ?_); refine goesL_ (some 10) rfl rfl Try.func62 (by kernel_rfl) rfl #[.int .u64 a1] rfl (by (try simp only [List.map_toArray, List.map_cons, List.map_nil]); first | done | rfl | (simp only [List.length_drop, List.length_take]; rfl)) ?_; (with_reducible refine (cmp_isNaN_uint64.calls a1 true _ A4.out).mono ?_); rintro e w' ⟨rfl, ⟨nd, rfl⟩⟩; refine ⟨_, rfl, ?_⟩))
      go_ret
      exact ⟨by first | rfl | (simp; done) | (simp [*]; done) | exact congrArg Value.bool (ne_empty _) | exact congrArg Value.bool (eq_empty _), by repeat (first | exact Drawn0.refl _ | apply Drawn0.step)⟩
    · replace c7 := Bool.eq_false_iff.mpr c7
      subst c7
      have H1 : (if a0 < a1 then (some (-1)) else (if a0 > a1 then (some 1) else (some 0))) = some r := by rw [if_neg (show ¬ (false = true) by decide)] at H; exact H
      clear H
      have H := H1
      clear H1
      by_cases c8 : a0 < a1
      · rw [if_pos c8] at H
        have c8b0 : decide (a0 < a1) = true := decide_eq_true c8
        clear c8
        obtain rfl := Option.some.inj H
        go_enter Try.func57, Try.ntmps57
        go_wp2_with (first | ((with_reducible refine gate_callee (f := 62) rfl ?_); refine goesL_ (some 8) rfl rfl Try.func62 (by kernel_rfl) rfl #[.int .u64 a0] rfl (by (try simp only [List.map_toArray, List.map_cons, List.map_nil]); first | done | rfl | (simp only [List.length_drop, List.length_take]; rfl)) ?_; (with_reducible refine (cmp_isNaN_uint64.calls a0 false _ A3.out).mono ?_); rintro e w' ⟨rfl, ⟨nd, rfl⟩⟩; refine ⟨_, rfl, ?_⟩) | ((with_reducible refine gate_callee (f := 62) rfl ?_); refine goesL_ (some 10) rfl rfl Try.func62 (by kernel_rfl) rfl #[.int .u64 a1] rfl (by (try simp only [List.map_toArray, List.map_cons, List.map_nil]); first | done | rfl | (simp only [List.length_drop, List.length_take]; rfl)) ?_; (with_reducible refine (cmp_isNaN_uint64.calls a1 false _ A4.out).mono ?_); rintro e w' ⟨rfl, ⟨nd, rfl⟩⟩; refine ⟨_, rfl, ?_⟩))
        go_ret
        exact ⟨by first | rfl | (simp; done) | (simp [*]; done) | exact congrArg Value.bool (ne_empty _) | exact congrArg Value.bool (eq_empty _), by repeat (first | exact Drawn0.refl _ | apply Drawn0.step)⟩
      · rw [if_neg c8] at H
        have c8b0 : decide (a0 < a1) = false := decide_eq_false c8
        clear c8
        by_cases c9 : a0 > a1
        · rw [if_pos c9] at H
          have c9b0 : decide (a1 < a0) = true := decide_eq_true c9
          clear c9
          obtain rfl := Option.some.inj H
          go_enter Try.func57, Try.ntmps57
          go_wp2_with (first | ((with_reducible refine gate_callee (f := 62) rfl ?_); refine goesL_ (some 8) rfl rfl Try.func62 (by kernel_rfl) rfl #[.int .u64 a0] rfl (by (try simp only [List.map_toArray, List.map_cons, List.map_nil]); first | done | rfl | (simp only [List.length_drop, List.length_take]; rfl)) ?_; (with_reducible refine (cmp_isNaN_uint64.calls a0 false _ A3.out).mono ?_); rintro e w' ⟨rfl, ⟨nd, rfl⟩⟩; refine ⟨_, rfl, ?_⟩) | ((with_reducible refine gate_callee (f := 62) rfl ?_); refine goesL_ (some 10) rfl rfl Try.func62 (by kernel_rfl) rfl #[.int .u64 a1] rfl (by (try simp only [List.map_toArray, List.map_cons, List.map_nil]); first | done | rfl | (simp only [List.length_drop, List.length_take]; rfl)) ?_; (with_reducible refine (cmp_isNaN_uint64.calls a1 false _ A4.out).mono ?_); rintro e w' ⟨rfl, ⟨nd, rfl⟩⟩; refine ⟨_, rfl, ?_⟩))
          go_ret
          exact ⟨by first | rfl | (simp; done) | (simp [*]; done) | exact congrArg Value.bool (ne_empty _) | exact congrArg Value.bool (eq_empty _), by repeat (first | exact Drawn0.refl _ | apply Drawn0.step)⟩
        · rw [if_neg c9] at H
          have c9b0 : decide (a1 < a0) = false := decide_eq_false c9
          clear c9
          obtain rfl := Option.some.inj H
          go_enter Try.func57, Try.ntmps57
          go_wp2_with (first | ((with_reducible refine gate_callee (f := 62) rfl ?_); refine goesL_ (some 8) rfl rfl Try.func62 (by kernel_rfl) rfl #[.int .u64 a0] rfl (by (try simp only [List.map_toArray, List.map_cons, List.map_nil]); first | done | rfl | (simp only [List.length_drop, List.length_take]; rfl)) ?_; (with_reducible refine (cmp_isNaN_uint64.calls a0 false _ A3.out).mono ?_); rintro e w' ⟨rfl, ⟨nd, rfl⟩⟩; refine ⟨_, rfl, ?_⟩) | ((with_reducible refine gate_callee (f := 62) rfl ?_); refine goesL_ (some 10) rfl rfl Try.func62 (by kernel_rfl) rfl #[.int .u64 a1] rfl (by (try simp only [List.map_toArray, List.map_cons, List.map_nil]); first | done | rfl | (simp only [List.length_drop, List.length_take]; rfl)) ?_; (with_reducible refine (cmp_isNaN_uint64.calls a1 false _ A4.out).mono ?_); rintro e w' ⟨rfl, ⟨nd, rfl⟩⟩; refine ⟨_, rfl, ?_⟩))
          go_ret
          exact ⟨by first | rfl | (simp; done) | (simp [*]; done) | exact congrArg Value.bool (ne_empty _) | exact congrArg Value.bool (eq_empty _), by repeat (first | exact Drawn0.refl _ | apply Drawn0.step)⟩

/-! ### check_compare: function 49 -/
def check_compare.f (k : Nat) (a0_0 : Int) (a0_1 : Int) (a1_0 : Int) (a1_1 : Int) : Option (Int) := (cmp_Compare_int.f a0_0 a1_0).bind fun t117 => ((cmp_Compare_uint64.f a0_1 a1_1).bind fun t118 => ((cmp_Or_int.f k (([t117, t118] : List Int))).bind fun t122 => (some t122)))
def check_compare.T1 : Bool × List (List Nat × List Nat) := (true, [([], []), ([0], [0]), ([], []), ([2], [2]), ([1, 3], [1, 3]), ([], []), ([5], [5]), ([], []), ([7], [7]), ([6, 8, 4], [6, 8]), ([4, 9], [4, 9]), ([10, 9], [10]), ([11, 11, 0, 1, 2, 3, 4, 5, 6, 7, 8, 9, 10, 11], [11])])
def check_compare.B1 : List Nat := [0, 1, 0, 4, 15, 0, 32, 0, 128, 511, 1023, 2047, 4095]
theorem check_compare.tab1 : rtab .any (opsOf Try.f49 1) = check_compare.T1 := by kernel_rfl
theorem check_compare.bits1 : waitsOk check_compare.T1.2 check_compare.B1 = true := by kernel_rfl
set_option maxHeartbeats 8000000 in
set_option maxRecDepth 100000 in
theorem check_compare.calls (k : Nat) (a0_0 : Int) (a0_1 : Int) (a1_0 : Int) (a1_1 : Int) (r : Int) (w : World) (h : check_compare.f k a0_0 a0_1 a1_0 a1_1 = some r) :
    Calls Try.prog 49 #[.agg #[.int .i64 a0_0, .int .u64 a0_1], .agg #[.int .i64 a1_0, .int .u64 a1_1]] w fun e w' => e = .returned (.int .i64 r) ∧ Below w.heap.size w w' := by
  have hu75 := Try.underlying75
  have HB := Aside0.mk (Below.refl w.heap.size w)
  have H : ((cmp_Compare_int.f a0_0 a1_0).bind fun t117 => ((cmp_Compare_uint64.f a0_1 a1_1).bind fun t118 => ((cmp_Or_int.f k (([t117, t118] : List Int))).bind fun t122 => (some t122)))) = some r := h
  clear h
  replace H := Option.bind_eq_some_iff.mp H
  obtain ⟨t117, A30, H⟩ := H
  replace H : ((cmp_Compare_uint64.f a0_1 a1_1).bind fun t118 => ((cmp_Or_int.f k (([t117, t118] : List Int))).bind fun t122 => (some t122))) = some r := H
  have A3 := Aside0.mk A30
  clear A30
  replace H := Option.bind_eq_some_iff.mp H
  obtain ⟨t118, A40, H⟩ := H
  replace H : ((cmp_Or_int.f k (([t117, t118] : List Int))).bind fun t122 => (some t122)) = some r := H
  have A4 := Aside0.mk A40
  clear A40
  obtain ⟨y119, hy119⟩ : ∃ y_ : List Int, y_ = (([t117, t118] : List Int)) := ⟨_, rfl⟩
  replace H : ((cmp_Or_int.f k y119).bind fun t122 => (some t122)) = some r := by first | (rw [hy119]; with_reducible exact H) | (have H2_ := (Option.bind_some _ _).symm.trans H; rw [hy119]; with_reducible exact H2_) | (have H2_ := (Option.bind_some _ _).symm.trans H; with_reducible exact H2_) | with_reducible exact H | (rw [hy119]; exact H) | exact H
  have Ny119 := Aside0.mk hy119
  clear hy119
  replace H := Option.bind_eq_some_iff.mp H
  obtain ⟨t122, A50, H⟩ := H
  replace H : (some t122) = some r := H
  have A5 := Aside0.mk A50
  clear A50
  obtain rfl := Option.some.inj H
  go_enter Try.func49, Try.ntmps49
  try go_wp2_with (first | ((with_reducible refine gate_dst (N := 2) rfl ?_); refine box_event ?hg (N := 2) ?hd (cs := #[.int .i64 a0_0, .int .u64 a0_1]) (t := 75) ?hr ?_; (case hd => rfl); (case hg => rfl); (case hr => first | (go_simp; done) | (go_simp; rfl)); intro gb115 hg w6 hbox hb; have n0_ := Aside0.mk (below_step (by repeat (first | (with_reducible first | exact HB.out | apply below_alloc | apply pw_below_drewN | apply below_drew1) | exact HB.out)) hb); have n1_ := Aside0.mk (hbox); have n2_ := Aside0.mk ((by rw [hg]; exact (below_size (by repeat (first | (with_reducible first | exact HB.out | apply below_alloc | apply pw_below_drewN | apply below_drew1) | exact HB.out))) : w.heap.size ≤ gb115)); have n3_ := Aside0.mk ((by rw [hg]; exact (below_size (by repeat (first | (with_reducible first | exact HB.out | apply below_alloc | apply pw_below_drewN | apply below_drew1) | exact HB.out))) : w.heap.size ≤ gb115)); clear HB; have HB := n0_; have BK115 := n1_; have GW115 := n2_; have GE115 := n3_; clear n0_ n1_ n2_ n3_; clear hb hbox hg) | ((with_reducible refine gate_dst (N := 3) rfl ?_); refine box_event ?hg (N := 3) ?hd (cs := #[.int .i64 a1_0, .int .u64 a1_1]) (t := 75) ?hr ?_; (case hd => rfl); (case hg => rfl); (case hr => first | (go_simp; done) | (go_simp; rfl)); intro gb116 hg w7 hbox hb; have n0_ := Aside0.mk (blk_below (g := gb115) (o := .cells #[.int .i64 a0_0, .int .u64 a0_1] 75 (0, 0)) (by (with_reducible repeat (first | refine blk_drewN ?_ _ | refine blk_drew ?_ | refine blk_alloc ?_ _)); exact BK115.out) hb); have n1_ := Aside0.mk (below_step (by repeat (first | (with_reducible first | exact HB.out | apply below_alloc | apply pw_below_drewN | apply below_drew1 | refine below_set ?_ GE115.out) | exact HB.out)) hb); have n2_ := Aside0.mk (hbox); have n3_ := Aside0.mk ((by rw [hg]; exact (below_size (by repeat (first | (with_reducible first | exact HB.out | apply below_alloc | apply pw_below_drewN | apply below_drew1 | refine below_set ?_ GE115.out) | exact HB.out))) : w.heap.size ≤ gb116)); have n4_ := Aside0.mk ((by rw [hg]; exact (below_size (by repeat (first | (with_reducible first | exact HB.out | apply below_alloc | apply pw_below_drewN | apply below_drew1 | refine below_set ?_ GE115.out) | exact HB.out))) : w.heap.size ≤ gb116)); have n5_ := Aside0.mk ((by rw [hg]; exact Nat.ne_of_lt (blk_lt (g := gb115) (o := .cells #[.int .i64 a0_0, .int .u64 a0_1] 75 (0, 0)) (by (with_reducible repeat (first | refine blk_drewN ?_ _ | refine blk_drew ?_ | refine blk_alloc ?_ _)); exact BK115.out)) : gb115 ≠ gb116)); have n6_ := Aside0.mk ((by rw [hg]; exact Nat.ne_of_gt (blk_lt (g := gb115) (o := .cells #[.int .i64 a0_0, .int .u64 a0_1] 75 (0, 0)) (by (with_reducible repeat (first | refine blk_drewN ?_ _ | refine blk_drew ?_ | refine blk_alloc ?_ _)); exact BK115.out)) : gb116 ≠ gb115)); clear BK115; clear HB; have BK115 := n0_; have HB := n1_; have BK116 := n2_; have GW116 := n3_; have GE116 := n4_; have NB115_116 := n5_; have NB116_115 := n6_; clear n0_ n1_ n2_ n3_ n4_ n5_ n6_; clear hb hbox hg))
  have n0_ := Aside0.mk (blk_drew BK115.out)
  have n1_ := Aside0.mk (blk_drew BK116.out)
  have n2_ := Aside0.mk (below_drew1 HB.out)
  clear BK115
  clear BK116
  clear HB
  have BK115 := n0_
  have BK116 := n1_
  have HB := n2_
  clear n0_ n1_ n2_
  refine start_ (n := 13) (S := fun w' => w'.cell? ⟨gb115, 0, none⟩ = some (.int .i64 a0_0) ∧ w'.cell? ⟨gb115, 1, none⟩ = some (.int .u64 a0_1) ∧ w'.cell? ⟨gb116, 0, none⟩ = some (.int .i64 a1_0) ∧ w'.cell? ⟨gb116, 1, none⟩ = some (.int .u64 a1_1)) (ds := []) #[false, false, false, false, false, false, false, false, false, false, false, false, false] (by kernel_rfl) rfl rfl ⟨(blk_cell BK115.out 0).trans rfl, (blk_cell BK115.out 1).trans rfl, (blk_cell BK116.out 0).trans rfl, (blk_cell BK116.out 1).trans rfl⟩ (fun hHeld => ?_); refine with_tabW check_compare.tab1 check_compare.bits1 (fun HT_ HW_ => ?_)
  generalize w7.drew = w8 at BK115 BK116 HB hHeld ⊢
  refine pure_ (i := 0) (N := some 5) (v := ?_) (a' := ?_) #[true, false, false, false, false, false, false, false, false, false, false, false, false] rfl rfl (any_of HT_.out (by kernel_rfl)) (fun _ _ _ h => h) (Or.inl ⟨by rfl, ?_⟩) ?_ ?_
  rotate_left
  · intro w'
    go_simp
    with_reducible rfl
  rotate_left
  · simp only [Act.put, List.setIfInBounds_toArray, List.set_cons_zero, List.set_cons_succ, i64_w, i32_w]
    rfl
  refine pure_ (i := 2) (N := some 7) (v := ?_) (a' := ?_) #[true, false, true, false, false, false, false, false, false, false, false, false, false] rfl rfl (any_of HT_.out (by kernel_rfl)) (fun _ _ _ h => h) (Or.inl ⟨by rfl, ?_⟩) ?_ ?_
  rotate_left
  · intro w'
    go_simp
    with_reducible rfl
  rotate_left
  · simp only [Act.put, List.setIfInBounds_toArray, List.set_cons_zero, List.set_cons_succ, i64_w, i32_w]
    rfl
  refine pure_ (i := 5) (N := some 10) (v := ?_) (a' := ?_) #[true, false, true, false, false, true, false, false, false, false, false, false, false] rfl rfl (any_of HT_.out (by kernel_rfl)) (fun _ _ _ h => h) (Or.inl ⟨by rfl, ?_⟩) ?_ ?_
  rotate_left
  · intro w'
    go_simp
    with_reducible rfl
  rotate_left
  · simp only [Act.put, List.setIfInBounds_toArray, List.set_cons_zero, List.set_cons_succ, i64_w, i32_w]
    rfl
  refine pure_ (i := 7) (N := some 12) (v := ?_) (a' := ?_) #[true, false, true, false, false, true, false, true, false, false, false, false, false] rfl rfl (any_of HT_.out (by kernel_rfl)) (fun _ _ _ h => h) (Or.inl ⟨by rfl, ?_⟩) ?_ ?_
  rotate_left
  · intro w'
    go_simp
    with_reducible rfl
  rotate_left
  · simp only [Act.put, List.setIfInBounds_toArray, List.set_cons_zero, List.set_cons_succ, i64_w, i32_w]
    rfl
  refine take_ (i := 1) (N := some 6) (v := ?_) (a' := ?_) #[true, true, true, false, false, true, false, true, false, false, false, false, false] rfl rfl (take_ofW HT_.out HW_.out (by kernel_rfl)) (fun _ _ _ h => h) (Or.inl ⟨by rfl, ?_⟩) hHeld ?_ ?_
  rotate_left
  · rintro w' ⟨s0, s1, s2, s3⟩
    go_simp
    with_reducible rfl
  rotate_left
  · simp only [Act.put, List.setIfInBounds_toArray, List.set_cons_zero, List.set_cons_succ, i64_w, i32_w]
    rfl
  refine take_ (i := 3) (N := some 8) (v := ?_) (a' := ?_) #[true, true, true, true, false, true, false, true, false, false, false, false, false] rfl rfl (take_ofW HT_.out HW_.out (by kernel_rfl)) (fun _ _ _ h => h) (Or.inl ⟨by rfl, ?_⟩) hHeld ?_ ?_
  rotate_left
  · rintro w' ⟨s0, s1, s2, s3⟩
    go_simp
    with_reducible rfl
  rotate_left
  · simp only [Act.put, List.setIfInBounds_toArray, List.set_cons_zero, List.set_cons_succ, i64_w, i32_w]
    rfl
  refine take_ (i := 6) (N := some 11) (v := ?_) (a' := ?_) #[true, true, true, true, false, true, true, true, false, false, false, false, false] rfl rfl (take_ofW HT_.out HW_.out (by kernel_rfl)) (fun _ _ _ h => h) (Or.inl ⟨by rfl, ?_⟩) hHeld ?_ ?_
  rotate_left
  · rintro w' ⟨s0, s1, s2, s3⟩
    go_simp
    with_reducible rfl
  rotate_left
  · simp only [Act.put, List.setIfInBounds_toArray, List.set_cons_zero, List.set_cons_succ, i64_w, i32_w]
    rfl
  refine take_ (i := 8) (N := some 13) (v := ?_) (a' := ?_) #[true, true, true, true, false, true, true, true, true, false, false, false, false] rfl rfl (take_ofW HT_.out HW_.out (by kernel_rfl)) (fun _ _ _ h => h) (Or.inl ⟨by rfl, ?_⟩) hHeld ?_ ?_
  rotate_left
  · rintro w' ⟨s0, s1, s2, s3⟩
    go_simp
    with_reducible rfl
  rotate_left
  · simp only [Act.put, List.setIfInBounds_toArray, List.set_cons_zero, List.set_cons_succ, i64_w, i32_w]
    rfl
  refine one_ (i := 4) (N := some 9) #[true, true, true, true, true, true, true, true, true, false, false, false, false] rfl rfl (one_of HT_.out (by kernel_rfl)) (by decide) (fun K hK => ?_)
  refine goes_ Try.func56 (by kernel_rfl) rfl #[.int .i64 a0_0, .int .i64 a1_0] (by rfl) rfl rfl (by (try simp only [List.map_toArray, List.map_cons, List.map_nil]); first | done | rfl | (simp only [List.length_drop, List.length_take]; rfl)) ?_
  with_reducible refine (cmp_Compare_int.calls a0_0 a1_0 t117 _ A3.out).mono ?_
  rintro e w' ⟨rfl, ⟨nd, rfl⟩⟩
  refine ⟨_, rfl, ?_⟩
  refine hK.out _ _ ⟨(blk_cell BK115.out 0).trans rfl, (blk_cell BK115.out 1).trans rfl, (blk_cell BK116.out 0).trans rfl, (blk_cell BK116.out 1).trans rfl⟩ (fun hHeld => ?_)
  clear hK K
  refine norm_ (a' := ?_) ?_ ?_
  rotate_left
  · show Act.put _ (some 9) _ = _
    simp only [Act.put, List.setIfInBounds_toArray, List.set_cons_zero, List.set_cons_succ, i64_w, i32_w]
    rfl
  refine one_ (i := 9) (N := some 14) #[true, true, true, true, true, true, true, true, true, true, false, false, false] rfl rfl (one_of HT_.out (by kernel_rfl)) (by decide) (fun K hK => ?_)
  refine goes_ Try.func57 (by kernel_rfl) rfl #[.int .u64 a0_1, .int .u64 a1_1] (by rfl) rfl rfl (by (try simp only [List.map_toArray, List.map_cons, List.map_nil]); first | done | rfl | (simp only [List.length_drop, List.length_take]; rfl)) ?_
  with_reducible refine (cmp_Compare_uint64.calls a0_1 a1_1 t118 _ A4.out).mono ?_
  rintro e w' ⟨rfl, ⟨nd, rfl⟩⟩
  refine ⟨_, rfl, ?_⟩
  refine hK.out _ _ ⟨(blk_cell BK115.out 0).trans rfl, (blk_cell BK115.out 1).trans rfl, (blk_cell BK116.out 0).trans rfl, (blk_cell BK116.out 1).trans rfl⟩ (fun hHeld => ?_)
  clear hK K
  refine norm_ (a' := ?_) ?_ ?_
  rotate_left
  · show Act.put _ (some 14) _ = _
    simp only [Act.put, List.setIfInBounds_toArray, List.set_cons_zero, List.set_cons_succ, i64_w, i32_w]
    rfl
  refine one_ (i := 10) (N := some 15) #[true, true, true, true, true, true, true, true, true, true, true, false, false] rfl rfl (one_of HT_.out (by kernel_rfl)) (by decide) (fun K hK => ?_)
  refine Kd.R_lit_step (Kd.int .i64) _ 3 ?hg (N := 15) ?hd (xs := ([t117, t118] : List Int)) (inner := [.int .i64 t117, .int .i64 t118]) (ok := fun _ => True) (okp := fun _ => True) ?hr ?hp (fun _ hk => hk) trivial (Below.refl _ _) (Nat.le_refl _) (by simp) ?_; (case hd => rfl); (case hg => rfl); (case hr => first | (go_simp; done) | (go_simp; rfl)); (case hp => exact (Reps.one (show Kd.M (Kd.int .i64) _ _ _ t117 [.int .i64 t117] from rfl) (Reps.one (show Kd.M (Kd.int .i64) _ _ _ t118 [.int .i64 t118] from rfl) (Reps.none _ _))))
  intro v120 w9 ho10 hb hg_ hnew_
  clear hg_ hnew_
  (first | rw [← Ny119.out] at ho10 | (simp only [Int.reduceToNat] at ho10; rw [← Ny119.out] at ho10))
  have n0_ := Aside0.mk (Kd.R_lower ho10 (below_size (by repeat (first | (with_reducible first | exact HB.out | apply below_alloc | apply pw_below_drewN | apply below_drew1 | refine below_set ?_ GE115.out | refine below_set ?_ GE116.out) | exact HB.out))))
  have n1_ := Aside0.mk (blk_below (g := gb115) (o := .cells #[.int .i64 a0_0, .int .u64 a0_1] 75 (0, 0)) (by (with_reducible repeat (first | refine blk_drewN ?_ _ | refine blk_drew ?_ | refine blk_alloc ?_ _)); exact BK115.out) hb)
  have n2_ := Aside0.mk (blk_below (g := gb116) (o := .cells #[.int .i64 a1_0, .int .u64 a1_1] 75 (0, 0)) (by (with_reducible repeat (first | refine blk_drewN ?_ _ | refine blk_drew ?_ | refine blk_alloc ?_ _)); exact BK116.out) hb)
  have n3_ := Aside0.mk (below_step (by repeat (first | (with_reducible first | exact HB.out | apply below_alloc | apply pw_below_drewN | apply below_drew1 | refine below_set ?_ GE115.out | refine below_set ?_ GE116.out) | exact HB.out)) hb)
  clear BK115
  clear BK116
  clear HB
  have HO121 := n0_
  have BK115 := n1_
  have BK116 := n2_
  have HB := n3_
  clear n0_ n1_ n2_ n3_
  clear hb ho10
  obtain ⟨Ao11, co11, eo11⟩ := Kd.R_slice HO121.out
  (first | subst eo11 | (injection eo11 with f1_ f2_ f3_; have f4_ := f1_.symm; have f5_ := f3_.symm; clear f1_ f2_ f3_; subst f4_; subst f5_))
  refine hK.out _ _ ⟨(blk_cell BK115.out 0).trans rfl, (blk_cell BK115.out 1).trans rfl, (blk_cell BK116.out 0).trans rfl, (blk_cell BK116.out 1).trans rfl⟩ (fun hHeld => ?_)
  clear hK K
  refine norm_ (a' := ?_) ?_ ?_
  rotate_left
  · show Act.put _ (some 15) _ = _
    simp only [Act.put, List.setIfInBounds_toArray, List.set_cons_zero, List.set_cons_succ, i64_w, i32_w]
    rfl
  refine one_ (i := 11) (N := some 16) #[true, true, true, true, true, true, true, true, true, true, true, true, false] rfl rfl (one_of HT_.out (by kernel_rfl)) (by decide) (fun K hK => ?_)
  refine goes_ Try.func55 (by kernel_rfl) rfl #[.slice Ao11 y119.length co11] (by rfl) rfl rfl (by (try simp only [List.map_toArray, List.map_cons, List.map_nil]); first | done | rfl | (simp only [List.length_drop, List.length_take]; rfl)) ?_
  with_reducible refine (cmp_Or_int.calls k _ _ y119 t122 _ ?side1 ?side2 A5.out).mono ?_
  (case side1 => repeat (first | exact (Kd.R_reads' HO121.out).2.2 | (with_reducible refine Kd.C_alloc ?_ _) | (with_reducible refine Kd.C_drewN ?_ _) | (with_reducible refine Kd.C_drew ?_)))
  (case side2 => exact (Kd.R_reads' HO121.out).2.1)
  rintro e w' ⟨rfl, ⟨nd, rfl⟩⟩
  refine ⟨_, rfl, ?_⟩
  refine hK.out _ _ ⟨(blk_cell BK115.out 0).trans rfl, (blk_cell BK115.out 1).trans rfl, (blk_cell BK116.out 0).trans rfl, (blk_cell BK116.out 1).trans rfl⟩ (fun hHeld => ?_)
  clear hK K
  refine norm_ (a' := ?_) ?_ ?_
  rotate_left
  · show Act.put _ (some 16) _ = _
    simp only [Act.put, List.setIfInBounds_toArray, List.set_cons_zero, List.set_cons_succ, i64_w, i32_w]
    rfl
  refine pure_ (i := 12) (N := some 4) (v := ?_) (a' := ?_) #[true, true, true, true, true, true, true, true, true, true, true, true, true] rfl rfl (any_of HT_.out (by kernel_rfl)) (fun _ _ _ h => h) (Or.inl ⟨by rfl, ?_⟩) ?_ ?_
  rotate_left
  · intro w'
    go_simp
    with_reducible rfl
  rotate_left
  · simp only [Act.put, List.setIfInBounds_toArray, List.set_cons_zero, List.set_cons_succ, i64_w, i32_w]
    rfl
  refine done_ (done_of HT_.out (by kernel_rfl)) ?_
  try go_wp2
  go_ret
  exact ⟨by first | rfl | (simp [errW_none, errW_some] <;> rfl) | (simp [*, errW_none, errW_some] <;> rfl), by repeat (first | (with_reducible first | exact HB.out | apply below_alloc | apply pw_below_drewN | apply below_drew1 | refine below_set ?_ GE115.out | refine below_set ?_ GE116.out) | exact HB.out)⟩

/-! ### check.above -/
def check_above.f (a b v : Int) : Option Bool := if (Lit.int .i64 a).wf = true ∧ (Lit.int .i64 b).wf = true ∧ (Lit.int .i64 v).wf = true then some (decide (v < a + b)) else none
theorem cmp_i64 (a b : Int) : cmp_Compare_int.f a b = some (if a < b then -1 else if b < a then 1 else 0) := by
  unfold cmp_Compare_int.f cmp_isNaN_int.f
  simp
  split <;> (try split) <;> simp_all
theorem cmp_u64 (a b : Int) : cmp_Compare_uint64.f a b = some (if a < b then -1 else if b < a then 1 else 0) := by
  unfold cmp_Compare_uint64.f cmp_isNaN_uint64.f
  simp
  split <;> (try split) <;> simp_all
theorem or_two (x y : Int) : cmp_Or_int.f 3 [x, y] = some (if x = 0 then y else x) := by
  unfold cmp_Or_int.f
  simp [cmp_Or_int.l0, rd, wrap64]
  split <;> simp_all
def cmpL (h1 l1 h2 l2 : Int) : Int := if h1 < h2 then -1 else if h2 < h1 then 1 else if l1 < l2 then -1 else if l2 < l1 then 1 else 0
theorem compare_f (h1 l1 h2 l2 : Int) : check_compare.f 3 h1 l1 h2 l2 = some (cmpL h1 l1 h2 l2) := by
  unfold check_compare.f
  rw [cmp_i64, Option.bind_some, cmp_u64, Option.bind_some, or_two, Option.bind_some]
  unfold cmpL
  congr 1
  split <;> (try split) <;> (try split) <;> (try split) <;> simp_all
theorem cmpL_sum (a v : Int) : decide (0 < cmpL (a / 18446744073709551616) (a % 18446744073709551616) (v / 18446744073709551616) (v % 18446744073709551616)) = decide (v < a) := by
  unfold cmpL
  split <;> (try split) <;> (try split) <;> (try split) <;> simp <;> omega
set_option maxHeartbeats 4000000 in
set_option maxRecDepth 100000 in
theorem check_above.calls (a0 a1 a2 : Int) (r : Bool) (w : World) (h : check_above.f a0 a1 a2 = some r) :
    Calls Try.prog 43 #[.int .i64 a0, .int .i64 a1, .int .i64 a2] w fun e w' => e = .returned (.bool r) ∧ Below w.heap.size w w' := by
  unfold check_above.f at h
  split at h
  case isFalse => cases h
  rename_i hcond
  obtain ⟨h0, h1, h2⟩ := hcond
  obtain rfl := Option.some.inj h
  have S1 := Aside0.mk (show check_sum.f a0 a1 = some ((a0 + a1) / 18446744073709551616, (a0 + a1) % 18446744073709551616) from if_pos ⟨h0, h1⟩)
  have S2 := Aside0.mk (show check_sum.f a2 0 = some (a2 / 18446744073709551616, a2 % 18446744073709551616) from by unfold check_sum.f; rw [if_pos ⟨h2, by decide⟩, Int.add_zero])
  have S3 := Aside0.mk (compare_f ((a0 + a1) / 18446744073709551616) ((a0 + a1) % 18446744073709551616) (a2 / 18446744073709551616) (a2 % 18446744073709551616))
  have S4 := Aside0.mk (cmpL_sum (a0 + a1) a2)
  clear h h0 h1 h2
  go_enter Try.func43, Try.ntmps43
  go_wp2_with fail
  refine (check_sum.calls _ _ _ _ _ S1.out).mono ?_
  rintro e w1 ⟨rfl, hb⟩
  have B1 := Aside0.mk hb
  clear hb
  go_wp2_with fail
  refine (check_sum.calls _ _ _ _ _ S2.out).mono ?_
  rintro e w2 ⟨rfl, hb⟩
  have B2 := Aside0.mk (below_step B1.out hb)
  clear hb B1
  go_wp2_with fail
  refine (check_compare.calls 3 _ _ _ _ _ _ S3.out).mono ?_
  rintro e w3 ⟨rfl, hb⟩
  have B3 := Aside0.mk (below_step B2.out hb)
  clear hb B2
  go_wp2_with fail
  go_ret
  exact ⟨by first | exact congrArg (fun b => Ending.returned (Value.bool b)) S4.out | simp [S4.out], B3.out⟩

end Go.Proofs.Ytdlkofmcioalfaa.PCk
