import Derived.Test.YtncfofnikmfjbaaQCfCut
import Derived.Test.YtncfofnikmfjbaaQEqF
import Derived.Outline
import Derived.StillTailTactics
import Derived.RegionTactic
import Derived.BigRegion
import Derived.Lib.BufferWrite
import Derived.Test.YtncfofnikmfjbaaQPCix2
import Derived.ChangeArms
import Derived.Deep.Slices
import Derived.DataReads
import Derived.SizedLaws
import Derived.WideShapes
import Derived.Test.YtncfofnikmfjbaaQWMore
namespace Go.Proofs.Ytncfofnikmfjbaa.PCi
open Go.RowKit Go.Proofs.YtncfofnikmfjbaaW.PrintWords Go.Proofs.YtncfofnikmfjbaaW.PrintLast Go.Proofs.YtncfofnikmfjbaaW.PrintMore
attribute [local go_sem] max2_int min2_int max_two min_two max_three min_three max_four min_four
set_option linter.unusedVariables false
set_option linter.unusedSimpArgs false

set_option maxHeartbeats 4000000 in
set_option maxRecDepth 100000 in
theorem bollardlaw20_CodecRequests.calls (k : Nat) (a0_0 : Int) (a0_1 : Int) (a0_2 : ByteArray) (a0_3 : Int) (a0_4 : Int) (a0_5 : Int) (a0_6 : Int) (a0_7 : Int) (a0_8 : Bool) (a0_9 : Int) (a0_10 : Int) (a0_11 : Int) (A0_12 : Option Addr) (c0_12 : Nat) (l0_12 : List S98) (a0_13 : Int) (a0_14 : Int) (a0_15 : Int) (a0_16 : ByteArray) (r : Bool) (w : World) (hr0_12 : Kd.C k98 w A0_12 l0_12.length l0_12) (hc0_12 : l0_12.length ≤ c0_12) (h : bollardlaw20_CodecRequests.f k a0_0 a0_1 a0_2 a0_3 a0_4 a0_5 a0_6 a0_7 a0_8 a0_9 a0_10 a0_11 l0_12 a0_13 a0_14 a0_15 a0_16 = some r) :
    Calls Try.prog 3 #[.agg #[.int .i64 a0_0, .int .i64 a0_1, .string a0_2, .int .i64 a0_3, .int .i64 a0_4, .int .i64 a0_5, .int .i64 a0_6, .int .i64 a0_7, .bool a0_8, .int .i64 a0_9, .int .i64 a0_10, .int .i64 a0_11, .slice A0_12 l0_12.length c0_12, .int .i64 a0_13, .int .i64 a0_14, .int .i64 a0_15, .string a0_16]] w fun e w' => e = .returned (.bool r) ∧ Below w.heap.size w w' := by
  unfold bollardlaw20_CodecRequests.f at h
  split at h
  case isFalse => cases h
  rename_i hcond
  obtain rfl := Option.some.inj h
  clear h
  obtain ⟨g0, g1, g2, g3, g4, g5, g6, g7, g8, g9, g10, g11, g12, g13, g14, g15⟩ := hcond
  have HT := Aside0.mk (show ∀ x ∈ l0_12, -9223372036854775808 ≤ x.f4 ∧ x.f4 ≤ 9223372036854775807 from fun x hx => wf_rng (g11.2 x hx).2.2.2.2.1)
  have hA := rq_arg a0_0 a0_1 a0_2 a0_3 a0_4 a0_5 a0_6 a0_7 a0_8 a0_9 a0_10 a0_11 A0_12 c0_12 l0_12 a0_13 a0_14 a0_15 a0_16 g0 g1 g2 g3 g4 g5 g6 g7 g8 g9 g10 g11 g12 g13 g14 g15
  clear g0 g1 g2 g3 g4 g5 g6 g7 g8 g9 g10 g11 g12 g13 g14 g15
  obtain ⟨k1, r1, hin, hin2⟩ := in_f a0_0 a0_1 a0_2 a0_3 a0_4 a0_5 a0_6 a0_7 a0_8 a0_9 a0_10 a0_11 A0_12 c0_12 l0_12 a0_13 a0_14 a0_15 a0_16 hA
  have HA := Aside0.mk hA
  have HIN := Aside0.mk hin
  have HIN2 := Aside0.mk hin2
  have HR := Aside0.mk hr0_12
  have HC := Aside0.mk hc0_12
  clear hA hin hin2 hr0_12 hc0_12
  go_enter Try.func3, Try.ntmps3
  go_upto_region 1 with (fail)
  (try simp only [Act.put, List.setIfInBounds_toArray, List.set_cons_zero, List.set_cons_succ])
  have P0 := Aside0.mk (And.intro (heap_alloc_new w (.cells #[.int .i64 a0_0, .int .i64 a0_1, .string a0_2, .int .i64 a0_3, .int .i64 a0_4, .int .i64 a0_5, .int .i64 a0_6, .int .i64 a0_7, .bool a0_8, .int .i64 a0_9, .int .i64 a0_10, .int .i64 a0_11, .slice A0_12 l0_12.length c0_12, .int .i64 a0_13, .int .i64 a0_14, .int .i64 a0_15, .string a0_16] 26)) (below_alloc (Below.refl w.heap.size w) (.cells #[.int .i64 a0_0, .int .i64 a0_1, .string a0_2, .int .i64 a0_3, .int .i64 a0_4, .int .i64 a0_5, .int .i64 a0_6, .int .i64 a0_7, .bool a0_8, .int .i64 a0_9, .int .i64 a0_10, .int .i64 a0_11, .slice A0_12 l0_12.length c0_12, .int .i64 a0_13, .int .i64 a0_14, .int .i64 a0_15, .string a0_16] 26)))
  generalize w.alloc (.cells #[.int .i64 a0_0, .int .i64 a0_1, .string a0_2, .int .i64 a0_3, .int .i64 a0_4, .int .i64 a0_5, .int .i64 a0_6, .int .i64 a0_7, .bool a0_8, .int .i64 a0_9, .int .i64 a0_10, .int .i64 a0_11, .slice A0_12 l0_12.length c0_12, .int .i64 a0_13, .int .i64 a0_14, .int .i64 a0_15, .string a0_16] 26) = w0 at P0 ⊢
  go_wp2_with (refine wpl_loadG (by rfl) 26 (.tmp 1) rfl _ rfl P0.out.1 Try.underlying26 rfl info17 ?_)
  refine (bollardlaw20_in.calls k1 a0_0 a0_1 a0_2 a0_3 a0_4 a0_5 a0_6 a0_7 a0_8 a0_9 a0_10 a0_11 A0_12 c0_12 l0_12 a0_13 a0_14 a0_15 a0_16 r1 w0 (Kd.C_below HR.out P0.out.2) HC.out HIN.out).mono ?_
  rintro e w1 ⟨rfl, hb⟩
  have P1 := Aside0.mk (And.intro (blk_below P0.out.1 hb) (below_step P0.out.2 hb))
  clear hb P0
  cases r1 with
  | false =>
    go_wp2_with fail
    refine (bollardlaw20_awake.calls eqOk _).mono ?_
    rintro e w2 ⟨rfl, hb⟩
    have BW := Aside0.mk (below_step P1.out.2 hb)
    clear hb
    go_wp2_with fail
    go_ret
    exact ⟨rfl, BW.out⟩
  | true =>
    go_wp2_with (refine wpl_loadG (by rfl) 26 (.tmp 1) rfl _ rfl P1.out.1 Try.underlying26 rfl info17 ?_)
    refine (codec_Request.calls (⟨a0_0, a0_1, a0_2, a0_3, a0_4, a0_5, a0_6, a0_7, a0_8, a0_9, a0_10, a0_11, (.slice A0_12 l0_12.length c0_12), a0_13, a0_14, a0_15, a0_16, 0, 0, 0, 0, 0, 0, .slice none 0 0, .slice none 0 0, .slice none 0 0⟩ : Msg) A0_12 c0_12 l0_12 w1 eqOk HA.out.wf HA.out.z HA.out.kind rfl (Kd.C_below HR.out P1.out.2) HC.out (HIN2.out (by first | rfl | trivial)) (rqWr_bytes _ _).1).mono ?_
    rintro e w2 ⟨⟨v, b, n, rfl, hv, ho⟩, hb⟩
    have HO := Aside0.mk ho
    obtain ⟨Av, cv, ev⟩ := Kd.R_slice hv
    subst ev
    have V2 := Aside0.mk hv
    have P2 := Aside0.mk (And.intro (blk_below P1.out.1 hb) (below_step P1.out.2 hb))
    clear hv hb ho P1
    go_wp2_with (refine wpl_loadG (by rfl) 26 (.tmp 1) rfl _ rfl P2.out.1 Try.underlying26 rfl info17 ?_)
    refine (ref_same (⟨a0_0, a0_1, a0_2, a0_3, a0_4, a0_5, a0_6, a0_7, a0_8, a0_9, a0_10, a0_11, (.slice A0_12 l0_12.length c0_12), a0_13, a0_14, a0_15, a0_16, 0, 0, 0, 0, 0, 0, .slice none 0 0, .slice none 0 0, .slice none 0 0⟩ : Msg) A0_12 c0_12 l0_12 w2 HA.out.wf HA.out.z HA.out.len HT.out (Kd.C_below HR.out P2.out.2) HC.out (HIN2.out (by first | rfl | trivial)) b n HO.out).mono ?_
    rintro e w3 ⟨⟨v, rfl, hv⟩, hb⟩
    obtain ⟨Ad, cd, ed⟩ := Kd.R_slice hv
    subst ed
    have D3 := Aside0.mk hv
    have V3 := Aside0.mk (Kd.R_below V2.out hb)
    have B3 := Aside0.mk (below_step P2.out.2 hb)
    clear hv hb V2 P2
    have HLB := Aside0.mk (out_len HO.out (HIN2.out (by first | rfl | trivial)))
    clear HO
    have HE := Aside0.mk (Bp.bytes_f b b (by have := HLB.out; omega) (b.length + 1) (Nat.le_refl _))
    rw [decide_eq_true rfl] at HE
    go_wp2_with fail
    refine (bollardalike_Bytes.calls (b.length + 1) Av cv b Ad cd b true w3 (Kd.R_reads' V3.out).2.2 (Kd.R_reads' V3.out).2.1 (Kd.R_reads' D3.out).2.2 (Kd.R_reads' D3.out).2.1 HE.out).mono ?_
    rintro e w4 ⟨rfl, hb⟩
    have B4 := Aside0.mk (below_step B3.out hb.below)
    clear hb B3 V3 D3
    have d1 : (n == n) = true := by simp
    go_wp2_with fail
    refine (bollardlaw20_awake.calls eqOk _).mono ?_
    rintro e w5 ⟨rfl, hb⟩
    have BW := Aside0.mk (below_step B4.out hb)
    clear hb
    go_wp2_with fail
    go_ret
    exact ⟨rfl, BW.out⟩

end Go.Proofs.Ytncfofnikmfjbaa.PCi

/- CodecRequests: what its law's f says; the walk stands in CfRqLaw. -/
namespace Go.Proofs.Ytncfofnikmfjbaa.Pure
open Go Go.RowKit Go.Proofs.Ytncfofnikmfjbaa.PCi
theorem CodecRequests : bollardlaw20_CodecRequests.Pure := by
  intro a0 a1 a2 a3 a4 a5 a6 a7 a8 a9 a10 a11 l a13 a14 a15 a16 h0 h1 h2 h3 h4 h5 h6 h7 h9 h10 h11 h12 h13 h14 h15 h16
  exact ⟨0, if_pos ⟨h0, h1, h2, h3, h4, h5, h6, h7, h9, h10, h11, h12, h13, h14, h15, h16⟩⟩
end Go.Proofs.Ytncfofnikmfjbaa.Pure

/- What reads as data of a type is of the type's kind: whole numbers, bools, strings, slices, structs, one inside the other. -/
namespace Go.Proofs.Ytncfofnikmfjbaa.Op
open Go Go.RowKit Go.ChangeShapes Go.WideShapes Go.Proofs.YtncfofnikmfjbaaW.PrintWords Go.Proofs.YtncfofnikmfjbaaW.PrintLast Go.Proofs.YtncfofnikmfjbaaW.PrintMore
set_option linter.unusedVariables false
set_option linter.unusedSimpArgs false

/-- What reads as data of type t, no heavier than the form lets, is of this kind; Q tells more of it. -/
def Opens {α : Type} (P : Program) (t : TypeId) (d : Kd α) (Q : α → Prop) : Prop :=
  P.cellsOf t = d.sz ∧ ∀ {H : Type} (enc : TypeId × Value → H) (w : World) (base : Nat) (spare : Nat → Bool) (held : Bool) (fuel : Nat) (cs : List Value) (x : DataW H × List MemPlace),
    DataW.trod enc P w base spare held fuel t cs = some x → (∀ n ∈ x.1.weights P t, n ≤ reachBytes) → ∃ a : α, d.K w a cs ∧ Q a

section
variable {P : Program} {t : TypeId}
theorem opens_int {k : IntKind} (ht : P.underlying t = some (.int k)) (hc : P.cellsOf t = 1) : Opens P t (Kd.int k) (fun a => (Lit.int k a).wf = true) := by
  refine ⟨hc, fun enc w base spare held fuel cs x h _ => ?_⟩
  obtain ⟨n, rfl, _, hw⟩ := DataW.trod_int ht h
  exact ⟨n, rfl, hw⟩
theorem opens_bool (ht : P.underlying t = some .bool) (hc : P.cellsOf t = 1) : Opens P t Kd.bool (fun _ => True) := by
  refine ⟨hc, fun enc w base spare held fuel cs x h _ => ?_⟩
  obtain ⟨b, rfl, _⟩ := DataW.trod_bool ht h
  exact ⟨b, rfl, trivial⟩
theorem opens_string (ht : P.underlying t = some .string) (hc : P.cellsOf t = 1) : Opens P t Kd.string (fun s => s.size ≤ 140737488351232) := by
  refine ⟨hc, fun enc w base spare held fuel cs x h hx => ?_⟩
  obtain ⟨s, rfl, rfl, _⟩ := DataW.trod_string ht h
  refine ⟨s, rfl, ?_⟩
  have := hx s.data.toList.length (by simp [DataW.weights])
  rw [Array.length_toList] at this
  exact this
theorem mem_weightsAll {H : Type} {P : Program} {e : TypeId} : ∀ {ds : List (DataW H)} {d : DataW H}, d ∈ ds → ∀ n ∈ d.weights P e, n ∈ DataW.weightsAll P e ds
  | d0 :: ds, d, h, n, hn => by
    simp only [DataW.weightsAll, List.mem_append]
    rcases List.mem_cons.1 h with rfl | h
    · exact .inl hn
    · exact .inr (mem_weightsAll h n hn)
theorem opens_slice {e : TypeId} {α : Type} {d : Kd α} {Q : α → Prop} {B : Nat} (ht : P.underlying t = some (.slice e)) (hc : P.cellsOf t = 1) (hB : P.bytesOf e = B) (hd : Opens P e d Q) :
    Opens P t (Kd.slice e d) (fun xs => xs.length * B ≤ 140737488351232 ∧ ∀ y ∈ xs, Q y) := by
  refine ⟨hc, fun enc w base spare held fuel cs x h hx => ?_⟩
  rcases Go.Deep.open_slice ht h with ⟨rfl, rfl⟩ | ⟨a, len, cap, m, n, D, Pl, rfl, hb, hl, hm, hmm, rfl, hi⟩
  · exact ⟨[], ⟨none, 0, rfl, Nat.le_refl _, ⟨rfl, by simp, fun h => by simp at h⟩⟩, by simp, by simp⟩
  · have hml : len ≤ m := by rw [hmm]; split <;> omega
    simp only [DataW.weights, ht] at hx
    have key : ∀ i, i < len → ∃ (y : α) (cs' : List Value), w.cells? base (a.add (i * P.cellsOf e)) (P.cellsOf e) = some cs' ∧ d.K w y cs' ∧ Q y := by
      intro i hil
      obtain ⟨cs', h1, h2⟩ := hi i (by omega)
      obtain ⟨y, hK, hQ⟩ := hd.2 enc w base spare held n cs' _ h2 (fun q hq => hx q (List.mem_cons_of_mem _ (List.mem_append_left _ (mem_weightsAll (List.mem_map.2 ⟨i, List.mem_range.2 hil, rfl⟩) q hq))))
      exact ⟨y, cs', h1, hK, hQ⟩
    have hne : ∀ i, i < len → Nonempty α := fun i hil => let ⟨y, _⟩ := key i hil; ⟨y⟩
    rcases Nat.eq_zero_or_pos len with h0 | h0
    · subst h0
      exact ⟨[], ⟨some a, cap, rfl, Nat.zero_le _, ⟨rfl, by simp, fun h => by simp at h⟩⟩, by simp, by simp⟩
    · have : Nonempty α := hne 0 h0
      let f : Nat → α := fun i => if hil : i < len then (key i hil).choose else Classical.choice this
      have hf : ∀ i, i < len → ∃ cs', w.cells? base (a.add (i * P.cellsOf e)) (P.cellsOf e) = some cs' ∧ d.K w (f i) cs' ∧ Q (f i) := by
        intro i hil
        have := (key i hil).choose_spec
        simp only [f, dif_pos hil]
        exact this
      have hlen : ((List.range len).map f).length = len := by simp
      refine ⟨(List.range len).map f, ⟨some a, cap, by rw [hlen], by rw [hlen]; exact hl, ⟨rfl, by rw [hlen]; simp only [maxLen] at hm; omega, fun _ => ⟨a, rfl, fun j p hj => ?_⟩⟩⟩, ?_, ?_⟩
      · have hjl : j < len := by
          have := (List.getElem?_eq_some_iff.1 hj).1
          rw [hlen] at this
          exact this
        have hp : f j = p := by
          rw [List.getElem?_map, List.getElem?_range hjl] at hj
          exact Option.some.inj hj
        obtain ⟨cs', h1, hK, _⟩ := hf j hjl
        obtain ⟨_, h2, h3⟩ := World.cells?_some h1
        refine ⟨cs', d.K_len hK, hp ▸ hK, fun i u hu => ?_⟩
        have hil : i < P.cellsOf e := by
          have := (List.getElem?_eq_some_iff.1 hu).1
          omega
        have := h3 i hil
        rw [Go.Deep.add_add, hd.1, hu] at this
        exact this
      · have := hx _ (List.mem_cons_self)
        rw [hB] at this
        simp only [List.length_map, List.length_range] at this
        rw [hlen]
        have h4 : len * B ≤ (len + (m - len)) * B := Nat.mul_le_mul_right _ (by omega)
        simp only [reachBytes] at this
        omega
      · intro y hy
        obtain ⟨i, hir, rfl⟩ := List.mem_map.1 hy
        obtain ⟨_, _, _, hQ⟩ := hf i (List.mem_range.1 hir)
        exact hQ
/-- A struct's fields, from a place on. -/
def OpensF {α : Type} (P : Program) (fl : List Field) (off : Nat) (d : Kd α) (Q : α → Prop) : Prop :=
  ∀ {H : Type} (enc : TypeId × Value → H) (w : World) (base : Nat) (spare : Nat → Bool) (held : Bool) (n : Nat) (cs : List Value) (ys : List (DataW H × List MemPlace)),
    ys.length = fl.length → (∀ (i : Nat) (f : Field), fl[i]? = some f → DataW.trod enc P w base spare held n f.type ((cs.drop f.offset).take (P.cellsOf f.type)) = ys[i]?) →
    (∀ q ∈ DataW.weightsEach P (fl.map (·.type)) (ys.map (·.1)), q ≤ reachBytes) → ∃ a : α, d.K w a ((cs.drop off).take d.sz) ∧ Q a
theorem opensF_one {f : Field} {off : Nat} {α : Type} {d : Kd α} {Q : α → Prop} (ho : f.offset = off) (h : Opens P f.type d Q) : OpensF P [f] off d Q := by
  intro H enc w base spare held n cs ys hl hf hx
  match ys, hl with
  | [y], _ =>
    have := hf 0 f rfl
    rw [ho, h.1] at this
    refine h.2 enc w base spare held n _ y this (fun q hq => hx q ?_)
    simp only [List.map_cons, List.map_nil, DataW.weightsEach, List.append_nil]
    exact hq
theorem opensF_cons {f : Field} {fl : List Field} {off : Nat} {α β : Type} {d : Kd α} {d' : Kd β} {Q : α → Prop} {Q' : β → Prop} (ho : f.offset = off) (h : Opens P f.type d Q) (h' : OpensF P fl (off + d.sz) d' Q') :
    OpensF P (f :: fl) off (Kd.pair d d') (fun x => Q x.1 ∧ Q' x.2) := by
  intro H enc w base spare held n cs ys hl hf hx
  match ys, hl with
  | y :: ys, hl =>
    have h0 := hf 0 f rfl
    rw [ho, h.1] at h0
    simp only [List.map_cons, DataW.weightsEach, List.mem_append] at hx
    obtain ⟨a, hK, hQ⟩ := h.2 enc w base spare held n _ y h0 (fun q hq => hx q (.inl hq))
    obtain ⟨b, hK', hQ'⟩ := h' enc w base spare held n cs ys (by simpa using hl) (fun i f hi => hf (i + 1) f (by simpa using hi)) (fun q hq => hx q (.inr hq))
    refine ⟨(a, b), ⟨_, _, ?_, hK, hK'⟩, hQ, hQ'⟩
    show (cs.drop off).take (d.sz + d'.sz) = _
    rw [List.take_add, List.drop_drop]
theorem opens_struct {fs : Array Field} {fl : List Field} {α β : Type} {d : Kd α} {Q : α → Prop} (f : β → α) (g : α → β) (hg : ∀ a, f (g a) = a) (ht : P.underlying t = some (.struct fs)) (hfl : fs.toList = fl) (hc : P.cellsOf t = d.sz) (h : OpensF P fl 0 d Q) :
    Opens P t (Kd.iso d f) (fun b => Q (f b)) := by
  refine ⟨hc, fun enc w base spare held fuel cs x hx hw => ?_⟩
  obtain ⟨xs, n, _, rfl, hl, hxl, hf⟩ := DataW.trod_struct ht hx
  simp only [DataW.weights, ht] at hw
  have hfl' : fl.length = fs.size := by rw [← hfl, Array.length_toList]
  obtain ⟨a, hK, hQ⟩ := h enc w base spare held n cs xs (by omega) (fun i fd hi => hf i fd (by rw [← hfl] at hi; simpa using hi)) (by rw [← hfl]; exact hw)
  refine ⟨g a, ?_, by show Q (f (g a)); rw [hg]; exact hQ⟩
  show d.K w (f (g a)) cs
  rw [hg]
  have : (cs.drop 0).take d.sz = cs := by rw [List.drop_zero, ← hc, ← hl, List.take_length]
  rw [this] at hK
  exact hK
/-- At a law's own argument. -/
theorem Opens.arg {α : Type} {d : Kd α} {Q : α → Prop} (h : Opens P t d Q) {H : Type} {enc : TypeId × Value → H} {W : World} {spare : Nat → Bool} {held : Bool} {v : Value} {x : DataW H} {p : List MemPlace} {ts : List TypeId} {ds : List (DataW H)} {j : Nat}
    (hsz : (DataW.weightsEach P ts ds).all (· ≤ reachBytes) = true) (hj : ts[j]? = some t) (hx : ds[j]? = some x) (ht : DataW.Trod enc P W 0 spare held t v x p) : ∃ a : α, d.K W a v.cells.toList ∧ Q a := by
  obtain ⟨fuel, hf⟩ := ht
  refine h.2 enc W 0 spare held fuel _ _ hf (fun n hn => ?_)
  have := List.all_eq_true.1 hsz n (DataW.weights_mem_each hj hx n hn)
  simpa using this
end
end Go.Proofs.Ytncfofnikmfjbaa.Op
