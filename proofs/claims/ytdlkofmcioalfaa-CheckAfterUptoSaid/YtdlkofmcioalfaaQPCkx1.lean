import Derived.Test.YtdlkofmcioalfaaQChRQ
import Derived.Test.YtdlkofmcioalfaaQPCkx6
import Derived.Outline
import Derived.StillTailTactics
import Derived.RegionTactic
import Derived.BigRegion
import Derived.Lib.BufferWrite
import Derived.Test.YtdlkofmcioalfaaQPCkx3
namespace Go.Proofs.Ytdlkofmcioalfaa.PCk
open Go.RowKit Go.Proofs.YtdlkofmcioalfaaW.PrintWords Go.Proofs.YtdlkofmcioalfaaW.PrintLast Go.Proofs.YtdlkofmcioalfaaW.PrintMore
attribute [local go_sem] max2_int min2_int max_two min_two max_three min_three max_four min_four
set_option linter.unusedVariables false
set_option linter.unusedSimpArgs false

/-! ### the document's rows, plain; an old row behind an append -/
theorem ORow.stay {α : Type} {enc : α → List Value} {w w1 : World} {base e sz : Nat} {v v0 : Value} {xs xs0 : List α} (h : ORow enc w base e sz v xs) (h0 : ORow enc w base e sz v0 xs0) (h1 : ORow enc w1 base e sz v xs) (hl : xs0.length ≤ xs.length) (hg : w.grownBy w1 v.ownBlock) : ORow enc w1 base e sz v0 xs0 := by
  rcases h0.2 with ⟨e1, e2⟩ | ⟨g0, cap0, cur0, e1, hb0, hg0, hn0, hm0, hs0, ht0⟩
  · exact ⟨h0.1, .inl ⟨e1, e2⟩⟩
  · by_cases hv : v.ownBlock = some g0
    · rcases h.2 with ⟨d1, d2⟩ | ⟨g, cap, cur, d1, hb, hgg, hn, hm, hs, ht⟩
      · rw [d1] at hv; cases hv
      · rcases h1.2 with ⟨c1, c2⟩ | ⟨g', cap', cur', c1, hb', hg', hn', hm', hs', ht'⟩
        · rw [c1] at hv; cases hv
        · rw [d1] at hv c1
          cases Option.some.inj (show some g = some g0 from hv)
          injection c1 with k1 k2 k3
          injection k1 with k1
          injection k1 with k1 _ _
          subst k1
          subst k3
          rw [hgg] at hg0
          injection hg0 with hg0
          injection hg0 with hg0 _ _
          subst hg0
          refine ⟨h0.1, .inr ⟨_, cap0, cur', e1, hb0, hg', hn0, hm0, hs'.trans (hs.symm.trans hs0), ?_⟩⟩
          have hle : xs0.length * sz ≤ xs.length * sz := Nat.mul_le_mul_right _ hl
          rw [← ht0, show cur'.toList.take (xs0.length * sz) = (cur'.toList.take (xs.length * sz)).take (xs0.length * sz) from by rw [List.take_take, Nat.min_eq_left hle], ht', ← ht, List.take_take, Nat.min_eq_left hle]
    · exact own_move h0 fun k hk => by
        have hk2 : k = g0 := by rw [e1] at hk; exact (Option.some.inj (show some g0 = some k from hk)).symm
        subst hk2
        exact hg.block k (own_lt h0 k hk) fun e => hv (by cases hvb : v.ownBlock with | none => rw [hvb] at e; cases e | some _ => rw [hvb] at e; exact e.symm)
theorem toList_loop (bs : ByteArray) : ∀ (n i : Nat) (r : List UInt8), bs.size - i = n → ByteArray.toList.loop bs i r = r.reverse ++ bs.data.toList.drop i
  | 0, i, r, h => by
    rw [ByteArray.toList.loop, if_neg (by omega)]
    have : bs.data.toList.drop i = [] := List.drop_eq_nil_of_le (by rw [Array.length_toList]; show bs.size ≤ i; omega)
    rw [this, List.append_nil]
  | n + 1, i, r, h => by
    have hi : i < bs.data.size := by show i < bs.size; omega
    have e : bs.data.toList.drop i = bs.data[i] :: bs.data.toList.drop (i + 1) := List.drop_eq_getElem_cons (by rw [Array.length_toList]; exact hi)
    rw [ByteArray.toList.loop, if_pos (by omega), toList_loop bs n (i + 1) _ (by omega), List.reverse_cons, List.append_assoc, e]
    have e2 : bs.get! i = bs.data[i] := by unfold ByteArray.get!; exact getElem!_pos bs.data i hi
    rw [e2]
    rfl
theorem toList_data (bs : ByteArray) : bs.toList = bs.data.toList := by
  have := toList_loop bs _ 0 [] rfl
  simpa [ByteArray.toList] using this
theorem toList_inj {a b : ByteArray} (h : a.toList = b.toList) : a = b := by
  rw [toList_data, toList_data] at h
  cases a with
  | mk x =>
    cases b with
    | mk y =>
      cases x with
      | mk x =>
        cases y with
        | mk y =>
          have : x = y := h
          rw [this]
theorem str_t {a b : ByteArray} (h : a = b) : (a.toList == b.toList) = true := by rw [h]; exact beq_self_eq_true _
theorem str_f {a b : ByteArray} (h : ¬ a = b) : (a.toList == b.toList) = false := beq_eq_false_iff_ne.mpr (fun e => h (toList_inj e))
theorem rwL_cons (st nx fr : Int) (q : Option SB) (b : SB) (l : List SB) : rwL st nx fr q (b :: l) = (rwB st nx fr b || (match q with | none => false | some q => rwP q b) || rwL st nx fr (some b) l) := by cases q <;> rfl
theorem rows_l0 (st nx fr : Int) (l : List SB) (hl : l.length ≤ 140737488355328) :
    ∀ n i : Nat, i + n = l.length → bollardref21_rows.l0 (n + 1) st nx fr l (i : Int) = some (!rwL st nx fr (if i = 0 then none else some (rd_T61 l ((i : Int) - 1))) (l.drop i))
  | 0, i, hi => by
    rw [bollardref21_rows.l0, if_neg (by omega), List.drop_of_length_le (by omega)]
    rfl
  | n + 1, i, hi => by
    have ih := rows_l0 st nx fr l hl n (i + 1) (by omega)
    have h0 : l.drop i = l.getD i z61 :: l.drop (i + 1) := by
      have hd2 := drop_get (l := l) (i := (i : Int)) z61 (by omega) (by omega)
      rw [show ((i : Int)).toNat = i from by omega, show ((i : Int) + 1).toNat = i + 1 from by omega] at hd2
      exact hd2
    have hrd : rd_T61 l (i : Int) = l.getD i z61 := rfl
    have ew : wrap64 ((i : Int) + 1) = ((i + 1 : Nat) : Int) := by unfold wrap64; omega
    have ih2 : bollardref21_rows.l0 (n + 1) st nx fr l (wrap64 ((i : Int) + 1)) = some (!rwL st nx fr (some (l.getD i z61)) (l.drop (i + 1))) := by
      rw [ew, ih, if_neg (by omega), show (((i + 1 : Nat) : Int) - 1) = (i : Int) from by omega, hrd]
    rw [bollardref21_rows.l0, if_pos (by omega), if_pos (by omega), h0, rwL_cons, hrd]
    generalize l.getD i z61 = b at ih2 ⊢
    generalize bollardref21_rows.l0 (n + 1) st nx fr l (wrap64 ((i : Int) + 1)) = T at ih2 ⊢
    generalize rwL st nx fr (some b) (l.drop (i + 1)) = U at ih2 ⊢
    clear ih h0 hrd ew
    subst ih2
    by_cases hi0 : i = 0
    · subst hi0
      rw [if_pos rfl]
      simp only [rwB, if_neg (show ¬ ((0 : Nat) : Int) > 0 from by decide)]
      by_cases c1 : b.f0 < fr <;> by_cases c2 : wrap64 (b.f0 + b.f1) ≤ fr <;> by_cases c3 : nx < wrap64 (b.f0 + b.f1) <;> by_cases c4 : wrap64 (b.f0 + b.f1) ≤ st <;> simp [c1, c2, c3, c4]
    · have ew2 : wrap64 ((i : Int) - 1) = (i : Int) - 1 := by unfold wrap64; omega
      rw [if_neg hi0, ew2]
      simp only [rwB, rwP, if_pos (show (i : Int) > 0 from by omega), if_pos (show (0 : Int) ≤ (i : Int) - 1 from by omega), if_pos (show (i : Int) - 1 < (l.length : Int) from by omega)]
      generalize rd_T61 l ((i : Int) - 1) = q
      by_cases c1 : b.f0 < fr <;> by_cases c2 : wrap64 (b.f0 + b.f1) ≤ fr <;> by_cases c3 : nx < wrap64 (b.f0 + b.f1) <;> by_cases c4 : wrap64 (b.f0 + b.f1) ≤ st <;> by_cases c5 : b.f0 < wrap64 (q.f0 + q.f1) <;> by_cases c6 : b.f0 ≤ q.f0 <;> simp [c1, c2, c3, c4, c5, c6]
theorem rows_f (st nx fr : Int) (l : List SB) (hl : l.length ≤ 140737488355328) : bollardref21_rows.f (l.length + 1) st nx fr l = some (!rwL st nx fr none l) := rows_l0 st nx fr l hl l.length 0 (by omega)
/-! ### the state of the document's Saw -/
structure RSt (base m : Nat) (w W : World) (vF : Value) (FA : List Fct) (vS : Value) (SA : List Snt) (vP : Value) (PA : List Spn) (v : Value) (xs : List Fct) (u : Value) (ys : List Snt) : Prop where
  hg : W.heap[m]? = some (.cells #[vF, vS, vP] 32 (0, 0))
  hF : ORow Fct.cs W base 88 9 vF FA
  hS : ORow Snt.cs W base 90 5 vS SA
  hP : ORow Spn.cs W base 86 4 vP PA
  xF : ORow Fct.cs W base 88 9 v xs
  xS : ORow Snt.cs W base 90 5 u ys
  lF : FA.length ≤ xs.length
  lS : SA.length ≤ ys.length
  keep : Keep base m w W
  bs : base ≤ W.heap.size
theorem ORow.below {α : Type} {enc : α → List Value} {w w1 : World} {base e sz : Nat} {v : Value} {xs : List α} (h : ORow enc w base e sz v xs) (hb : Below w.heap.size w w1) : ORow enc w1 base e sz v xs := h.move fun k hk => hb.block k (own_lt h k hk)
/-- A row of another type stands. -/
theorem ORow.apart {α β : Type} {enc : α → List Value} {enc2 : β → List Value} {w w1 : World} {base e e2 sz sz2 : Nat} {v u : Value} {xs : List α} {ys : List β} (h : ORow enc w base e sz v xs) (h2 : ORow enc2 w base e2 sz2 u ys) (hne : e ≠ e2) (hg : w.grownBy w1 u.ownBlock) : ORow enc w1 base e sz v xs :=
  h.move fun k hk => hg.block k (own_lt h k hk) fun hu => by
    obtain ⟨_, c1, h3⟩ := h.typed k hk
    obtain ⟨_, c2, h4⟩ := h2.typed k (by cases hv : u.ownBlock with | none => rw [hv] at hu; cases hu | some q => rw [hv] at hu; exact hu.symm ▸ rfl)
    rw [h3] at h4
    injection h4 with h4
    injection h4 with _ h5 _
    exact hne h5
theorem blk_apart {β : Type} {enc2 : β → List Value} {w w1 : World} {base e e2 sz2 m : Nat} {u : Value} {ys : List β} {cells : Array Value} (h : w.heap[m]? = some (.cells cells e (0, 0))) (h2 : ORow enc2 w base e2 sz2 u ys) (hne : e ≠ e2) (hg : w.grownBy w1 u.ownBlock) : w1.heap[m]? = some (.cells cells e (0, 0)) :=
  (hg.block m (blk_lt h) fun hu => by
    obtain ⟨_, c2, h4⟩ := h2.typed m (by cases hv : u.ownBlock with | none => rw [hv] at hu; cases hu | some q => rw [hv] at hu; exact hu.symm ▸ rfl)
    rw [h] at h4
    injection h4 with h4
    injection h4 with _ h5 _
    exact hne h5).trans h
section
variable {base m : Nat} {w W W1 : World} {vF vS vP v u : Value} {FA xs : List Fct} {SA ys : List Snt} {PA : List Spn}
theorem RSt.below (h : RSt base m w W vF FA vS SA vP PA v xs u ys) (hb : Below W.heap.size W W1) : RSt base m w W1 vF FA vS SA vP PA v xs u ys :=
  ⟨blk_below h.hg hb, h.hF.below hb, h.hS.below hb, h.hP.below hb, h.xF.below hb, h.xS.below hb, h.lF, h.lS, h.keep.trans (Keep.of_below hb), Nat.le_trans h.bs hb.size⟩
theorem RSt.fapp (h : RSt base m w W vF FA vS SA vP PA v xs u ys) {v1 : Value} {x : Fct} (h1 : ORow Fct.cs W1 base 88 9 v1 (xs ++ [x])) (h2 : ORow Fct.cs W1 base 88 9 v xs) (hg : W.grownBy W1 v.ownBlock) : RSt base m w W1 vF FA vS SA vP PA v1 (xs ++ [x]) u ys :=
  ⟨blk_apart h.hg h.xF (by decide) hg, h.xF.stay h.hF h2 h.lF hg, h.hS.apart h.xF (by decide) hg, h.hP.apart h.xF (by decide) hg, h1, h.xS.apart h.xF (by decide) hg, by have := h.lF; rw [List.length_append]; omega, h.lS, h.keep.grown h.xF (.inl rfl) hg, Nat.le_trans h.bs hg.size⟩
theorem RSt.sapp (h : RSt base m w W vF FA vS SA vP PA v xs u ys) {u1 : Value} {y : Snt} (h1 : ORow Snt.cs W1 base 90 5 u1 (ys ++ [y])) (h2 : ORow Snt.cs W1 base 90 5 u ys) (hg : W.grownBy W1 u.ownBlock) : RSt base m w W1 vF FA vS SA vP PA v xs u1 (ys ++ [y]) :=
  ⟨blk_apart h.hg h.xS (by decide) hg, h.hF.apart h.xS (by decide) hg, h.xS.stay h.hS h2 h.lS hg, h.hP.apart h.xS (by decide) hg, h.xF.apart h.xS (by decide) hg, h1, h.lF, by have := h.lS; rw [List.length_append]; omega, h.keep.grown h.xS (.inr (.inl rfl)) hg, Nat.le_trans h.bs hg.size⟩
theorem RSt.old (h : RSt base m w W vF FA vS SA vP PA v xs u ys) : ChkP base W m FA SA PA := ⟨vF, vS, vP, h.hg, h.hF, h.hS, h.hP⟩
theorem RSt.floor {w0 : World} (h : RSt base m w W vF FA vS SA vP PA v xs u ys) (hb : Below base w0 w) (hm : base ≤ m) (h0 : base ≤ w0.heap.size) : Below base w0 W := h.keep.below hb hm h0
end
def recs (l : List SB) : Nat := (l.map fun b => b.f4.length).sum
theorem recs_cons (b : SB) (l : List SB) : recs (b :: l) = b.f4.length + recs l := by simp [recs]
theorem fStep_cons_bad {F : List Fct} {f : Fct} (h : fBad F f) : fStep F f = none := if_pos h
theorem fStep_met {F : List Fct} {f : Fct} (h : ¬ fBad F f) (h2 : fMet F f) : fStep F f = some F := (if_neg h).trans (if_pos h2)
theorem fStep_new {F : List Fct} {f : Fct} (h : ¬ fBad F f) (h2 : ¬ fMet F f) : fStep F f = some (F ++ [f]) := (if_neg h).trans (if_neg h2)
theorem sStep_bad {F : List Snt} {f : Snt} (h : sBad F f) : sStep F f = none := if_pos h
theorem sStep_met {F : List Snt} {f : Snt} (h : ¬ sBad F f) (h2 : sMet F f) : sStep F f = some F := (if_neg h).trans (if_pos h2)
theorem sStep_new {F : List Snt} {f : Snt} (h : ¬ sBad F f) (h2 : ¬ sMet F f) : sStep F f = some (F ++ [f]) := (if_neg h).trans (if_neg h2)
theorem fBad_cons {y f : Fct} {D : List Fct} : fBad (y :: D) f ↔ (y.key f ∧ rc y.r ≠ rc f.r) ∨ fBad D f := by simp [fBad]
theorem fMet_cons {y f : Fct} {D : List Fct} : fMet (y :: D) f ↔ y.key f ∨ fMet D f := by simp [fMet]
theorem fBad_nil {f : Fct} : ¬ fBad [] f := by simp [fBad]
theorem fMet_nil {f : Fct} : ¬ fMet [] f := by simp [fMet]
theorem sBad_cons {y f : Snt} {D : List Snt} : sBad (y :: D) f ↔ (y.key f ∧ y.b ≠ f.b) ∨ sBad D f := by simp [sBad]
theorem sMet_cons {y f : Snt} {D : List Snt} : sMet (y :: D) f ↔ y.key f ∨ sMet D f := by simp [sMet]
theorem sBad_nil {f : Snt} : ¬ sBad [] f := by simp [sBad]
theorem sMet_nil {f : Snt} : ¬ sMet [] f := by simp [sMet]
theorem below_setc {B g : Nat} {w0 w : World} (hb : Below B w0 w) (hg : B ≤ g) (j : Nat) (u : Value) : Below B w0 (w.setCell ⟨g, j, none⟩ u) :=
  ⟨hb.os, hb.tape, hb.output, by simpa using hb.size, fun k hk => (Below.heap_setCell w ⟨g, j, none⟩ u k (show k ≠ g from by omega)).trans (hb.block k hk)⟩
theorem refR_step {t : ByteArray} {p base : Int} {r : SR} {l : List SR} {F F' : List Fct} (h : fStep F ⟨t, p, wrap64 (base + r.f5), lk r⟩ = some F') : refR t p base (r :: l) F = refR t p base l F' := by rw [refR, h]; rfl
theorem refR_none {t : ByteArray} {p base : Int} {r : SR} {l : List SR} {F : List Fct} (h : fStep F ⟨t, p, wrap64 (base + r.f5), lk r⟩ = none) : refR t p base (r :: l) F = none := by rw [refR, h]; rfl
theorem wpl_app1 {α : Type} (enc : α → List Value) {P : Program} {ops : Array Oper} {Q : Exit → Act → World → Prop} {rest : List Oper} {o : Oper} {a : Act} {W : World} (hg : o.guard = none) (base : Nat) (s xx : Operand) (t e : TypeId) (z : Value) (sz bytes : Nat)
    (ho : o.op = .call { callee := .builtin .append, args := #[s, xx], argTypes := #[t, t] }) (hty : o.type = t) (ht : P.underlying t = some (.slice e)) (hinfo : (P.info? e).map (fun i => (i.zero, i.size, i.bytes)) = some (some z, sz, bytes)) (hz : z.cells.size = sz) (hs0 : 0 < sz) (hb0 : 0 < bytes)
    (v : Value) (xs : List α) (x : α) (hs : a.eval s = v) (hx : a.eval xx = .slice (some ⟨W.heap.size, 0, none⟩) 1 1) (hys : (enc x).length = sz) (h1 : ∀ u ∈ enc x, u.oneCell' = true)
    (HO : ORow enc W base e sz v xs) (hbase : base ≤ W.heap.size) (hl : (xs.length + 1) * bytes ≤ 140737488355328)
    (h : ∀ v1 w1, ORow enc w1 base e sz v1 (xs ++ [x]) → ORow enc w1 base e sz v xs → W.grownBy w1 v.ownBlock → (v1.ownBlock = v.ownBlock ∨ ∃ b, v1.ownBlock = some b ∧ W.heap.size ≤ b) → wpList P ops Q rest (a.put o.dst v1) w1) : wpList P ops Q (o :: rest) a (W.alloc (.cells (enc x).toArray e)) := by
  refine wpList_plain hg fun K' hK' => ?_
  exact wp_app1 enc base s xx t e z sz bytes ho ht hinfo hz hs0 hb0 v xs x hs hx hys h1 HO hbase hl fun v1 w1 a1 a2 a3 a4 => hK' _ _ (h v1 w1 a1 a2 a3 a4)
theorem fct_one (x : Fct) : ∀ u ∈ x.cs, u.oneCell' = true := by
  intro u hu
  simp only [Fct.cs, List.mem_cons, List.not_mem_nil, or_false] at hu
  rcases hu with rfl | rfl | rfl | rfl | rfl | rfl | rfl | rfl | rfl <;> rfl
theorem snt_one (x : Snt) : ∀ u ∈ x.cs, u.oneCell' = true := by
  intro u hu
  simp only [Snt.cs, List.mem_cons, List.not_mem_nil, or_false] at hu
  rcases hu with rfl | rfl | rfl | rfl | rfl <;> rfl
theorem spn_one (x : Spn) : ∀ u ∈ x.cs, u.oneCell' = true := by
  intro u hu
  simp only [Spn.cs, List.mem_cons, List.not_mem_nil, or_false] at hu
  rcases hu with rfl | rfl | rfl | rfl <;> rfl
theorem app_fct : (Try.prog.info? 88).map (fun i => (i.zero, i.size, i.bytes)) = some (some (.agg #[.string ⟨#[]⟩, .int .i64 0, .int .i64 0, .bool false, .string ⟨#[]⟩, .bool false, .string ⟨#[]⟩, .int .i64 0, .int .i64 0]), 9, 96) := by kernel_rfl
theorem app_snt : (Try.prog.info? 90).map (fun i => (i.zero, i.size, i.bytes)) = some (some (.agg #[.string ⟨#[]⟩, .int .i64 0, .int .i64 0, .int .i64 0, .int .i64 0]), 5, 48) := by kernel_rfl
theorem app_spn : (Try.prog.info? 86).map (fun i => (i.zero, i.size, i.bytes)) = some (some (.agg #[.string ⟨#[]⟩, .int .i64 0, .int .i64 0, .int .i64 0]), 4, 40) := by kernel_rfl
theorem refS_skip {t : ByteArray} {p : Int} {b : SB} {l : List SB} {S : List Snt} (h : b.f2 < 1) : refS t p (b :: l) S = refS t p l S := if_pos h
theorem refS_step {t : ByteArray} {p : Int} {b : SB} {l : List SB} {S S' : List Snt} (h : ¬ b.f2 < 1) (h2 : sStep S ⟨t, p, b.f2, b.f3, b.f0⟩ = some S') : refS t p (b :: l) S = refS t p l S' := by rw [refS, if_neg h, h2]; rfl
theorem refS_none {t : ByteArray} {p : Int} {b : SB} {l : List SB} {S : List Snt} (h : ¬ b.f2 < 1) (h2 : sStep S ⟨t, p, b.f2, b.f3, b.f0⟩ = none) : refS t p (b :: l) S = none := by rw [refS, if_neg h, h2]; rfl
/-! ### the end: what is stored -/
theorem ORow.setm {α : Type} {enc : α → List Value} {w : World} {base e sz m : Nat} {v : Value} {xs : List α} {cells : Array Value} {t : TypeId} (h : ORow enc w base e sz v xs) (hg : w.heap[m]? = some (.cells cells t (0, 0))) (hne : e ≠ t) (j : Nat) (u : Value) : ORow enc (w.setCell ⟨m, j, none⟩ u) base e sz v xs :=
  h.move fun k hk => Below.heap_setCell w ⟨m, j, none⟩ u k fun hkm => by
    obtain ⟨_, c1, h3⟩ := h.typed k hk
    rw [show k = m from hkm, hg] at h3
    injection h3 with h3
    injection h3 with _ h5 _
    exact hne h5.symm
structure RFin (base m : Nat) (w W : World) (v : Value) (xs : List Fct) (u : Value) (ys : List Snt) (vP : Value) (PA : List Spn) : Prop where
  hg : W.heap[m]? = some (.cells #[v, u, vP] 32 (0, 0))
  xF : ORow Fct.cs W base 88 9 v xs
  xS : ORow Snt.cs W base 90 5 u ys
  hP : ORow Spn.cs W base 86 4 vP PA
  keep : Keep base m w W
  bs : base ≤ W.heap.size
section
variable {base m : Nat} {w W W1 : World} {vF vS vP v u : Value} {FA xs : List Fct} {SA ys : List Snt} {PA : List Spn}
theorem RSt.fin (h : RSt base m w W vF FA vS SA vP PA v xs u ys) : RFin base m w ((W.setCell ⟨m, 0, none⟩ v).setCell ⟨m, 1, none⟩ u) v xs u ys vP PA := by
  have g1 : (W.setCell ⟨m, 0, none⟩ v).heap[m]? = some (.cells #[v, vS, vP] 32 (0, 0)) := by simpa using blk_set h.hg 0 v
  refine ⟨by simpa using blk_set g1 1 u, (h.xF.setm h.hg (by decide) _ _).setm g1 (by decide) _ _, (h.xS.setm h.hg (by decide) _ _).setm g1 (by decide) _ _, (h.hP.setm h.hg (by decide) _ _).setm g1 (by decide) _ _, (h.keep.set 0 v).set 1 u, by simpa using h.bs⟩
theorem RFin.below (h : RFin base m w W v xs u ys vP PA) (hb : Below W.heap.size W W1) : RFin base m w W1 v xs u ys vP PA :=
  ⟨blk_below h.hg hb, h.xF.below hb, h.xS.below hb, h.hP.below hb, h.keep.trans (Keep.of_below hb), Nat.le_trans h.bs hb.size⟩
theorem RFin.papp (h : RFin base m w W v xs u ys vP PA) {v1 : Value} {PB : List Spn} (h1 : ORow Spn.cs W1 base 86 4 v1 PB) (hg : W.grownBy W1 vP.ownBlock) : ChkP base (W1.setCell ⟨m, 2, none⟩ v1) m xs ys PB ∧ Keep base m w (W1.setCell ⟨m, 2, none⟩ v1) := by
  have g1 : W1.heap[m]? = some (.cells #[v, u, vP] 32 (0, 0)) := blk_apart h.hg h.hP (by decide) hg
  refine ⟨⟨v, u, v1, by simpa using blk_set g1 2 v1, (h.xF.apart h.hP (by decide) hg).setm g1 (by decide) _ _, (h.xS.apart h.hP (by decide) hg).setm g1 (by decide) _ _, h1.setm g1 (by decide) _ _⟩, (h.keep.grown h.hP (.inr (.inr rfl)) hg).set 2 v1⟩
end
theorem flat_set {α : Type} {enc : α → List Value} {sz : Nat} (he : ∀ x, (enc x).length = sz) : ∀ (xs : List α) (i : Nat) (x y : α), xs[i]? = some x → ∀ j u, j < sz → enc y = (enc x).set j u → (xs.set i y).flatMap enc = (xs.flatMap enc).set (i * sz + j) u
  | [], i, x, y, h, _, _, _, _ => by simp at h
  | z :: xs, 0, x, y, h, j, u, hj, hy => by
    cases h
    rw [List.set_cons_zero, List.flatMap_cons, List.flatMap_cons, Nat.zero_mul, Nat.zero_add, hy, List.set_append_left _ _ (by rw [he]; exact hj)]
  | z :: xs, i + 1, x, y, h, j, u, hj, hy => by
    have ih := flat_set he xs i x y (by simpa using h) j u hj hy
    rw [List.set_cons_succ, List.flatMap_cons, List.flatMap_cons, ih, List.set_append_right _ _ (by rw [he, Nat.succ_mul]; omega), he]
    congr 2
    rw [Nat.succ_mul]
    omega
theorem ORow.setx {α : Type} {enc : α → List Value} {w : World} {base e sz A_ n c : Nat} {xs : List α} (he : ∀ x, (enc x).length = sz) (h : ORow enc w base e sz (.slice (some ⟨A_, 0, none⟩) n c) xs) (i : Nat) (x y : α) (hx : xs[i]? = some x) (j : Nat) (u : Value) (hj : j < sz) (hy : enc y = (enc x).set j u) : ORow enc (w.setCell ⟨A_, i * sz + j, none⟩ u) base e sz (.slice (some ⟨A_, 0, none⟩) n c) (xs.set i y) := by
  have hi : i < xs.length := (List.getElem?_eq_some_iff.1 hx).1
  rcases h.2 with ⟨hv, h0⟩ | ⟨g, cap, cur, hv, hb, hg, hn, hm, hs, ht⟩
  · cases hv
  · injection hv with h1 h2 h3
    injection h1 with h1
    injection h1 with h1 _ _
    subst h1
    refine ⟨?_, .inr ⟨A_, cap, cur.setIfInBounds (i * sz + j) u, by rw [List.length_set]; congr 1, hb, blk_set hg _ u, by rw [List.length_set]; exact hn, hm, by simpa using hs, ?_⟩⟩
    · rw [flat_set he xs i x y hx j u hj hy, List.length_set, List.length_set]; exact h.1
    · rw [flat_set he xs i x y hx j u hj hy, List.length_set, Array.toList_setIfInBounds, ← ht, List.take_set]
section
variable {base m gP n c : Nat} {w W : World} {v u : Value} {xs : List Fct} {ys : List Snt} {PA : List Spn}
theorem RFin.pset (h : RFin base m w W v xs u ys (.slice (some ⟨gP, 0, none⟩) n c) PA) (i : Nat) (x y : Spn) (hx : PA[i]? = some x) (j : Nat) (z : Value) (hj : j < 4) (hy : y.cs = x.cs.set j z) : RFin base m w (W.setCell ⟨gP, i * 4 + j, none⟩ z) v xs u ys (.slice (some ⟨gP, 0, none⟩) n c) (PA.set i y) := by
  obtain ⟨hb, c1, hg⟩ := h.hP.typed gP rfl
  have hne : m ≠ gP := fun e => by
    have h1 := h.hg
    rw [e, hg] at h1
    injection h1 with h1
    injection h1 with _ h5 _
    exact absurd h5 (by decide)
  refine ⟨(Below.heap_setCell W ⟨gP, i * 4 + j, none⟩ z m hne).trans h.hg, h.xF.setm hg (by decide) _ _, h.xS.setm hg (by decide) _ _, h.hP.setx spn_len i x y hx j z hj hy, h.keep.row hg hb (.inr (.inr rfl)) (grown_set (below_grown (Below.refl W.heap.size W) gP) _ _), by simpa using h.bs⟩
theorem RFin.chk {vP : Value} (h : RFin base m w W v xs u ys vP PA) : ChkP base W m xs ys PA := ⟨v, u, vP, h.hg, h.xF, h.xS, h.hP⟩
end
theorem spnAt_get {P : List Spn} {k : Int} (h0 : 0 ≤ k) (h : k < (P.length : Int)) : P[k.toNat]? = some (spnAt P k) := by
  have hl : k.toNat < P.length := by omega
  unfold spnAt
  rw [List.getD_eq_getElem?_getD, List.getElem?_eq_getElem hl]
  rfl
theorem ORow.at2_ {w : World} {base gP n c : Nat} {PA : List Spn} (h : ORow Spn.cs w base 86 4 (.slice (some ⟨gP, 0, none⟩) n c) PA) (i : Nat) (x : Spn) (hx : PA[i]? = some x) : ∃ g, gP = g ∧ ∀ j u, x.cs[j]? = some u → w.cell? ⟨g, i * 4 + j, none⟩ = some u := by
  obtain ⟨g, e1, h1⟩ := h.at spn_len i x hx
  injection e1 with e1
  injection e1 with e1 _ _
  exact ⟨g, e1, h1⟩

end Go.Proofs.Ytdlkofmcioalfaa.PCk

namespace Go.Proofs.Ytdlkofmcioalfaa.PCk
open Go.RowKit Go.Proofs.YtdlkofmcioalfaaW.PrintWords Go.Proofs.YtdlkofmcioalfaaW.PrintLast Go.Proofs.YtdlkofmcioalfaaW.PrintMore
attribute [local go_sem] max2_int min2_int max_two min_two max_three min_three max_four min_four
set_option linter.unusedVariables false
set_option linter.unusedSimpArgs false

/-! ### the program's Saw and the document's tell the same -/
structure Sim (E R S : Value → Option Value) (F : List Fct) (T : List Snt) (P : List Spn) : Prop where
  hE : ∀ t p, E (partV t p) = if spnK t p P 0 (-1) < 0 then none else some (endsV (spnAt P (spnK t p P 0 (-1))).st (spnAt P (spnK t p P 0 (-1))).nx)
  hR : ∀ t p o v, R (placeV t p o) = some v ↔ ∃ x ∈ F, x.t = t ∧ x.p = p ∧ x.o = o ∧ v = rc x.r
  hS : ∀ t p q s v, 0 < q → (S (sentV t p q s) = some v ↔ ∃ x ∈ T, x.t = t ∧ x.p = p ∧ x.q = q ∧ x.s = s ∧ v = .int .i64 x.b)
theorem placeV_inj {t t' : ByteArray} {p p' o o' : Int} (h : placeV t p o = placeV t' p' o') : t = t' ∧ p = p' ∧ o = o' := by
  simp only [placeV, Value.agg.injEq, Array.mk.injEq, List.cons.injEq, Value.string.injEq, Value.int.injEq, true_and, and_true] at h
  exact ⟨h.1, h.2.1, by have h1 := h.2.2.1; have h2 := h.2.2.2; omega⟩
theorem sentV_inj {t t' : ByteArray} {p p' q q' s s' : Int} (h : sentV t p q s = sentV t' p' q' s') : t = t' ∧ p = p' ∧ q = q' ∧ s = s' := by
  simpa only [sentV, Value.agg.injEq, Array.mk.injEq, List.cons.injEq, Value.string.injEq, Value.int.injEq, true_and, and_true] using h
/-- A step's bounds: no sum overflows. -/
def Bnd (b : SB) : Prop := 0 ≤ b.f0 ∧ b.f0 ≤ 1152921504606846976 ∧ 1 ≤ b.f1 ∧ b.f1 ≤ 1152921504606846976 ∧ ∀ r ∈ b.f4, 0 ≤ r.f5 ∧ r.f5 ≤ 1152921504606846976
theorem wrap_ok {a b : Int} (h : 0 ≤ a ∧ a ≤ 1152921504606846976) (h2 : 0 ≤ b ∧ b ≤ 1152921504606846976) : wrap64 (a + b) = a + b := by unfold wrap64; omega
section
variable {E R S : Value → Option Value} {F : List Fct} {T : List Snt} {P : List Spn}
theorem Sim.fact (h : Sim E R S F T P) (t : ByteArray) (p o : Int) (r : SR) : (R (placeV t p o) = none ∨ R (placeV t p o) = some (recV r)) ↔ ¬ fBad F ⟨t, p, o, lk r⟩ := by
  constructor
  · rintro hh ⟨x, hx, ⟨h1, h2, h3⟩, h4⟩
    have h5 : R (placeV t p o) = some (rc x.r) := (h.hR t p o _).2 ⟨x, hx, h1, h2, h3, rfl⟩
    rcases hh with hh | hh
    · rw [hh] at h5; cases h5
    · rw [hh] at h5; exact h4 (Option.some.inj h5).symm
  · intro hb
    cases hv : R (placeV t p o) with
    | none => exact .inl rfl
    | some v =>
      right
      obtain ⟨x, hx, h1, h2, h3, rfl⟩ := (h.hR t p o v).1 hv
      refine congrArg some (Classical.byContradiction fun hne => hb ⟨x, hx, ⟨h1, h2, h3⟩, hne⟩)
theorem Sim.fstep (h : Sim E R S F T P) (t : ByteArray) (p o : Int) (r : SR) (hb : ¬ fBad F ⟨t, p, o, lk r⟩) : ∃ F', fStep F ⟨t, p, o, lk r⟩ = some F' ∧ Sim E (upd R (placeV t p o) (recV r)) S F' T P := by
  by_cases hm : fMet F ⟨t, p, o, lk r⟩
  · refine ⟨F, fStep_met hb hm, h.hE, fun t' p' o' v => ?_, h.hS⟩
    by_cases hk : placeV t' p' o' = placeV t p o
    · obtain ⟨rfl, rfl, rfl⟩ := placeV_inj hk
      rw [upd_same]
      obtain ⟨x, hx, ⟨h1, h2, h3⟩⟩ := hm
      have hall : ∀ y ∈ F, y.t = t' ∧ y.p = p' ∧ y.o = o' → rc y.r = recV r := fun y hy hk2 => Classical.byContradiction fun hne => hb ⟨y, hy, hk2, hne⟩
      constructor
      · intro e
        exact ⟨x, hx, h1, h2, h3, (Option.some.inj e).symm.trans (hall x hx ⟨h1, h2, h3⟩).symm⟩
      · rintro ⟨y, hy, k1, k2, k3, rfl⟩
        exact congrArg some (hall y hy ⟨k1, k2, k3⟩).symm
    · rw [upd_other _ _ hk]; exact h.hR t' p' o' v
  · refine ⟨_, fStep_new hb hm, h.hE, fun t' p' o' v => ?_, h.hS⟩
    by_cases hk : placeV t' p' o' = placeV t p o
    · obtain ⟨rfl, rfl, rfl⟩ := placeV_inj hk
      rw [upd_same]
      constructor
      · intro e
        exact ⟨_, List.mem_append_right _ (List.mem_singleton.2 rfl), rfl, rfl, rfl, (Option.some.inj e).symm⟩
      · rintro ⟨y, hy, k1, k2, k3, rfl⟩
        rcases List.mem_append.1 hy with hy | hy
        · exact absurd ⟨y, hy, k1, k2, k3⟩ hm
        · rw [List.mem_singleton.1 hy]; rfl
    · rw [upd_other _ _ hk, h.hR t' p' o' v]
      constructor
      · rintro ⟨y, hy, k⟩; exact ⟨y, List.mem_append_left _ hy, k⟩
      · rintro ⟨y, hy, k1, k2, k3, k4⟩
        rcases List.mem_append.1 hy with hy | hy
        · exact ⟨y, hy, k1, k2, k3, k4⟩
        · rw [List.mem_singleton.1 hy] at k1 k2 k3; exact absurd (by rw [← k1, ← k2, ← k3]) hk
end
/-- One batch's records. -/
theorem Sim.recs {E S : Value → Option Value} {T : List Snt} {P : List Spn} (t : ByteArray) (p base : Int) (hb : 0 ≤ base ∧ base ≤ 1152921504606846976) : ∀ (l : List SR) (R : Value → Option Value) (F : List Fct), Sim E R S F T P → (∀ r ∈ l, 0 ≤ r.f5 ∧ r.f5 ≤ 1152921504606846976) →
    (chgR t p base l R = none ∧ refR t p base l F = none) ∨ ∃ R' F', chgR t p base l R = some R' ∧ refR t p base l F = some F' ∧ Sim E R' S F' T P
  | [], R, F, h, _ => .inr ⟨R, F, rfl, rfl, h⟩
  | r :: l, R, F, h, hl => by
    have ew := wrap_ok hb (hl r (List.mem_cons_self ..))
    by_cases hbad : fBad F ⟨t, p, base + r.f5, lk r⟩
    · exact .inl ⟨chgR_no (fun hh => (h.fact t p _ r).1 hh hbad), by rw [refR, ew, fStep_cons_bad hbad]; rfl⟩
    · obtain ⟨F1, h1, h2⟩ := h.fstep t p (base + r.f5) r hbad
      have e1 : chgR t p base (r :: l) R = _ := chgR_ok ((h.fact t p _ r).2 hbad)
      have e2 : refR t p base (r :: l) F = refR t p base l F1 := by rw [refR, ew, h1]; rfl
      rw [e1, e2]
      exact Sim.recs t p base hb l _ F1 h2 fun x hx => hl x (List.mem_cons_of_mem _ hx)
theorem Sim.bats {E S : Value → Option Value} {T : List Snt} {P : List Spn} (t : ByteArray) (p : Int) : ∀ (l : List SB) (R : Value → Option Value) (F : List Fct), Sim E R S F T P → (∀ b ∈ l, Bnd b) →
    (chgB t p l R = none ∧ refB t p l F = none) ∨ ∃ R' F', chgB t p l R = some R' ∧ refB t p l F = some F' ∧ Sim E R' S F' T P
  | [], R, F, h, _ => .inr ⟨R, F, rfl, rfl, h⟩
  | b :: l, R, F, h, hl => by
    have hb := hl b (List.mem_cons_self ..)
    rcases Sim.recs t p b.f0 ⟨hb.1, hb.2.1⟩ b.f4 R F h hb.2.2.2.2 with ⟨h1, h2⟩ | ⟨R1, F1, h1, h2, h3⟩
    · exact .inl ⟨by rw [chgB, h1]; rfl, by rw [refB, h2]; rfl⟩
    · rw [chgB, refB, h1, h2]
      exact Sim.bats t p l R1 F1 h3 fun x hx => hl x (List.mem_cons_of_mem _ hx)
section
variable {E R S : Value → Option Value} {F : List Fct} {T : List Snt} {P : List Spn}
theorem Sim.sbad (h : Sim E R S F T P) (t : ByteArray) (p q s b : Int) (hq : 0 < q) : (S (sentV t p q s) ≠ none ∧ S (sentV t p q s) ≠ some (.int .i64 b) ∧ 0 < q) ↔ sBad T ⟨t, p, q, s, b⟩ := by
  constructor
  · rintro ⟨h1, h2, _⟩
    cases hv : S (sentV t p q s) with
    | none => exact absurd hv h1
    | some v =>
      obtain ⟨x, hx, k1, k2, k3, k4, rfl⟩ := (h.hS t p q s v hq).1 hv
      exact ⟨x, hx, ⟨k1, k2, k3, k4⟩, fun e => h2 (by rw [hv]; exact congrArg (fun z => some (Value.int .i64 z)) e)⟩
  · rintro ⟨x, hx, ⟨k1, k2, k3, k4⟩, hne⟩
    have h5 : S (sentV t p q s) = some (.int .i64 x.b) := (h.hS t p q s _ hq).2 ⟨x, hx, k1, k2, k3, k4, rfl⟩
    refine ⟨by rw [h5]; simp, fun e => ?_, hq⟩
    rw [h5] at e
    injection e with e
    injection e with _ e
    exact hne e
theorem Sim.sstep (h : Sim E R S F T P) (t : ByteArray) (p q s b : Int) (hq : 0 < q) (hb : ¬ sBad T ⟨t, p, q, s, b⟩) : ∃ T', sStep T ⟨t, p, q, s, b⟩ = some T' ∧ Sim E R (upd S (sentV t p q s) (.int .i64 b)) F T' P := by
  by_cases hm : sMet T ⟨t, p, q, s, b⟩
  · refine ⟨T, sStep_met hb hm, h.hE, h.hR, fun t' p' q' s' v hq' => ?_⟩
    by_cases hk : sentV t' p' q' s' = sentV t p q s
    · obtain ⟨rfl, rfl, rfl, rfl⟩ := sentV_inj hk
      rw [upd_same]
      obtain ⟨x, hx, ⟨h1, h2, h3, h4⟩⟩ := hm
      have hall : ∀ y ∈ T, y.t = t' ∧ y.p = p' ∧ y.q = q' ∧ y.s = s' → y.b = b := fun y hy hk2 => Classical.byContradiction fun hne => hb ⟨y, hy, hk2, hne⟩
      constructor
      · intro e
        exact ⟨x, hx, h1, h2, h3, h4, (Option.some.inj e).symm.trans (by rw [hall x hx ⟨h1, h2, h3, h4⟩])⟩
      · rintro ⟨y, hy, k1, k2, k3, k4, rfl⟩
        rw [hall y hy ⟨k1, k2, k3, k4⟩]
    · rw [upd_other _ _ hk]; exact h.hS t' p' q' s' v hq'
  · refine ⟨_, sStep_new hb hm, h.hE, h.hR, fun t' p' q' s' v hq' => ?_⟩
    by_cases hk : sentV t' p' q' s' = sentV t p q s
    · obtain ⟨rfl, rfl, rfl, rfl⟩ := sentV_inj hk
      rw [upd_same]
      constructor
      · intro e
        exact ⟨_, List.mem_append_right _ (List.mem_singleton.2 rfl), rfl, rfl, rfl, rfl, (Option.some.inj e).symm⟩
      · rintro ⟨y, hy, k1, k2, k3, k4, rfl⟩
        rcases List.mem_append.1 hy with hy | hy
        · exact absurd ⟨y, hy, k1, k2, k3, k4⟩ hm
        · rw [List.mem_singleton.1 hy]
    · rw [upd_other _ _ hk, h.hS t' p' q' s' v hq']
      constructor
      · rintro ⟨y, hy, k⟩; exact ⟨y, List.mem_append_left _ hy, k⟩
      · rintro ⟨y, hy, k1, k2, k3, k4, k5⟩
        rcases List.mem_append.1 hy with hy | hy
        · exact ⟨y, hy, k1, k2, k3, k4, k5⟩
        · rw [List.mem_singleton.1 hy] at k1 k2 k3 k4; exact absurd (by rw [← k1, ← k2, ← k3, ← k4]) hk
theorem Sim.sskip (h : Sim E R S F T P) (t : ByteArray) (p q s b : Int) (hq : q < 1) : Sim E R (upd S (sentV t p q s) (.int .i64 b)) F T P :=
  ⟨h.hE, h.hR, fun t' p' q' s' v hq' => by
    have hk : sentV t' p' q' s' ≠ sentV t p q s := fun e => by have := (sentV_inj e).2.2.1; omega
    rw [upd_other _ _ hk]; exact h.hS t' p' q' s' v hq'⟩
theorem Sim.saw1 (h : Sim E R S F T P) (t : ByteArray) (p st nx : Int) : PCk.saw1 t p st nx E = ref1 (spnK t p P 0 (-1)) st nx P := by
  have hE := h.hE t p
  unfold PCk.saw1 ref1
  generalize spnK t p P 0 (-1) = k at hE ⊢
  by_cases hk : k < 0
  · rw [if_pos hk] at hE
    rw [decide_eq_false (show ¬ 0 ≤ k from by omega), Bool.false_and, Bool.or_false]
    refine decide_eq_decide.2 ⟨fun hh => ?_, .inl⟩
    rcases hh with hh | ⟨s, n, e, _⟩
    · exact hh
    · rw [hE] at e; cases e
  · rw [if_neg hk] at hE
    rw [decide_eq_true (show 0 ≤ k from by omega), Bool.true_and, ← Bool.decide_or, ← Bool.decide_or]
    refine decide_eq_decide.2 ⟨fun hh => ?_, fun hh => ?_⟩
    · rcases hh with hh | ⟨s, n, e, hh⟩
      · exact .inl hh
      · rw [hE] at e
        simp only [endsV, Option.some.injEq, Value.agg.injEq, Array.mk.injEq, List.cons.injEq, Value.int.injEq, true_and, and_true] at e
        rw [e.1, e.2]; exact .inr hh
    · rcases hh with hh | hh
      · exact .inl hh
      · exact .inr ⟨_, _, hE, hh⟩
end
theorem Sim.sents {E R : Value → Option Value} {F : List Fct} {P : List Spn} (t : ByteArray) (p : Int) : ∀ (l : List SB) (S : Value → Option Value) (T : List Snt), Sim E R S F T P →
    (agnB t p l S = none ∧ refS t p l T = none) ∨ ∃ S' T', agnB t p l S = some S' ∧ refS t p l T = some T' ∧ Sim E R S' F T' P
  | [], S, T, h => .inr ⟨S, T, rfl, rfl, h⟩
  | b :: l, S, T, h => by
    by_cases hq : b.f2 < 1
    · have e1 := agnB_ok (t := t) (p := p) (b := b) (l := l) (F := S) (fun hh => by have := hh.2.2; omega)
      rw [e1, refS_skip hq]
      exact Sim.sents t p l _ T (h.sskip t p b.f2 b.f3 b.f0 hq)
    · have hq0 : 0 < b.f2 := by omega
      by_cases hbad : sBad T ⟨t, p, b.f2, b.f3, b.f0⟩
      · exact .inl ⟨agnB_no ((h.sbad t p _ _ _ hq0).2 hbad), refS_none hq (sStep_bad hbad)⟩
      · obtain ⟨T1, h1, h2⟩ := h.sstep t p b.f2 b.f3 b.f0 hq0 hbad
        rw [agnB_ok (t := t) (p := p) (b := b) (l := l) (F := S) (fun hh => hbad ((h.sbad t p _ _ _ hq0).1 hh)), refS_step hq h1]
        exact Sim.sents t p l _ T1 h2
theorem mis_rw (st nx fr : Int) : ∀ (l : List SB) (q : Option SB), (∀ b ∈ l, Bnd b) → (∀ b, q = some b → Bnd b) → misL st nx fr q l = rwL st nx fr q l
  | [], _, _, _ => rfl
  | b :: l, q, hl, hq => by
    have hb := hl b (List.mem_cons_self ..)
    have ew : wrap64 (b.f0 + b.f1) = b.f0 + b.f1 := wrap_ok ⟨hb.1, hb.2.1⟩ ⟨by have := hb.2.2.1; omega, hb.2.2.2.1⟩
    have e1 : misB st nx fr b = rwB st nx fr b := by
      unfold misB rwB
      rw [ew, ← decide_not, ← decide_not]
      simp only [Int.not_lt]
    have ih := mis_rw st nx fr l (some b) (fun x hx => hl x (List.mem_cons_of_mem _ hx)) (fun x e => by cases e; exact hb)
    rw [misL_cons, rwL_cons, e1, ih]
    cases q with
    | none => rfl
    | some q =>
      have hq1 := hq q rfl
      have ew2 : wrap64 (q.f0 + q.f1) = q.f0 + q.f1 := wrap_ok ⟨hq1.1, hq1.2.1⟩ ⟨by have := hq1.2.2.1; omega, hq1.2.2.2.1⟩
      have e2 : misP q b = rwP q b := by unfold misP rwP; rw [ew2, Bool.or_comm]
      dsimp only
      rw [e2]
theorem spnK_app (t : ByteArray) (p : Int) (x : Spn) : ∀ (l : List Spn) (i k : Int), spnK t p (l ++ [x]) i k = if x.t = t ∧ x.p = p then i + l.length else spnK t p l i k
  | [], i, k => by simp [spnK]
  | y :: l, i, k => by
    rw [List.cons_append, spnK, spnK_app t p x l, spnK, List.length_cons]
    split
    · push_cast; omega
    · rfl
theorem spnK_set (t : ByteArray) (p : Int) (y : Spn) : ∀ (l : List Spn) (j : Nat) (i k : Int), (∀ z, l[j]? = some z → y.t = z.t ∧ y.p = z.p) → spnK t p (l.set j y) i k = spnK t p l i k
  | [], j, i, k, _ => rfl
  | z :: l, 0, i, k, h => by
    have h1 := h z rfl
    rw [List.set_cons_zero, spnK, spnK, h1.1, h1.2]
  | z :: l, j + 1, i, k, h => by
    rw [List.set_cons_succ, spnK, spnK, spnK_set t p y l j _ _ (fun z hz => h z (by simpa using hz))]
theorem spnK_at (t : ByteArray) (p : Int) : ∀ (l : List Spn) (i k : Int), spnK t p l i k = k ∨ ∃ j z, spnK t p l i k = i + (j : Nat) ∧ l[j]? = some z ∧ z.t = t ∧ z.p = p
  | [], i, k => .inl rfl
  | y :: l, i, k => by
    rw [spnK]
    rcases spnK_at t p l (i + 1) (if y.t = t ∧ y.p = p then i else k) with h | ⟨j, z, h, h2, h3⟩
    · by_cases hk : y.t = t ∧ y.p = p
      · rw [if_pos hk] at h ⊢
        exact .inr ⟨0, y, by rw [h]; simp, rfl, hk⟩
      · rw [if_neg hk] at h ⊢
        exact .inl h
    · exact .inr ⟨j + 1, z, by rw [h]; push_cast; omega, by simpa using h2, h3⟩
theorem spnAt_app {P : List Spn} {x : Spn} {k : Int} (h0 : 0 ≤ k) (h : k < (P.length : Int)) : spnAt (P ++ [x]) k = spnAt P k := by
  unfold spnAt
  rw [List.getD_eq_getElem?_getD, List.getD_eq_getElem?_getD, List.getElem?_append_left (by omega)]
theorem spnAt_last {P : List Spn} {x : Spn} : spnAt (P ++ [x]) (P.length : Int) = x := by
  unfold spnAt
  simp
theorem partV_inj {t t' : ByteArray} {p p' : Int} (h : partV t p = partV t' p') : t = t' ∧ p = p' := by
  simpa only [partV, Value.agg.injEq, Array.mk.injEq, List.cons.injEq, Value.string.injEq, Value.int.injEq, true_and, and_true] using h
theorem Sim.span {E R S : Value → Option Value} {F : List Fct} {T : List Snt} {P : List Spn} (h : Sim E R S F T P) (t : ByteArray) (p st nx : Int) :
    Sim (upd E (partV t p) (endsV st nx)) R S F T (if spnK t p P 0 (-1) < 0 then P ++ [⟨t, p, st, nx⟩] else P.set (spnK t p P 0 (-1)).toNat ⟨(spnAt P (spnK t p P 0 (-1))).t, (spnAt P (spnK t p P 0 (-1))).p, st, nx⟩) := by
  refine ⟨fun t' p' => ?_, h.hR, h.hS⟩
  have hlt := spnK_lt t' p' P 0 (-1) (by omega)
  rw [Int.zero_add] at hlt
  by_cases hk : spnK t p P 0 (-1) < 0
  · rw [if_pos hk, spnK_app]
    by_cases hkey : t = t' ∧ p = p'
    · obtain ⟨rfl, rfl⟩ := hkey
      have e1 : (if (⟨t, p, st, nx⟩ : Spn).t = t ∧ (⟨t, p, st, nx⟩ : Spn).p = p then (0 : Int) + (P.length : Int) else spnK t p P 0 (-1)) = (P.length : Int) := by rw [if_pos (show t = t ∧ p = p from ⟨rfl, rfl⟩), Int.zero_add]
      rw [upd_same, e1, if_neg (by omega), spnAt_last]
    · rw [upd_other _ _ (fun e => hkey (by have := partV_inj e; exact ⟨this.1.symm, this.2.symm⟩)), if_neg hkey, h.hE t' p']
      by_cases h2 : spnK t' p' P 0 (-1) < 0
      · rw [if_pos h2, if_pos h2]
      · rw [if_neg h2, if_neg h2, spnAt_app (by omega) hlt]
  · rw [if_neg hk]
    rcases spnK_at t p P 0 (-1) with h1 | ⟨j, z, h1, h2, h3, h4⟩
    · omega
    · rw [h1, Int.zero_add, Int.toNat_natCast]
      have hz : spnAt P (j : Int) = z := by unfold spnAt; rw [Int.toNat_natCast, List.getD_eq_getElem?_getD, h2]; rfl
      have hjl := (List.getElem?_eq_some_iff.1 h2).1
      rw [hz, spnK_set t' p' _ P j 0 (-1) (fun z' hz' => by rw [h2] at hz'; cases hz'; exact ⟨rfl, rfl⟩)]
      by_cases hkey : t = t' ∧ p = p'
      · obtain ⟨rfl, rfl⟩ := hkey
        rw [upd_same, h1, Int.zero_add, if_neg (by omega)]
        have : spnAt (P.set j ⟨z.t, z.p, st, nx⟩) (j : Int) = ⟨z.t, z.p, st, nx⟩ := by
          unfold spnAt
          rw [Int.toNat_natCast, List.getD_eq_getElem?_getD, List.getElem?_set_self hjl]
          rfl
        rw [this]
      · rw [upd_other _ _ (fun e => hkey (by have := partV_inj e; exact ⟨this.1.symm, this.2.symm⟩)), h.hE t' p']
        by_cases h5 : spnK t' p' P 0 (-1) < 0
        · rw [if_pos h5, if_pos h5]
        · rw [if_neg h5, if_neg h5]
          rcases spnK_at t' p' P 0 (-1) with k1 | ⟨j', z', k1, k2, k3, k4⟩
          · omega
          · rw [k1, Int.zero_add]
            have hne : j ≠ j' := fun e => by subst e; rw [h2] at k2; cases k2; exact hkey ⟨h3.symm.trans k3, h4.symm.trans k4⟩
            have : spnAt (P.set j ⟨z.t, z.p, st, nx⟩) (j' : Int) = spnAt P (j' : Int) := by
              unfold spnAt
              rw [Int.toNat_natCast, List.getD_eq_getElem?_getD, List.getD_eq_getElem?_getD, List.getElem?_set_ne hne]
            rw [this]
/-- Both tell the same, and remember the same. -/
theorem Sim.saw {E R S : Value → Option Value} {F : List Fct} {T : List Snt} {P : List Spn} (h : Sim E R S F T P) (t : ByteArray) (p st nx fr : Int) (l : List SB) (hl : ∀ b ∈ l, Bnd b) :
    (sawF t p st nx fr l E R S).1 = (refF t p st nx fr l F T P).1 ∧ Sim (sawF t p st nx fr l E R S).2.1 (sawF t p st nx fr l E R S).2.2.1 (sawF t p st nx fr l E R S).2.2.2 (refF t p st nx fr l F T P).2.1 (refF t p st nx fr l F T P).2.2.1 (refF t p st nx fr l F T P).2.2.2 := by
  unfold sawF refF
  rw [h.saw1, mis_rw st nx fr l none hl (fun _ e => by cases e)]
  by_cases c1 : ref1 (spnK t p P 0 (-1)) st nx P = true
  · rw [if_pos c1, if_pos c1]; exact ⟨rfl, h⟩
  rw [if_neg c1, if_neg c1]
  by_cases c2 : rwL st nx fr none l = true
  · rw [if_pos c2, if_pos c2]; exact ⟨rfl, h⟩
  rw [if_neg c2, if_neg c2]
  rcases Sim.bats t p l R F h hl with ⟨h1, h2⟩ | ⟨R1, F1, h1, h2, h3⟩
  · rw [h1, h2]; exact ⟨rfl, h⟩
  rw [h1, h2]
  dsimp only
  have h4 : Sim E R1 S F1 T P := h3
  rcases Sim.sents t p l S T h4 with ⟨k1, k2⟩ | ⟨S1, T1, k1, k2, k3⟩
  · rw [k1, k2]; exact ⟨rfl, h⟩
  rw [k1, k2]
  exact ⟨rfl, k3.span t p st nx⟩
theorem Sim.start : Sim (fun _ => none) (fun _ => none) (fun _ => none) [] [] [] :=
  ⟨fun _ _ => rfl, fun _ _ _ _ => by simp, fun _ _ _ _ _ _ => by simp⟩

end Go.Proofs.Ytdlkofmcioalfaa.PCk

-- written by a program of this session (wip/tools/pr.py, over the kit's printer): not by hand
namespace Go.Proofs.Ytdlkofmcioalfaa.PCk
open Go.RowKit Go.Proofs.YtdlkofmcioalfaaW.PrintWords Go.Proofs.YtdlkofmcioalfaaW.PrintLast Go.Proofs.YtdlkofmcioalfaaW.PrintMore
attribute [local go_sem] max2_int min2_int max_two min_two max_three min_three max_four min_four   -- for this text's walks alone
set_option linter.unusedVariables false
set_option linter.unusedSimpArgs false

/-! ### bollardalike_Small: function 24 -/
def bollardalike_Small.l0 : Nat → List (S48) → Int → Int → Option (Bool)
  | 0, _, _, _ => none
  | k + 1, x0, x3, x4 => if x4 < (x0.length : Int) then (if x3 ≤ 20000 then (if 0 ≤ x4 then (bollardalike_Small.l0 k x0 (wrap64 ((wrap64 (x3 + (((rd_T48 x0 x4).f1).size : Int))) + (((rd_T48 x0 x4).f3).size : Int))) (wrap64 (x4 + 1))) else (none)) else (some false)) else (if x3 ≤ 20000 then (some (decide ((x0.length : Int) ≤ 300))) else (some false))
def bollardalike_Small.f (k : Nat) (l0 : List (S48)) : Option (Bool) := bollardalike_Small.l0 k l0 (l0.length : Int) 0
set_option maxRecDepth 100000 in
theorem bollardalike_Small.mono_l : ∀ k, (∀ y0 y1 y2, LeO (bollardalike_Small.l0 k y0 y1 y2) (bollardalike_Small.l0 (k + 1) y0 y1 y2))
  | 0 => fun _ _ _ r h => by first | exact nomatch (show (none : Option _) = some r from h) | (rw [bollardalike_Small.l0] at h; cases h; done) | (simp [bollardalike_Small.l0] at h; done)
  | k + 1 => by
    have ih0 := bollardalike_Small.mono_l k
    · intro y0 y1 y2
      unfold bollardalike_Small.l0
      repeat' first
      | (with_reducible exact ih0 _ _ _)
      | (with_reducible exact LeO.refl _)
      | (with_reducible exact LeO.none _)
      | (with_reducible refine LeO.ite ?_ ?_)
      | (with_reducible refine LeO.bind ?_ (fun _ => ?_))
      | exact ih0 _ _ _
      | exact LeO.none _
      | refine LeO.ite ?_ ?_
      | refine LeO.bind ?_ (fun _ => ?_)
theorem bollardalike_Small.mono : ∀ a0 k, LeO (bollardalike_Small.f k a0) (bollardalike_Small.f (k + 1) a0) := by
  intro a0 k
  have ih0 := bollardalike_Small.mono_l k
  unfold bollardalike_Small.f
  repeat' first
      | (with_reducible exact ih0 _ _ _)
      | (with_reducible exact LeO.refl _)
      | (with_reducible exact LeO.none _)
      | (with_reducible refine LeO.ite ?_ ?_)
      | (with_reducible refine LeO.bind ?_ (fun _ => ?_))
      | exact ih0 _ _ _
      | exact LeO.none _
      | refine LeO.ite ?_ ?_
      | refine LeO.bind ?_ (fun _ => ?_)
set_option maxHeartbeats 8000000 in
set_option maxRecDepth 100000 in
theorem bollardalike_Small.calls (k : Nat) (A0 : Option Addr) (c0 : Nat) (l0 : List (S48)) (r : Bool) (w : World) (hr0 : Kd.C k48 w A0 l0.length l0) (hc0 : l0.length ≤ c0) (h : bollardalike_Small.f k l0 = some r) :
    Calls Try.prog 24 #[.slice A0 l0.length c0] w fun e w' => e = .returned (.bool r) ∧ Drawn0 w w' := by
  have HR0 := Aside0.mk hr0
  have HC0 := Aside0.mk hc0
  clear hr0 hc0
  have H : (bollardalike_Small.l0 k l0 (l0.length : Int) 0) = some r := h
  clear h
  have H' := Aside0.mk H
  clear H
  go_enter Try.func24, Try.ntmps24
  go_wp2
  repeat (go_quiet (fail); try go_wp2)
  go_loopg [3, 4] k (fun kq v3 v4 w' => ∃ (x3_1 : Int) (x4_1 : Int), v3 = .int .i64 x3_1 ∧ v4 = .int .i64 x4_1 ∧ Aside0 (bollardalike_Small.l0 kq l0 x3_1 x4_1 = some r) ∧ Aside0 (kq ≤ k) ∧ Drawn0 w w')
  case atStart => exact ⟨((l0.length : Int)), (0), (by first | rfl | (simp; done) | (simp [*]; done) | exact congrArg Value.bool (ne_empty _) | exact congrArg Value.bool (eq_empty _)), (by first | rfl | (simp; done) | (simp [*]; done) | exact congrArg Value.bool (ne_empty _) | exact congrArg Value.bool (eq_empty _)), H', ⟨Nat.le_refl _⟩, by repeat (first | exact Drawn0.refl _ | apply Drawn0.step)⟩
  case round =>
    clear H'
    obtain ⟨x3_1, x4_1, rfl, rfl, HA, HK1, ⟨m1, rfl⟩⟩ := hrel
    cases gk with
    | zero => exact absurd HA.out (by first | (intro h_; exact nomatch (show (none : Option _) = some r from h_)) | simp [bollardalike_Small.l0])
    | succ k1 =>
      have H := HA.out
      clear HA
      simp only [bollardalike_Small.l0] at H
      by_cases c2 : x4_1 < (l0.length : Int)
      · rw [if_pos c2] at H
        have c2b0 : decide (x4_1 < (l0.length : Int)) = true := decide_eq_true c2
        clear c2
        by_cases c3 : x3_1 ≤ 20000
        · rw [if_pos c3] at H
          have c3b0 : decide (x3_1 ≤ 20000) = true := decide_eq_true c3
          clear c3
          by_cases c4 : 0 ≤ x4_1
          · rw [if_pos c4] at H
            have c4b0 : decide (0 ≤ x4_1) = true := decide_eq_true c4
            clear c4
            have H' := Aside0.mk H
            clear H
            have p101 : 0 ≤ (x4_1 : Int) := of_decide_eq_true (by first | (with_reducible assumption) | assumption)
            have q101 : x4_1 < (l0.length : Int) := of_decide_eq_true (by first | (with_reducible assumption) | assumption)
            obtain ⟨ad101, e101, hx101_0, hx101_1, hx101_2, hx101_3, hx101_4, hx101_5⟩ := at_T48 HR0.out x4_1 p101 q101
            cases e101
            replace p101 := eq_true p101
            replace q101 := eq_true q101
            have p102 : 0 ≤ (x4_1 : Int) := of_decide_eq_true (by first | (with_reducible assumption) | assumption)
            have q102 : x4_1 < (l0.length : Int) := of_decide_eq_true (by first | (with_reducible assumption) | assumption)
            obtain ⟨ad102, e102, hx102_0, hx102_1, hx102_2, hx102_3, hx102_4, hx102_5⟩ := at_T48 HR0.out x4_1 p102 q102
            obtain rfl : ad101 = ad102 := (by injection e102)
            replace p102 := eq_true p102
            replace q102 := eq_true q102
            go_wp2
            repeat (go_quiet (fail); try go_wp2)
            go_roundg k1
            case measure => have := HK1.out; omega
            case rel => exact ⟨(wrap64 ((wrap64 (x3_1 + (((rd_T48 l0 x4_1).f1).size : Int))) + (((rd_T48 l0 x4_1).f3).size : Int))), (wrap64 (x4_1 + 1)), (by first | rfl | (simp; done) | (simp [*]; done) | exact congrArg Value.bool (ne_empty _) | exact congrArg Value.bool (eq_empty _)), (by first | rfl | (simp; done) | (simp [*]; done) | exact congrArg Value.bool (ne_empty _) | exact congrArg Value.bool (eq_empty _)), H', ⟨by have := HK1.out; omega⟩, by repeat (first | exact Drawn0.refl _ | apply Drawn0.step)⟩
          · rw [if_neg c4] at H
            exact absurd H (by simp)
        · rw [if_neg c3] at H
          have c3b0 : decide (x3_1 ≤ 20000) = false := decide_eq_false c3
          clear c3
          obtain rfl := Option.some.inj H
          go_wp2
          repeat (go_quiet (fail); try go_wp2)
          go_ret
          exact ⟨by first | rfl | (simp; done) | (simp [*]; done) | exact congrArg Value.bool (ne_empty _) | exact congrArg Value.bool (eq_empty _), by repeat (first | exact Drawn0.refl _ | apply Drawn0.step)⟩
      · rw [if_neg c2] at H
        have c2b0 : decide (x4_1 < (l0.length : Int)) = false := decide_eq_false c2
        clear c2
        by_cases c5 : x3_1 ≤ 20000
        · rw [if_pos c5] at H
          have c5b0 : decide (x3_1 ≤ 20000) = true := decide_eq_true c5
          clear c5
          obtain rfl := Option.some.inj H
          go_wp2
          repeat (go_quiet (fail); try go_wp2)
          go_ret
          exact ⟨by first | rfl | (simp; done) | (simp [*]; done) | exact congrArg Value.bool (ne_empty _) | exact congrArg Value.bool (eq_empty _), by repeat (first | exact Drawn0.refl _ | apply Drawn0.step)⟩
        · rw [if_neg c5] at H
          have c5b0 : decide (x3_1 ≤ 20000) = false := decide_eq_false c5
          clear c5
          obtain rfl := Option.some.inj H
          go_wp2
          repeat (go_quiet (fail); try go_wp2)
          go_ret
          exact ⟨by first | rfl | (simp; done) | (simp [*]; done) | exact congrArg Value.bool (ne_empty _) | exact congrArg Value.bool (eq_empty _), by repeat (first | exact Drawn0.refl _ | apply Drawn0.step)⟩

end Go.Proofs.Ytdlkofmcioalfaa.PCk
