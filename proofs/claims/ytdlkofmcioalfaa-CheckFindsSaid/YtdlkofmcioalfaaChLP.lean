import Derived.Test.YtdlkofmcioalfaaChP
import Derived.Outline
import Derived.StillTailTactics
import Derived.RegionTactic
import Derived.BigRegion
import Derived.Lib.BufferWrite
namespace Go.Proofs.Ytdlkofmcioalfaa.PCk
open Go.RowKit Go.Proofs.YtdlkofmcioalfaaW.PrintWords Go.Proofs.YtdlkofmcioalfaaW.PrintLast Go.Proofs.YtdlkofmcioalfaaW.PrintMore
attribute [local go_sem] max2_int min2_int max_two min_two max_three min_three max_four min_four
set_option linter.unusedVariables false
set_option linter.unusedSimpArgs false

/-! ### CheckAlone, plain: two Logs that saw the same under other names -/
def nX (t : ByteArray) : ByteArray := t ++ ⟨#[120]⟩
theorem nX_inj {a b : ByteArray} (h : nX a = nX b) : a = b := by
  have h1 := congrArg (fun x : ByteArray => x.data.toList) h
  unfold nX at h1
  simp only [ByteArray.data_append, Array.toList_append, List.append_cancel_right_eq] at h1
  exact ByteArray.ext (Array.toList_inj.1 h1)
theorem nX_other (a : ByteArray) : nX a ≠ ⟨#[111, 116, 104, 101, 114]⟩ := fun h => by
  have h1 := congrArg (fun x : ByteArray => x.data.toList.getLast?) h
  unfold nX at h1
  simp [ByteArray.data_append] at h1
def RelE (F G : Value → Option Value) : Prop := ∀ t p, G (partV (nX t) p) = F (partV t p)
def RelR (F G : Value → Option Value) : Prop := ∀ t p o, G (placeV (nX t) p o) = F (placeV t p o)
def RelS (F G : Value → Option Value) : Prop := ∀ t p q s, G (sentV (nX t) p q s) = F (sentV t p q s)
theorem part_eq {a b : ByteArray} {p q : Int} : partV a p = partV b q ↔ a = b ∧ p = q := by
  unfold partV
  simp
theorem sent_eq {a b : ByteArray} {p q x y u v : Int} : sentV a p x y = sentV b q u v ↔ a = b ∧ p = q ∧ x = u ∧ y = v := by
  unfold sentV
  simp
theorem place_eq {a b : ByteArray} {p q x y : Int} : placeV a p x = placeV b q y ↔ a = b ∧ p = q ∧ x = y := by
  unfold placeV
  simp only [Value.agg.injEq, Array.mk.injEq, List.cons.injEq, Value.string.injEq, Value.int.injEq, true_and, and_true]
  constructor
  · rintro ⟨h1, h2, h3, h4⟩
    exact ⟨h1, h2, by omega⟩
  · rintro ⟨h1, h2, h3⟩
    exact ⟨h1, h2, by rw [h3], by rw [h3]⟩
theorem RelE.upd {F G : Value → Option Value} (h : RelE F G) (t : ByteArray) (p : Int) (v : Value) : RelE (upd F (partV t p) v) (upd G (partV (nX t) p) v) := fun t2 p2 => by
  by_cases e : partV t2 p2 = partV t p
  · rw [e, upd_same, show partV (nX t2) p2 = partV (nX t) p from by rw [part_eq] at e ⊢; exact ⟨by rw [e.1], e.2⟩, upd_same]
  · rw [upd_other F v e, upd_other G v (fun e2 => e (by rw [part_eq] at e2 ⊢; exact ⟨nX_inj e2.1, e2.2⟩))]
    exact h t2 p2
theorem relE_other {F G : Value → Option Value} (h : RelE F G) (p : Int) (v : Value) : RelE F (upd G (partV ⟨#[111, 116, 104, 101, 114]⟩ p) v) := fun t2 p2 => by
  rw [upd_other G v (fun e2 => nX_other t2 (part_eq.1 e2).1)]
  exact h t2 p2
theorem RelR.upd {F G : Value → Option Value} (h : RelR F G) (t : ByteArray) (p o : Int) (v : Value) : RelR (upd F (placeV t p o) v) (upd G (placeV (nX t) p o) v) := fun t2 p2 o2 => by
  by_cases e : placeV t2 p2 o2 = placeV t p o
  · rw [e, upd_same, show placeV (nX t2) p2 o2 = placeV (nX t) p o from by rw [place_eq] at e ⊢; exact ⟨by rw [e.1], e.2⟩, upd_same]
  · rw [upd_other F v e, upd_other G v (fun e2 => e (by rw [place_eq] at e2 ⊢; exact ⟨nX_inj e2.1, e2.2⟩))]
    exact h t2 p2 o2
theorem RelS.upd {F G : Value → Option Value} (h : RelS F G) (t : ByteArray) (p q s : Int) (v : Value) : RelS (upd F (sentV t p q s) v) (upd G (sentV (nX t) p q s) v) := fun t2 p2 q2 s2 => by
  by_cases e : sentV t2 p2 q2 s2 = sentV t p q s
  · rw [e, upd_same, show sentV (nX t2) p2 q2 s2 = sentV (nX t) p q s from by rw [sent_eq] at e ⊢; exact ⟨by rw [e.1], e.2⟩, upd_same]
  · rw [upd_other F v e, upd_other G v (fun e2 => e (by rw [sent_eq] at e2 ⊢; exact ⟨nX_inj e2.1, e2.2⟩))]
    exact h t2 p2 q2 s2
/-- Both none, or both some, and alike. -/
def RelO (R : (Value → Option Value) → (Value → Option Value) → Prop) (a b : Option (Value → Option Value)) : Prop := (a = none ∧ b = none) ∨ ∃ F G, a = some F ∧ b = some G ∧ R F G
theorem rel_chgR (t : ByteArray) (p base : Int) : ∀ (l : List SR) {F G : Value → Option Value}, RelR F G → RelO RelR (chgR t p base l F) (chgR (nX t) p base l G)
  | [], F, G, h => .inr ⟨F, G, rfl, rfl, h⟩
  | r :: l, F, G, h => by
    have hk := h t p (base + r.f5)
    by_cases c : F (placeV t p (base + r.f5)) = none ∨ F (placeV t p (base + r.f5)) = some (recV r)
    · rw [chgR_ok c, chgR_ok (by rw [hk]; exact c)]
      exact rel_chgR t p base l (h.upd t p _ _)
    · rw [chgR_no c, chgR_no (by rw [hk]; exact c)]
      exact .inl ⟨rfl, rfl⟩
theorem rel_chgB (t : ByteArray) (p : Int) : ∀ (l : List SB) {F G : Value → Option Value}, RelR F G → RelO RelR (chgB t p l F) (chgB (nX t) p l G)
  | [], F, G, h => .inr ⟨F, G, rfl, rfl, h⟩
  | b :: l, F, G, h => by
    simp only [chgB]
    rcases rel_chgR t p b.f0 b.f4 h with ⟨h1, h2⟩ | ⟨F2, G2, h1, h2, h3⟩
    · rw [h1, h2]; exact .inl ⟨rfl, rfl⟩
    · rw [h1, h2]; exact rel_chgB t p l h3
theorem rel_agnB (t : ByteArray) (p : Int) : ∀ (l : List SB) {F G : Value → Option Value}, RelS F G → RelO RelS (agnB t p l F) (agnB (nX t) p l G)
  | [], F, G, h => .inr ⟨F, G, rfl, rfl, h⟩
  | b :: l, F, G, h => by
    have hk := h t p b.f2 b.f3
    by_cases c : F (sentV t p b.f2 b.f3) ≠ none ∧ F (sentV t p b.f2 b.f3) ≠ some (.int .i64 b.f0) ∧ 0 < b.f2
    · rw [agnB_no c, agnB_no (by rw [hk]; exact c)]
      exact .inl ⟨rfl, rfl⟩
    · rw [agnB_ok c, agnB_ok (by rw [hk]; exact c)]
      exact rel_agnB t p l (h.upd t p _ _ _)
theorem rel_saw1 {t : ByteArray} {p st nx : Int} {E E' : Value → Option Value} (h : RelE E E') : saw1 (nX t) p st nx E' = saw1 t p st nx E := by
  unfold saw1
  rw [h t p]
def Rel3 (a b : (Value → Option Value) × (Value → Option Value) × (Value → Option Value)) : Prop := RelE a.1 b.1 ∧ RelR a.2.1 b.2.1 ∧ RelS a.2.2 b.2.2
theorem rel_saw (t : ByteArray) (p st nx fr : Int) (l : List SB) {E R S E' R' S' : Value → Option Value} (hE : RelE E E') (hR : RelR R R') (hS : RelS S S') :
    (sawF (nX t) p st nx fr l E' R' S').1 = (sawF t p st nx fr l E R S).1 ∧ Rel3 (sawF t p st nx fr l E R S).2 (sawF (nX t) p st nx fr l E' R' S').2 := by
  unfold sawF
  rw [rel_saw1 hE]
  split
  · exact ⟨rfl, hE, hR, hS⟩
  split
  · exact ⟨rfl, hE, hR, hS⟩
  rcases rel_chgB t p l hR with ⟨h1, h2⟩ | ⟨F2, G2, h1, h2, h3⟩
  · rw [h1, h2]; exact ⟨rfl, hE, hR, hS⟩
  rw [h1, h2]
  dsimp only
  rcases rel_agnB t p l hS with ⟨k1, k2⟩ | ⟨F3, G3, k1, k2, k3⟩
  · rw [k1, k2]; exact ⟨rfl, hE, hR, hS⟩
  rw [k1, k2]
  exact ⟨rfl, hE.upd t p _, h3, k3⟩
theorem rel_oth (p st nx fr : Int) {E E' R' S' : Value → Option Value} (hE : RelE E E') : RelE E (sawF ⟨#[111, 116, 104, 101, 114]⟩ p st nx fr [] E' R' S').2.1 ∧ (sawF ⟨#[111, 116, 104, 101, 114]⟩ p st nx fr [] E' R' S').2.2.1 = R' ∧ (sawF ⟨#[111, 116, 104, 101, 114]⟩ p st nx fr [] E' R' S').2.2.2 = S' := by
  unfold sawF
  split
  · exact ⟨hE, rfl, rfl⟩
  split
  · exact ⟨hE, rfl, rfl⟩
  exact ⟨relE_other hE p _, rfl, rfl⟩
theorem rel_N : RelE N0 N0 ∧ RelR N0 N0 ∧ RelS N0 N0 := ⟨fun _ _ => rfl, fun _ _ _ => rfl, fun _ _ _ _ => rfl⟩

end Go.Proofs.Ytdlkofmcioalfaa.PCk
