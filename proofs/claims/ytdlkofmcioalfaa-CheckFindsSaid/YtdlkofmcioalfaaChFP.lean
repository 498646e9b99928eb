import Derived.Test.YtdlkofmcioalfaaChP
import Derived.Test.YtdlkofmcioalfaaChLP
import Derived.Outline
import Derived.StillTailTactics
import Derived.RegionTactic
import Derived.BigRegion
import Derived.Lib.BufferWrite
namespace Go.Proofs.Ytdlkofmcioalfaa.PCk
open Go.RowKit Go.Proofs.YtdlkofmcioalfaaW.PrintWords Go.Proofs.YtdlkofmcioalfaaW.PrintLast Go.Proofs.YtdlkofmcioalfaaW.PrintMore
attribute [local go_sem] max2_int min2_int max_two min_two max_three min_three max_four min_four
set_option linter.unusedVariables false
set_option linter.unusedSimpArgs false

/-! ### CheckFinds, plain -/
def tT : ByteArray := ⟨#[116]⟩
def fS (i : Int) : ByteArray := strOfNums [(97 + Int.tmod i 26) % 256]
def fR (v : ByteArray) : SR := ⟨false, ⟨#[]⟩, true, v, 0, 0⟩
def bn (i : Int) : SB := ⟨i, 1, 5, i, [fR (fS i)]⟩
def lst : Nat → List SB
  | 0 => []
  | n + 1 => lst n ++ [bn n]
theorem lst_len : ∀ n, (lst n).length = n
  | 0 => rfl
  | n + 1 => by rw [lst, List.length_append, lst_len n]; rfl
theorem lst_map : ∀ n, lst n = ((List.range n).map fun i => ((i : Nat) : Int)).map bn
  | 0 => rfl
  | n + 1 => by rw [lst, lst_map n, List.range_succ, List.map_append, List.map_append]; rfl
/-- What is remembered of these rows. -/
def KR (R : Value → Option Value) : Prop := ∀ i : Int, R (placeV tT 1 i) = none ∨ R (placeV tT 1 i) = some (recV (fR (fS i)))
def KS (S : Value → Option Value) : Prop := ∀ i : Int, S (sentV tT 1 5 i) = none ∨ S (sentV tT 1 5 i) = some (.int .i64 i)
theorem chg_rows : ∀ (is : List Int) (R : Value → Option Value), KR R → ∃ R2, chgB tT 1 (is.map bn) R = some R2 ∧ KR R2 ∧ ∀ i, R2 (placeV tT 1 i) = if i ∈ is then some (recV (fR (fS i))) else R (placeV tT 1 i)
  | [], R, h => ⟨R, rfl, h, fun i => by simp⟩
  | j :: is, R, h => by
    have hj := h j
    have h2 : KR (upd R (placeV tT 1 (j + 0)) (recV (fR (fS j)))) := fun i => by
      rw [Int.add_zero]
      by_cases e : i = j
      · subst e; rw [upd_same]; exact .inr rfl
      · rw [upd_other _ _ (place_ne e)]; exact h i
    obtain ⟨R2, k1, k2, k3⟩ := chg_rows is _ h2
    refine ⟨R2, ?_, k2, fun i => ?_⟩
    · rw [List.map_cons, chgB]
      have e1 : chgR tT 1 (bn j).f0 (bn j).f4 R = some (upd R (placeV tT 1 (j + 0)) (recV (fR (fS j)))) := by
        unfold bn
        rw [chgR_ok (by show R (placeV tT 1 (j + 0)) = none ∨ R (placeV tT 1 (j + 0)) = some (recV (fR (fS j))); rw [Int.add_zero]; exact hj)]
        rfl
      rw [e1, Option.bind_some]
      exact k1
    · rw [k3 i, Int.add_zero]
      by_cases e : i = j
      · subst e; rw [upd_same]; simp
      · rw [upd_other _ _ (place_ne e)]
        simp [e]
theorem agn_rows : ∀ (is : List Int) (S : Value → Option Value), KS S → ∃ S2, agnB tT 1 (is.map bn) S = some S2 ∧ KS S2 ∧ ∀ i, S2 (sentV tT 1 5 i) = if i ∈ is then some (.int .i64 i) else S (sentV tT 1 5 i)
  | [], S, h => ⟨S, rfl, h, fun i => by simp⟩
  | j :: is, S, h => by
    have hj := h j
    have ne : ∀ i, i ≠ j → sentV tT 1 5 i ≠ sentV tT 1 5 j := fun i e e2 => e (sent_eq.1 e2).2.2.2
    have h2 : KS (upd S (sentV tT 1 5 j) (.int .i64 j)) := fun i => by
      by_cases e : i = j
      · subst e; rw [upd_same]; exact .inr rfl
      · rw [upd_other _ _ (ne i e)]; exact h i
    obtain ⟨S2, k1, k2, k3⟩ := agn_rows is _ h2
    refine ⟨S2, ?_, k2, fun i => ?_⟩
    · rw [List.map_cons, agnB_ok (b := bn j)]
      · exact k1
      · rintro ⟨a1, a2, _⟩
        rcases hj with hj | hj
        · exact a1 hj
        · exact a2 hj
    · rw [k3 i]
      by_cases e : i = j
      · subst e; rw [upd_same]; simp
      · rw [upd_other _ _ (ne i e)]
        simp [e]
theorem mis_rows (st nx : Int) : ∀ (n k : Nat) (q : Option SB), st ≤ k → ((k + n : Nat) : Int) ≤ nx → (q = none ∨ ∃ j : Int, q = some (bn j) ∧ j < k) → misL st nx 0 q ((List.range' k n).map fun i => bn ((i : Nat) : Int)) = false
  | 0, k, q, _, _, _ => rfl
  | n + 1, k, q, h1, h2, h3 => by
    rw [List.range'_succ, List.map_cons, misL_cons]
    have e1 : misB st nx 0 (bn k) = false := by
      unfold misB bn
      simp
      omega
    have ih := mis_rows st nx n (k + 1) (some (bn k)) (by omega) (by omega) (.inr ⟨k, rfl, by omega⟩)
    rw [e1, ih]
    rcases h3 with rfl | ⟨j, rfl, hj⟩
    · rfl
    · have e2 : misP (bn j) (bn k) = false := by
        unfold misP bn
        simp
        omega
      dsimp only
      rw [e2]
      rfl
theorem mis_lst (n : Nat) : misL 0 n 0 none (lst n) = false := by
  have := mis_rows 0 n n 0 none (by omega) (by omega) (.inl rfl)
  rw [← List.range_eq_range'] at this
  rw [lst_map, List.map_map]
  exact this
/-- The Log behind the right row. -/
structure Held (n : Nat) (E R S : Value → Option Value) : Prop where
  e : E (partV tT 1) = some (endsV 0 n)
  kr : KR R
  r : ∀ i : Int, 0 ≤ i → i < n → R (placeV tT 1 i) = some (recV (fR (fS i)))
  rn : ∀ i : Int, (n : Int) ≤ i → R (placeV tT 1 i) = none
  ks : KS S
  s : ∀ i : Int, 0 ≤ i → i < n → S (sentV tT 1 5 i) = some (.int .i64 i)
theorem mem_rng {n : Nat} {i : Int} : i ∈ ((List.range n).map fun i => ((i : Nat) : Int)) ↔ 0 ≤ i ∧ i < n := by
  simp only [List.mem_map, List.mem_range]
  constructor
  · rintro ⟨a, h, rfl⟩; omega
  · rintro ⟨h1, h2⟩; exact ⟨i.toNat, by omega, by omega⟩
theorem fi_pass (n : Nat) {E R S : Value → Option Value} (h1 : saw1 tT 1 0 n E = false) (kr : KR R) (ks : KS S) (rn : ∀ i : Int, (n : Int) ≤ i → R (placeV tT 1 i) = none) : ∃ E2 R2 S2, sawF tT 1 0 n 0 (lst n) E R S = (0, E2, R2, S2) ∧ Held n E2 R2 S2 := by
  obtain ⟨R2, a1, a2, a3⟩ := chg_rows ((List.range n).map fun i => ((i : Nat) : Int)) R kr
  obtain ⟨S2, b1, b2, b3⟩ := agn_rows ((List.range n).map fun i => ((i : Nat) : Int)) S ks
  refine ⟨upd E (partV tT 1) (endsV 0 n), R2, S2, ?_, upd_same _ _ _, a2, fun i h0 hi => ?_, fun i hi => ?_, b2, fun i h0 hi => ?_⟩
  · unfold sawF
    rw [if_neg (by rw [h1]; decide), if_neg (by rw [mis_lst]; decide)]
    rw [← lst_map] at a1 b1
    rw [a1]
    dsimp only
    rw [b1]
  · rw [a3, if_pos (mem_rng.2 ⟨h0, hi⟩)]
  · rw [a3, if_neg (fun h => by have := (mem_rng.1 h).2; omega)]
    exact rn i hi
  · rw [b3, if_pos (mem_rng.2 ⟨h0, hi⟩)]
theorem fi_1 (n : Nat) : ∃ E2 R2 S2, sawF tT 1 0 n 0 (lst n) N0 N0 N0 = (0, E2, R2, S2) ∧ Held n E2 R2 S2 :=
  fi_pass n (by rw [saw1_none rfl]; simp <;> omega) (fun _ => .inl rfl) (fun _ => .inl rfl) (fun _ _ => rfl)
theorem fi_2 (n : Nat) {E R S : Value → Option Value} (h : Held n E R S) : ∃ E2 R2 S2, sawF tT 1 0 n 0 (lst n) E R S = (0, E2, R2, S2) ∧ Held n E2 R2 S2 :=
  fi_pass n (by rw [saw1_some h.e]; simp <;> omega) h.kr h.ks h.rn
theorem fi_c0 (n : Nat) {E R S : Value → Option Value} (h : Held n E R S) : sawF tT 1 0 ((n : Int) - 1) 0 [] E R S = (1, E, R, S) := by
  unfold sawF
  rw [saw1_some h.e, if_pos (by simp <;> omega)]
theorem fi_c1 (n : Nat) {E R S : Value → Option Value} (h : Held n E R S) : sawF tT 1 ((n : Int) + 1) n 0 [] E R S = (1, E, R, S) := by
  unfold sawF
  rw [saw1_some h.e, if_pos (by simp <;> omega)]
theorem fi_c2 (n : Nat) {E R S : Value → Option Value} (h : Held n E R S) (l : List SB) : sawF tT 1 0 n 0 (bn 1 :: bn 0 :: l) E R S = (2, E, R, S) := by
  unfold sawF
  rw [saw1_some h.e, if_neg (by simp <;> omega), if_pos]
  rw [misL_cons, misL_cons]
  have : misP (bn 1) (bn 0) = true := by unfold misP bn; simp
  simp [this]
theorem fi_c3 (n : Nat) {E R S : Value → Option Value} (h : Held n E R S) (l : List SB) : sawF tT 1 0 n 1 (bn 0 :: l) E R S = (2, E, R, S) := by
  unfold sawF
  rw [saw1_some h.e, if_neg (by simp <;> omega), if_pos]
  rw [misL_cons]
  have : misB 0 n 1 (bn 0) = true := by unfold misB bn; simp
  simp [this]
def tO : ByteArray := ⟨#[111, 116, 104, 101, 114]⟩
theorem fS_len (i : Int) : (fS i).size = 1 := rfl
theorem fi_c4 (n : Nat) (hn : 2 ≤ n) {E R S : Value → Option Value} (h : Held n E R S) (l : List SB) (hl : l.map (fun b => (b.f0, b.f1)) = (lst n).map (fun b => (b.f0, b.f1))) (l2 : List SB) (h2 : l = bn 0 :: ⟨1, 1, 0, 0, [fR tO]⟩ :: l2) : sawF tT 1 0 n 0 l E R S = (3, E, R, S) := by
  have hm : ∀ (l l' : List SB) (q q' : Option SB), l.map (fun b => (b.f0, b.f1)) = l'.map (fun b => (b.f0, b.f1)) → q.map (fun b => (b.f0, b.f1)) = q'.map (fun b => (b.f0, b.f1)) → misL 0 n 0 q l = misL 0 n 0 q' l' := by
    intro l
    induction l with
    | nil => intro l' q q' h _; cases l' with | nil => rfl | cons b l' => cases h
    | cons b l ih =>
      intro l' q q' h hq
      cases l' with
      | nil => cases h
      | cons b' l' =>
        simp only [List.map_cons, List.cons.injEq, Prod.mk.injEq] at h
        obtain ⟨⟨h0, h1⟩, hr⟩ := h
        rw [misL_cons, misL_cons, ih l' (some b) (some b') hr (by simp [h0, h1])]
        have e1 : misB 0 n 0 b = misB 0 n 0 b' := by unfold misB; rw [h0, h1]
        rw [e1]
        cases q with
        | none => cases q' with | none => rfl | some _ => cases hq
        | some q =>
          cases q' with
          | none => cases hq
          | some q' =>
            simp only [Option.map_some, Option.some.injEq, Prod.mk.injEq] at hq
            have e2 : misP q b = misP q' b' := by unfold misP; rw [h0, hq.1, hq.2]
            dsimp only
            rw [e2]
  unfold sawF
  rw [saw1_some h.e, if_neg (by simp <;> omega), if_neg (by rw [hm l (lst n) none none hl rfl, mis_lst]; decide), h2]
  have hno : chgB tT 1 (bn 0 :: ⟨1, 1, 0, 0, [fR tO]⟩ :: l2) R = none := by
    rw [chgB]
    have e1 : chgR tT 1 (bn 0).f0 (bn 0).f4 R = some (upd R (placeV tT 1 (0 + 0)) (recV (fR (fS 0)))) := by
      unfold bn
      rw [chgR_ok (h.kr 0)]
      rfl
    rw [e1, Option.bind_some, chgB]
    dsimp only
    rw [chgR_no]
    · rfl
    · show ¬ (upd R (placeV tT 1 (0 + 0)) (recV (fR (fS 0))) (placeV tT 1 (1 + 0)) = none ∨ upd R (placeV tT 1 (0 + 0)) (recV (fR (fS 0))) (placeV tT 1 (1 + 0)) = some (recV (fR tO)))
      rw [upd_other _ _ (place_ne (by decide)), show (1 : Int) + 0 = 1 from rfl, h.r 1 (by omega) (by omega)]
      rintro (h | h)
      · cases h
      · unfold recV fR at h
        simp only [Option.some.injEq, Value.agg.injEq, Array.mk.injEq, List.cons.injEq, Value.string.injEq, true_and, and_true] at h
        have := congrArg ByteArray.size h
        rw [fS_len] at this
        cases this
  rw [hno]
theorem fi_c5 (n : Nat) (hn : 2 ≤ n) {E R S : Value → Option Value} (h : Held n E R S) : sawF tT 1 0 ((n : Int) + 1) n [⟨n, 1, 5, 0, [fR aZ]⟩] E R S = (4, E, R, S) := by
  unfold sawF
  have m : misL 0 ((n : Int) + 1) n none [⟨n, 1, 5, 0, [fR aZ]⟩] = false := by
    rw [misL_cons]
    have : misB 0 ((n : Int) + 1) n ⟨n, 1, 5, 0, [fR aZ]⟩ = false := by
      unfold misB
      simp <;> omega
    rw [this]
    rfl
  rw [saw1_some h.e, if_neg (by simp <;> omega), if_neg (by rw [m]; decide)]
  have h1 : chgB tT 1 [⟨n, 1, 5, 0, [fR aZ]⟩] R = some (upd R (placeV tT 1 ((n : Int) + 0)) (recV (fR aZ))) := by
    simp only [chgB]
    rw [chgR_ok (.inl (by show R (placeV tT 1 ((n : Int) + 0)) = none; rw [Int.add_zero]; exact h.rn n (Int.le_refl _)))]
    rfl
  have h2 : agnB tT 1 [⟨n, 1, 5, 0, [fR aZ]⟩] S = none := by
    rw [agnB_no]
    refine ⟨fun e => ?_, fun e => ?_, show (0 : Int) < 5 from by decide⟩
    · have := (h.s 0 (by omega) (by omega)).symm.trans e
      cases this
    · have := (h.s 0 (by omega) (by omega)).symm.trans e
      simp at this
      omega
  rw [h1]
  dsimp only
  rw [h2]
theorem bn_ok (i : Int) (hi : (Lit.int .i64 i).wf = true) : (Lit.int .i64 (bn i).f0).wf = true ∧ (Lit.int .i64 (bn i).f1).wf = true ∧ (Lit.int .i64 (bn i).f2).wf = true ∧ (Lit.int .i64 (bn i).f3).wf = true ∧ (bn i).f4.length ≤ 140737488355328 ∧ ∀ r ∈ (bn i).f4, (Lit.int .i64 r.f5).wf = true := by
  refine ⟨hi, show (Lit.int .i64 1).wf = true from by decide, show (Lit.int .i64 5).wf = true from by decide, hi, show 1 ≤ 140737488355328 from by decide, fun r hr => ?_⟩
  simp only [bn, List.mem_singleton] at hr
  subst hr
  show (Lit.int .i64 0).wf = true
  decide
theorem lst_ok (n : Nat) (hn : n ≤ 30) : ∀ b ∈ lst n, (Lit.int .i64 b.f0).wf = true ∧ (Lit.int .i64 b.f1).wf = true ∧ (Lit.int .i64 b.f2).wf = true ∧ (Lit.int .i64 b.f3).wf = true ∧ b.f4.length ≤ 140737488355328 ∧ ∀ r ∈ b.f4, (Lit.int .i64 r.f5).wf = true := by
  rw [lst_map]
  intro b hb
  obtain ⟨i, hi, rfl⟩ := List.mem_map.1 hb
  have := mem_rng.1 hi
  exact bn_ok i (wf_of (by omega))

end Go.Proofs.Ytdlkofmcioalfaa.PCk
