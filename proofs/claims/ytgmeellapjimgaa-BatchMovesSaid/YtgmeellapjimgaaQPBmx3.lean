-- written by a program of this session (wip/tools/pr.py, over the kit's printer): not by hand
import Derived.Test.YtgmeellapjimgaaQPBmx1
import Derived.Test.YtgmeellapjimgaaQPBmx2
namespace Go.Proofs.Ytgmeellapjimgaa.PBm
open Go.RowKit Go.Proofs.YtgmeellapjimgaaW.PrintWords Go.Proofs.YtgmeellapjimgaaW.PrintLast Go.Proofs.YtgmeellapjimgaaW.PrintMore
attribute [local go_sem] max2_int min2_int max_two min_two max_three min_three max_four min_four   -- for this text's walks alone
set_option linter.unusedVariables false
set_option linter.unusedSimpArgs false

/-! ### crc_More: function 63 -/
mutual
def crc_More.l0 : Nat → Int → List Int → Int → Int → Option (Int)
  | 0, _, _, _, _ => none
  | k + 1, x0, x9, x10, x11 => if x11 < x10 then (if 0 ≤ x11 then (if x11 < (x9.length : Int) then (crc_More.l1 k (Go.bits .xor .u32 x0 ((rd x9 x11) % 4294967296)) x9 x10 x11 0) else (none)) else (none)) else (some (Go.bits .xor .u32 4294967295 x0))
def crc_More.l1 : Nat → Int → List Int → Int → Int → Int → Option (Int)
  | 0, _, _, _, _, _ => none
  | k + 1, x0, x9, x10, x11, x19 => if x19 < 8 then (crc_More.l1 k (Go.bits .xor .u32 (x0 / 2) (Go.bits .and .u32 2197175160 ((-(Go.bits .and .u32 x0 1)) % 4294967296))) x9 x10 x11 (wrap64 (x19 + 1))) else (crc_More.l0 k x0 x9 x10 (wrap64 (x11 + 1)))
end
def crc_More.f (k : Nat) (a0 : Int) (l1 : List Int) : Option (Int) := crc_More.l0 k (Go.bits .xor .u32 4294967295 a0) l1 (l1.length : Int) 0
set_option maxRecDepth 100000 in
theorem crc_More.mono_l : ∀ k, (∀ y0 y1 y2 y3, LeO (crc_More.l0 k y0 y1 y2 y3) (crc_More.l0 (k + 1) y0 y1 y2 y3)) ∧ (∀ y0 y1 y2 y3 y4, LeO (crc_More.l1 k y0 y1 y2 y3 y4) (crc_More.l1 (k + 1) y0 y1 y2 y3 y4))
  | 0 => ⟨fun _ _ _ _ r h => by first | exact nomatch (show (none : Option _) = some r from h) | (rw [crc_More.l0] at h; cases h; done) | (simp [crc_More.l0] at h; done), fun _ _ _ _ _ r h => by first | exact nomatch (show (none : Option _) = some r from h) | (rw [crc_More.l1] at h; cases h; done) | (simp [crc_More.l1] at h; done)⟩
  | k + 1 => by
    obtain ⟨ih0, ih1⟩ := crc_More.mono_l k
    refine ⟨?_, ?_⟩
    · intro y0 y1 y2 y3
      unfold crc_More.l0
      repeat' first
      | (with_reducible exact ih0 _ _ _ _)
      | (with_reducible exact ih1 _ _ _ _ _)
      | (with_reducible exact LeO.refl _)
      | (with_reducible exact LeO.none _)
      | (with_reducible refine LeO.ite ?_ ?_)
      | (with_reducible refine LeO.bind ?_ (fun _ => ?_))
      | exact ih0 _ _ _ _
      | exact ih1 _ _ _ _ _
      | exact LeO.none _
      | refine LeO.ite ?_ ?_
      | refine LeO.bind ?_ (fun _ => ?_)
    · intro y0 y1 y2 y3 y4
      unfold crc_More.l1
      repeat' first
      | (with_reducible exact ih0 _ _ _ _)
      | (with_reducible exact ih1 _ _ _ _ _)
      | (with_reducible exact LeO.refl _)
      | (with_reducible exact LeO.none _)
      | (with_reducible refine LeO.ite ?_ ?_)
      | (with_reducible refine LeO.bind ?_ (fun _ => ?_))
      | exact ih0 _ _ _ _
      | exact ih1 _ _ _ _ _
      | exact LeO.none _
      | refine LeO.ite ?_ ?_
      | refine LeO.bind ?_ (fun _ => ?_)
theorem crc_More.mono : ∀ a0 a1 k, LeO (crc_More.f k a0 a1) (crc_More.f (k + 1) a0 a1) := by
  intro a0 a1 k
  obtain ⟨ih0, ih1⟩ := crc_More.mono_l k
  unfold crc_More.f
  repeat' first
      | (with_reducible exact ih0 _ _ _ _)
      | (with_reducible exact ih1 _ _ _ _ _)
      | (with_reducible exact LeO.refl _)
      | (with_reducible exact LeO.none _)
      | (with_reducible refine LeO.ite ?_ ?_)
      | (with_reducible refine LeO.bind ?_ (fun _ => ?_))
      | exact ih0 _ _ _ _
      | exact ih1 _ _ _ _ _
      | exact LeO.none _
      | refine LeO.ite ?_ ?_
      | refine LeO.bind ?_ (fun _ => ?_)
set_option maxHeartbeats 8000000 in
set_option maxRecDepth 100000 in
theorem crc_More.calls (k : Nat) (a0 : Int) (A1 : Option Addr) (c1 : Nat) (l1 : List Int) (r : Int) (w : World) (hr1 : Kd.C (Kd.int .u8) w A1 l1.length l1) (hc1 : l1.length ≤ c1) (h : crc_More.f k a0 l1 = some r) :
    Calls Try.prog 63 #[.int .u32 a0, .slice A1 l1.length c1] w fun e w' => e = .returned (.int .u32 r) ∧ Drawn0 w w' := by
  have HR1 := Aside0.mk hr1
  have HC1 := Aside0.mk hc1
  clear hr1 hc1
  have H : (crc_More.l0 k (Go.bits .xor .u32 4294967295 a0) l1 (l1.length : Int) 0) = some r := h
  clear h
  have H' := Aside0.mk H
  clear H
  go_enter Try.func63, Try.ntmps63
  go_wp2
  go_loopg [0, 11] k (fun kq v0 v11 w' => ∃ (x0_1 : Int) (x11_1 : Int), v0 = .int .u32 x0_1 ∧ v11 = .int .i64 x11_1 ∧ Aside0 (crc_More.l0 kq x0_1 l1 (l1.length : Int) x11_1 = some r) ∧ Aside0 (kq ≤ k) ∧ Drawn0 w w')
  case atStart => exact ⟨(Go.bits .xor .u32 4294967295 a0), (0), (by first | rfl | (simp; done) | (simp [*]; done) | exact congrArg Value.bool (ne_empty _) | exact congrArg Value.bool (eq_empty _)), (by first | rfl | (simp; done) | (simp [*]; done) | exact congrArg Value.bool (ne_empty _) | exact congrArg Value.bool (eq_empty _)), H', ⟨Nat.le_refl _⟩, by repeat (first | exact Drawn0.refl _ | apply Drawn0.step)⟩
  case round =>
    clear H'
    try clear c1
    try clear p2
    obtain ⟨x0_1, x11_1, rfl, rfl, HA, HK1, ⟨m1, rfl⟩⟩ := hrel
    cases gk with
    | zero => exact absurd HA.out (by first | (intro h_; exact nomatch (show (none : Option _) = some r from h_)) | simp [crc_More.l0])
    | succ k1 =>
      have H := HA.out
      clear HA
      simp only [crc_More.l0] at H
      by_cases c3 : x11_1 < (l1.length : Int)
      · rw [if_pos c3] at H
        have c3b0 : decide (x11_1 < (l1.length : Int)) = true := decide_eq_true c3
        clear c3
        by_cases c4 : 0 ≤ x11_1
        · rw [if_pos c4] at H
          have c4b0 : decide (0 ≤ x11_1) = true := decide_eq_true c4
          clear c4
          by_cases c5 : x11_1 < (l1.length : Int)
          · rw [if_pos c5] at H
            have c5b0 : decide (x11_1 < (l1.length : Int)) = true := decide_eq_true c5
            clear c5
            have H' := Aside0.mk H
            clear H
            have p166 : 0 ≤ (x11_1 : Int) := of_decide_eq_true (by first | (with_reducible assumption) | assumption)
            have q166 : x11_1 < (l1.length : Int) := of_decide_eq_true (by first | (with_reducible assumption) | assumption)
            obtain ⟨ad166, e166, hx166_0⟩ := Kd.at_int HR1.out x11_1 p166 q166
            cases e166
            replace p166 := eq_true p166
            replace q166 := eq_true q166
            go_wp2
            go_loopg [0, 19] k1 (fun kq v0 v19 w' => ∃ (x0_2 : Int) (x19_2 : Int), v0 = .int .u32 x0_2 ∧ v19 = .int .i64 x19_2 ∧ Aside0 (crc_More.l1 kq x0_2 l1 (l1.length : Int) x11_1 x19_2 = some r) ∧ Aside0 (kq ≤ k1) ∧ Drawn0 w w')
            case atStart => exact ⟨(Go.bits .xor .u32 x0_1 ((rd l1 x11_1) % 4294967296)), (0), (by first | rfl | (simp; done) | (simp [*]; done) | exact congrArg Value.bool (ne_empty _) | exact congrArg Value.bool (eq_empty _)), (by first | rfl | (simp; done) | (simp [*]; done) | exact congrArg Value.bool (ne_empty _) | exact congrArg Value.bool (eq_empty _)), H', ⟨Nat.le_refl _⟩, by repeat (first | exact Drawn0.refl _ | apply Drawn0.step)⟩
            case round =>
              clear H'
              try clear c1
              try clear p1
              try clear q1
              try clear hx1
              try clear p2
              try clear c3
              try clear c3b0
              try clear c4
              try clear c4b0
              try clear c5
              try clear c5b0
              try clear hx166_0
              try clear p166
              try clear p2
              try clear q166
              obtain ⟨x0_2, x19_2, rfl, rfl, HA, HK2, ⟨m2, rfl⟩⟩ := hrel
              cases gk with
              | zero => exact absurd HA.out (by first | (intro h_; exact nomatch (show (none : Option _) = some r from h_)) | simp [crc_More.l1])
              | succ k2 =>
                have H := HA.out
                clear HA
                simp only [crc_More.l1] at H
                by_cases c6 : x19_2 < 8
                · rw [if_pos c6] at H
                  have c6b0 : decide (x19_2 < 8) = true := decide_eq_true c6
                  clear c6
                  have H' := Aside0.mk H
                  clear H
                  go_wp2
                  go_roundg k2
                  case measure => have := HK1.out; have := HK2.out; omega
                  case rel => exact ⟨(Go.bits .xor .u32 (x0_2 / 2) (Go.bits .and .u32 2197175160 ((-(Go.bits .and .u32 x0_2 1)) % 4294967296))), (wrap64 (x19_2 + 1)), (by first | rfl | (simp; done) | (simp [*]; done) | exact congrArg Value.bool (ne_empty _) | exact congrArg Value.bool (eq_empty _)), (by first | rfl | (simp; done) | (simp [*]; done) | exact congrArg Value.bool (ne_empty _) | exact congrArg Value.bool (eq_empty _)), H', ⟨by have := HK1.out; have := HK2.out; omega⟩, by repeat (first | exact Drawn0.refl _ | apply Drawn0.step)⟩
                · rw [if_neg c6] at H
                  have c6b0 : decide (x19_2 < 8) = false := decide_eq_false c6
                  clear c6
                  have H' := Aside0.mk H
                  clear H
                  go_wp2
                  go_roundg k2
                  case measure => have := HK1.out; have := HK2.out; omega
                  case rel => exact ⟨(x0_2), (wrap64 (x11_1 + 1)), (by first | rfl | (simp; done) | (simp [*]; done) | exact congrArg Value.bool (ne_empty _) | exact congrArg Value.bool (eq_empty _)), (by first | rfl | (simp; done) | (simp [*]; done) | exact congrArg Value.bool (ne_empty _) | exact congrArg Value.bool (eq_empty _)), H', ⟨by have := HK1.out; have := HK2.out; omega⟩, by repeat (first | exact Drawn0.refl _ | apply Drawn0.step)⟩
          · rw [if_neg c5] at H
            exact absurd H (by simp)
        · rw [if_neg c4] at H
          exact absurd H (by simp)
      · rw [if_neg c3] at H
        have c3b0 : decide (x11_1 < (l1.length : Int)) = false := decide_eq_false c3
        clear c3
        obtain rfl := Option.some.inj H
        go_wp2
        go_ret
        exact ⟨by first | rfl | (simp; done) | (simp [*]; done) | exact congrArg Value.bool (ne_empty _) | exact congrArg Value.bool (eq_empty _), by repeat (first | exact Drawn0.refl _ | apply Drawn0.step)⟩

/-! ### crc_Sum: function 46 -/
def crc_Sum.f (k : Nat) (l0 : List Int) : Option (Int) := (crc_More.f k 0 l0).bind fun t167 => (some t167)
theorem crc_Sum.mono : ∀ a0 k, LeO (crc_Sum.f k a0) (crc_Sum.f (k + 1) a0) := by
  intro a0 k
  unfold crc_Sum.f
  repeat' first
      | (with_reducible exact crc_More.mono _ _ _)
      | (with_reducible exact LeO.refl _)
      | (with_reducible exact LeO.none _)
      | (with_reducible refine LeO.ite ?_ ?_)
      | (with_reducible refine LeO.bind ?_ (fun _ => ?_))
      | exact crc_More.mono _ _ _
      | exact LeO.none _
      | refine LeO.ite ?_ ?_
      | refine LeO.bind ?_ (fun _ => ?_)
set_option maxHeartbeats 8000000 in
set_option maxRecDepth 100000 in
theorem crc_Sum.calls (k : Nat) (A0 : Option Addr) (c0 : Nat) (l0 : List Int) (r : Int) (w : World) (hr0 : Kd.C (Kd.int .u8) w A0 l0.length l0) (hc0 : l0.length ≤ c0) (h : crc_Sum.f k l0 = some r) :
    Calls Try.prog 46 #[.slice A0 l0.length c0] w fun e w' => e = .returned (.int .u32 r) ∧ Drawn0 w w' := by
  have HR0 := Aside0.mk hr0
  have HC0 := Aside0.mk hc0
  clear hr0 hc0
  have H : ((crc_More.f k 0 l0).bind fun t167 => (some t167)) = some r := h
  clear h
  replace H := Option.bind_eq_some_iff.mp H
  obtain ⟨t167, A20, H⟩ := H
  replace H : (some t167) = some r := H
  have A2 := Aside0.mk A20
  clear A20
  obtain rfl := Option.some.inj H
  go_enter Try.func46, Try.ntmps46
  go_wp2_with (first | ((with_reducible refine gate_callee (f := 63) rfl ?_); refine goesL_ (some 4) rfl rfl Try.func63 (by kernel_rfl) rfl #[.int .u32 0, .slice A0 l0.length c0] rfl (by (try simp only [List.map_toArray, List.map_cons, List.map_nil]); first | done | rfl | (simp only [List.length_drop, List.length_take]; rfl)) ?_; (with_reducible refine (crc_More.calls k 0 _ _ l0 t167 _ ?side1 ?side2 A2.out).mono ?_); (case side1 => repeat (first | exact HR0.out | (with_reducible refine Kd.C_alloc ?_ _) | (with_reducible refine Kd.C_drewN ?_ _) | (with_reducible refine Kd.C_drew ?_))); (case side2 => exact HC0.out); rintro e w' ⟨rfl, ⟨nd, rfl⟩⟩; refine ⟨_, rfl, ?_⟩))
  go_ret
  exact ⟨by first | rfl | (simp; done) | (simp [*]; done) | exact congrArg Value.bool (ne_empty _) | exact congrArg Value.bool (eq_empty _), by repeat (first | exact Drawn0.refl _ | apply Drawn0.step)⟩

/-! ### batch_numbers: the head's numbers -/
def numsC : Array Value := #[.int .i64 16, .int .i64 8, .int .i64 24, .int .i64 8, .int .i64 32, .int .i64 4, .int .i64 36, .int .i64 4, .int .i64 40, .int .i64 8]
theorem results_one {P : Program} {fn : Func} {p : Tmp} {ty : TypeId} (h : fn.results = #[.cell p ty]) (tmps : Array Value) (w : World) (g : Nat) (t : TypeId) (cs : Array Value) (fr : Nat × Nat) (d : TypeDesc)
    (hp : tmps.getD p undef = .pointer (some ⟨g, 0, none⟩)) (hg : w.heap[g]? = some (.cells cs t fr))
    (hu : P.underlying ty = some d) (hd : (match d with | .struct _ | .array _ _ => true | _ => false) = true) (hi : (P.info? ty).map (·.size) = some cs.size) :
    (results fn tmps).run P w = .ok (.agg cs) w := by
  have hp' : tmps[p]?.getD undef = .pointer (some ⟨g, 0, none⟩) := by simpa using hp
  simp [results, h, hp', asAddr, run_loadVar_row w g t ty cs fr d hg hu hd hi]
set_option maxHeartbeats 4000000 in
set_option maxRecDepth 100000 in
theorem batch_numbers.calls (w : World) :
    Calls Try.prog 35 #[] w fun e w' => e = .returned (.agg numsC) ∧ Below w.heap.size w w' := by
  go_enter Try.func35, Try.ntmps35
  go_wp2_with fail
  refine bodyPost_ret (results_one rfl _ _ w.heap.size 72 numsC (0, 0) (.array 5 71) rfl (heap_alloc_new w _) (by kernel_rfl) rfl (by kernel_rfl)) rfl ⟨rfl, below_alloc (Below.refl _ _) _⟩
/-! ### batch_laid -/
def chkL (k : Nat) : List S45 → Option Int
  | [] => some 0
  | x :: l => (record_Check.f k x.f0 x.f1 x.f2 x.f3 x.f4 x.f5).bind fun e => if e = 0 then chkL k l else some e
def encL (k : Nat) (first : Int) : List S45 → List Int → Option (List Int × Int)
  | [], acc => some (acc, 0)
  | x :: l, acc => (record_Encode.f k x.f0 x.f1 x.f2 x.f3 x.f4 x.f5 first).bind fun t => if t.2 = 0 then (if acc.length + t.1.length < 140737488355328 then encL k first l (acc ++ t.1) else none) else some ([], t.2)
def headL (k : Nat) (b s p q : Int) (n first : Int) : Option (List Int) := (batch_put.f k (List.replicate 48 0) 0 8 b).bind fun g0 => (batch_put.f k g0 16 8 p).bind fun g1 => (batch_put.f k g1 24 8 q).bind fun g2 => (batch_put.f k g2 32 4 s).bind fun g3 => (batch_put.f k g3 36 4 n).bind fun g4 => batch_put.f k g4 40 8 first
def tailL (k : Nat) (out : List Int) : Option (List Int × Int) := if ¬ out.length < 140737488355328 then none else (batch_put.f k out 8 4 ((out.length : Int) - 12)).bind fun o2 => if 16 ≤ o2.length then (crc_Sum.f k (o2.drop 16)).bind fun c => if 0 ≤ c ∧ c < 4294967296 then (batch_put.f k o2 12 4 c).bind fun o3 => some (o3, 0) else none else none
def batch_laid.f (k : Nat) (b s p q : Int) (l : List S45) : Option (List Int × Int) :=
  if ¬ offsOk b s p q l then some ([], 1) else (headL k b s p q (l.length : Int) (rd_T45 l 0).f4).bind fun h => (chkL k l).bind fun e => if e = 0 then (encL k (rd_T45 l 0).f4 l h).bind fun t => if t.2 = 0 then tailL k t.1 else some ([], t.2) else some ([], e)
theorem chkL.mono (k : Nat) : ∀ l, LeO (chkL k l) (chkL (k + 1) l)
  | [] => LeO.refl _
  | x :: l => by unfold chkL; exact LeO.bind (record_Check.mono _ _ _ _ _ _ _) (fun e => LeO.ite (chkL.mono k l) (LeO.refl _))
theorem encL.mono (k : Nat) (first : Int) : ∀ l acc, LeO (encL k first l acc) (encL (k + 1) first l acc)
  | [], _ => LeO.refl _
  | x :: l, acc => by unfold encL; exact LeO.bind (record_Encode.mono _ _ _ _ _ _ _ _) (fun t => LeO.ite (LeO.ite (encL.mono k first l _) (LeO.refl _)) (LeO.refl _))
theorem headL.mono (k : Nat) (b s p q n first : Int) : LeO (headL k b s p q n first) (headL (k + 1) b s p q n first) := by
  unfold headL
  repeat' first | (with_reducible exact batch_put.mono _ _ _ _ _) | (with_reducible refine LeO.bind ?_ (fun _ => ?_))
theorem tailL.mono (k : Nat) (out : List Int) : LeO (tailL k out) (tailL (k + 1) out) := by
  unfold tailL
  repeat' first | (with_reducible exact LeO.refl _) | (with_reducible exact batch_put.mono _ _ _ _ _) | (with_reducible exact crc_Sum.mono _ _) | (with_reducible refine LeO.ite ?_ ?_) | (with_reducible refine LeO.bind ?_ (fun _ => ?_))
theorem batch_laid.mono : ∀ a0 a1 a2 a3 a4 k, LeO (batch_laid.f k a0 a1 a2 a3 a4) (batch_laid.f (k + 1) a0 a1 a2 a3 a4) := by
  intro b s p q l k
  unfold batch_laid.f
  exact LeO.ite (LeO.refl _) (LeO.bind (headL.mono _ _ _ _ _ _ _) (fun h => LeO.bind (chkL.mono _ _) (fun e => LeO.ite (LeO.bind (encL.mono _ _ _ _) (fun t => LeO.ite (tailL.mono _ _) (LeO.refl _))) (LeO.refl _))))
theorem rdl_drop {l : List S45} {i : Int} (h0 : 0 ≤ i) (h : i < (l.length : Int)) : l.drop i.toNat = rd_T45 l i :: l.drop (i + 1).toNat := by
  have e : (i + 1).toNat = i.toNat + 1 := by omega
  have hl : i.toNat < l.length := by omega
  rw [List.drop_eq_getElem_cons hl, e]
  congr 1
  unfold rd_T45
  rw [List.getD_eq_getElem?_getD, List.getElem?_eq_getElem hl]
  rfl
set_option maxHeartbeats 4000000 in
set_option maxRecDepth 100000 in
theorem batch_laid.odd (k : Nat) (b s p q : Int) (A : Option Addr) (c : Nat) (l : List S45) (w : World) (hr : Kd.C k45 w A l.length l) (hc : l.length ≤ c) (h : ¬ offsOk b s p q l) :
    Calls Try.prog 27 #[.agg #[.int .i64 b, .int .i64 s, .int .i64 p, .int .i64 q, .slice A l.length c]] w fun e w' => ∃ v0_ : Value, e = .returned (.tuple #[v0_, .int .i64 1]) ∧ Kd.R (Kd.int .u8) 5 w' w.heap.size (fun _ => True) v0_ [] ∧ Below w.heap.size w w' := by
  have HR := Aside0.mk hr
  have HC := Aside0.mk hc
  have HO := Aside0.mk (show batch_offsets.f b s p q l = some false from congrArg some (decide_eq_false h))
  clear hr hc h
  go_enter Try.func27, Try.ntmps27
  go_wp2_with fail
  refine (batch_offsets.calls b s p q A c l false _ (Kd.C_below HR.out (below_alloc (Below.refl _ _) _)) HC.out HO.out).mono ?_
  rintro e w2 ⟨rfl, hb⟩
  have HB2 := Aside0.mk (below_step (below_alloc (Below.refl _ _) (.cells #[.int .i64 b, .int .i64 s, .int .i64 p, .int .i64 q, .slice A l.length c] 24 (0, 0))) hb)
  have BK2 := Aside0.mk ((hb.block _ (by simp)).trans (heap_alloc_new w (.cells #[.int .i64 b, .int .i64 s, .int .i64 p, .int .i64 q, .slice A l.length c] 24 (0, 0))))
  clear hb
  go_wp2_with fail
  refine bodyPost_ret (v := .tuple #[.slice none 0 0, .int .i64 1]) (by simp [results, Try.results27, go_sem]) rfl ⟨_, rfl, Kd.R_nil _ _ _ _ _, HB2.out⟩
set_option maxHeartbeats 4000000 in
set_option maxRecDepth 100000 in
theorem batch_laid.main (k : Nat) (b s p q : Int) (A : Option Addr) (c : Nat) (l : List S45) (w : World) (hr : Kd.C k45 w A l.length l) (hc : l.length ≤ c) (r1 : List Int) (r2 : Int) (h : offsOk b s p q l) (hd : List Int) (hh : headL k b s p q (l.length : Int) (rd_T45 l 0).f4 = some hd) (hz : ((chkL k l).bind fun e => if e = 0 then (encL k (rd_T45 l 0).f4 l hd).bind fun t => if t.2 = 0 then tailL k t.1 else some ([], t.2) else some ([], e)) = some (r1, r2)) :
    Calls Try.prog 27 #[.agg #[.int .i64 b, .int .i64 s, .int .i64 p, .int .i64 q, .slice A l.length c]] w fun e w' => ∃ v0_ : Value, e = .returned (.tuple #[v0_, .int .i64 r2]) ∧ Kd.R (Kd.int .u8) 5 w' w.heap.size (fun _ => True) v0_ r1 ∧ Below w.heap.size w w' := by
  have HR := Aside0.mk hr
  have HC := Aside0.mk hc
  have HO := Aside0.mk (show batch_offsets.f b s p q l = some true from congrArg some (decide_eq_true h))
  have HLl := Aside0.mk (show 0 < l.length from Nat.pos_of_ne_zero h.2.2.2.2.2.2.1)
  have HLm := Aside0.mk (show l.length ≤ 9223372036854775807 from hr.2.1)
  have HZ := Aside0.mk hz
  unfold headL at hh
  replace hh := Option.bind_eq_some_iff.mp hh
  obtain ⟨g0, G0_, hh⟩ := hh
  replace hh := Option.bind_eq_some_iff.mp hh
  obtain ⟨g1, G1_, hh⟩ := hh
  replace hh := Option.bind_eq_some_iff.mp hh
  obtain ⟨g2, G2_, hh⟩ := hh
  replace hh := Option.bind_eq_some_iff.mp hh
  obtain ⟨g3, G3_, hh⟩ := hh
  replace hh := Option.bind_eq_some_iff.mp hh
  obtain ⟨g4, G4_, hh⟩ := hh
  obtain ⟨first, hfirst⟩ : ∃ first, first = (rd_T45 l 0).f4 := ⟨_, rfl⟩
  rw [← hfirst] at hh
  have G0 := Aside0.mk G0_
  have G1 := Aside0.mk G1_
  have G2 := Aside0.mk G2_
  have G3 := Aside0.mk G3_
  have G4 := Aside0.mk G4_
  have G5 := Aside0.mk hh
  have HFI := Aside0.mk hfirst
  clear hr hc h hz hh hfirst G0_ G1_ G2_ G3_ G4_
  go_enter Try.func27, Try.ntmps27
  go_wp2_with fail
  refine (batch_offsets.calls b s p q A c l true _ (Kd.C_below HR.out (below_alloc (Below.refl _ _) _)) HC.out HO.out).mono ?_
  rintro e w2 ⟨rfl, hb⟩
  have HB2 := Aside0.mk (below_step (below_alloc (Below.refl _ _) (.cells #[.int .i64 b, .int .i64 s, .int .i64 p, .int .i64 q, .slice A l.length c] 24 (0, 0))) hb)
  have BK2 := Aside0.mk ((hb.block _ (by simp)).trans (heap_alloc_new w (.cells #[.int .i64 b, .int .i64 s, .int .i64 p, .int .i64 q, .slice A l.length c] 24 (0, 0))))
  clear hb
  obtain ⟨ad, rfl, -, -, -, -, x4, -⟩ := at_T45 (Kd.C_below HR.out HB2.out) 0 (by decide) (by have := HLl.out; omega)
  rw [← HFI.out] at x4
  rw [show ((0 : Int)).toNat * 6 = 0 from rfl, Addr.add_zero'] at x4
  have y4 : w2.cell? ⟨w.heap.size, 4, none⟩ = some (.slice (some ad) l.length c) := (blk_cell BK2.out 4).trans rfl
  have p1 : decide (0 < (l.length : Int)) = true := decide_eq_true (by have := HLl.out; omega)
  have p2 := eq_true (show 0 < (l.length : Int) by have := HLl.out; omega)
  have p3 := eq_true HLl.out
  go_wp2_with fail
  obtain ⟨zl, hzl⟩ : ∃ zl, zl = List.replicate 48 (0 : Int) := ⟨_, rfl⟩
  have G0 := Aside0.mk (show batch_put.f k zl 0 8 b = some g0 from by rw [hzl]; exact G0.out)
  have HZL := Aside0.mk hzl
  clear hzl x4 y4 p1 p2 p3
  refine start_ (n := 5) (S := fun w' => w'.cell? ⟨w.heap.size, 0, none⟩ = some (.int .i64 b)) (ds := []) #[false, false, false, false, false] (by kernel_rfl) rfl rfl ((blk_cell BK2.out 0).trans rfl) (fun hHeld => ?_)
  have BK3 := Aside0.mk (blk_drew BK2.out)
  have HB3 := Aside0.mk (below_drew1 HB2.out)
  clear BK2 HB2
  generalize w2.drew = w3 at BK3 HB3 hHeld ⊢
  refine pure_ (i := 1) (N := some 25) (v := ?_) (a' := ?_) #[false, true, false, false, false] rfl rfl (by kernel_rfl) (fun _ _ _ h => h) (Or.inl ⟨by rfl, ?_⟩) ?_ ?_
  rotate_left
  · intro w'
    go_simp
    with_reducible rfl
  rotate_left
  · simp only [Act.put, List.setIfInBounds_toArray, List.set_cons_zero, List.set_cons_succ, i64_w, i32_w]
    rfl
  refine take_ (i := 2) (N := some 26) (v := ?_) (a' := ?_) #[false, true, true, false, false] rfl rfl (by kernel_rfl) (fun _ _ _ h => h) (Or.inl ⟨by rfl, ?_⟩) hHeld ?_ ?_
  rotate_left
  · intro w' s0
    go_simp
    with_reducible rfl
  rotate_left
  · simp only [Act.put, List.setIfInBounds_toArray, List.set_cons_zero, List.set_cons_succ, i64_w, i32_w]
    rfl
  refine one_ (i := 0) (N := some 24) #[true, true, true, false, false] rfl rfl (by kernel_rfl) (by decide) (fun K hK => ?_)
  refine Kd.R_make_step (Kd.int .u8) _ 5 (by rfl) (N := 24) rfl 27 _ _ rfl 48 rfl rfl Try.underlying27 (.int .u8 0) 1 info5 rfl (by decide) (by omega) 0 (ok := fun _ => True) (okp := fun _ => True) rfl (fun _ hk => hk) trivial (by omega) (by omega) (Below.refl _ _) (Nat.le_refl _) ?_
  intro v4 w4 ho hb hg_ hnew_
  rw [show List.replicate (Int.toNat 48) (0 : Int) = zl from HZL.out.symm] at ho
  obtain ⟨A4, c4, e4⟩ := Kd.R_slice ho
  subst e4
  have HO4 := Aside0.mk (Kd.R_reads' ho).2
  have HB4 := Aside0.mk (below_step HB3.out hb)
  have BK4 := Aside0.mk ((hb.block _ (blk_lt BK3.out)).trans BK3.out)
  clear ho hb hg_ hnew_ BK3 HB3 hHeld
  refine hK.out _ _ ((blk_cell BK4.out 0).trans rfl) (fun hHeld => ?_)
  clear hK K
  refine norm_ (a' := ?_) ?_ ?_
  rotate_left
  · show Act.put _ (some 24) _ = _
    simp only [Act.put, List.setIfInBounds_toArray, List.set_cons_zero, List.set_cons_succ, i64_w, i32_w]
    rfl
  refine one_ (i := 3) (N := some 27) #[true, true, true, true, false] rfl rfl (by kernel_rfl) (by decide) (fun K hK => ?_)
  refine goes_ Try.func41 (by kernel_rfl) rfl #[.slice A4 zl.length c4, .int .i64 0, .int .i64 8, .int .i64 b] (by rfl) rfl rfl (by (try simp only [List.map_toArray, List.map_cons, List.map_nil]); first | done | rfl) ?_
  refine (batch_put.calls k A4 c4 zl 0 8 b g0 _ HO4.out.2 HO4.out.1 G0.out).mono ?_
  rintro e w5 ⟨v5, rfl, ho, hb⟩
  obtain ⟨A5, c5, e5⟩ := Kd.R_slice ho
  subst e5
  refine ⟨_, rfl, ?_⟩
  have HV0 := Aside0.mk (Kd.R_lower ho HB4.out.size)
  have HB5 := Aside0.mk (below_step HB4.out hb)
  have BK5 := Aside0.mk ((hb.block _ (blk_lt BK4.out)).trans BK4.out)
  clear ho hb BK4 HB4 HO4 hHeld
  refine hK.out _ _ ((blk_cell BK5.out 0).trans rfl) (fun hHeld => ?_)
  clear hK K
  refine norm_ (a' := ?_) ?_ ?_
  rotate_left
  · show Act.put _ (some 27) _ = _
    simp only [Act.put, List.setIfInBounds_toArray, List.set_cons_zero, List.set_cons_succ, i64_w, i32_w]
    rfl
  refine pure_ (i := 4) (N := some 5) (v := ?_) (a' := ?_) #[true, true, true, true, true] rfl rfl (by kernel_rfl) (fun _ _ _ h => h) (Or.inl ⟨by rfl, ?_⟩) ?_ ?_
  rotate_left
  · intro w'
    go_simp
    with_reducible rfl
  rotate_left
  · simp only [Act.put, List.setIfInBounds_toArray, List.set_cons_zero, List.set_cons_succ, i64_w, i32_w]
    rfl
  refine done_ (by kernel_rfl) ?_
  clear hHeld
  have y1 : w5.cell? ⟨w.heap.size, 1, none⟩ = some (.int .i64 s) := (blk_cell BK5.out 1).trans rfl
  have y2 : w5.cell? ⟨w.heap.size, 2, none⟩ = some (.int .i64 p) := (blk_cell BK5.out 2).trans rfl
  have y3 : w5.cell? ⟨w.heap.size, 3, none⟩ = some (.int .i64 q) := (blk_cell BK5.out 3).trans rfl
  have y4 : w5.cell? ⟨w.heap.size, 4, none⟩ = some (.slice (some ad) l.length c) := (blk_cell BK5.out 4).trans rfl
  go_wp2_with fail
  obtain ⟨W6, hW6⟩ : ∃ W6, W6 = w5.alloc (.cells #[.int .i64 p, .int .i64 q, .int .i64 s, .int .i64 (l.length : Int), .int .i64 first] 3 (0, 0)) := ⟨_, rfl⟩
  have FV0 := Aside0.mk (show W6.heap[w5.heap.size]? = some (.cells #[.int .i64 p, .int .i64 q, .int .i64 s, .int .i64 (l.length : Int), .int .i64 first] 3 (0, 0)) from by rw [hW6]; exact heap_alloc_new w5 _)
  have BW0 := Aside0.mk (show W6.heap[w.heap.size]? = some (.cells #[.int .i64 b, .int .i64 s, .int .i64 p, .int .i64 q, .slice (some ad) l.length c] 24 (0, 0)) from by rw [hW6]; exact blk_alloc BK5.out _)
  have HW0 := Aside0.mk (show Below w.heap.size w W6 from by rw [hW6]; exact below_alloc HB5.out _)
  have HR0 := Aside0.mk (show Kd.R (Kd.int .u8) 5 W6 w.heap.size (fun _ => True) (.slice A5 g0.length c5) g0 from by rw [hW6]; exact Kd.R_alloc HV0.out _)
  rw [← hW6]
  obtain ⟨gr, hgr⟩ : ∃ gr, gr = w5.heap.size := ⟨_, rfl⟩
  rw [← hgr] at FV0 ⊢
  clear hW6 hgr HV0 HB5 BK5 y1 y2 y3 y4
  refine wp_loop_rounds 6 ?_
  rw [rounds_succ]
  have u0 : W6.cell? ⟨gr, 0, none⟩ = some (.int .i64 p) := (blk_cell FV0.out 0).trans rfl
  have ix0 : ∀ w, (Instr.index 72 (.agg numsC) (.int .i64 0)).run Try.prog w = .ok (.agg #[.int .i64 16, .int .i64 8]) w := fun _ => by kernel_rfl
  go_wp2_with fail
  refine (batch_numbers.calls _).mono ?_
  rintro e x0 ⟨rfl, hb⟩
  have n0_ := Aside0.mk ((hb.block _ (blk_lt FV0.out)).trans FV0.out)
  have n1_ := Aside0.mk ((hb.block _ (blk_lt BW0.out)).trans BW0.out)
  have n2_ := Aside0.mk (below_step HW0.out hb)
  have n3_ := Aside0.mk (Kd.R_below HR0.out hb)
  clear hb FV0 BW0 HW0 HR0 u0
  go_wp2_with fail
  have n4_ := Aside0.mk (below_alloc n2_.out (.cells #[.int .i64 16, .int .i64 8] 71 (0, 0)))
  have n5_ := Aside0.mk (Kd.R_alloc n3_.out (.cells #[.int .i64 16, .int .i64 8] 71 (0, 0)))
  have n6_ := Aside0.mk (blk_alloc n0_.out (.cells #[.int .i64 16, .int .i64 8] 71 (0, 0)))
  have n7_ := Aside0.mk (blk_alloc n1_.out (.cells #[.int .i64 16, .int .i64 8] 71 (0, 0)))
  refine (batch_put.calls k A5 c5 g0 16 8 p g1 _ (Kd.R_reads' n5_.out).2.2 (Kd.R_reads' n5_.out).2.1 G1.out).mono ?_
  rintro e z0 ⟨v, rfl, ho, hb⟩
  obtain ⟨B0, d0, ev⟩ := Kd.R_slice ho
  subst ev
  have FV1 := Aside0.mk ((hb.block _ (blk_lt n6_.out)).trans n6_.out)
  have BW1 := Aside0.mk ((hb.block _ (blk_lt n7_.out)).trans n7_.out)
  have HW1 := Aside0.mk (below_step n4_.out hb)
  have HR1 := Aside0.mk (Kd.R_lower ho n4_.out.size)
  clear ho hb n0_ n1_ n2_ n3_ n4_ n5_ n6_ n7_ ix0
  go_wp2_with fail
  rw [rounds_succ]
  have u1 : z0.cell? ⟨gr, 1, none⟩ = some (.int .i64 q) := (blk_cell FV1.out 1).trans rfl
  have ix1 : ∀ w, (Instr.index 72 (.agg numsC) (.int .i64 1)).run Try.prog w = .ok (.agg #[.int .i64 24, .int .i64 8]) w := fun _ => by kernel_rfl
  go_wp2_with fail
  refine (batch_numbers.calls _).mono ?_
  rintro e x1 ⟨rfl, hb⟩
  have n0_ := Aside0.mk ((hb.block _ (blk_lt FV1.out)).trans FV1.out)
  have n1_ := Aside0.mk ((hb.block _ (blk_lt BW1.out)).trans BW1.out)
  have n2_ := Aside0.mk (below_step HW1.out hb)
  have n3_ := Aside0.mk (Kd.R_below HR1.out hb)
  clear hb FV1 BW1 HW1 HR1 u1
  go_wp2_with fail
  have n4_ := Aside0.mk (below_alloc n2_.out (.cells #[.int .i64 24, .int .i64 8] 71 (0, 0)))
  have n5_ := Aside0.mk (Kd.R_alloc n3_.out (.cells #[.int .i64 24, .int .i64 8] 71 (0, 0)))
  have n6_ := Aside0.mk (blk_alloc n0_.out (.cells #[.int .i64 24, .int .i64 8] 71 (0, 0)))
  have n7_ := Aside0.mk (blk_alloc n1_.out (.cells #[.int .i64 24, .int .i64 8] 71 (0, 0)))
  refine (batch_put.calls k B0 d0 g1 24 8 q g2 _ (Kd.R_reads' n5_.out).2.2 (Kd.R_reads' n5_.out).2.1 G2.out).mono ?_
  rintro e z1 ⟨v, rfl, ho, hb⟩
  obtain ⟨B1, d1, ev⟩ := Kd.R_slice ho
  subst ev
  have FV2 := Aside0.mk ((hb.block _ (blk_lt n6_.out)).trans n6_.out)
  have BW2 := Aside0.mk ((hb.block _ (blk_lt n7_.out)).trans n7_.out)
  have HW2 := Aside0.mk (below_step n4_.out hb)
  have HR2 := Aside0.mk (Kd.R_lower ho n4_.out.size)
  clear ho hb n0_ n1_ n2_ n3_ n4_ n5_ n6_ n7_ ix1
  go_wp2_with fail
  rw [rounds_succ]
  have u2 : z1.cell? ⟨gr, 2, none⟩ = some (.int .i64 s) := (blk_cell FV2.out 2).trans rfl
  have ix2 : ∀ w, (Instr.index 72 (.agg numsC) (.int .i64 2)).run Try.prog w = .ok (.agg #[.int .i64 32, .int .i64 4]) w := fun _ => by kernel_rfl
  go_wp2_with fail
  refine (batch_numbers.calls _).mono ?_
  rintro e x2 ⟨rfl, hb⟩
  have n0_ := Aside0.mk ((hb.block _ (blk_lt FV2.out)).trans FV2.out)
  have n1_ := Aside0.mk ((hb.block _ (blk_lt BW2.out)).trans BW2.out)
  have n2_ := Aside0.mk (below_step HW2.out hb)
  have n3_ := Aside0.mk (Kd.R_below HR2.out hb)
  clear hb FV2 BW2 HW2 HR2 u2
  go_wp2_with fail
  have n4_ := Aside0.mk (below_alloc n2_.out (.cells #[.int .i64 32, .int .i64 4] 71 (0, 0)))
  have n5_ := Aside0.mk (Kd.R_alloc n3_.out (.cells #[.int .i64 32, .int .i64 4] 71 (0, 0)))
  have n6_ := Aside0.mk (blk_alloc n0_.out (.cells #[.int .i64 32, .int .i64 4] 71 (0, 0)))
  have n7_ := Aside0.mk (blk_alloc n1_.out (.cells #[.int .i64 32, .int .i64 4] 71 (0, 0)))
  refine (batch_put.calls k B1 d1 g2 32 4 s g3 _ (Kd.R_reads' n5_.out).2.2 (Kd.R_reads' n5_.out).2.1 G3.out).mono ?_
  rintro e z2 ⟨v, rfl, ho, hb⟩
  obtain ⟨B2, d2, ev⟩ := Kd.R_slice ho
  subst ev
  have FV3 := Aside0.mk ((hb.block _ (blk_lt n6_.out)).trans n6_.out)
  have BW3 := Aside0.mk ((hb.block _ (blk_lt n7_.out)).trans n7_.out)
  have HW3 := Aside0.mk (below_step n4_.out hb)
  have HR3 := Aside0.mk (Kd.R_lower ho n4_.out.size)
  clear ho hb n0_ n1_ n2_ n3_ n4_ n5_ n6_ n7_ ix2
  go_wp2_with fail
  rw [rounds_succ]
  have u3 : z2.cell? ⟨gr, 3, none⟩ = some (.int .i64 (l.length : Int)) := (blk_cell FV3.out 3).trans rfl
  have ix3 : ∀ w, (Instr.index 72 (.agg numsC) (.int .i64 3)).run Try.prog w = .ok (.agg #[.int .i64 36, .int .i64 4]) w := fun _ => by kernel_rfl
  go_wp2_with fail
  refine (batch_numbers.calls _).mono ?_
  rintro e x3 ⟨rfl, hb⟩
  have n0_ := Aside0.mk ((hb.block _ (blk_lt FV3.out)).trans FV3.out)
  have n1_ := Aside0.mk ((hb.block _ (blk_lt BW3.out)).trans BW3.out)
  have n2_ := Aside0.mk (below_step HW3.out hb)
  have n3_ := Aside0.mk (Kd.R_below HR3.out hb)
  clear hb FV3 BW3 HW3 HR3 u3
  go_wp2_with fail
  have n4_ := Aside0.mk (below_alloc n2_.out (.cells #[.int .i64 36, .int .i64 4] 71 (0, 0)))
  have n5_ := Aside0.mk (Kd.R_alloc n3_.out (.cells #[.int .i64 36, .int .i64 4] 71 (0, 0)))
  have n6_ := Aside0.mk (blk_alloc n0_.out (.cells #[.int .i64 36, .int .i64 4] 71 (0, 0)))
  have n7_ := Aside0.mk (blk_alloc n1_.out (.cells #[.int .i64 36, .int .i64 4] 71 (0, 0)))
  refine (batch_put.calls k B2 d2 g3 36 4 (l.length : Int) g4 _ (Kd.R_reads' n5_.out).2.2 (Kd.R_reads' n5_.out).2.1 G4.out).mono ?_
  rintro e z3 ⟨v, rfl, ho, hb⟩
  obtain ⟨B3, d3, ev⟩ := Kd.R_slice ho
  subst ev
  have FV4 := Aside0.mk ((hb.block _ (blk_lt n6_.out)).trans n6_.out)
  have BW4 := Aside0.mk ((hb.block _ (blk_lt n7_.out)).trans n7_.out)
  have HW4 := Aside0.mk (below_step n4_.out hb)
  have HR4 := Aside0.mk (Kd.R_lower ho n4_.out.size)
  clear ho hb n0_ n1_ n2_ n3_ n4_ n5_ n6_ n7_ ix3
  go_wp2_with fail
  rw [rounds_succ]
  have u4 : z3.cell? ⟨gr, 4, none⟩ = some (.int .i64 first) := (blk_cell FV4.out 4).trans rfl
  have ix4 : ∀ w, (Instr.index 72 (.agg numsC) (.int .i64 4)).run Try.prog w = .ok (.agg #[.int .i64 40, .int .i64 8]) w := fun _ => by kernel_rfl
  go_wp2_with fail
  refine (batch_numbers.calls _).mono ?_
  rintro e x4 ⟨rfl, hb⟩
  have n0_ := Aside0.mk ((hb.block _ (blk_lt FV4.out)).trans FV4.out)
  have n1_ := Aside0.mk ((hb.block _ (blk_lt BW4.out)).trans BW4.out)
  have n2_ := Aside0.mk (below_step HW4.out hb)
  have n3_ := Aside0.mk (Kd.R_below HR4.out hb)
  clear hb FV4 BW4 HW4 HR4 u4
  go_wp2_with fail
  have n4_ := Aside0.mk (below_alloc n2_.out (.cells #[.int .i64 40, .int .i64 8] 71 (0, 0)))
  have n5_ := Aside0.mk (Kd.R_alloc n3_.out (.cells #[.int .i64 40, .int .i64 8] 71 (0, 0)))
  have n6_ := Aside0.mk (blk_alloc n0_.out (.cells #[.int .i64 40, .int .i64 8] 71 (0, 0)))
  have n7_ := Aside0.mk (blk_alloc n1_.out (.cells #[.int .i64 40, .int .i64 8] 71 (0, 0)))
  refine (batch_put.calls k B3 d3 g4 40 8 first hd _ (Kd.R_reads' n5_.out).2.2 (Kd.R_reads' n5_.out).2.1 G5.out).mono ?_
  rintro e z4 ⟨v, rfl, ho, hb⟩
  obtain ⟨B4, d4, ev⟩ := Kd.R_slice ho
  subst ev
  have FV5 := Aside0.mk ((hb.block _ (blk_lt n6_.out)).trans n6_.out)
  have BW5 := Aside0.mk ((hb.block _ (blk_lt n7_.out)).trans n7_.out)
  have HW5 := Aside0.mk (below_step n4_.out hb)
  have HR5 := Aside0.mk (Kd.R_lower ho n4_.out.size)
  clear ho hb n0_ n1_ n2_ n3_ n4_ n5_ n6_ n7_ ix4
  go_wp2_with fail
  rw [rounds_succ]
  have y4 : z4.cell? ⟨w.heap.size, 4, none⟩ = some (.slice (some ad) l.length c) := (blk_cell BW5.out 4).trans rfl
  go_wp2_with fail
  clear y4
  obtain ⟨e0, he0, hz⟩ := Option.bind_eq_some_iff.mp HZ.out
  have HE0 := Aside0.mk he0
  have HZ2 := Aside0.mk hz
  clear he0 hz HZ
  go_loopg [59] (l.length + 1) (fun kq v59 w' => ∃ (i : Int), v59 = .int .i64 i ∧ Aside0 (0 ≤ i ∧ i ≤ (l.length : Int) ∧ kq + i.toNat = l.length + 1) ∧ Aside0 (chkL k (l.drop i.toNat) = some e0) ∧ Aside0 (w'.heap[w.heap.size]? = some (.cells #[.int .i64 b, .int .i64 s, .int .i64 p, .int .i64 q, .slice (some ad) l.length c] 24 (0, 0))) ∧ Aside0 (Kd.R (Kd.int .u8) 5 w' w.heap.size (fun _ => True) (.slice B4 hd.length d4) hd) ∧ Aside0 (Below w.heap.size w w'))
  case atStart => exact ⟨0, rfl, ⟨by omega, by omega, by simp⟩, ⟨HE0.out⟩, BW5, HR5, HW5⟩
  case round =>
    obtain ⟨i, rfl, HK, HC1, BK, HV, HB⟩ := hrel
    clear BW5 HR5 HW5 FV5
    by_cases hi : i < (l.length : Int)
    · have d1 : decide (i < (l.length : Int)) = true := decide_eq_true hi
      have b0 := HK.out.1
      obtain ⟨ad2, ea, x0, x1, x2, x3, x4, x5⟩ := at_T45 (Kd.C_below HR.out HB.out) i b0 hi
      injection ea with ea
      subst ea
      obtain ⟨x, hxe⟩ : ∃ x, x = rd_T45 l i := ⟨_, rfl⟩
      have hdr := rdl_drop b0 hi
      rw [← hxe] at x0 x1 x2 x3 x4 x5 hdr
      have HDR := Aside0.mk hdr
      have p1 := eq_true b0
      have p2 := eq_true hi
      have Hi := Aside0.mk hi
      have e1 : IntKind.i64.wrap (i + 1) = i + 1 := (i64_w _).trans (by have := HLm.out; unfold wrap64; omega)
      obtain ⟨W3, hW3⟩ : ∃ W3, W3 = wr.alloc (.cells #[.bool x.f0, .string x.f1, .bool x.f2, .string x.f3, .int .i64 x.f4, .int .i64 x.f5] 45 (0, 0)) := ⟨_, rfl⟩
      have HB3 := Aside0.mk (show Below w.heap.size w W3 from by rw [hW3]; exact below_alloc HB.out _)
      have BK3 := Aside0.mk (show W3.heap[w.heap.size]? = some (.cells #[.int .i64 b, .int .i64 s, .int .i64 p, .int .i64 q, .slice (some ad) l.length c] 24 (0, 0)) from by rw [hW3]; exact blk_alloc BK.out _)
      have HV3 := Aside0.mk (show Kd.R (Kd.int .u8) 5 W3 w.heap.size (fun _ => True) (.slice B4 hd.length d4) hd from by rw [hW3]; exact Kd.R_alloc HV.out _)
      have HW3 := Aside0.mk hW3
      clear hxe b0 hi hdr hW3
      have hc1 := HC1.out
      rw [HDR.out, chkL] at hc1
      obtain ⟨e2, he2, hc2⟩ := Option.bind_eq_some_iff.mp hc1
      have HE2 := Aside0.mk he2
      by_cases h2 : e2 = 0
      · have d2 : (e2 != 0) = false := bne_eq_false_iff_eq.mpr h2
        rw [if_pos h2] at hc2
        have HC2 := Aside0.mk hc2
        clear hc1 hc2 he2 h2
        go_wp2_with fail
        rw [← HW3.out]
        refine (record_Check.calls k x.f0 x.f1 x.f2 x.f3 x.f4 x.f5 e2 W3 HE2.out).mono ?_
        rintro e w7 ⟨rfl, hb⟩
        have HB7 := Aside0.mk (below_step HB3.out hb)
        have BK7 := Aside0.mk ((hb.block _ (blk_lt BK3.out)).trans BK3.out)
        have HV7 := Aside0.mk (Kd.R_below HV3.out hb)
        clear hb
        go_wp2_with fail
        go_roundg (l.length + 1 - (i + 1).toNat)
        case measure => have := HK.out; have := Hi.out; omega
        case rel => exact ⟨i + 1, rfl, ⟨by have := HK.out; omega, by have := Hi.out; omega, by have := HK.out; have := Hi.out; omega⟩, HC2, BK7, HV7, HB7⟩
      · have d2 : (e2 != 0) = true := bne_iff_ne.mpr h2
        rw [if_neg h2] at hc2
        obtain rfl := Option.some.inj hc2
        have hz := HZ2.out
        rw [if_neg h2] at hz
        simp only [Option.some.injEq, Prod.mk.injEq] at hz
        obtain ⟨rfl, rfl⟩ := hz
        clear hc1 he2 h2 hc2
        go_wp2_with fail
        rw [← HW3.out]
        refine (record_Check.calls k x.f0 x.f1 x.f2 x.f3 x.f4 x.f5 e2 W3 HE2.out).mono ?_
        rintro e w7 ⟨rfl, hb⟩
        have HB7 := Aside0.mk (below_step HB3.out hb)
        clear hb
        go_wp2_with fail
        refine bodyPost_ret (v := .tuple #[.slice none 0 0, .int .i64 e2]) (by simp [results, Try.results27, go_sem]) rfl ⟨_, rfl, Kd.R_nil _ _ _ _ _, HB7.out⟩
    · have d1 : decide (i < (l.length : Int)) = false := decide_eq_false hi
      have hc1 := HC1.out
      rw [List.drop_eq_nil_of_le (by have := HK.out; omega), chkL] at hc1
      obtain rfl := Option.some.inj hc1
      have hz := HZ2.out
      rw [if_pos rfl] at hz
      obtain ⟨t0, ht0, hz⟩ := Option.bind_eq_some_iff.mp hz
      have HT0 := Aside0.mk ht0
      have HZ3 := Aside0.mk hz
      have y4 : wr.cell? ⟨w.heap.size, 4, none⟩ = some (.slice (some ad) l.length c) := (blk_cell BK.out 4).trans rfl
      clear hc1 ht0 hz hi HC1 HE0 HZ2
      go_wp2_with fail
      clear y4
      have BK0 := BK
      have HV0 := HV
      have HB0 := HB
      clear BK HV HB HK
      go_loopg [5, 72] (l.length + 1) (fun kq v5 v72 w' => ∃ (i : Int) (acc : List Int), v72 = .int .i64 i ∧ Aside0 (0 ≤ i ∧ i ≤ (l.length : Int) ∧ kq + i.toNat = l.length + 1) ∧ Aside0 (encL k first (l.drop i.toNat) acc = some t0) ∧ Aside0 (w'.heap[w.heap.size]? = some (.cells #[.int .i64 b, .int .i64 s, .int .i64 p, .int .i64 q, .slice (some ad) l.length c] 24 (0, 0))) ∧ Aside0 (Kd.R (Kd.int .u8) 5 w' w.heap.size (fun _ => True) v5 acc) ∧ Aside0 (Below w.heap.size w w'))
      case atStart => exact ⟨0, hd, rfl, ⟨by omega, by omega, by simp⟩, ⟨by rw [HFI.out]; exact HT0.out⟩, BK0, HV0, HB0⟩
      case round =>
        obtain ⟨i, acc, rfl, HK, HC1, BK, HV, HB⟩ := hrel
        clear BK0 HV0 HB0
        by_cases hi : i < (l.length : Int)
        · have d1 : decide (i < (l.length : Int)) = true := decide_eq_true hi
          have b0 := HK.out.1
          obtain ⟨ad2, ea, x0, x1, x2, x3, x4, x5⟩ := at_T45 (Kd.C_below HR.out HB.out) i b0 hi
          injection ea with ea
          subst ea
          obtain ⟨x, hxe⟩ : ∃ x, x = rd_T45 l i := ⟨_, rfl⟩
          have hdr := rdl_drop b0 hi
          rw [← hxe] at x0 x1 x2 x3 x4 x5 hdr
          have HDR := Aside0.mk hdr
          have p1 := eq_true b0
          have p2 := eq_true hi
          have Hi := Aside0.mk hi
          have e1 : IntKind.i64.wrap (i + 1) = i + 1 := (i64_w _).trans (by have := HLm.out; unfold wrap64; omega)
          obtain ⟨W3, hW3⟩ : ∃ W3, W3 = wr.alloc (.cells #[.bool x.f0, .string x.f1, .bool x.f2, .string x.f3, .int .i64 x.f4, .int .i64 x.f5] 45 (0, 0)) := ⟨_, rfl⟩
          have HB3 := Aside0.mk (show Below w.heap.size w W3 from by rw [hW3]; exact below_alloc HB.out _)
          have BK3 := Aside0.mk (show W3.heap[w.heap.size]? = some (.cells #[.int .i64 b, .int .i64 s, .int .i64 p, .int .i64 q, .slice (some ad) l.length c] 24 (0, 0)) from by rw [hW3]; exact blk_alloc BK.out _)
          have HV3 := Aside0.mk (show Kd.R (Kd.int .u8) 5 W3 w.heap.size (fun _ => True) u5 acc from by rw [hW3]; exact Kd.R_alloc HV.out _)
          have HW3 := Aside0.mk hW3
          clear hxe b0 hi hdr hW3
          have hc1 := HC1.out
          rw [HDR.out, encL] at hc1
          obtain ⟨⟨xs, e2⟩, he2, hc2⟩ := Option.bind_eq_some_iff.mp hc1
          dsimp only at hc2
          have HE2 := Aside0.mk he2
          by_cases h2 : e2 = 0
          · have d2 : (e2 != 0) = false := bne_eq_false_iff_eq.mpr h2
            rw [if_pos h2] at hc2
            by_cases hl : acc.length + xs.length < 140737488355328
            case neg => rw [if_neg hl] at hc2; cases hc2
            rw [if_pos hl] at hc2
            have HC2 := Aside0.mk hc2
            have HL2 := Aside0.mk hl
            clear hc1 hc2 he2 h2 hl
            go_wp2_with fail
            rw [← HW3.out]
            refine (record_Encode.calls k x.f0 x.f1 x.f2 x.f3 x.f4 x.f5 first xs e2 W3 HE2.out).mono ?_
            rintro e w7 ⟨v7, rfl, ho, hb⟩
            obtain ⟨A7, c7, e7⟩ := Kd.R_slice ho
            subst e7
            have HC7 := Aside0.mk (Kd.R_reads' ho).2.2
            have HB7 := Aside0.mk (below_step HB3.out hb)
            have BK7 := Aside0.mk ((hb.block _ (blk_lt BK3.out)).trans BK3.out)
            have HV7 := Aside0.mk (Kd.R_below HV3.out hb)
            clear hb ho
            go_wp2_with (at_builtin; refine Kd.R_append_rows (Kd.int .u8) (w0 := w) w.heap.size rfl (.tmp 85) (.tmp 86) 27 5 (.int .u8 0) 1 rfl Try.underlying27 info5 rfl (by decide) (by decide) u5 acc xs A7 xs.length c7 (fun _ => True) (fun _ => False) rfl rfl HV7.out HC7.out (fun _ _ h => h) (fun _ h => h.elim) (fun _ _ => trivial) HB7.out HB7.out.size ?aL ?_; (case aL => have := HL2.out; omega); intro v8 w8 ho hb hg hat; have HV8 := Aside0.mk ho; have HB8 := Aside0.mk hb; have BK8 := Aside0.mk ((hg.block _ (blk_lt BK7.out) (Kd.R_ne HV7.out BK7.out (by decide))).trans BK7.out); clear ho hb hg hat)
            go_roundg (l.length + 1 - (i + 1).toNat)
            case measure => have := HK.out; have := Hi.out; omega
            case rel => exact ⟨i + 1, acc ++ xs, rfl, ⟨by have := HK.out; omega, by have := Hi.out; omega, by have := HK.out; have := Hi.out; omega⟩, HC2, BK8, HV8, HB8⟩
          · have d2 : (e2 != 0) = true := bne_iff_ne.mpr h2
            rw [if_neg h2] at hc2
            obtain rfl := Option.some.inj hc2
            have hz := HZ3.out
            dsimp only at hz
            rw [if_neg h2] at hz
            simp only [Option.some.injEq, Prod.mk.injEq] at hz
            obtain ⟨rfl, rfl⟩ := hz
            clear hc1 he2 h2 hc2
            go_wp2_with fail
            rw [← HW3.out]
            refine (record_Encode.calls k x.f0 x.f1 x.f2 x.f3 x.f4 x.f5 first xs e2 W3 HE2.out).mono ?_
            rintro e w7 ⟨v7, rfl, ho, hb⟩
            have HB7 := Aside0.mk (below_step HB3.out hb)
            clear hb ho
            go_wp2_with fail
            refine bodyPost_ret (v := .tuple #[.slice none 0 0, .int .i64 e2]) (by simp [results, Try.results27, go_sem]) rfl ⟨_, rfl, Kd.R_nil _ _ _ _ _, HB7.out⟩
        · have d1 : decide (i < (l.length : Int)) = false := decide_eq_false hi
          have hc1 := HC1.out
          rw [List.drop_eq_nil_of_le (by have := HK.out; omega), encL] at hc1
          obtain rfl := Option.some.inj hc1
          have hz := HZ3.out
          dsimp only at hz
          rw [if_pos rfl] at hz
          unfold tailL at hz
          by_cases hl : acc.length < 140737488355328
          case neg => rw [if_pos hl] at hz; cases hz
          rw [if_neg (not_not_intro hl)] at hz
          obtain ⟨o2, ho2, hz⟩ := Option.bind_eq_some_iff.mp hz
          by_cases h16 : 16 ≤ o2.length
          case neg => rw [if_neg h16] at hz; cases hz
          rw [if_pos h16] at hz
          obtain ⟨cr, hcr, hz⟩ := Option.bind_eq_some_iff.mp hz
          by_cases hcb : 0 ≤ cr ∧ cr < 4294967296
          case neg => rw [if_neg hcb] at hz; cases hz
          rw [if_pos hcb] at hz
          obtain ⟨o3, ho3, hz⟩ := Option.bind_eq_some_iff.mp hz
          simp only [Option.some.injEq, Prod.mk.injEq] at hz
          obtain ⟨rfl, rfl⟩ := hz
          have HO2 := Aside0.mk ho2
          have HCR := Aside0.mk hcr
          have HO3 := Aside0.mk ho3
          have H16 := Aside0.mk h16
          have e12 : IntKind.i64.wrap ((acc.length : Int) - 12) = (acc.length : Int) - 12 := (i64_w _).trans (by unfold wrap64; omega)
          have ecr : IntKind.i64.wrap cr = cr := (i64_w _).trans (by unfold wrap64; omega)
          have ecr2 : wrap64 cr = cr := by unfold wrap64; omega
          obtain ⟨Aa, ca, ea⟩ := Kd.R_slice HV.out
          subst ea
          clear hc1 hl ho2 h16 hcr hcb ho3 hi
          go_wp2_with fail
          refine (batch_put.calls k Aa ca acc 8 4 ((acc.length : Int) - 12) o2 wr (Kd.R_reads' HV.out).2.2 (Kd.R_reads' HV.out).2.1 HO2.out).mono ?_
          rintro e w7 ⟨v7, rfl, ho, hb⟩
          obtain ⟨A7, c7, e7⟩ := Kd.R_slice ho
          subst e7
          have HV7 := Aside0.mk (Kd.R_reads' ho).2
          have HB7 := Aside0.mk (below_step HB.out hb)
          clear ho hb
          obtain ⟨i0, hi0, -, hsz, -⟩ := info_parts info5
          obtain ⟨A8, hcut, hA, hC⟩ := print_drop_of (P := Try.prog) (Value.int .u8) 0 27 5 .i64 Try.underlying27 hi0 hsz A7 c7 o2 16 (by decide) (by have := H16.out; omega) HV7.out.1
          rw [show (16 : Int).toNat = 16 from rfl] at hcut hA hC
          obtain ⟨sl, hsl⟩ : ∃ sl, sl = o2.drop 16 := ⟨_, rfl⟩
          rw [← hsl] at hcut hA hC
          have HCR := Aside0.mk (show crc_Sum.f k sl = some cr from by rw [hsl]; exact HCR.out)
          have HA := Aside0.mk hA
          have HC8 := Aside0.mk hC
          have p16 : decide (16 ≤ (o2.length : Int)) = true := decide_eq_true (by have := H16.out; omega)
          clear hi0 hsz hA hC hsl
          go_wp2_with fail
          refine (crc_Sum.calls k A8 _ sl cr w7 (Kd.C_of_reads (h1 := fun _ => rfl) (HA.out _ (Kd.reads_of_C HV7.out.2))) HC8.out HCR.out).mono ?_
          rintro e w8 ⟨rfl, ⟨q8, rfl⟩⟩
          go_wp2_with fail
          refine (batch_put.calls k A7 c7 o2 12 4 cr o3 _ (Kd.C_drewN HV7.out.2 q8) HV7.out.1 HO3.out).mono ?_
          rintro e w9 ⟨v9, rfl, ho, hb⟩
          have HB9 := Aside0.mk (below_step (pw_below_drewN HB7.out q8) hb)
          have HV9 := Aside0.mk (Kd.R_lower ho (pw_below_drewN HB7.out q8).size)
          clear ho hb
          go_wp2_with fail
          refine bodyPost_ret (v := .tuple #[v9, .int .i64 0]) (by simp [results, Try.results27, go_sem]) rfl ⟨_, rfl, HV9.out, HB9.out⟩
theorem batch_laid.calls (k : Nat) (b s p q : Int) (A : Option Addr) (c : Nat) (l : List S45) (r1 : List Int) (r2 : Int) (w : World) (hr : Kd.C k45 w A l.length l) (hc : l.length ≤ c) (h : batch_laid.f k b s p q l = some (r1, r2)) :
    Calls Try.prog 27 #[.agg #[.int .i64 b, .int .i64 s, .int .i64 p, .int .i64 q, .slice A l.length c]] w fun e w' => ∃ v0_ : Value, e = .returned (.tuple #[v0_, .int .i64 r2]) ∧ Kd.R (Kd.int .u8) 5 w' w.heap.size (fun _ => True) v0_ r1 ∧ Below w.heap.size w w' := by
  unfold batch_laid.f at h
  by_cases ho : offsOk b s p q l
  case neg =>
    rw [if_pos ho] at h
    simp only [Option.some.injEq, Prod.mk.injEq] at h
    obtain ⟨rfl, rfl⟩ := h
    exact batch_laid.odd k b s p q A c l w hr hc ho
  rw [if_neg (not_not_intro ho)] at h
  obtain ⟨hd, hh, hz⟩ := Option.bind_eq_some_iff.mp h
  exact batch_laid.main k b s p q A c l w hr hc r1 r2 ho hd hh hz

/-! ### batch_Encode: function 13 -/
def batch_Encode.f (k : Nat) (a0_0 : Int) (a0_1 : Int) (a0_2 : Int) (a0_3 : Int) (l0_4 : List (S45)) : Option (List Int × Int) := (batch_laid.f k a0_0 a0_1 a0_2 a0_3 l0_4).bind fun bt169 => (if bt169.2 = 0 then (if (bt169.1.length : Int) > 6000 then (some (([] : List Int), 2)) else (some (bt169.1, 0))) else (some (([] : List Int), bt169.2)))
theorem batch_Encode.mono : ∀ a0 a1 a2 a3 a4 k, LeO (batch_Encode.f k a0 a1 a2 a3 a4) (batch_Encode.f (k + 1) a0 a1 a2 a3 a4) := by
  intro a0 a1 a2 a3 a4 k
  unfold batch_Encode.f
  repeat' first
      | (with_reducible exact batch_laid.mono _ _ _ _ _ _)
      | (with_reducible exact LeO.refl _)
      | (with_reducible exact LeO.none _)
      | (with_reducible refine LeO.ite ?_ ?_)
      | (with_reducible refine LeO.bind ?_ (fun _ => ?_))
      | exact batch_laid.mono _ _ _ _ _ _
      | exact LeO.none _
      | refine LeO.ite ?_ ?_
      | refine LeO.bind ?_ (fun _ => ?_)
set_option maxHeartbeats 8000000 in
set_option maxRecDepth 100000 in
theorem batch_Encode.calls (k : Nat) (a0_0 : Int) (a0_1 : Int) (a0_2 : Int) (a0_3 : Int) (A0_4 : Option Addr) (c0_4 : Nat) (l0_4 : List (S45)) (r1 : List Int) (r2 : Int) (w : World) (hr0_4 : Kd.C k45 w A0_4 l0_4.length l0_4) (hc0_4 : l0_4.length ≤ c0_4) (h : batch_Encode.f k a0_0 a0_1 a0_2 a0_3 l0_4 = some (r1, r2)) :
    Calls Try.prog 13 #[.agg #[.int .i64 a0_0, .int .i64 a0_1, .int .i64 a0_2, .int .i64 a0_3, .slice A0_4 l0_4.length c0_4]] w fun e w' => ∃ v0_ : Value, e = .returned (.tuple #[v0_, .int .i64 r2]) ∧ Kd.R (Kd.int .u8) 5 w' w.heap.size (fun _ => True) v0_ r1 ∧ Below w.heap.size w w' := by
  have hu24 := Try.underlying24
  have HR0_4 := Aside0.mk hr0_4
  have HC0_4 := Aside0.mk hc0_4
  clear hr0_4 hc0_4
  have HB := Aside0.mk (Below.refl w.heap.size w)
  have H : ((batch_laid.f k a0_0 a0_1 a0_2 a0_3 l0_4).bind fun bt169 => (if bt169.2 = 0 then (if (bt169.1.length : Int) > 6000 then (some (([] : List Int), 2)) else (some (bt169.1, 0))) else (some (([] : List Int), bt169.2)))) = some (r1, r2) := h
  clear h
  replace H := Option.bind_eq_some_iff.mp H
  obtain ⟨⟨t169, t172⟩, A20, H⟩ := H
  replace H : (if t172 = 0 then (if (t169.length : Int) > 6000 then (some (([] : List Int), 2)) else (some (t169, 0))) else (some (([] : List Int), t172))) = some (r1, r2) := H
  have A2 := Aside0.mk A20
  clear A20
  by_cases c3 : t172 = 0
  · rw [if_pos c3] at H
    have c3b0 : (t172 == 0) = true := beq_iff_eq.mpr c3
    have c3b1 : (t172 != 0) = false := bne_eq_false_iff_eq.mpr c3
    clear c3
    by_cases c4 : (t169.length : Int) > 6000
    · rw [if_pos c4] at H
      have c4b0 : decide (6000 < (t169.length : Int)) = true := decide_eq_true c4
      have c4b1 : decide (6000 < t169.length) = true := decide_eq_true (by omega)
      clear c4
      simp only [Option.some.injEq, Prod.mk.injEq] at H
      obtain ⟨rfl, rfl⟩ := H
      go_enter Try.func13, Try.ntmps13
      go_wp2_with (first | ((with_reducible refine gate_dst (N := 1) rfl ?_); refine box_event ?hg (N := 1) ?hd (cs := #[.int .i64 a0_0, .int .i64 a0_1, .int .i64 a0_2, .int .i64 a0_3, .slice A0_4 l0_4.length c0_4]) (t := 24) ?hr ?_; (case hd => rfl); (case hg => rfl); (case hr => first | (go_simp; done) | (go_simp; rfl)); intro gb168 hg w5 hbox hb; have n0_ := Aside0.mk (below_step (by repeat (first | (with_reducible first | exact HB.out | apply below_alloc | apply pw_below_drewN | apply below_drew1) | exact HB.out)) hb); have n1_ := Aside0.mk (hbox); have n2_ := Aside0.mk ((by rw [hg]; exact (below_size (by repeat (first | (with_reducible first | exact HB.out | apply below_alloc | apply pw_below_drewN | apply below_drew1) | exact HB.out))) : w.heap.size ≤ gb168)); have n3_ := Aside0.mk ((by rw [hg]; exact (below_size (by repeat (first | (with_reducible first | exact HB.out | apply below_alloc | apply pw_below_drewN | apply below_drew1) | exact HB.out))) : w.heap.size ≤ gb168)); clear HB; have HB := n0_; have BK168 := n1_; have GW168 := n2_; have GE168 := n3_; clear n0_ n1_ n2_ n3_; clear hb hbox hg; have hcz6_0 : w5.cell? ⟨gb168, 0, none⟩ = some (.int .i64 a0_0) := (blk_cell BK168.out 0).trans rfl; have hcz6_1 : w5.cell? ⟨gb168, 1, none⟩ = some (.int .i64 a0_1) := (blk_cell BK168.out 1).trans rfl; have hcz6_2 : w5.cell? ⟨gb168, 2, none⟩ = some (.int .i64 a0_2) := (blk_cell BK168.out 2).trans rfl; have hcz6_3 : w5.cell? ⟨gb168, 3, none⟩ = some (.int .i64 a0_3) := (blk_cell BK168.out 3).trans rfl; have hcz6_4 : w5.cell? ⟨gb168, 4, none⟩ = some (.slice A0_4 l0_4.length c0_4) := (blk_cell BK168.out 4).trans rfl; have hfz6_0 := blk_frozen BK168.out 0; have hfz6_1 := blk_frozen BK168.out 1; have hfz6_2 := blk_frozen BK168.out 2; have hfz6_3 := blk_frozen BK168.out 3; have hfz6_4 := blk_frozen BK168.out 4) | ((with_reducible refine gate_callee (f := 27) rfl ?_); refine goesL_ (some 8) rfl rfl Try.func27 (by kernel_rfl) rfl #[.agg #[.int .i64 a0_0, .int .i64 a0_1, .int .i64 a0_2, .int .i64 a0_3, .slice A0_4 l0_4.length c0_4]] rfl (by (try simp only [List.map_toArray, List.map_cons, List.map_nil]); first | done | rfl | (simp only [List.length_drop, List.length_take]; rfl)) ?_; (with_reducible refine (batch_laid.calls k a0_0 a0_1 a0_2 a0_3 _ _ l0_4 t169 t172 _ ?side1 ?side2 A2.out).mono ?_); (case side1 => repeat (first | exact (Kd.C_below HR0_4.out HB.out) | (with_reducible refine Kd.C_alloc ?_ _) | (with_reducible refine Kd.C_drewN ?_ _) | (with_reducible refine Kd.C_drew ?_))); (case side2 => exact HC0_4.out); rintro e w7 ⟨v170, rfl, ho0, hb⟩; refine ⟨_, rfl, ?_⟩; have n0_ := Aside0.mk (Kd.R_lower ho0 (below_size (by repeat (first | (with_reducible first | exact HB.out | apply below_alloc | apply pw_below_drewN | apply below_drew1 | refine below_set ?_ GE168.out) | exact HB.out)))); have n1_ := Aside0.mk (blk_below (g := gb168) (o := .cells #[.int .i64 a0_0, .int .i64 a0_1, .int .i64 a0_2, .int .i64 a0_3, .slice A0_4 l0_4.length c0_4] 24 (0, 0)) (by (with_reducible repeat (first | refine blk_drewN ?_ _ | refine blk_drew ?_ | refine blk_alloc ?_ _)); exact BK168.out) hb); have n2_ := Aside0.mk (below_step (by repeat (first | (with_reducible first | exact HB.out | apply below_alloc | apply pw_below_drewN | apply below_drew1 | refine below_set ?_ GE168.out) | exact HB.out)) hb); clear BK168; clear HB; have HO171 := n0_; have BK168 := n1_; have HB := n2_; clear n0_ n1_ n2_; (try clear hb); (try clear hb2); (try clear hk); (try clear hi); (try clear ho0); obtain ⟨Ao8, co8, eo8⟩ := Kd.R_slice HO171.out; subst eo8))
      go_ret2
      exact ⟨_, by first | rfl | (simp [errW_none, errW_some] <;> rfl) | (simp [*, errW_none, errW_some] <;> rfl), by first | exact Kd.R_nil _ _ _ _ _ | exact Kd.N_nil _ _ _ _ _ | exact Kd.V_nil _ _ _ _ _ | exact Kd.Q_nil _ _ _ _ _ | exact Kd.S_nil _ _ _ _ _, by repeat (first | (with_reducible first | exact HB.out | apply below_alloc | apply pw_below_drewN | apply below_drew1 | refine below_set ?_ GE168.out) | exact HB.out)⟩
    · rw [if_neg c4] at H
      have c4b0 : decide (6000 < (t169.length : Int)) = false := decide_eq_false c4
      have c4b1 : decide (6000 < t169.length) = false := decide_eq_false (by omega)
      clear c4
      simp only [Option.some.injEq, Prod.mk.injEq] at H
      obtain ⟨rfl, rfl⟩ := H
      go_enter Try.func13, Try.ntmps13
      go_wp2_with (first | ((with_reducible refine gate_dst (N := 1) rfl ?_); refine box_event ?hg (N := 1) ?hd (cs := #[.int .i64 a0_0, .int .i64 a0_1, .int .i64 a0_2, .int .i64 a0_3, .slice A0_4 l0_4.length c0_4]) (t := 24) ?hr ?_; (case hd => rfl); (case hg => rfl); (case hr => first | (go_simp; done) | (go_simp; rfl)); intro gb168 hg w9 hbox hb; have n0_ := Aside0.mk (below_step (by repeat (first | (with_reducible first | exact HB.out | apply below_alloc | apply pw_below_drewN | apply below_drew1) | exact HB.out)) hb); have n1_ := Aside0.mk (hbox); have n2_ := Aside0.mk ((by rw [hg]; exact (below_size (by repeat (first | (with_reducible first | exact HB.out | apply below_alloc | apply pw_below_drewN | apply below_drew1) | exact HB.out))) : w.heap.size ≤ gb168)); have n3_ := Aside0.mk ((by rw [hg]; exact (below_size (by repeat (first | (with_reducible first | exact HB.out | apply below_alloc | apply pw_below_drewN | apply below_drew1) | exact HB.out))) : w.heap.size ≤ gb168)); clear HB; have HB := n0_; have BK168 := n1_; have GW168 := n2_; have GE168 := n3_; clear n0_ n1_ n2_ n3_; clear hb hbox hg; have hcz10_0 : w9.cell? ⟨gb168, 0, none⟩ = some (.int .i64 a0_0) := (blk_cell BK168.out 0).trans rfl; have hcz10_1 : w9.cell? ⟨gb168, 1, none⟩ = some (.int .i64 a0_1) := (blk_cell BK168.out 1).trans rfl; have hcz10_2 : w9.cell? ⟨gb168, 2, none⟩ = some (.int .i64 a0_2) := (blk_cell BK168.out 2).trans rfl; have hcz10_3 : w9.cell? ⟨gb168, 3, none⟩ = some (.int .i64 a0_3) := (blk_cell BK168.out 3).trans rfl; have hcz10_4 : w9.cell? ⟨gb168, 4, none⟩ = some (.slice A0_4 l0_4.length c0_4) := (blk_cell BK168.out 4).trans rfl; have hfz10_0 := blk_frozen BK168.out 0; have hfz10_1 := blk_frozen BK168.out 1; have hfz10_2 := blk_frozen BK168.out 2; have hfz10_3 := blk_frozen BK168.out 3; have hfz10_4 := blk_frozen BK168.out 4) | ((with_reducible refine gate_callee (f := 27) rfl ?_); refine goesL_ (some 8) rfl rfl Try.func27 (by kernel_rfl) rfl #[.agg #[.int .i64 a0_0, .int .i64 a0_1, .int .i64 a0_2, .int .i64 a0_3, .slice A0_4 l0_4.length c0_4]] rfl (by (try simp only [List.map_toArray, List.map_cons, List.map_nil]); first | done | rfl | (simp only [List.length_drop, List.length_take]; rfl)) ?_; (with_reducible refine (batch_laid.calls k a0_0 a0_1 a0_2 a0_3 _ _ l0_4 t169 t172 _ ?side1 ?side2 A2.out).mono ?_); (case side1 => repeat (first | exact (Kd.C_below HR0_4.out HB.out) | (with_reducible refine Kd.C_alloc ?_ _) | (with_reducible refine Kd.C_drewN ?_ _) | (with_reducible refine Kd.C_drew ?_))); (case side2 => exact HC0_4.out); rintro e w11 ⟨v170, rfl, ho0, hb⟩; refine ⟨_, rfl, ?_⟩; have n0_ := Aside0.mk (Kd.R_lower ho0 (below_size (by repeat (first | (with_reducible first | exact HB.out | apply below_alloc | apply pw_below_drewN | apply below_drew1 | refine below_set ?_ GE168.out) | exact HB.out)))); have n1_ := Aside0.mk (blk_below (g := gb168) (o := .cells #[.int .i64 a0_0, .int .i64 a0_1, .int .i64 a0_2, .int .i64 a0_3, .slice A0_4 l0_4.length c0_4] 24 (0, 0)) (by (with_reducible repeat (first | refine blk_drewN ?_ _ | refine blk_drew ?_ | refine blk_alloc ?_ _)); exact BK168.out) hb); have n2_ := Aside0.mk (below_step (by repeat (first | (with_reducible first | exact HB.out | apply below_alloc | apply pw_below_drewN | apply below_drew1 | refine below_set ?_ GE168.out) | exact HB.out)) hb); clear BK168; clear HB; have HO171 := n0_; have BK168 := n1_; have HB := n2_; clear n0_ n1_ n2_; (try clear hb); (try clear hb2); (try clear hk); (try clear hi); (try clear ho0); obtain ⟨Ao12, co12, eo12⟩ := Kd.R_slice HO171.out; subst eo12))
      go_ret2
      exact ⟨_, by first | rfl | (simp [errW_none, errW_some] <;> rfl) | (simp [*, errW_none, errW_some] <;> rfl), by (with_reducible repeat (first | apply Kd.R_alloc | apply Kd.R_drewN | apply Kd.R_drew)); exact HO171.out, by repeat (first | (with_reducible first | exact HB.out | apply below_alloc | apply pw_below_drewN | apply below_drew1 | refine below_set ?_ GE168.out) | exact HB.out)⟩
  · rw [if_neg c3] at H
    have c3b0 : (t172 == 0) = false := beq_eq_false_iff_ne.mpr c3
    have c3b1 : (t172 != 0) = true := bne_iff_ne.mpr c3
    simp only [Option.some.injEq, Prod.mk.injEq] at H
    obtain ⟨rfl, rfl⟩ := H
    go_enter Try.func13, Try.ntmps13
    go_wp2_with (first | ((with_reducible refine gate_dst (N := 1) rfl ?_); refine box_event ?hg (N := 1) ?hd (cs := #[.int .i64 a0_0, .int .i64 a0_1, .int .i64 a0_2, .int .i64 a0_3, .slice A0_4 l0_4.length c0_4]) (t := 24) ?hr ?_; (case hd => rfl); (case hg => rfl); (case hr => first | (go_simp; done) | (go_simp; rfl)); intro gb168 hg w13 hbox hb; have n0_ := Aside0.mk (below_step (by repeat (first | (with_reducible first | exact HB.out | apply below_alloc | apply pw_below_drewN | apply below_drew1) | exact HB.out)) hb); have n1_ := Aside0.mk (hbox); have n2_ := Aside0.mk ((by rw [hg]; exact (below_size (by repeat (first | (with_reducible first | exact HB.out | apply below_alloc | apply pw_below_drewN | apply below_drew1) | exact HB.out))) : w.heap.size ≤ gb168)); have n3_ := Aside0.mk ((by rw [hg]; exact (below_size (by repeat (first | (with_reducible first | exact HB.out | apply below_alloc | apply pw_below_drewN | apply below_drew1) | exact HB.out))) : w.heap.size ≤ gb168)); clear HB; have HB := n0_; have BK168 := n1_; have GW168 := n2_; have GE168 := n3_; clear n0_ n1_ n2_ n3_; clear hb hbox hg; have hcz14_0 : w13.cell? ⟨gb168, 0, none⟩ = some (.int .i64 a0_0) := (blk_cell BK168.out 0).trans rfl; have hcz14_1 : w13.cell? ⟨gb168, 1, none⟩ = some (.int .i64 a0_1) := (blk_cell BK168.out 1).trans rfl; have hcz14_2 : w13.cell? ⟨gb168, 2, none⟩ = some (.int .i64 a0_2) := (blk_cell BK168.out 2).trans rfl; have hcz14_3 : w13.cell? ⟨gb168, 3, none⟩ = some (.int .i64 a0_3) := (blk_cell BK168.out 3).trans rfl; have hcz14_4 : w13.cell? ⟨gb168, 4, none⟩ = some (.slice A0_4 l0_4.length c0_4) := (blk_cell BK168.out 4).trans rfl; have hfz14_0 := blk_frozen BK168.out 0; have hfz14_1 := blk_frozen BK168.out 1; have hfz14_2 := blk_frozen BK168.out 2; have hfz14_3 := blk_frozen BK168.out 3; have hfz14_4 := blk_frozen BK168.out 4) | ((with_reducible refine gate_callee (f := 27) rfl ?_); refine goesL_ (some 8) rfl rfl Try.func27 (by kernel_rfl) rfl #[.agg #[.int .i64 a0_0, .int .i64 a0_1, .int .i64 a0_2, .int .i64 a0_3, .slice A0_4 l0_4.length c0_4]] rfl (by (try simp only [List.map_toArray, List.map_cons, List.map_nil]); first | done | rfl | (simp only [List.length_drop, List.length_take]; rfl)) ?_; (with_reducible refine (batch_laid.calls k a0_0 a0_1 a0_2 a0_3 _ _ l0_4 t169 t172 _ ?side1 ?side2 A2.out).mono ?_); (case side1 => repeat (first | exact (Kd.C_below HR0_4.out HB.out) | (with_reducible refine Kd.C_alloc ?_ _) | (with_reducible refine Kd.C_drewN ?_ _) | (with_reducible refine Kd.C_drew ?_))); (case side2 => exact HC0_4.out); rintro e w15 ⟨v170, rfl, ho0, hb⟩; refine ⟨_, rfl, ?_⟩; have n0_ := Aside0.mk (Kd.R_lower ho0 (below_size (by repeat (first | (with_reducible first | exact HB.out | apply below_alloc | apply pw_below_drewN | apply below_drew1 | refine below_set ?_ GE168.out) | exact HB.out)))); have n1_ := Aside0.mk (blk_below (g := gb168) (o := .cells #[.int .i64 a0_0, .int .i64 a0_1, .int .i64 a0_2, .int .i64 a0_3, .slice A0_4 l0_4.length c0_4] 24 (0, 0)) (by (with_reducible repeat (first | refine blk_drewN ?_ _ | refine blk_drew ?_ | refine blk_alloc ?_ _)); exact BK168.out) hb); have n2_ := Aside0.mk (below_step (by repeat (first | (with_reducible first | exact HB.out | apply below_alloc | apply pw_below_drewN | apply below_drew1 | refine below_set ?_ GE168.out) | exact HB.out)) hb); clear BK168; clear HB; have HO171 := n0_; have BK168 := n1_; have HB := n2_; clear n0_ n1_ n2_; (try clear hb); (try clear hb2); (try clear hk); (try clear hi); (try clear ho0)))
    go_ret2
    exact ⟨_, by first | rfl | (simp [errW_none, errW_some] <;> rfl) | (simp [*, errW_none, errW_some] <;> rfl), by first | exact Kd.R_nil _ _ _ _ _ | exact Kd.N_nil _ _ _ _ _ | exact Kd.V_nil _ _ _ _ _ | exact Kd.Q_nil _ _ _ _ _ | exact Kd.S_nil _ _ _ _ _, by repeat (first | (with_reducible first | exact HB.out | apply below_alloc | apply pw_below_drewN | apply below_drew1 | refine below_set ?_ GE168.out) | exact HB.out)⟩

/-! ### batch_Check: function 16 -/
def batch_Check.f (k : Nat) (a0_0 : Int) (a0_1 : Int) (a0_2 : Int) (a0_3 : Int) (l0_4 : List (S45)) : Option (Int) := (batch_Encode.f k a0_0 a0_1 a0_2 a0_3 l0_4).bind fun bt174 => (some bt174.2)
theorem batch_Check.mono : ∀ a0 a1 a2 a3 a4 k, LeO (batch_Check.f k a0 a1 a2 a3 a4) (batch_Check.f (k + 1) a0 a1 a2 a3 a4) := by
  intro a0 a1 a2 a3 a4 k
  unfold batch_Check.f
  repeat' first
      | (with_reducible exact batch_Encode.mono _ _ _ _ _ _)
      | (with_reducible exact LeO.refl _)
      | (with_reducible exact LeO.none _)
      | (with_reducible refine LeO.ite ?_ ?_)
      | (with_reducible refine LeO.bind ?_ (fun _ => ?_))
      | exact batch_Encode.mono _ _ _ _ _ _
      | exact LeO.none _
      | refine LeO.ite ?_ ?_
      | refine LeO.bind ?_ (fun _ => ?_)
set_option maxHeartbeats 8000000 in
set_option maxRecDepth 100000 in
theorem batch_Check.calls (k : Nat) (a0_0 : Int) (a0_1 : Int) (a0_2 : Int) (a0_3 : Int) (A0_4 : Option Addr) (c0_4 : Nat) (l0_4 : List (S45)) (r : Int) (w : World) (hr0_4 : Kd.C k45 w A0_4 l0_4.length l0_4) (hc0_4 : l0_4.length ≤ c0_4) (h : batch_Check.f k a0_0 a0_1 a0_2 a0_3 l0_4 = some r) :
    Calls Try.prog 16 #[.agg #[.int .i64 a0_0, .int .i64 a0_1, .int .i64 a0_2, .int .i64 a0_3, .slice A0_4 l0_4.length c0_4]] w fun e w' => e = .returned (.int .i64 r) ∧ Below w.heap.size w w' := by
  have hu24 := Try.underlying24
  have HR0_4 := Aside0.mk hr0_4
  have HC0_4 := Aside0.mk hc0_4
  clear hr0_4 hc0_4
  have HB := Aside0.mk (Below.refl w.heap.size w)
  have H : ((batch_Encode.f k a0_0 a0_1 a0_2 a0_3 l0_4).bind fun bt174 => (some bt174.2)) = some r := h
  clear h
  replace H := Option.bind_eq_some_iff.mp H
  obtain ⟨⟨t174, t177⟩, A20, H⟩ := H
  replace H : (some t177) = some r := H
  have A2 := Aside0.mk A20
  clear A20
  obtain rfl := Option.some.inj H
  go_enter Try.func16, Try.ntmps16
  go_wp2_with (first | ((with_reducible refine gate_dst (N := 1) rfl ?_); refine box_event ?hg (N := 1) ?hd (cs := #[.int .i64 a0_0, .int .i64 a0_1, .int .i64 a0_2, .int .i64 a0_3, .slice A0_4 l0_4.length c0_4]) (t := 24) ?hr ?_; (case hd => rfl); (case hg => rfl); (case hr => first | (go_simp; done) | (go_simp; rfl)); intro gb173 hg w3 hbox hb; have n0_ := Aside0.mk (below_step (by repeat (first | (with_reducible first | exact HB.out | apply below_alloc | apply pw_below_drewN | apply below_drew1) | exact HB.out)) hb); have n1_ := Aside0.mk (hbox); have n2_ := Aside0.mk ((by rw [hg]; exact (below_size (by repeat (first | (with_reducible first | exact HB.out | apply below_alloc | apply pw_below_drewN | apply below_drew1) | exact HB.out))) : w.heap.size ≤ gb173)); have n3_ := Aside0.mk ((by rw [hg]; exact (below_size (by repeat (first | (with_reducible first | exact HB.out | apply below_alloc | apply pw_below_drewN | apply below_drew1) | exact HB.out))) : w.heap.size ≤ gb173)); clear HB; have HB := n0_; have BK173 := n1_; have GW173 := n2_; have GE173 := n3_; clear n0_ n1_ n2_ n3_; clear hb hbox hg; have hcz4_0 : w3.cell? ⟨gb173, 0, none⟩ = some (.int .i64 a0_0) := (blk_cell BK173.out 0).trans rfl; have hcz4_1 : w3.cell? ⟨gb173, 1, none⟩ = some (.int .i64 a0_1) := (blk_cell BK173.out 1).trans rfl; have hcz4_2 : w3.cell? ⟨gb173, 2, none⟩ = some (.int .i64 a0_2) := (blk_cell BK173.out 2).trans rfl; have hcz4_3 : w3.cell? ⟨gb173, 3, none⟩ = some (.int .i64 a0_3) := (blk_cell BK173.out 3).trans rfl; have hcz4_4 : w3.cell? ⟨gb173, 4, none⟩ = some (.slice A0_4 l0_4.length c0_4) := (blk_cell BK173.out 4).trans rfl; have hfz4_0 := blk_frozen BK173.out 0; have hfz4_1 := blk_frozen BK173.out 1; have hfz4_2 := blk_frozen BK173.out 2; have hfz4_3 := blk_frozen BK173.out 3; have hfz4_4 := blk_frozen BK173.out 4) | ((with_reducible refine gate_callee (f := 13) rfl ?_); refine goesL_ (some 7) rfl rfl Try.func13 (by kernel_rfl) rfl #[.agg #[.int .i64 a0_0, .int .i64 a0_1, .int .i64 a0_2, .int .i64 a0_3, .slice A0_4 l0_4.length c0_4]] rfl (by (try simp only [List.map_toArray, List.map_cons, List.map_nil]); first | done | rfl | (simp only [List.length_drop, List.length_take]; rfl)) ?_; (with_reducible refine (batch_Encode.calls k a0_0 a0_1 a0_2 a0_3 _ _ l0_4 t174 t177 _ ?side1 ?side2 A2.out).mono ?_); (case side1 => repeat (first | exact (Kd.C_below HR0_4.out HB.out) | (with_reducible refine Kd.C_alloc ?_ _) | (with_reducible refine Kd.C_drewN ?_ _) | (with_reducible refine Kd.C_drew ?_))); (case side2 => exact HC0_4.out); rintro e w5 ⟨v175, rfl, ho0, hb⟩; refine ⟨_, rfl, ?_⟩; have n0_ := Aside0.mk (Kd.R_lower ho0 (below_size (by repeat (first | (with_reducible first | exact HB.out | apply below_alloc | apply pw_below_drewN | apply below_drew1 | refine below_set ?_ GE173.out) | exact HB.out)))); have n1_ := Aside0.mk (blk_below (g := gb173) (o := .cells #[.int .i64 a0_0, .int .i64 a0_1, .int .i64 a0_2, .int .i64 a0_3, .slice A0_4 l0_4.length c0_4] 24 (0, 0)) (by (with_reducible repeat (first | refine blk_drewN ?_ _ | refine blk_drew ?_ | refine blk_alloc ?_ _)); exact BK173.out) hb); have n2_ := Aside0.mk (below_step (by repeat (first | (with_reducible first | exact HB.out | apply below_alloc | apply pw_below_drewN | apply below_drew1 | refine below_set ?_ GE173.out) | exact HB.out)) hb); clear BK173; clear HB; have HO176 := n0_; have BK173 := n1_; have HB := n2_; clear n0_ n1_ n2_; (try clear hb); (try clear hb2); (try clear hk); (try clear hi); (try clear ho0)))
  go_ret
  exact ⟨by first | rfl | (simp [errW_none, errW_some] <;> rfl) | (simp [*, errW_none, errW_some] <;> rfl), by repeat (first | (with_reducible first | exact HB.out | apply below_alloc | apply pw_below_drewN | apply below_drew1 | refine below_set ?_ GE173.out) | exact HB.out)⟩

/-! ### api_Record: function 32 -/
def api_Record.f (l0 : List (S45)) : Option ((List (S45))) := (some (([] : List (S45)) : List (S45))).bind fun y178 => (if y178.length + l0.length < 2199023255552 then (some (y178 ++ l0)) else (none))
set_option maxHeartbeats 8000000 in
set_option maxRecDepth 100000 in
theorem api_Record.calls (A0 : Option Addr) (c0 : Nat) (l0 : List (S45)) (r : List (S45)) (w : World) (hr0 : Kd.C k45 w A0 l0.length l0) (hc0 : l0.length ≤ c0) (h : api_Record.f l0 = some r) :
    Calls Try.prog 32 #[.slice A0 l0.length c0] w fun e w' => ∃ v0_ : Value, e = .returned (v0_) ∧ Kd.R k45 45 w' w.heap.size (fun _ => True) v0_ r ∧ Below w.heap.size w w' := by
  have HR0 := Aside0.mk hr0
  have HC0 := Aside0.mk hc0
  clear hr0 hc0
  have HB := Aside0.mk (Below.refl w.heap.size w)
  have H : ((some (([] : List (S45)) : List (S45))).bind fun y178 => (if y178.length + l0.length < 2199023255552 then (some (y178 ++ l0)) else (none))) = some r := h
  clear h
  obtain ⟨y178, hy178⟩ : ∃ y_ : List (S45), y_ = (([] : List (S45))) := ⟨_, rfl⟩
  replace H : (if y178.length + l0.length < 2199023255552 then (some (y178 ++ l0)) else (none)) = some r := by first | (rw [hy178]; with_reducible exact H) | (have H2_ := (Option.bind_some _ _).symm.trans H; rw [hy178]; with_reducible exact H2_) | (have H2_ := (Option.bind_some _ _).symm.trans H; with_reducible exact H2_) | with_reducible exact H | (rw [hy178]; exact H) | exact H
  have Ny178 := Aside0.mk hy178
  clear hy178
  by_cases c2 : y178.length + l0.length < 2199023255552
  · rw [if_pos c2] at H
    have LMc2 := Aside0.mk c2
    clear c2
    obtain ⟨y181, hy181⟩ : ∃ y_ : List (S45), y_ = (y178 ++ l0) := ⟨_, rfl⟩
    replace H : (some y181) = some r := by first | (rw [hy181]; with_reducible exact H) | (have H2_ := (Option.bind_some _ _).symm.trans H; rw [hy181]; with_reducible exact H2_) | (have H2_ := (Option.bind_some _ _).symm.trans H; with_reducible exact H2_) | with_reducible exact H | (rw [hy181]; exact H) | exact H
    have Ny181 := Aside0.mk hy181
    clear hy181
    obtain rfl := Option.some.inj H
    have kn := fun (w : World) (a : Option Addr) (l c : Nat) => Go.run_eql_slice_nil (P := Try.prog) w 22 45 a l c Try.underlying22
    rcases A0 with _ | ad
    · have hl := nil_of_C HR0.out
      have e0 : y181 = [] := by rw [Ny181.out, Ny178.out, hl]; rfl
      have E0 := Aside0.mk e0
      clear e0 hl
      go_enter Try.func32, Try.ntmps32
      go_wp2
      go_ret
      exact ⟨_, rfl, by rw [E0.out]; exact Kd.R_nil _ _ _ _ _, by repeat (first | (with_reducible first | exact HB.out | apply below_alloc | apply pw_below_drewN | apply below_drew1) | exact HB.out)⟩
    · go_enter Try.func32, Try.ntmps32
      go_wp2_with (first | ((with_reducible refine gate_dst (N := 5) rfl ?_); refine Kd.R_lit k45 _ 45 ?hg (N := 5) ?hd (xs := ([] : List (S45))) (inner := []) (ok := fun _ => True) (okp := fun _ => True) ?hr ?hp (fun _ hk => hk) trivial (Below.refl _ _) (Nat.le_refl _) (by simp) ?_; (case hd => rfl); (case hg => rfl); (case hr => first | (go_simp; done) | (go_simp; rfl)); (case hp => exact (Reps.none _ _)); intro v179 w3 ho4 hb hg_ hnew_; clear hg_ hnew_; (first | rw [← Ny178.out] at ho4 | (simp only [Int.reduceToNat] at ho4; rw [← Ny178.out] at ho4)); have n0_ := Aside0.mk (Kd.R_lower ho4 (below_size (by repeat (first | (with_reducible first | exact HB.out | apply below_alloc | apply pw_below_drewN | apply below_drew1) | exact HB.out)))); have n1_ := Aside0.mk (below_step (by repeat (first | (with_reducible first | exact HB.out | apply below_alloc | apply pw_below_drewN | apply below_drew1) | exact HB.out)) hb); clear HB; have HO180 := n0_; have HB := n1_; clear n0_ n1_; clear hb ho4) | ((with_reducible refine gate_builtin (b := .append) (xs := #[.tmp 5, .tmp 6]) rfl ?_); at_builtin; refine Kd.R_append_rows k45 (w0 := w) w.heap.size rfl (.tmp 5) (.tmp 6) 22 45 (.agg #[(.bool false), (.string ⟨#[]⟩), (.bool false), (.string ⟨#[]⟩), (.int .i64 0), (.int .i64 0)]) 64 rfl Try.underlying22 info45 rfl (by decide) (by omega) v179 y178 l0 _ _ _ (fun _ => True) (fun _ => False) rfl rfl ?aO ?aR (fun _ _ h => h) (fun _ h => h.elim) ?aF ?aB ?aS ?aL ?_; (case aR => repeat (first | exact (Kd.C_below HR0.out HB.out) | (with_reducible refine Kd.C_alloc ?_ _) | (with_reducible refine Kd.C_drewN ?_ _) | (with_reducible refine Kd.C_drew ?_))); (case aB => exact (by repeat (first | (with_reducible first | exact HB.out | apply below_alloc | apply pw_below_drewN | apply below_drew1) | exact HB.out))); (case aF => exact (fun _ _ => trivial)); (case aO => exact (by (with_reducible repeat (first | apply Kd.R_alloc | apply Kd.R_drewN | apply Kd.R_drew)); exact HO180.out)); (case aS => exact (below_size (by repeat (first | (with_reducible first | exact HB.out | apply below_alloc | apply pw_below_drewN | apply below_drew1) | exact HB.out)))); (case aL => have := LMc2.out; omega); intro v182 w5 ho hb hg hat; rw [← Ny181.out] at ho; have n0_ := Aside0.mk (hb); have n1_ := Aside0.mk (ho); clear HB; clear HO180; have HB := n0_; have HO183 := n1_; clear n0_ n1_; clear ho hb hg hat))
      go_ret
      exact ⟨_, by first | rfl | (simp [errW_none, errW_some] <;> rfl) | (simp [*, errW_none, errW_some] <;> rfl), by (with_reducible repeat (first | apply Kd.R_alloc | apply Kd.R_drewN | apply Kd.R_drew)); exact HO183.out, by repeat (first | (with_reducible first | exact HB.out | apply below_alloc | apply pw_below_drewN | apply below_drew1) | exact HB.out)⟩
  · rw [if_neg c2] at H
    exact absurd H (by simp)

end Go.Proofs.Ytgmeellapjimgaa.PBm
