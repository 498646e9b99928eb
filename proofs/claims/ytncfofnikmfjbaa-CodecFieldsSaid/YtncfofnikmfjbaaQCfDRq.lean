import Derived.Test.YtncfofnikmfjbaaQPCix1
import Derived.Test.YtncfofnikmfjbaaQPCix5
import Derived.Outline
import Derived.StillTailTactics
import Derived.RegionTactic
import Derived.BigRegion
import Derived.Lib.BufferWrite
namespace Go.Proofs.Ytncfofnikmfjbaa.PCi
open Go.RowKit Go.Proofs.YtncfofnikmfjbaaW.PrintWords Go.Proofs.YtncfofnikmfjbaaW.PrintLast Go.Proofs.YtncfofnikmfjbaaW.PrintMore
attribute [local go_sem] max2_int min2_int max_two min_two max_three min_three max_four min_four
set_option linter.unusedVariables false
set_option linter.unusedSimpArgs false

/-! ### bollardref20.Request -/
def dF (b : Bg) (rs : List S98) (r : S85) (s : List Int × Bool) : List Int × Bool :=
  if r.f0 = 1 then (if r.f1 = 0 then (s.1 ++ txt1 b.t0, s.2 || txt2 b.t0) else (s.1 ++ txt1 b.t1, s.2 || txt2 b.t1)) else if r.f0 = 2 then (s.1 ++ nb (b.n r.f1.toNat) 8, s.2)
  else if r.f0 = 3 then (s.1 ++ [if b.flag = true then 1 else 0], s.2) else lw rec1 rec2 rs (s.1 ++ nb (rs.length : Nat) 2) (s.2 || decide (65535 < rs.length))
def dC (b : Bg) (r : S85) (c : Bg) : Bg :=
  if r.f0 = 1 then (if r.f1 = 0 then { c with t0 := b.t0 } else { c with t1 := b.t1 }) else if r.f0 = 2 then c.put r.f1.toNat (b.n r.f1.toNat) else if r.f0 = 3 then { c with flag := b.flag } else { c with recs := b.recs }
def dFs (b : Bg) (rs : List S98) (L : List S85) (s : List Int × Bool) : List Int × Bool := L.foldl (fun s r => dF b rs r s) s
def dCs (b : Bg) (L : List S85) (c : Bg) : Bg := L.foldl (fun c r => dC b r c) c
def RowOk (r : S85) : Prop := r = ⟨1, 0⟩ ∨ r = ⟨1, 1⟩ ∨ (r.f0 = 2 ∧ 0 ≤ r.f1 ∧ r.f1 < 20) ∨ r = ⟨3, 7⟩ ∨ r = ⟨4, 11⟩
def bagN (b : Bg) (rs : List S98) : Nat := b.t0.size + (b.t1.size + (rs.map recN).sum)
theorem dF_len (b : Bg) (rs : List S98) (r : S85) (s : List Int × Bool) : (dF b rs r s).1.length ≤ s.1.length + (bagN b rs + 8) := by
  unfold dF bagN
  split
  · split
    · rw [List.length_append]; have := txt_len b.t0; unfold txtN at this; omega
    · rw [List.length_append]; have := txt_len b.t1; unfold txtN at this; omega
  split
  · rw [List.length_append, nb_len]; omega
  split
  · rw [List.length_append]; simp only [List.length_cons, List.length_nil]; omega
  · have := lw_len rec1 rec2 recN recW_len rs (s.1 ++ nb (rs.length : Nat) 2) (s.2 || decide (65535 < rs.length))
    rw [List.length_append, nb_len] at this
    omega
theorem pf_row (w0 : World) (g : Nat) (s : List Int × Bool) (b : Bg) (rs : List S98) (A : Option Addr) (c : Nat) (r : S85) (w : World) (hF : Pn w g w0.heap.size s.1 s.2) (hg : w0.heap.size ≤ g) (hB : Below w0.heap.size w0 w) (hr : RowOk r) (hu : b.recs = .slice A rs.length c) (hl : ∀ W, Below w0.heap.size w W → Kd.C k98 W A rs.length rs) (hx : s.1.length + bagN b rs ≤ 690000000) :
    Calls Try.prog 34 #[.pointer (some ⟨g, 0, none⟩), .agg #[.int .i64 r.f0, .int .i64 r.f1], .agg b.cells] w fun e w' => e = .returned (.tuple #[]) ∧ Pn w' g w0.heap.size (dF b rs r s).1 (dF b rs r s).2 ∧ KeepW w w' g w0.heap.size := by
  unfold bagN at hx
  rcases hr with rfl | rfl | ⟨h1, h2, h3⟩ | rfl | rfl
  · exact pf_text0 w0 g s.1 s.2 b w hF hg hB (by omega)
  · exact pf_text1 w0 g s.1 s.2 b w hF hg hB (by omega)
  · obtain ⟨f0, f1⟩ := r
    dsimp only at h1 h2 h3
    subst h1
    obtain ⟨j, rfl⟩ := Int.eq_ofNat_of_zero_le h2
    have := pf_num w0 g s.1 s.2 b j w hF hg hB (by omega) (by omega)
    simpa [dF] using this
  · cases hf : b.flag
    · have := pf_flag0 w0 g s.1 s.2 b w hF hg hB hf (by omega)
      simpa [dF, hf] using this
    · have := pf_flag1 w0 g s.1 s.2 b w hF hg hB hf (by omega)
      simpa [dF, hf] using this
  · exact pf_recs w0 g s.1 s.2 b A c rs _ _ w hF hg hB hu hl rfl (by omega)

theorem rows_keep {v : Value} {L : List S85} {base0 base g : Nat} {w1 W : World} (h : Kd.R k85 85 w1 base0 (fun _ => True) v L) (hk : KeepW w1 W g base) (hg : ∀ c f, w1.heap[g]? ≠ some (.cells c 85 f)) : Kd.R k85 85 W base0 (fun _ => True) v L := by
  refine Kd.R_mono (Kd.R_move (Kd.R_bound h) (fun k hk_ => ?_)) (fun _ _ => trivial)
  obtain ⟨_, _, _, q, hq, cells, hc⟩ := hk_
  have hq5 : q = 85 := by
    rcases List.mem_cons.1 hq with e | e
    · exact e
    · cases e
  subst hq5
  rw [hk.keep k _ (fun e => hg _ _ (e ▸ hc)) hc (fun ⟨_, c, f, e⟩ => absurd (by injection e : (85 : Nat) = 5) (by decide)), hc]
structure DqSt (w W : World) (h gb gc g : Nat) (m : Msg) (A : Option Addr) (rs : List S98) (c : Nat) (b cb : Bg) (s : List Int × Bool) (v : Value) (L : List S85) : Prop where
  rq : W.heap[h]? = some (.cells #[.int .i64 m.kind, .int .i64 m.id, .string m.topic, .int .i64 m.part, .int .i64 m.parts, .int .i64 m.seg, .int .i64 m.byt, .int .i64 m.age, .bool m.comp, .int .i64 m.delay, .int .i64 m.prod, .int .i64 m.seq, .slice A rs.length c, .int .i64 m.off, .int .i64 m.max, .int .i64 m.time, .string m.group] 26 (0, 0))
  bg : W.heap[gb]? = some (.cells b.cells 74 (0, 0))
  cg : W.heap[gc]? = some (.cells cb.cells 74 (0, 0))
  pn : Pn W g w.heap.size s.1 s.2
  rw : Kd.R k85 85 W w.heap.size (fun _ => True) v L
  below : Below w.heap.size w W
section
variable {w W W2 : World} {h gb gc g : Nat} {m : Msg} {A : Option Addr} {rs : List S98} {c : Nat} {b cb c2 : Bg} {s s2 : List Int × Bool} {v : Value} {L : List S85}
theorem DqSt.ne (q : DqSt w W h gb gc g m A rs c b cb s v L) : h ≠ g ∧ gb ≠ g ∧ gc ≠ g ∧ h ≠ gc := by
  obtain ⟨A1, c1, hp, _⟩ := q.pn
  have aux : ∀ {i j : Nat} {x y : Array Value} {t u : Nat}, W.heap[i]? = some (.cells x t (0, 0)) → W.heap[j]? = some (.cells y u (0, 0)) → t ≠ u → i ≠ j := fun h1 h2 ht e => by
    subst e
    rw [h1] at h2
    injection h2 with h2
    injection h2 with _ h2
    exact ht h2
  exact ⟨aux q.rq hp (by decide), aux q.bg hp (by decide), aux q.cg hp (by decide), aux q.rq q.cg (by decide)⟩
theorem DqSt.field (q : DqSt w W h gb gc g m A rs c b cb s v L) (hp : Pn W2 g w.heap.size s2.1 s2.2) (hk : KeepW W W2 g w.heap.size) : DqSt w W2 h gb gc g m A rs c b cb s2 v L := by
  obtain ⟨A1, c1, hp1, _⟩ := q.pn
  exact ⟨hk.blk q.rq q.ne.1 (by decide), hk.blk q.bg q.ne.2.1 (by decide), hk.blk q.cg q.ne.2.2.1 (by decide), hp, rows_keep q.rw hk (fun c_ f_ e => by rw [hp1] at e; injection e with e; injection e with _ e; exact absurd e (by decide)), q.below.trans hk.below⟩
theorem DqSt.setc (q : DqSt w W h gb gc g m A rs c b cb s v L) (hgc : w.heap.size ≤ gc) (hbc : gb ≠ gc) (j : Nat) (u : Value) (e : cb.cells.setIfInBounds j u = c2.cells) : DqSt w (W.setCell ⟨gc, j, none⟩ u) h gb gc g m A rs c b c2 s v L := by
  obtain ⟨A1, c1, hp1, hr1⟩ := q.pn
  exact ⟨(Below.heap_setCell _ ⟨gc, j, none⟩ _ h q.ne.2.2.2).trans q.rq, (Below.heap_setCell _ ⟨gc, j, none⟩ _ gb hbc).trans q.bg, e ▸ blk_set q.cg j u, ⟨A1, c1, (Below.heap_setCell _ ⟨gc, j, none⟩ _ g (Ne.symm q.ne.2.2.1)).trans hp1, Kd.R_set hr1 q.cg (by decide) j u⟩, Kd.R_set q.rw q.cg (by decide) j u, q.below.setCell (p := ⟨gc, j, none⟩) hgc u⟩
theorem DqSt.under (q : DqSt w W h gb gc g m A rs c b cb s v L) (hb : Below W.heap.size W W2) : DqSt w W2 h gb gc g m A rs c b cb s v L := ⟨blk_below q.rq hb, blk_below q.bg hb, blk_below q.cg hb, q.pn.below hb, Kd.R_below q.rw hb, below_step q.below hb⟩
end
def dBad (m : Msg) : Bool := decide (m.kind < 1) || (decide (8 < m.kind) || (decide (m.id < 0) || decide (4294967295 < m.id)))
def bagC (m : Msg) : Bg := ⟨m.kind, m.id, ⟨#[]⟩, ⟨#[]⟩, fun _ => 0, false, .slice none 0 0, .slice none 0 0, .slice none 0 0, .slice none 0 0⟩
theorem allC (m : Msg) : (#[.int .i64 m.kind, .int .i64 m.id, .string ⟨#[]⟩, .string ⟨#[]⟩, .int .i64 0, .int .i64 0, .int .i64 0, .int .i64 0, .int .i64 0, .int .i64 0, .int .i64 0, .int .i64 0, .int .i64 0, .int .i64 0, .int .i64 0, .int .i64 0, .int .i64 0, .int .i64 0, .int .i64 0, .int .i64 0, .int .i64 0, .int .i64 0, .int .i64 0, .int .i64 0, .bool false, .slice none 0 0, .slice none 0 0, .slice none 0 0, .slice none 0 0] : Array Value).all (·.oneCell') = true := by
  rw [← Array.all_toList]
  simp [Value.oneCell']
def dSame (k : Nat) (x : Bg) (rs' : List S98) (m : Msg) (rs : List S98) : Option Bool := bollardref20_SameRequest.f k x.kind x.id x.t0 (x.n 2) (x.n 3) (x.n 4) (x.n 5) (x.n 6) x.flag (x.n 8) (x.n 9) (x.n 10) rs' (x.n 12) (x.n 13) (x.n 14) x.t1 m.kind m.id m.topic m.part m.parts m.seg m.byt m.age m.comp m.delay m.prod m.seq rs m.off m.max m.time m.group
/-- The document's answer. -/
def DqOut (m : Msg) (same : Bool) (p : List Int × Bool) (b : List Int) (e : Int) : Prop := if (dBad m || (p.2 || !same)) = true then b = [] ∧ e = 1 else b = p.1 ∧ e = 0

theorem Bg.set_n (b : Bg) (s : Nat) (h : s < 20) (v : Int) : b.cells.setIfInBounds (4 + s) (.int .i64 v) = (b.put s v).cells := by
  obtain rfl | rfl | rfl | rfl | rfl | rfl | rfl | rfl | rfl | rfl | rfl | rfl | rfl | rfl | rfl | rfl | rfl | rfl | rfl | rfl : s = 0 ∨ s = 1 ∨ s = 2 ∨ s = 3 ∨ s = 4 ∨ s = 5 ∨ s = 6 ∨ s = 7 ∨ s = 8 ∨ s = 9 ∨ s = 10 ∨ s = 11 ∨ s = 12 ∨ s = 13 ∨ s = 14 ∨ s = 15 ∨ s = 16 ∨ s = 17 ∨ s = 18 ∨ s = 19 := by omega
  all_goals rfl
theorem nb_one (v : Int) (t : List Int) : [v % 256] ++ t = nb v 1 ++ t := by
  unfold nb Bp.beL Bp.beL Bp.dg
  congr 2
  have : (v % 18446744073709551616).toNat = v % 18446744073709551616 := by omega
  simp
  omega
set_option maxHeartbeats 8000000 in
set_option maxRecDepth 100000 in
theorem bref_Request.calls (k : Nat) (m : Msg) (A : Option Addr) (c : Nat) (rs : List S98) (L : List S85) (A' : Option Addr) (c' : Nat) (rs' : List S98) (same : Bool) (w : World) (hr : Kd.C k98 w A rs.length rs) (hc : rs.length ≤ c) (hrows : bollardref20_rows.f k m.kind false = some L) (hok : ∀ r ∈ L, RowOk r) (hL7 : L.length ≤ 7) (hn : bagN (bagOf m (.slice A rs.length c)) rs ≤ 50000000)
    (hrs' : (dCs (bagOf m (.slice A rs.length c)) L (bagC m)).recs = .slice A' rs'.length c') (hr' : Kd.C k98 w A' rs'.length rs') (hc' : rs'.length ≤ c') (hs : dSame k (dCs (bagOf m (.slice A rs.length c)) L (bagC m)) rs' m rs = some same) :
    Calls Try.prog 14 #[.agg #[.int .i64 m.kind, .int .i64 m.id, .string m.topic, .int .i64 m.part, .int .i64 m.parts, .int .i64 m.seg, .int .i64 m.byt, .int .i64 m.age, .bool m.comp, .int .i64 m.delay, .int .i64 m.prod, .int .i64 m.seq, .slice A rs.length c, .int .i64 m.off, .int .i64 m.max, .int .i64 m.time, .string m.group]] w fun e w' => (∃ v b n, e = .returned (.tuple #[v, .int .i64 n]) ∧ Kd.R (Kd.int .u8) 5 w' w.heap.size (fun _ => True) v b ∧ DqOut m same (dFs (bagOf m (.slice A rs.length c)) rs L (nb m.kind 1 ++ nb m.id 4, false)) b n) ∧ Below w.heap.size w w' := by
  obtain ⟨sm, hsm⟩ : ∃ b, b = same := ⟨_, rfl⟩
  have HSM := Aside0.mk hsm
  replace hs : dSame k (dCs (bagOf m (.slice A rs.length c)) L (bagC m)) rs' m rs = some sm := by rw [hsm]; exact hs
  clear hsm
  have HR := Aside0.mk hr
  have HC := Aside0.mk hc
  have HROWS := Aside0.mk hrows
  have HOK := Aside0.mk hok
  have HL7 := Aside0.mk hL7
  have HN := Aside0.mk hn
  have HRS' := Aside0.mk hrs'
  have HR' := Aside0.mk hr'
  have HC' := Aside0.mk hc'
  have HS := Aside0.mk hs
  clear hr hc hrows hok hL7 hn hrs' hr' hc' hs
  go_enter Try.func14, Try.ntmps14
  go_upto_region 1 with (fail)
  (try simp only [Act.put, List.setIfInBounds_toArray, List.set_cons_zero, List.set_cons_succ])
  have P0 := Aside0.mk (And.intro (heap_alloc_new w (.cells #[.int .i64 m.kind, .int .i64 m.id, .string m.topic, .int .i64 m.part, .int .i64 m.parts, .int .i64 m.seg, .int .i64 m.byt, .int .i64 m.age, .bool m.comp, .int .i64 m.delay, .int .i64 m.prod, .int .i64 m.seq, .slice A rs.length c, .int .i64 m.off, .int .i64 m.max, .int .i64 m.time, .string m.group] 26)) (below_alloc (Below.refl w.heap.size w) (.cells #[.int .i64 m.kind, .int .i64 m.id, .string m.topic, .int .i64 m.part, .int .i64 m.parts, .int .i64 m.seg, .int .i64 m.byt, .int .i64 m.age, .bool m.comp, .int .i64 m.delay, .int .i64 m.prod, .int .i64 m.seq, .slice A rs.length c, .int .i64 m.off, .int .i64 m.max, .int .i64 m.time, .string m.group] 26)))
  generalize w.alloc (.cells #[.int .i64 m.kind, .int .i64 m.id, .string m.topic, .int .i64 m.part, .int .i64 m.parts, .int .i64 m.seg, .int .i64 m.byt, .int .i64 m.age, .bool m.comp, .int .i64 m.delay, .int .i64 m.prod, .int .i64 m.seq, .slice A rs.length c, .int .i64 m.off, .int .i64 m.max, .int .i64 m.time, .string m.group] 26) = w0 at P0 ⊢
  have q0 : w0.cell? ⟨w.heap.size, 0, none⟩ = some (.int .i64 m.kind) := (blk_cell P0.out.1 0).trans rfl
  have q1 : w0.cell? ⟨w.heap.size, 1, none⟩ = some (.int .i64 m.id) := (blk_cell P0.out.1 1).trans rfl
  obtain ⟨eb, heb⟩ : ∃ b, b = dBad m := ⟨_, rfl⟩
  have HEB := Aside0.mk heb
  clear heb
  go_cut [2, 3, 26] (fun v2 v3 v26 wc => v2 = .slice none 0 0 ∧ v3 = .int .i64 0 ∧ v26 = .bool eb ∧ wc = w0)
  case first =>
    go_wp2
    all_goals
      go_meet
      case rel => exact ⟨rfl, rfl, congrArg Value.bool (by rw [HEB.out]; unfold dBad; first | rfl | (simp [*]; done) | (simp [*, Bool.or_assoc]; done)), rfl⟩
  obtain ⟨rfl, rfl, rfl, rfl⟩ := hcut
  clear q0 q1
  cases eb with
  | true =>
    go_wp2_with fail
    refine bodyPost_ret (v := .tuple #[.slice none 0 0, .int .i64 1]) (by simp [results, Try.results14, go_sem]) rfl ?_
    exact ⟨⟨_, [], 1, rfl, Kd.R_nil _ _ _ _ _, by unfold DqOut; rw [← HEB.out]; exact ⟨rfl, rfl⟩⟩, P0.out.2⟩
  | false =>
    go_wp2_with (refine wpl_loadG (by rfl) 26 (.tmp 1) rfl _ rfl P0.out.1 Try.underlying26 rfl info17 ?_)
    refine (bref_bag.calls m A rs.length c wc).mono ?_
    rintro e w1 ⟨rfl, hb⟩
    have P1 := Aside0.mk (And.intro (blk_below P0.out.1 hb) (below_step P0.out.2 hb))
    clear hb P0
    go_upto_region 4 with (refine wpList_store_row rfl 74 (.tmp 4) (.tmp 28) rfl w1.heap.size (bagOf m (.slice A rs.length c)).cells rfl rfl 74 #[.int .i64 0, .int .i64 0, .string ⟨#[]⟩, .string ⟨#[]⟩, .int .i64 0, .int .i64 0, .int .i64 0, .int .i64 0, .int .i64 0, .int .i64 0, .int .i64 0, .int .i64 0, .int .i64 0, .int .i64 0, .int .i64 0, .int .i64 0, .int .i64 0, .int .i64 0, .int .i64 0, .int .i64 0, .int .i64 0, .int .i64 0, .int .i64 0, .int .i64 0, .bool false, .slice none 0 0, .slice none 0 0, .slice none 0 0, .slice none 0 0] (heap_alloc_new w1 _) info29 rfl (all29 (bagOf m (.slice A rs.length c)) rfl rfl rfl rfl) ?_)
    (try simp only [Act.put, List.setIfInBounds_toArray, List.set_cons_zero, List.set_cons_succ])
    have hb_ := below_row (below_alloc (Below.refl w1.heap.size w1) (.cells #[.int .i64 0, .int .i64 0, .string ⟨#[]⟩, .string ⟨#[]⟩, .int .i64 0, .int .i64 0, .int .i64 0, .int .i64 0, .int .i64 0, .int .i64 0, .int .i64 0, .int .i64 0, .int .i64 0, .int .i64 0, .int .i64 0, .int .i64 0, .int .i64 0, .int .i64 0, .int .i64 0, .int .i64 0, .int .i64 0, .int .i64 0, .int .i64 0, .int .i64 0, .bool false, .slice none 0 0, .slice none 0 0, .slice none 0 0, .slice none 0 0] 74)) (Nat.le_refl _) (bagOf m (.slice A rs.length c)).cells
    have P2 := Aside0.mk (And.intro (blk_below P1.out.1 hb_) (And.intro (below_step P1.out.2 hb_) (setRow_heap _ _ _ (bagOf m (.slice A rs.length c)).cells _ _ (heap_alloc_new w1 (.cells #[.int .i64 0, .int .i64 0, .string ⟨#[]⟩, .string ⟨#[]⟩, .int .i64 0, .int .i64 0, .int .i64 0, .int .i64 0, .int .i64 0, .int .i64 0, .int .i64 0, .int .i64 0, .int .i64 0, .int .i64 0, .int .i64 0, .int .i64 0, .int .i64 0, .int .i64 0, .int .i64 0, .int .i64 0, .int .i64 0, .int .i64 0, .int .i64 0, .int .i64 0, .bool false, .slice none 0 0, .slice none 0 0, .slice none 0 0, .slice none 0 0] 74)))))
    generalize (w1.alloc (.cells #[.int .i64 0, .int .i64 0, .string ⟨#[]⟩, .string ⟨#[]⟩, .int .i64 0, .int .i64 0, .int .i64 0, .int .i64 0, .int .i64 0, .int .i64 0, .int .i64 0, .int .i64 0, .int .i64 0, .int .i64 0, .int .i64 0, .int .i64 0, .int .i64 0, .int .i64 0, .int .i64 0, .int .i64 0, .int .i64 0, .int .i64 0, .int .i64 0, .int .i64 0, .bool false, .slice none 0 0, .slice none 0 0, .slice none 0 0, .slice none 0 0] 74)).setRow w1.heap.size (bagOf m (.slice A rs.length c)).cells = w2 at P2 ⊢
    obtain ⟨gb, hgb⟩ : ∃ g, g = w1.heap.size := ⟨_, rfl⟩
    have HGB := Aside0.mk (show w.heap.size < gb from by rw [hgb]; exact blk_lt P1.out.1)
    rw [← hgb] at P2 ⊢
    clear hgb hb_ P1
    have q0 : w2.cell? ⟨w.heap.size, 0, none⟩ = some (.int .i64 m.kind) := (blk_cell P2.out.1 0).trans rfl
    have q1 : w2.cell? ⟨w.heap.size, 1, none⟩ = some (.int .i64 m.id) := (blk_cell P2.out.1 1).trans rfl
    go_upto_region 5 with (refine wpList_store_row rfl 74 (.tmp 5) (.tmp 33) rfl w2.heap.size #[.int .i64 m.kind, .int .i64 m.id, .string ⟨#[]⟩, .string ⟨#[]⟩, .int .i64 0, .int .i64 0, .int .i64 0, .int .i64 0, .int .i64 0, .int .i64 0, .int .i64 0, .int .i64 0, .int .i64 0, .int .i64 0, .int .i64 0, .int .i64 0, .int .i64 0, .int .i64 0, .int .i64 0, .int .i64 0, .int .i64 0, .int .i64 0, .int .i64 0, .int .i64 0, .bool false, .slice none 0 0, .slice none 0 0, .slice none 0 0, .slice none 0 0] rfl rfl 74 #[.int .i64 0, .int .i64 0, .string ⟨#[]⟩, .string ⟨#[]⟩, .int .i64 0, .int .i64 0, .int .i64 0, .int .i64 0, .int .i64 0, .int .i64 0, .int .i64 0, .int .i64 0, .int .i64 0, .int .i64 0, .int .i64 0, .int .i64 0, .int .i64 0, .int .i64 0, .int .i64 0, .int .i64 0, .int .i64 0, .int .i64 0, .int .i64 0, .int .i64 0, .bool false, .slice none 0 0, .slice none 0 0, .slice none 0 0, .slice none 0 0] (heap_alloc_new w2 _) info29 rfl (allC m) ?_)
    (try simp only [Act.put, List.setIfInBounds_toArray, List.set_cons_zero, List.set_cons_succ])
    have hb_ := below_row (below_alloc (Below.refl w2.heap.size w2) (.cells #[.int .i64 0, .int .i64 0, .string ⟨#[]⟩, .string ⟨#[]⟩, .int .i64 0, .int .i64 0, .int .i64 0, .int .i64 0, .int .i64 0, .int .i64 0, .int .i64 0, .int .i64 0, .int .i64 0, .int .i64 0, .int .i64 0, .int .i64 0, .int .i64 0, .int .i64 0, .int .i64 0, .int .i64 0, .int .i64 0, .int .i64 0, .int .i64 0, .int .i64 0, .bool false, .slice none 0 0, .slice none 0 0, .slice none 0 0, .slice none 0 0] 74)) (Nat.le_refl _) #[.int .i64 m.kind, .int .i64 m.id, .string ⟨#[]⟩, .string ⟨#[]⟩, .int .i64 0, .int .i64 0, .int .i64 0, .int .i64 0, .int .i64 0, .int .i64 0, .int .i64 0, .int .i64 0, .int .i64 0, .int .i64 0, .int .i64 0, .int .i64 0, .int .i64 0, .int .i64 0, .int .i64 0, .int .i64 0, .int .i64 0, .int .i64 0, .int .i64 0, .int .i64 0, .bool false, .slice none 0 0, .slice none 0 0, .slice none 0 0, .slice none 0 0]
    have P3 := Aside0.mk (And.intro (blk_below P2.out.1 hb_) (And.intro (below_step P2.out.2.1 hb_) (And.intro (blk_below P2.out.2.2 hb_) (show ((w2.alloc (.cells #[.int .i64 0, .int .i64 0, .string ⟨#[]⟩, .string ⟨#[]⟩, .int .i64 0, .int .i64 0, .int .i64 0, .int .i64 0, .int .i64 0, .int .i64 0, .int .i64 0, .int .i64 0, .int .i64 0, .int .i64 0, .int .i64 0, .int .i64 0, .int .i64 0, .int .i64 0, .int .i64 0, .int .i64 0, .int .i64 0, .int .i64 0, .int .i64 0, .int .i64 0, .bool false, .slice none 0 0, .slice none 0 0, .slice none 0 0, .slice none 0 0] 74)).setRow w2.heap.size #[.int .i64 m.kind, .int .i64 m.id, .string ⟨#[]⟩, .string ⟨#[]⟩, .int .i64 0, .int .i64 0, .int .i64 0, .int .i64 0, .int .i64 0, .int .i64 0, .int .i64 0, .int .i64 0, .int .i64 0, .int .i64 0, .int .i64 0, .int .i64 0, .int .i64 0, .int .i64 0, .int .i64 0, .int .i64 0, .int .i64 0, .int .i64 0, .int .i64 0, .int .i64 0, .bool false, .slice none 0 0, .slice none 0 0, .slice none 0 0, .slice none 0 0]).heap[w2.heap.size]? = some (.cells (bagC m).cells 74 (0, 0)) from setRow_heap _ _ _ #[.int .i64 m.kind, .int .i64 m.id, .string ⟨#[]⟩, .string ⟨#[]⟩, .int .i64 0, .int .i64 0, .int .i64 0, .int .i64 0, .int .i64 0, .int .i64 0, .int .i64 0, .int .i64 0, .int .i64 0, .int .i64 0, .int .i64 0, .int .i64 0, .int .i64 0, .int .i64 0, .int .i64 0, .int .i64 0, .int .i64 0, .int .i64 0, .int .i64 0, .int .i64 0, .bool false, .slice none 0 0, .slice none 0 0, .slice none 0 0, .slice none 0 0] _ _ (heap_alloc_new w2 (.cells #[.int .i64 0, .int .i64 0, .string ⟨#[]⟩, .string ⟨#[]⟩, .int .i64 0, .int .i64 0, .int .i64 0, .int .i64 0, .int .i64 0, .int .i64 0, .int .i64 0, .int .i64 0, .int .i64 0, .int .i64 0, .int .i64 0, .int .i64 0, .int .i64 0, .int .i64 0, .int .i64 0, .int .i64 0, .int .i64 0, .int .i64 0, .int .i64 0, .int .i64 0, .bool false, .slice none 0 0, .slice none 0 0, .slice none 0 0, .slice none 0 0] 74))))))
    generalize (w2.alloc (.cells #[.int .i64 0, .int .i64 0, .string ⟨#[]⟩, .string ⟨#[]⟩, .int .i64 0, .int .i64 0, .int .i64 0, .int .i64 0, .int .i64 0, .int .i64 0, .int .i64 0, .int .i64 0, .int .i64 0, .int .i64 0, .int .i64 0, .int .i64 0, .int .i64 0, .int .i64 0, .int .i64 0, .int .i64 0, .int .i64 0, .int .i64 0, .int .i64 0, .int .i64 0, .bool false, .slice none 0 0, .slice none 0 0, .slice none 0 0, .slice none 0 0] 74)).setRow w2.heap.size #[.int .i64 m.kind, .int .i64 m.id, .string ⟨#[]⟩, .string ⟨#[]⟩, .int .i64 0, .int .i64 0, .int .i64 0, .int .i64 0, .int .i64 0, .int .i64 0, .int .i64 0, .int .i64 0, .int .i64 0, .int .i64 0, .int .i64 0, .int .i64 0, .int .i64 0, .int .i64 0, .int .i64 0, .int .i64 0, .int .i64 0, .int .i64 0, .int .i64 0, .int .i64 0, .bool false, .slice none 0 0, .slice none 0 0, .slice none 0 0, .slice none 0 0] = w3 at P3 ⊢
    obtain ⟨gc, hgc⟩ : ∃ g, g = w2.heap.size := ⟨_, rfl⟩
    have HGC := Aside0.mk (show gb < gc from by rw [hgc]; exact blk_lt P2.out.2.2)
    rw [← hgc] at P3 ⊢
    clear hgc hb_ P2 q0 q1
    have q0 : w3.cell? ⟨w.heap.size, 0, none⟩ = some (.int .i64 m.kind) := (blk_cell P3.out.1 0).trans rfl
    go_wp2_with fail
    refine (bollardref20_rows.calls k m.kind false L w3 HROWS.out).mono ?_
    rintro e w4 ⟨v, rfl, hv, hb⟩
    obtain ⟨Av, cv, ev⟩ := Kd.R_slice hv
    subst ev
    have P4 := Aside0.mk (And.intro (blk_below P3.out.1 hb) (And.intro (below_step P3.out.2.1 hb) (And.intro (blk_below P3.out.2.2.1 hb) (And.intro (blk_below P3.out.2.2.2 hb) (Kd.R_lower hv P3.out.2.1.size)))))
    clear hv hb P3 q0
    go_upto_region 6 with (fail)
    rename_i K_ hK_
    (try simp only [Act.put, List.setIfInBounds_toArray, List.set_cons_zero, List.set_cons_succ])
    refine start_ (n := 12) (S := fun w' => Below w4.drew.heap.size w4.drew w') (ds := []) #[false, false, false, false, false, false, false, false, false, false, false, false] (by kernel_rfl) rfl rfl (Below.refl _ _) (fun hHeld => ?_)
    have b_ := below_drew1 (Below.refl w4.heap.size w4)
    have P5 := Aside0.mk (And.intro (blk_below P4.out.1 b_) (And.intro (below_step P4.out.2.1 b_) (And.intro (blk_below P4.out.2.2.1 b_) (And.intro (blk_below P4.out.2.2.2.1 b_) (Kd.R_below P4.out.2.2.2.2 b_)))))
    clear b_ P4
    generalize w4.drew = y4 at P5 hHeld ⊢
    have q0 : y4.cell? ⟨w.heap.size, 0, none⟩ = some (.int .i64 m.kind) := (blk_cell P5.out.1 0).trans rfl
    have q1 : y4.cell? ⟨w.heap.size, 1, none⟩ = some (.int .i64 m.id) := (blk_cell P5.out.1 1).trans rfl
    refine pure_ (i := 0) (N := (some 37)) (v := ?_) (a' := ?_) #[true, false, false, false, false, false, false, false, false, false, false, false] rfl rfl (by kernel_rfl) (fun _ _ _ h => h) (Or.inl ⟨by rfl, ?_⟩) ?_ ?_
    rotate_left
    · intro w'
      go_simp
      with_reducible rfl
    rotate_left
    · simp only [Act.put, List.setIfInBounds_toArray, List.set_cons_zero, List.set_cons_succ, i64_w, i32_w]
      rfl
    refine take_ (i := 1) (N := (some 38)) (v := ?_) (a' := ?_) #[true, true, false, false, false, false, false, false, false, false, false, false] rfl rfl (by kernel_rfl) (fun _ _ _ h => h) (Or.inl ⟨by rfl, ?_⟩) hHeld ?_ ?_
    rotate_left
    · rintro w' s0
      have c_ := pw_cell_below s0 q0
      go_simp
      with_reducible rfl
    rotate_left
    · simp only [Act.put, List.setIfInBounds_toArray, List.set_cons_zero, List.set_cons_succ, i64_w, i32_w]
      rfl
    refine pure_ (i := 2) (N := (some 39)) (v := ?_) (a' := ?_) #[true, true, true, false, false, false, false, false, false, false, false, false] rfl rfl (by kernel_rfl) (fun _ _ _ h => h) (Or.inl ⟨by rfl, ?_⟩) ?_ ?_
    rotate_left
    · intro w'
      go_simp
      with_reducible rfl
    rotate_left
    · simp only [Act.put, List.setIfInBounds_toArray, List.set_cons_zero, List.set_cons_succ, i64_w, i32_w]
      rfl
    refine pure_ (i := 4) (N := (some 41)) (v := ?_) (a' := ?_) #[true, true, true, false, true, false, false, false, false, false, false, false] rfl rfl (by kernel_rfl) (fun _ _ _ h => h) (Or.inl ⟨by rfl, ?_⟩) ?_ ?_
    rotate_left
    · intro w'
      go_simp
      with_reducible rfl
    rotate_left
    · simp only [Act.put, List.setIfInBounds_toArray, List.set_cons_zero, List.set_cons_succ, i64_w, i32_w]
      rfl
    refine take_ (i := 5) (N := (some 42)) (v := ?_) (a' := ?_) #[true, true, true, false, true, true, false, false, false, false, false, false] rfl rfl (by kernel_rfl) (fun _ _ _ h => h) (Or.inl ⟨by rfl, ?_⟩) hHeld ?_ ?_
    rotate_left
    · rintro w' s0
      have c_ := pw_cell_below s0 q1
      go_simp
      with_reducible rfl
    rotate_left
    · simp only [Act.put, List.setIfInBounds_toArray, List.set_cons_zero, List.set_cons_succ, i64_w, i32_w]
      rfl
    refine pure_ (i := 6) (N := (some 43)) (v := ?_) (a' := ?_) #[true, true, true, false, true, true, true, false, false, false, false, false] rfl rfl (by kernel_rfl) (fun _ _ _ h => h) (Or.inl ⟨by rfl, ?_⟩) ?_ ?_
    rotate_left
    · intro w'
      go_simp
      with_reducible rfl
    rotate_left
    · simp only [Act.put, List.setIfInBounds_toArray, List.set_cons_zero, List.set_cons_succ, i64_w, i32_w]
      rfl
    refine join_ (σ := (Value × Value)) 4 #[true, true, true, true, true, true, true, true, false, false, false, false] (fun s_ => [(40, s_.1), (44, s_.2)]) (fun s_ w' => (Below y4.heap.size y4 w') ∧ Aside0 (Kd.R (Kd.int .u8) 5 w' y4.heap.size (fun _ => True) s_.1 [m.kind % 256]) ∧ Aside0 (Kd.R (Kd.int .u8) 5 w' y4.heap.size (fun _ => True) s_.2 (nb m.id 4))) ?_ ?_
    rotate_left
    · intro hCont
      refine two_ (i := 3) (j := 7) (Ni := (some 40)) (Nj := (some 44)) #[true, true, true, true, true, true, true, false, false, false, false, false] #[true, true, true, false, true, true, true, true, false, false, false, false] rfl rfl rfl rfl (by kernel_rfl) (by decide) (by decide) (fun K hK => ?_) (fun K hK => ?_)
      · refine Kd.R_lit_step (Kd.int .u8) (w0 := y4) y4.heap.size 5 ?hg (N := 40) ?hd (xs := ([m.kind % 256] : List Int)) (inner := [.int .u8 (m.kind % 256)]) (ok := fun _ => True) (okp := fun _ => True) ?hr ?hp (fun _ hk => hk) trivial hHeld hHeld.size (by simp) ?_; (case hd => rfl); (case hg => rfl); (case hr => first | (go_simp; done) | (go_simp; rfl)); (case hp => exact (Reps.one (show Kd.M (Kd.int .u8) _ _ _ (m.kind % 256) [.int .u8 (m.kind % 256)] from rfl) (Reps.none _ _))); intro v40 z1 ho_ hb_ hg_ hn_; have R40 := Aside0.mk ho_; clear ho_ hg_ hn_
        refine hK.out _ _ hb_ (fun hHeld => ?_)
        clear hK K
        refine norm_ (a' := ?_) ?_ ?_
        rotate_left
        · show Act.put _ (some 40) _ = _
          simp only [Act.put, List.setIfInBounds_toArray, List.set_cons_zero, List.set_cons_succ, i64_w, i32_w]
          rfl
        refine one_ (i := 7) (N := (some 44)) #[true, true, true, true, true, true, true, true, false, false, false, false] rfl rfl (by kernel_rfl) (by decide) (fun K hK => ?_)
        refine goes_ Try.func33 (by kernel_rfl) rfl #[.slice none 0 0, .int .i64 4, .int .u64 (IntKind.u64.wrap m.id)] (by rfl) rfl rfl (by (try simp only [List.map_toArray, List.map_cons, List.map_nil]); first | done | rfl) ?_
        refine (bollardref1_Lay.calls 9 (fun _ => False) (.slice none 0 0) [] 4 (IntKind.u64.wrap m.id) (nb m.id 4) y4 _ hHeld (Kd.R_nil _ _ _ _ _) (lay_nb [] 4 (by decide) (by decide) m.id (by decide))).mono ?_
        rintro e z2 ⟨v44, rfl, ho_, hb_, hk_⟩
        refine ⟨_, rfl, ?_⟩
        have R44 := Aside0.mk (Kd.R_mono (ok' := fun _ => True) ho_ (fun _ _ => trivial))
        have R40b := Aside0.mk (Kd.R_step R40.out (fun k_ _ hl_ => hk_.2 k_ hl_ (fun h_ => h_)))
        clear ho_ hk_ R40
        have R40 := R40b
        clear R40b
        refine hK.out _ _ hb_ (fun hHeld => ?_)
        clear hK K
        refine norm_ (a' := ?_) ?_ ?_
        rotate_left
        · show Act.put _ (some 44) _ = _
          simp only [Act.put, List.setIfInBounds_toArray, List.set_cons_zero, List.set_cons_succ, i64_w, i32_w]
          rfl
        exact norm_ (by simp only [putAll, Act.put, List.setIfInBounds_toArray, List.set_cons_zero, List.set_cons_succ]) (hCont (v40, v44) _ ⟨hHeld, R40, R44⟩)
      · refine goes_ Try.func33 (by kernel_rfl) rfl #[.slice none 0 0, .int .i64 4, .int .u64 (IntKind.u64.wrap m.id)] (by rfl) rfl rfl (by (try simp only [List.map_toArray, List.map_cons, List.map_nil]); first | done | rfl) ?_
        refine (bollardref1_Lay.calls 9 (fun _ => False) (.slice none 0 0) [] 4 (IntKind.u64.wrap m.id) (nb m.id 4) y4 _ hHeld (Kd.R_nil _ _ _ _ _) (lay_nb [] 4 (by decide) (by decide) m.id (by decide))).mono ?_
        rintro e z1 ⟨v44, rfl, ho_, hb_, hk_⟩
        refine ⟨_, rfl, ?_⟩
        have R44 := Aside0.mk (Kd.R_mono (ok' := fun _ => True) ho_ (fun _ _ => trivial))
        clear ho_ hk_
        refine hK.out _ _ hb_ (fun hHeld => ?_)
        clear hK K
        refine norm_ (a' := ?_) ?_ ?_
        rotate_left
        · show Act.put _ (some 44) _ = _
          simp only [Act.put, List.setIfInBounds_toArray, List.set_cons_zero, List.set_cons_succ, i64_w, i32_w]
          rfl
        refine one_ (i := 3) (N := (some 40)) #[true, true, true, true, true, true, true, true, false, false, false, false] rfl rfl (by kernel_rfl) (by decide) (fun K hK => ?_)
        refine Kd.R_lit_step (Kd.int .u8) (w0 := y4) y4.heap.size 5 ?hg (N := 40) ?hd (xs := ([m.kind % 256] : List Int)) (inner := [.int .u8 (m.kind % 256)]) (ok := fun _ => True) (okp := fun _ => True) ?hr ?hp (fun _ hk => hk) trivial hHeld hHeld.size (by simp) ?_; (case hd => rfl); (case hg => rfl); (case hr => first | (go_simp; done) | (go_simp; rfl)); (case hp => exact (Reps.one (show Kd.M (Kd.int .u8) _ _ _ (m.kind % 256) [.int .u8 (m.kind % 256)] from rfl) (Reps.none _ _))); intro v40 z2 ho_ hb_ hg_ hn_; have R40 := Aside0.mk ho_; have R44b := Aside0.mk (Kd.R_grown2 R44.out rfl hg_ (fun b hb => by cases hb)); clear R44; have R44 := R44b; clear R44b; clear ho_ hg_ hn_
        refine hK.out _ _ hb_ (fun hHeld => ?_)
        clear hK K
        refine norm_ (a' := ?_) ?_ ?_
        rotate_left
        · show Act.put _ (some 40) _ = _
          simp only [Act.put, List.setIfInBounds_toArray, List.set_cons_zero, List.set_cons_succ, i64_w, i32_w]
          rfl
        exact norm_ (by simp only [putAll, Act.put, List.setIfInBounds_toArray, List.set_cons_zero, List.set_cons_succ]) (hCont (v40, v44) _ ⟨hHeld, R40, R44⟩)
    rintro ⟨v40, v44⟩ z3 ⟨hHeld, R40, R44⟩
    refine norm_ (a' := ?_) ?_ ?_
    rotate_left
    · simp only [putAll, Act.put, List.setIfInBounds_toArray, List.set_cons_zero, List.set_cons_succ]
      rfl
    obtain ⟨A7, c7, e7⟩ := Kd.R_slice R44.out
    subst e7
    obtain ⟨hd, hhd⟩ : ∃ x, x = nb m.kind 1 ++ nb m.id 4 := ⟨_, rfl⟩
    have HD := Aside0.mk (show [m.kind % 256] ++ nb m.id 4 = hd from by rw [hhd, nb_one])
    have HDL := Aside0.mk (show hd.length = 5 from by rw [hhd, List.length_append, nb_len, nb_len])
    have HD2 := Aside0.mk hhd
    clear hhd
    refine one_ (i := 8) (N := (some 45)) #[true, true, true, true, true, true, true, true, true, false, false, false] rfl rfl (by kernel_rfl) (by decide) (fun K hK => ?_)
    refine Kd.R_append_rows_step (Kd.int .u8) (w0 := y4) y4.heap.size (by rfl) (.tmp 40) (.tmp 44) 29 5 (.int .u8 0) 1 rfl Try.underlying29 info5 rfl (by decide) (by decide) v40 ([m.kind % 256] : List Int) (nb m.id 4) A7 (nb m.id 4).length c7 (fun _ => True) (fun _ => False) rfl rfl R40.out (Kd.R_reads' R44.out).2.2 (fun _ _ h => h) (fun _ h => h.elim) (fun _ _ => trivial) hHeld hHeld.size ?aL ?_; (case aL => rw [nb_len]; simp); intro v45 z5 ho hb hg hat; rw [HD.out] at ho; obtain ⟨A8, c8, e8⟩ := Kd.R_slice ho; subst e8; have R8 := Aside0.mk ho; have hb_ := hb; clear ho hb hg hat
    refine hK.out _ _ hb_ (fun hHeld => ?_)
    clear hK K
    refine norm_ (a' := ?_) ?_ ?_
    rotate_left
    · show Act.put _ (some 45) _ = _
      simp only [Act.put, List.setIfInBounds_toArray, List.set_cons_zero, List.set_cons_succ, i64_w, i32_w]
      rfl
    refine pure_ (i := 9) (N := (some 46)) (v := ?_) (a' := ?_) #[true, true, true, true, true, true, true, true, true, true, false, false] rfl rfl (by kernel_rfl) (fun _ _ _ h => h) (Or.inl ⟨by rfl, ?_⟩) ?_ ?_
    rotate_left
    · intro w'
      go_simp
      with_reducible rfl
    rotate_left
    · simp only [Act.put, List.setIfInBounds_toArray, List.set_cons_zero, List.set_cons_succ, i64_w, i32_w]
      rfl
    refine one_ (i := 10) (N := (some 47)) #[true, true, true, true, true, true, true, true, true, true, true, false] rfl rfl (by kernel_rfl) (by decide) (fun K hK => ?_)
    refine box_step ?hg (N := 47) ?hd (cs := #[.slice A8 hd.length c8, .bool false]) (t := 82) ?hr ?_; (case hd => rfl); (case hg => rfl); (case hr => first | (go_simp; done) | (go_simp; rfl))
    intro g hg z6 hbox hb
    have G6 := Aside0.mk hbox
    have R9 := Aside0.mk (Kd.R_below R8.out hb)
    have hGE_ := Aside0.mk (show y4.heap.size ≤ g from by rw [hg]; exact hHeld.size)
    have hb_ := below_step hHeld hb
    clear hbox hb R8 hg
    refine hK.out _ _ hb_ (fun hHeld => ?_)
    clear hK K
    refine norm_ (a' := ?_) ?_ ?_
    rotate_left
    · show Act.put _ (some 47) _ = _
      simp only [Act.put, List.setIfInBounds_toArray, List.set_cons_zero, List.set_cons_succ, i64_w, i32_w]
      rfl
    refine pure_ (i := 11) (N := (some 7)) (v := ?_) (a' := ?_) #[true, true, true, true, true, true, true, true, true, true, true, true] rfl rfl (by kernel_rfl) (fun _ _ _ h => h) (Or.inl ⟨by rfl, ?_⟩) ?_ ?_
    rotate_left
    · intro w'
      go_simp
      with_reducible rfl
    rotate_left
    · simp only [Act.put, List.setIfInBounds_toArray, List.set_cons_zero, List.set_cons_succ, i64_w, i32_w]
      rfl
    have HZ := Aside0.mk hHeld
    refine done_ (by kernel_rfl) ?_
    clear hHeld
    show K_ _ _
    refine hK_ _ _ ?_
    clear hK_
    have HGW := Aside0.mk (show w.heap.size ≤ g from Nat.le_trans P5.out.2.1.size hGE_.out)
    have Q6 := Aside0.mk (show DqSt w z6 w.heap.size gb gc g m A rs c (bagOf m (.slice A rs.length c)) (bagC m) (hd, false) (.slice Av L.length cv) L from ⟨blk_below P5.out.1 HZ.out, blk_below P5.out.2.2.1 HZ.out, blk_below P5.out.2.2.2.1 HZ.out, Pn.mk' G6.out (Kd.R_lower R9.out P5.out.2.1.size), Kd.R_below P5.out.2.2.2.2 HZ.out, below_step P5.out.2.1 HZ.out⟩)
    clear P5 HZ G6 R9 hGE_ R40 R44 HD
    obtain ⟨S_, hS_⟩ : ∃ s, s = dFs (bagOf m (.slice A rs.length c)) rs L (nb m.kind 1 ++ nb m.id 4, false) := ⟨_, rfl⟩
    obtain ⟨C_, hC_⟩ : ∃ s, s = dCs (bagOf m (.slice A rs.length c)) L (bagC m) := ⟨_, rfl⟩
    have HSC := Aside0.mk (And.intro hS_ hC_)
    have HA0 := Aside0.mk (show dFs (bagOf m (.slice A rs.length c)) rs L (hd, false) = S_ ∧ dCs (bagOf m (.slice A rs.length c)) L (bagC m) = C_ from ⟨by rw [hS_, HD2.out], hC_.symm⟩)
    clear hS_ hC_
    go_wp2_with fail
    go_loopg [8] (L.length + 1) (fun kq v8 w' => ∃ (i : Int) (s : List Int × Bool) (cb : Bg), v8 = .int .i64 i ∧ Aside0 (kq + i.toNat = L.length + 1 ∧ 0 ≤ i ∧ i ≤ (L.length : Int)) ∧ Aside0 (dFs (bagOf m (.slice A rs.length c)) rs (L.drop i.toNat) s = S_ ∧ dCs (bagOf m (.slice A rs.length c)) (L.drop i.toNat) cb = C_) ∧ Aside0 (DqSt w w' w.heap.size gb gc g m A rs c (bagOf m (.slice A rs.length c)) cb s (.slice Av L.length cv) L) ∧ Aside0 (s.1.length ≤ 5 + i.toNat * 50000008))
    case atStart => exact ⟨0, _, _, rfl, ⟨by simp, by omega, by omega⟩, HA0, Q6, ⟨by rw [HDL.out]; simp⟩⟩
    case round =>
      obtain ⟨i, s, cb, rfl, HI, HA, HQ, HLn⟩ := hrel
      clear Q6 HA0
      by_cases hi : i < (L.length : Int)
      case pos =>
        have d1 : decide (i < (L.length : Int)) = true := decide_eq_true hi
        have h0 := HI.out.2.1
        have p1 := eq_true h0
        have p2 := eq_true hi
        obtain ⟨r, hr⟩ : ∃ r, r = rd_T85 L i := ⟨_, rfl⟩
        have HAT := Aside0.mk (show ∀ W, Kd.R k85 85 W w.heap.size (fun _ => True) (.slice Av L.length cv) L → ∃ ad, Av = some ad ∧ W.cell? (ad.add (i.toNat * 2)) = some (.int .i64 r.f0) ∧ W.cell? ⟨(ad.add (i.toNat * 2)).block, (ad.add (i.toNat * 2)).off + 1, none⟩ = some (.int .i64 r.f1) from fun W hW => by rw [hr]; exact at_T85 (Kd.R_reads' hW).2.2 i h0 hi)
        obtain ⟨ad, ea, _, _⟩ := HAT.out wr HQ.out.rw
        cases ea
        have HE := Aside0.mk (show dFs (bagOf m (.slice A rs.length c)) rs (L.drop (i + 1).toNat) (dF (bagOf m (.slice A rs.length c)) rs r s) = S_ ∧ dCs (bagOf m (.slice A rs.length c)) (L.drop (i + 1).toNat) (dC (bagOf m (.slice A rs.length c)) r cb) = C_ from by have h_ := drop_rd z85 h0 hi; have h2_ := HA.out; rw [h_] at h2_; rw [hr]; exact h2_)
        have HRO := Aside0.mk (show RowOk r from HOK.out r (by rw [hr]; exact List.mem_of_mem_drop (i := i.toNat) (by have h_ := drop_rd z85 h0 hi; rw [h_]; exact List.mem_cons_self)))
        have e1 : IntKind.i64.wrap (i + 1) = i + 1 := (i64_w _).trans (by have := HL7.out; unfold wrap64; omega)
        have HI2 := Aside0.mk hi
        clear hi h0 hr HA
        go_upto_region 10 with (fail)
        rename_i K_ hK_
        (try simp only [Act.put, List.setIfInBounds_toArray, List.set_cons_zero, List.set_cons_succ])
        refine start_ (n := 7) (S := fun w' => DqSt w w' w.heap.size gb gc g m A rs c (bagOf m (.slice A rs.length c)) cb s (.slice (some ad) L.length cv) L) (ds := [6]) #[false, false, false, false, false, false, false] (by kernel_rfl) rfl rfl (HQ.out.under (pw_below_drewN (Below.refl _ _) 1)) (fun hHeld => ?_)
        refine pure_ (i := 0) (N := (some 54)) (v := ?_) (a' := ?_) #[true, false, false, false, false, false, false] rfl rfl (by kernel_rfl) (fun _ _ _ h => h) (Or.inl ⟨by rfl, ?_⟩) ?_ ?_
        rotate_left
        · intro w'
          go_simp
          with_reducible rfl
        rotate_left
        · simp only [Act.put, List.setIfInBounds_toArray, List.set_cons_zero, List.set_cons_succ, i64_w, i32_w]
          rfl
        refine pure_ (i := 1) (N := (some 55)) (v := ?_) (a' := ?_) #[true, true, false, false, false, false, false] rfl rfl (by kernel_rfl) (fun _ _ _ h => h) (Or.inl ⟨by rfl, ?_⟩) ?_ ?_
        rotate_left
        · intro w'
          go_simp
          with_reducible rfl
        rotate_left
        · simp only [Act.put, List.setIfInBounds_toArray, List.set_cons_zero, List.set_cons_succ, i64_w, i32_w]
          rfl
        refine pure_ (i := 2) (N := (some 56)) (v := ?_) (a' := ?_) #[true, true, true, false, false, false, false] rfl rfl (by kernel_rfl) (fun _ _ _ h => h) (Or.inl ⟨by rfl, ?_⟩) ?_ ?_
        rotate_left
        · intro w'
          go_simp
          with_reducible rfl
        rotate_left
        · simp only [Act.put, List.setIfInBounds_toArray, List.set_cons_zero, List.set_cons_succ, i64_w, i32_w]
          rfl
        refine pure_ (i := 3) (N := (some 57)) (v := ?_) (a' := ?_) #[true, true, true, true, false, false, false] rfl rfl (by kernel_rfl) (fun _ _ _ h => h) (Or.inl ⟨by rfl, ?_⟩) ?_ ?_
        rotate_left
        · intro w'
          go_simp
          with_reducible rfl
        rotate_left
        · simp only [Act.put, List.setIfInBounds_toArray, List.set_cons_zero, List.set_cons_succ, i64_w, i32_w]
          rfl
        refine take_ (i := 4) (N := (some 58)) (v := ?_) (a' := ?_) #[true, true, true, true, true, false, false] rfl rfl (by kernel_rfl) (fun _ _ _ h => h) (Or.inl ⟨by rfl, ?_⟩) hHeld ?_ ?_
        rotate_left
        · rintro w' s_
          obtain ⟨ad2, ea2, x0, x1⟩ := HAT.out _ s_.rw
          cases ea2
          go_simp
          with_reducible rfl
        rotate_left
        · simp only [Act.put, List.setIfInBounds_toArray, List.set_cons_zero, List.set_cons_succ, i64_w, i32_w]
          rfl
        refine take_ (i := 5) (N := (some 59)) (v := ?_) (a' := ?_) #[true, true, true, true, true, true, false] rfl rfl (by kernel_rfl) (fun _ _ _ h => h) (Or.inl ⟨by rfl, ?_⟩) hHeld ?_ ?_
        rotate_left
        · rintro w' s_
          refine load_eq 74 (.tmp 4) _ ?_ ?_ s_.bg Try.underlying74 rfl info29
          · rfl
          · rfl
        rotate_left
        · simp only [Act.put, List.setIfInBounds_toArray, List.set_cons_zero, List.set_cons_succ, i64_w, i32_w]
          rfl
        refine last_ (i := 6) (N := (some 60)) #[true, true, true, true, true, true, true] rfl rfl (by kernel_rfl) (by decide) (fun K hK => ?_)
        refine goes_ Try.func34 (by kernel_rfl) rfl #[.pointer (some ⟨g, 0, none⟩), .agg #[.int .i64 r.f0, .int .i64 r.f1], .agg (bagOf m (.slice A rs.length c)).cells] (by rfl) rfl rfl (by (try simp only [List.map_toArray, List.map_cons, List.map_nil]); first | done | rfl) ?_
        refine (pf_row w g s (bagOf m (.slice A rs.length c)) rs A c r _ hHeld.pn HGW.out hHeld.below HRO.out rfl (fun W hW => Kd.C_below HR.out (hHeld.below.trans hW)) (by have := HLn.out; have := HN.out; have := HI.out; have := HI2.out; have := HL7.out; have : i.toNat ≤ 6 := (by omega); have : i.toNat * 50000008 ≤ 6 * 50000008 := Nat.mul_le_mul_right _ this; omega)).mono ?_
        rintro e w9 ⟨rfl, h1, h2⟩
        refine ⟨_, rfl, ?_⟩
        have Q2 := Aside0.mk (hHeld.field h1 h2)
        clear h1 h2
        refine hK.out _ _ ?_
        clear hK K
        refine norm_ (a' := ?_) ?_ ?_
        rotate_left
        · show Act.put _ (some 60) _ = _
          simp only [Act.put, List.setIfInBounds_toArray, List.set_cons_zero, List.set_cons_succ, i64_w, i32_w]
          rfl
        refine done_ (by kernel_rfl) ?_
        clear hHeld
        show K_ _ _
        refine hK_ _ _ ?_
        clear hK_ HQ
        have N2 := Aside0.mk (show (dF (bagOf m (.slice A rs.length c)) rs r s).1.length ≤ 5 + (i + 1).toNat * 50000008 from by have := dF_len (bagOf m (.slice A rs.length c)) rs r s; have := HLn.out; have := HN.out; rw [show (i + 1).toNat = i.toNat + 1 from by have := HI.out; omega]; omega)
        clear HLn
        generalize hs2 : dF (bagOf m (.slice A rs.length c)) rs r s = s2 at Q2 N2 HE
        rcases HRO.out with rfl | rfl | ⟨hf, hlo, hhi⟩ | rfl | rfl
        · obtain ⟨ad2, ea2, x0, x1⟩ := HAT.out w9 Q2.out.rw
          cases ea2
          dsimp only at x0 x1
          go_upto_region 13 with (fail)
          (try simp only [Act.put, List.setIfInBounds_toArray, List.set_cons_zero, List.set_cons_succ])
          clear x0 x1
          refine start_ (n := 16) (S := fun w' => DqSt w w' w.heap.size gb gc g m A rs c (bagOf m (.slice A rs.length c)) cb s2 (.slice (some ad) L.length cv) L) (ds := [15]) #[false, false, false, false, false, false, false, false, false, false, false, false, false, false, false, false] (by kernel_rfl) rfl rfl (Q2.out.under (pw_below_drewN (Below.refl _ _) 1)) (fun hHeld => ?_)
          refine pure_ (i := 0) (N := (some 68)) (v := ?_) (a' := ?_) #[true, false, false, false, false, false, false, false, false, false, false, false, false, false, false, false] rfl rfl (by kernel_rfl) (fun _ _ _ h => h) (Or.inl ⟨by rfl, ?_⟩) ?_ ?_
          rotate_left
          · intro w'
            go_simp
            with_reducible rfl
          rotate_left
          · simp only [Act.put, List.setIfInBounds_toArray, List.set_cons_zero, List.set_cons_succ, i64_w, i32_w]
            rfl
          refine pure_ (i := 1) (N := (some 69)) (v := ?_) (a' := ?_) #[true, true, false, false, false, false, false, false, false, false, false, false, false, false, false, false] rfl rfl (by kernel_rfl) (fun _ _ _ h => h) (Or.inl ⟨by rfl, ?_⟩) ?_ ?_
          rotate_left
          · intro w'
            go_simp
            with_reducible rfl
          rotate_left
          · simp only [Act.put, List.setIfInBounds_toArray, List.set_cons_zero, List.set_cons_succ, i64_w, i32_w]
            rfl
          refine pure_ (i := 2) (N := (some 70)) (v := ?_) (a' := ?_) #[true, true, true, false, false, false, false, false, false, false, false, false, false, false, false, false] rfl rfl (by kernel_rfl) (fun _ _ _ h => h) (Or.inl ⟨by rfl, ?_⟩) ?_ ?_
          rotate_left
          · intro w'
            go_simp
            with_reducible rfl
          rotate_left
          · simp only [Act.put, List.setIfInBounds_toArray, List.set_cons_zero, List.set_cons_succ, i64_w, i32_w]
            rfl
          refine pure_ (i := 3) (N := (some 71)) (v := ?_) (a' := ?_) #[true, true, true, true, false, false, false, false, false, false, false, false, false, false, false, false] rfl rfl (by kernel_rfl) (fun _ _ _ h => h) (Or.inl ⟨by rfl, ?_⟩) ?_ ?_
          rotate_left
          · intro w'
            go_simp
            with_reducible rfl
          rotate_left
          · simp only [Act.put, List.setIfInBounds_toArray, List.set_cons_zero, List.set_cons_succ, i64_w, i32_w]
            rfl
          refine take_ (i := 4) (N := (some 72)) (v := ?_) (a' := ?_) #[true, true, true, true, true, false, false, false, false, false, false, false, false, false, false, false] rfl rfl (by kernel_rfl) (fun _ _ _ h => h) (Or.inl ⟨by rfl, ?_⟩) hHeld ?_ ?_
          rotate_left
          · rintro w' s_
            obtain ⟨ad2, ea2, x0, x1⟩ := HAT.out _ s_.rw
            cases ea2
            dsimp only at x0 x1
            go_simp
            with_reducible rfl
          rotate_left
          · simp only [Act.put, List.setIfInBounds_toArray, List.set_cons_zero, List.set_cons_succ, i64_w, i32_w]
            rfl
          refine pure_ (i := 5) (N := (some 73)) (v := ?_) (a' := ?_) #[true, true, true, true, true, true, false, false, false, false, false, false, false, false, false, false] rfl rfl (by kernel_rfl) (fun _ _ _ h => h) (Or.inl ⟨by rfl, ?_⟩) ?_ ?_
          rotate_left
          · intro w'
            go_simp
            with_reducible rfl
          rotate_left
          · simp only [Act.put, List.setIfInBounds_toArray, List.set_cons_zero, List.set_cons_succ, i64_w, i32_w]
            rfl
          refine pure_ (i := 6) (N := (some 74)) (v := ?_) (a' := ?_) #[true, true, true, true, true, true, true, false, false, false, false, false, false, false, false, false] rfl rfl (by kernel_rfl) (fun _ _ _ h => h) (Or.inl ⟨by rfl, ?_⟩) ?_ ?_
          rotate_left
          · intro w'
            go_simp
            with_reducible rfl
          rotate_left
          · simp only [Act.put, List.setIfInBounds_toArray, List.set_cons_zero, List.set_cons_succ, i64_w, i32_w]
            rfl
          refine pure_ (i := 7) (N := (some 75)) (v := ?_) (a' := ?_) #[true, true, true, true, true, true, true, true, false, false, false, false, false, false, false, false] rfl rfl (by kernel_rfl) (fun _ _ _ h => h) (Or.inl ⟨by rfl, ?_⟩) ?_ ?_
          rotate_left
          · intro w'
            go_simp
            with_reducible rfl
          rotate_left
          · simp only [Act.put, List.setIfInBounds_toArray, List.set_cons_zero, List.set_cons_succ, i64_w, i32_w]
            rfl
          refine pure_ (i := 8) (N := (some 76)) (v := ?_) (a' := ?_) #[true, true, true, true, true, true, true, true, true, false, false, false, false, false, false, false] rfl rfl (by kernel_rfl) (fun _ _ _ h => h) (Or.inl ⟨by rfl, ?_⟩) ?_ ?_
          rotate_left
          · intro w'
            go_simp
            with_reducible rfl
          rotate_left
          · simp only [Act.put, List.setIfInBounds_toArray, List.set_cons_zero, List.set_cons_succ, i64_w, i32_w]
            rfl
          refine take_ (i := 9) (N := (some 77)) (v := ?_) (a' := ?_) #[true, true, true, true, true, true, true, true, true, true, false, false, false, false, false, false] rfl rfl (by kernel_rfl) (fun _ _ _ h => h) (Or.inl ⟨by rfl, ?_⟩) hHeld ?_ ?_
          rotate_left
          · rintro w' s_
            obtain ⟨ad2, ea2, x0, x1⟩ := HAT.out _ s_.rw
            cases ea2
            dsimp only at x0 x1
            go_simp
            with_reducible rfl
          rotate_left
          · simp only [Act.put, List.setIfInBounds_toArray, List.set_cons_zero, List.set_cons_succ, i64_w, i32_w]
            rfl
          refine pure_ (i := 10) (N := (some 78)) (v := ?_) (a' := ?_) #[true, true, true, true, true, true, true, true, true, true, true, false, false, false, false, false] rfl rfl (by kernel_rfl) (fun _ _ _ h => h) (Or.inl ⟨by rfl, ?_⟩) ?_ ?_
          rotate_left
          · intro w'
            go_simp
            with_reducible rfl
          rotate_left
          · simp only [Act.put, List.setIfInBounds_toArray, List.set_cons_zero, List.set_cons_succ, i64_w, i32_w]
            rfl
          refine pure_ (i := 11) (N := (some 79)) (v := ?_) (a' := ?_) #[true, true, true, true, true, true, true, true, true, true, true, true, false, false, false, false] rfl rfl (by kernel_rfl) (fun _ _ _ h => h) (Or.inl ⟨by rfl, ?_⟩) ?_ ?_
          rotate_left
          · intro w'
            go_simp
            with_reducible rfl
          rotate_left
          · simp only [Act.put, List.setIfInBounds_toArray, List.set_cons_zero, List.set_cons_succ, i64_w, i32_w]
            rfl
          refine take_ (i := 12) (N := (some 80)) (v := ?_) (a' := ?_) #[true, true, true, true, true, true, true, true, true, true, true, true, true, false, false, false] rfl rfl (by kernel_rfl) (fun _ _ _ h => h) (Or.inl ⟨by rfl, ?_⟩) hHeld ?_ ?_
          rotate_left
          · rintro w' s_
            have q0 : w'.cell? ⟨gb, 2, none⟩ = some (.string (bagOf m (.slice A rs.length c)).t0) := (blk_cell s_.bg (2)).trans rfl
            go_simp
            with_reducible rfl
          rotate_left
          · simp only [Act.put, List.setIfInBounds_toArray, List.set_cons_zero, List.set_cons_succ, i64_w, i32_w]
            rfl
          refine pure_ (i := 13) (N := (some 81)) (v := ?_) (a' := ?_) #[true, true, true, true, true, true, true, true, true, true, true, true, true, true, false, false] rfl rfl (by kernel_rfl) (fun _ _ _ h => h) (Or.inl ⟨by rfl, ?_⟩) ?_ ?_
          rotate_left
          · intro w'
            go_simp
            with_reducible rfl
          rotate_left
          · simp only [Act.put, List.setIfInBounds_toArray, List.set_cons_zero, List.set_cons_succ, i64_w, i32_w]
            rfl
          refine pure_ (i := 14) (N := (some 82)) (v := ?_) (a' := ?_) #[true, true, true, true, true, true, true, true, true, true, true, true, true, true, true, false] rfl rfl (by kernel_rfl) (fun _ _ _ h => h) (Or.inl ⟨by rfl, ?_⟩) ?_ ?_
          rotate_left
          · intro w'
            go_simp
            with_reducible rfl
          rotate_left
          · simp only [Act.put, List.setIfInBounds_toArray, List.set_cons_zero, List.set_cons_succ, i64_w, i32_w]
            rfl
          refine last_ (i := 15) (N := none) #[true, true, true, true, true, true, true, true, true, true, true, true, true, true, true, true] rfl rfl (by kernel_rfl) (by decide) (fun K hK => ?_)
          have z0 := blk_frozen hHeld.cg (2)
          have q2 := (blk_cell hHeld.cg (2)).trans rfl
          have Q3 := Aside0.mk (hHeld.setc (c2 := { cb with t0 := (bagOf m (.slice A rs.length c)).t0 }) (Nat.le_of_lt (Nat.lt_trans HGB.out HGC.out)) (Nat.ne_of_lt HGC.out) (2) (.string (bagOf m (.slice A rs.length c)).t0) rfl)
          refine skip_ (w1 := ?_) (by rfl) rfl ?_ ?_
          rotate_left
          · go_simp
            rfl
          refine hK.out _ _ ?_
          clear hK K
          refine done_ (by kernel_rfl) ?_
          clear hHeld
          have HDC := Aside0.mk (show dC (bagOf m (.slice A rs.length c)) ⟨1, 0⟩ cb = { cb with t0 := (bagOf m (.slice A rs.length c)).t0 } from by simp [dC])
          clear Q2
          (try simp only [Exit.inBlock])
          go_wp2_with fail
          go_roundg (L.length + 1 - (i + 1).toNat)
          case measure => have := HI.out; have := HI2.out; omega
          case rel => exact ⟨i + 1, s2, { cb with t0 := (bagOf m (.slice A rs.length c)).t0 }, by first | rfl | (rw [e1]), ⟨by have := HI.out; have := HI2.out; omega, by have := HI.out; omega, by have := HI2.out; omega⟩, ⟨HE.out.1, by have h_ := HE.out.2; rw [HDC.out] at h_; exact h_⟩, Q3, N2⟩
        · obtain ⟨ad2, ea2, x0, x1⟩ := HAT.out w9 Q2.out.rw
          cases ea2
          dsimp only at x0 x1
          go_upto_region 13 with (fail)
          (try simp only [Act.put, List.setIfInBounds_toArray, List.set_cons_zero, List.set_cons_succ])
          clear x0 x1
          refine start_ (n := 16) (S := fun w' => DqSt w w' w.heap.size gb gc g m A rs c (bagOf m (.slice A rs.length c)) cb s2 (.slice (some ad) L.length cv) L) (ds := [15]) #[false, false, false, false, false, false, false, false, false, false, false, false, false, false, false, false] (by kernel_rfl) rfl rfl (Q2.out.under (pw_below_drewN (Below.refl _ _) 1)) (fun hHeld => ?_)
          refine pure_ (i := 0) (N := (some 68)) (v := ?_) (a' := ?_) #[true, false, false, false, false, false, false, false, false, false, false, false, false, false, false, false] rfl rfl (by kernel_rfl) (fun _ _ _ h => h) (Or.inl ⟨by rfl, ?_⟩) ?_ ?_
          rotate_left
          · intro w'
            go_simp
            with_reducible rfl
          rotate_left
          · simp only [Act.put, List.setIfInBounds_toArray, List.set_cons_zero, List.set_cons_succ, i64_w, i32_w]
            rfl
          refine pure_ (i := 1) (N := (some 69)) (v := ?_) (a' := ?_) #[true, true, false, false, false, false, false, false, false, false, false, false, false, false, false, false] rfl rfl (by kernel_rfl) (fun _ _ _ h => h) (Or.inl ⟨by rfl, ?_⟩) ?_ ?_
          rotate_left
          · intro w'
            go_simp
            with_reducible rfl
          rotate_left
          · simp only [Act.put, List.setIfInBounds_toArray, List.set_cons_zero, List.set_cons_succ, i64_w, i32_w]
            rfl
          refine pure_ (i := 2) (N := (some 70)) (v := ?_) (a' := ?_) #[true, true, true, false, false, false, false, false, false, false, false, false, false, false, false, false] rfl rfl (by kernel_rfl) (fun _ _ _ h => h) (Or.inl ⟨by rfl, ?_⟩) ?_ ?_
          rotate_left
          · intro w'
            go_simp
            with_reducible rfl
          rotate_left
          · simp only [Act.put, List.setIfInBounds_toArray, List.set_cons_zero, List.set_cons_succ, i64_w, i32_w]
            rfl
          refine pure_ (i := 3) (N := (some 71)) (v := ?_) (a' := ?_) #[true, true, true, true, false, false, false, false, false, false, false, false, false, false, false, false] rfl rfl (by kernel_rfl) (fun _ _ _ h => h) (Or.inl ⟨by rfl, ?_⟩) ?_ ?_
          rotate_left
          · intro w'
            go_simp
            with_reducible rfl
          rotate_left
          · simp only [Act.put, List.setIfInBounds_toArray, List.set_cons_zero, List.set_cons_succ, i64_w, i32_w]
            rfl
          refine take_ (i := 4) (N := (some 72)) (v := ?_) (a' := ?_) #[true, true, true, true, true, false, false, false, false, false, false, false, false, false, false, false] rfl rfl (by kernel_rfl) (fun _ _ _ h => h) (Or.inl ⟨by rfl, ?_⟩) hHeld ?_ ?_
          rotate_left
          · rintro w' s_
            obtain ⟨ad2, ea2, x0, x1⟩ := HAT.out _ s_.rw
            cases ea2
            dsimp only at x0 x1
            go_simp
            with_reducible rfl
          rotate_left
          · simp only [Act.put, List.setIfInBounds_toArray, List.set_cons_zero, List.set_cons_succ, i64_w, i32_w]
            rfl
          refine pure_ (i := 5) (N := (some 73)) (v := ?_) (a' := ?_) #[true, true, true, true, true, true, false, false, false, false, false, false, false, false, false, false] rfl rfl (by kernel_rfl) (fun _ _ _ h => h) (Or.inl ⟨by rfl, ?_⟩) ?_ ?_
          rotate_left
          · intro w'
            go_simp
            with_reducible rfl
          rotate_left
          · simp only [Act.put, List.setIfInBounds_toArray, List.set_cons_zero, List.set_cons_succ, i64_w, i32_w]
            rfl
          refine pure_ (i := 6) (N := (some 74)) (v := ?_) (a' := ?_) #[true, true, true, true, true, true, true, false, false, false, false, false, false, false, false, false] rfl rfl (by kernel_rfl) (fun _ _ _ h => h) (Or.inl ⟨by rfl, ?_⟩) ?_ ?_
          rotate_left
          · intro w'
            go_simp
            with_reducible rfl
          rotate_left
          · simp only [Act.put, List.setIfInBounds_toArray, List.set_cons_zero, List.set_cons_succ, i64_w, i32_w]
            rfl
          refine pure_ (i := 7) (N := (some 75)) (v := ?_) (a' := ?_) #[true, true, true, true, true, true, true, true, false, false, false, false, false, false, false, false] rfl rfl (by kernel_rfl) (fun _ _ _ h => h) (Or.inl ⟨by rfl, ?_⟩) ?_ ?_
          rotate_left
          · intro w'
            go_simp
            with_reducible rfl
          rotate_left
          · simp only [Act.put, List.setIfInBounds_toArray, List.set_cons_zero, List.set_cons_succ, i64_w, i32_w]
            rfl
          refine pure_ (i := 8) (N := (some 76)) (v := ?_) (a' := ?_) #[true, true, true, true, true, true, true, true, true, false, false, false, false, false, false, false] rfl rfl (by kernel_rfl) (fun _ _ _ h => h) (Or.inl ⟨by rfl, ?_⟩) ?_ ?_
          rotate_left
          · intro w'
            go_simp
            with_reducible rfl
          rotate_left
          · simp only [Act.put, List.setIfInBounds_toArray, List.set_cons_zero, List.set_cons_succ, i64_w, i32_w]
            rfl
          refine take_ (i := 9) (N := (some 77)) (v := ?_) (a' := ?_) #[true, true, true, true, true, true, true, true, true, true, false, false, false, false, false, false] rfl rfl (by kernel_rfl) (fun _ _ _ h => h) (Or.inl ⟨by rfl, ?_⟩) hHeld ?_ ?_
          rotate_left
          · rintro w' s_
            obtain ⟨ad2, ea2, x0, x1⟩ := HAT.out _ s_.rw
            cases ea2
            dsimp only at x0 x1
            go_simp
            with_reducible rfl
          rotate_left
          · simp only [Act.put, List.setIfInBounds_toArray, List.set_cons_zero, List.set_cons_succ, i64_w, i32_w]
            rfl
          refine pure_ (i := 10) (N := (some 78)) (v := ?_) (a' := ?_) #[true, true, true, true, true, true, true, true, true, true, true, false, false, false, false, false] rfl rfl (by kernel_rfl) (fun _ _ _ h => h) (Or.inl ⟨by rfl, ?_⟩) ?_ ?_
          rotate_left
          · intro w'
            go_simp
            with_reducible rfl
          rotate_left
          · simp only [Act.put, List.setIfInBounds_toArray, List.set_cons_zero, List.set_cons_succ, i64_w, i32_w]
            rfl
          refine pure_ (i := 11) (N := (some 79)) (v := ?_) (a' := ?_) #[true, true, true, true, true, true, true, true, true, true, true, true, false, false, false, false] rfl rfl (by kernel_rfl) (fun _ _ _ h => h) (Or.inl ⟨by rfl, ?_⟩) ?_ ?_
          rotate_left
          · intro w'
            go_simp
            with_reducible rfl
          rotate_left
          · simp only [Act.put, List.setIfInBounds_toArray, List.set_cons_zero, List.set_cons_succ, i64_w, i32_w]
            rfl
          refine take_ (i := 12) (N := (some 80)) (v := ?_) (a' := ?_) #[true, true, true, true, true, true, true, true, true, true, true, true, true, false, false, false] rfl rfl (by kernel_rfl) (fun _ _ _ h => h) (Or.inl ⟨by rfl, ?_⟩) hHeld ?_ ?_
          rotate_left
          · rintro w' s_
            have q0 : w'.cell? ⟨gb, 3, none⟩ = some (.string (bagOf m (.slice A rs.length c)).t1) := (blk_cell s_.bg (3)).trans rfl
            go_simp
            with_reducible rfl
          rotate_left
          · simp only [Act.put, List.setIfInBounds_toArray, List.set_cons_zero, List.set_cons_succ, i64_w, i32_w]
            rfl
          refine pure_ (i := 13) (N := (some 81)) (v := ?_) (a' := ?_) #[true, true, true, true, true, true, true, true, true, true, true, true, true, true, false, false] rfl rfl (by kernel_rfl) (fun _ _ _ h => h) (Or.inl ⟨by rfl, ?_⟩) ?_ ?_
          rotate_left
          · intro w'
            go_simp
            with_reducible rfl
          rotate_left
          · simp only [Act.put, List.setIfInBounds_toArray, List.set_cons_zero, List.set_cons_succ, i64_w, i32_w]
            rfl
          refine pure_ (i := 14) (N := (some 82)) (v := ?_) (a' := ?_) #[true, true, true, true, true, true, true, true, true, true, true, true, true, true, true, false] rfl rfl (by kernel_rfl) (fun _ _ _ h => h) (Or.inl ⟨by rfl, ?_⟩) ?_ ?_
          rotate_left
          · intro w'
            go_simp
            with_reducible rfl
          rotate_left
          · simp only [Act.put, List.setIfInBounds_toArray, List.set_cons_zero, List.set_cons_succ, i64_w, i32_w]
            rfl
          refine last_ (i := 15) (N := none) #[true, true, true, true, true, true, true, true, true, true, true, true, true, true, true, true] rfl rfl (by kernel_rfl) (by decide) (fun K hK => ?_)
          have z0 := blk_frozen hHeld.cg (3)
          have q2 := (blk_cell hHeld.cg (3)).trans rfl
          have Q3 := Aside0.mk (hHeld.setc (c2 := { cb with t1 := (bagOf m (.slice A rs.length c)).t1 }) (Nat.le_of_lt (Nat.lt_trans HGB.out HGC.out)) (Nat.ne_of_lt HGC.out) (3) (.string (bagOf m (.slice A rs.length c)).t1) rfl)
          refine skip_ (w1 := ?_) (by rfl) rfl ?_ ?_
          rotate_left
          · go_simp
            rfl
          refine hK.out _ _ ?_
          clear hK K
          refine done_ (by kernel_rfl) ?_
          clear hHeld
          have HDC := Aside0.mk (show dC (bagOf m (.slice A rs.length c)) ⟨1, 1⟩ cb = { cb with t1 := (bagOf m (.slice A rs.length c)).t1 } from by simp [dC])
          clear Q2
          (try simp only [Exit.inBlock])
          go_wp2_with fail
          go_roundg (L.length + 1 - (i + 1).toNat)
          case measure => have := HI.out; have := HI2.out; omega
          case rel => exact ⟨i + 1, s2, { cb with t1 := (bagOf m (.slice A rs.length c)).t1 }, by first | rfl | (rw [e1]), ⟨by have := HI.out; have := HI2.out; omega, by have := HI.out; omega, by have := HI2.out; omega⟩, ⟨HE.out.1, by have h_ := HE.out.2; rw [HDC.out] at h_; exact h_⟩, Q3, N2⟩
        · obtain ⟨f0, f1⟩ := r
          dsimp only at hf hlo hhi
          subst hf
          obtain ⟨j, rfl⟩ := Int.eq_ofNat_of_zero_le hlo
          have HJ := Aside0.mk (show j < 20 from by omega)
          have p3 := eq_true (show (0 : Int) ≤ (j : Int) from by omega)
          have p4 := eq_true (show (j : Int) < 20 from by omega)
          have p5 : ((j : Int)).toNat = j := Int.toNat_natCast j
          clear hlo hhi
          obtain ⟨ad2, ea2, x0, x1⟩ := HAT.out w9 Q2.out.rw
          cases ea2
          dsimp only at x0 x1
          go_upto_region 15 with (fail)
          (try simp only [Act.put, List.setIfInBounds_toArray, List.set_cons_zero, List.set_cons_succ])
          clear x0 x1
          refine start_ (n := 16) (S := fun w' => DqSt w w' w.heap.size gb gc g m A rs c (bagOf m (.slice A rs.length c)) cb s2 (.slice (some ad) L.length cv) L) (ds := [15]) #[false, false, false, false, false, false, false, false, false, false, false, false, false, false, false, false] (by kernel_rfl) rfl rfl (Q2.out.under (pw_below_drewN (Below.refl _ _) 1)) (fun hHeld => ?_)
          refine pure_ (i := 0) (N := (some 85)) (v := ?_) (a' := ?_) #[true, false, false, false, false, false, false, false, false, false, false, false, false, false, false, false] rfl rfl (by kernel_rfl) (fun _ _ _ h => h) (Or.inl ⟨by rfl, ?_⟩) ?_ ?_
          rotate_left
          · intro w'
            go_simp
            with_reducible rfl
          rotate_left
          · simp only [Act.put, List.setIfInBounds_toArray, List.set_cons_zero, List.set_cons_succ, i64_w, i32_w]
            rfl
          refine pure_ (i := 1) (N := (some 86)) (v := ?_) (a' := ?_) #[true, true, false, false, false, false, false, false, false, false, false, false, false, false, false, false] rfl rfl (by kernel_rfl) (fun _ _ _ h => h) (Or.inl ⟨by rfl, ?_⟩) ?_ ?_
          rotate_left
          · intro w'
            go_simp
            with_reducible rfl
          rotate_left
          · simp only [Act.put, List.setIfInBounds_toArray, List.set_cons_zero, List.set_cons_succ, i64_w, i32_w]
            rfl
          refine pure_ (i := 2) (N := (some 87)) (v := ?_) (a' := ?_) #[true, true, true, false, false, false, false, false, false, false, false, false, false, false, false, false] rfl rfl (by kernel_rfl) (fun _ _ _ h => h) (Or.inl ⟨by rfl, ?_⟩) ?_ ?_
          rotate_left
          · intro w'
            go_simp
            with_reducible rfl
          rotate_left
          · simp only [Act.put, List.setIfInBounds_toArray, List.set_cons_zero, List.set_cons_succ, i64_w, i32_w]
            rfl
          refine pure_ (i := 3) (N := (some 88)) (v := ?_) (a' := ?_) #[true, true, true, true, false, false, false, false, false, false, false, false, false, false, false, false] rfl rfl (by kernel_rfl) (fun _ _ _ h => h) (Or.inl ⟨by rfl, ?_⟩) ?_ ?_
          rotate_left
          · intro w'
            go_simp
            with_reducible rfl
          rotate_left
          · simp only [Act.put, List.setIfInBounds_toArray, List.set_cons_zero, List.set_cons_succ, i64_w, i32_w]
            rfl
          refine take_ (i := 4) (N := (some 89)) (v := ?_) (a' := ?_) #[true, true, true, true, true, false, false, false, false, false, false, false, false, false, false, false] rfl rfl (by kernel_rfl) (fun _ _ _ h => h) (Or.inl ⟨by rfl, ?_⟩) hHeld ?_ ?_
          rotate_left
          · rintro w' s_
            obtain ⟨ad2, ea2, x0, x1⟩ := HAT.out _ s_.rw
            cases ea2
            dsimp only at x0 x1
            go_simp
            with_reducible rfl
          rotate_left
          · simp only [Act.put, List.setIfInBounds_toArray, List.set_cons_zero, List.set_cons_succ, i64_w, i32_w]
            rfl
          refine pure_ (i := 5) (N := (some 90)) (v := ?_) (a' := ?_) #[true, true, true, true, true, true, false, false, false, false, false, false, false, false, false, false] rfl rfl (by kernel_rfl) (fun _ _ _ h => h) (Or.inl ⟨by rfl, ?_⟩) ?_ ?_
          rotate_left
          · intro w'
            go_simp
            with_reducible rfl
          rotate_left
          · simp only [Act.put, List.setIfInBounds_toArray, List.set_cons_zero, List.set_cons_succ, i64_w, i32_w]
            rfl
          refine pure_ (i := 6) (N := (some 91)) (v := ?_) (a' := ?_) #[true, true, true, true, true, true, true, false, false, false, false, false, false, false, false, false] rfl rfl (by kernel_rfl) (fun _ _ _ h => h) (Or.inl ⟨by rfl, ?_⟩) ?_ ?_
          rotate_left
          · intro w'
            go_simp
            with_reducible rfl
          rotate_left
          · simp only [Act.put, List.setIfInBounds_toArray, List.set_cons_zero, List.set_cons_succ, i64_w, i32_w]
            rfl
          refine pure_ (i := 7) (N := (some 92)) (v := ?_) (a' := ?_) #[true, true, true, true, true, true, true, true, false, false, false, false, false, false, false, false] rfl rfl (by kernel_rfl) (fun _ _ _ h => h) (Or.inl ⟨by rfl, ?_⟩) ?_ ?_
          rotate_left
          · intro w'
            go_simp
            with_reducible rfl
          rotate_left
          · simp only [Act.put, List.setIfInBounds_toArray, List.set_cons_zero, List.set_cons_succ, i64_w, i32_w]
            rfl
          refine pure_ (i := 8) (N := (some 93)) (v := ?_) (a' := ?_) #[true, true, true, true, true, true, true, true, true, false, false, false, false, false, false, false] rfl rfl (by kernel_rfl) (fun _ _ _ h => h) (Or.inl ⟨by rfl, ?_⟩) ?_ ?_
          rotate_left
          · intro w'
            go_simp
            with_reducible rfl
          rotate_left
          · simp only [Act.put, List.setIfInBounds_toArray, List.set_cons_zero, List.set_cons_succ, i64_w, i32_w]
            rfl
          refine take_ (i := 9) (N := (some 94)) (v := ?_) (a' := ?_) #[true, true, true, true, true, true, true, true, true, true, false, false, false, false, false, false] rfl rfl (by kernel_rfl) (fun _ _ _ h => h) (Or.inl ⟨by rfl, ?_⟩) hHeld ?_ ?_
          rotate_left
          · rintro w' s_
            obtain ⟨ad2, ea2, x0, x1⟩ := HAT.out _ s_.rw
            cases ea2
            dsimp only at x0 x1
            go_simp
            with_reducible rfl
          rotate_left
          · simp only [Act.put, List.setIfInBounds_toArray, List.set_cons_zero, List.set_cons_succ, i64_w, i32_w]
            rfl
          refine pure_ (i := 10) (N := (some 95)) (v := ?_) (a' := ?_) #[true, true, true, true, true, true, true, true, true, true, true, false, false, false, false, false] rfl rfl (by kernel_rfl) (fun _ _ _ h => h) (Or.inl ⟨by rfl, ?_⟩) ?_ ?_
          rotate_left
          · intro w'
            go_simp
            with_reducible rfl
          rotate_left
          · simp only [Act.put, List.setIfInBounds_toArray, List.set_cons_zero, List.set_cons_succ, i64_w, i32_w]
            rfl
          refine pure_ (i := 11) (N := (some 96)) (v := ?_) (a' := ?_) #[true, true, true, true, true, true, true, true, true, true, true, true, false, false, false, false] rfl rfl (by kernel_rfl) (fun _ _ _ h => h) (Or.inl ⟨by rfl, ?_⟩) ?_ ?_
          rotate_left
          · intro w'
            go_simp
            with_reducible rfl
          rotate_left
          · simp only [Act.put, List.setIfInBounds_toArray, List.set_cons_zero, List.set_cons_succ, i64_w, i32_w]
            rfl
          refine take_ (i := 12) (N := (some 97)) (v := ?_) (a' := ?_) #[true, true, true, true, true, true, true, true, true, true, true, true, true, false, false, false] rfl rfl (by kernel_rfl) (fun _ _ _ h => h) (Or.inl ⟨by rfl, ?_⟩) hHeld ?_ ?_
          rotate_left
          · rintro w' s_
            have q0 : w'.cell? ⟨gb, 4 + j, none⟩ = some (.int .i64 ((bagOf m (.slice A rs.length c)).n j)) := (blk_cell s_.bg (4 + j)).trans (Bg.at_n _ _ HJ.out)
            go_simp
            with_reducible rfl
          rotate_left
          · simp only [Act.put, List.setIfInBounds_toArray, List.set_cons_zero, List.set_cons_succ, i64_w, i32_w]
            rfl
          refine pure_ (i := 13) (N := (some 98)) (v := ?_) (a' := ?_) #[true, true, true, true, true, true, true, true, true, true, true, true, true, true, false, false] rfl rfl (by kernel_rfl) (fun _ _ _ h => h) (Or.inl ⟨by rfl, ?_⟩) ?_ ?_
          rotate_left
          · intro w'
            go_simp
            with_reducible rfl
          rotate_left
          · simp only [Act.put, List.setIfInBounds_toArray, List.set_cons_zero, List.set_cons_succ, i64_w, i32_w]
            rfl
          refine pure_ (i := 14) (N := (some 99)) (v := ?_) (a' := ?_) #[true, true, true, true, true, true, true, true, true, true, true, true, true, true, true, false] rfl rfl (by kernel_rfl) (fun _ _ _ h => h) (Or.inl ⟨by rfl, ?_⟩) ?_ ?_
          rotate_left
          · intro w'
            go_simp
            with_reducible rfl
          rotate_left
          · simp only [Act.put, List.setIfInBounds_toArray, List.set_cons_zero, List.set_cons_succ, i64_w, i32_w]
            rfl
          refine last_ (i := 15) (N := none) #[true, true, true, true, true, true, true, true, true, true, true, true, true, true, true, true] rfl rfl (by kernel_rfl) (by decide) (fun K hK => ?_)
          have z0 := blk_frozen hHeld.cg (4 + j)
          have q2 := (blk_cell hHeld.cg (4 + j)).trans (Bg.at_n _ _ HJ.out)
          have Q3 := Aside0.mk (hHeld.setc (c2 := (cb.put j ((bagOf m (.slice A rs.length c)).n j))) (Nat.le_of_lt (Nat.lt_trans HGB.out HGC.out)) (Nat.ne_of_lt HGC.out) (4 + j) (.int .i64 ((bagOf m (.slice A rs.length c)).n j)) (Bg.set_n _ _ HJ.out _))
          refine skip_ (w1 := ?_) (by rfl) rfl ?_ ?_
          rotate_left
          · go_simp
            rfl
          refine hK.out _ _ ?_
          clear hK K
          refine done_ (by kernel_rfl) ?_
          clear hHeld
          have HDC := Aside0.mk (show dC (bagOf m (.slice A rs.length c)) ⟨2, (j : Int)⟩ cb = (cb.put j ((bagOf m (.slice A rs.length c)).n j)) from by simp [dC])
          clear Q2
          (try simp only [Exit.inBlock])
          go_wp2_with fail
          go_roundg (L.length + 1 - (i + 1).toNat)
          case measure => have := HI.out; have := HI2.out; omega
          case rel => exact ⟨i + 1, s2, (cb.put j ((bagOf m (.slice A rs.length c)).n j)), by first | rfl | (rw [e1]), ⟨by have := HI.out; have := HI2.out; omega, by have := HI.out; omega, by have := HI2.out; omega⟩, ⟨HE.out.1, by have h_ := HE.out.2; rw [HDC.out] at h_; exact h_⟩, Q3, N2⟩
        · obtain ⟨ad2, ea2, x0, x1⟩ := HAT.out w9 Q2.out.rw
          cases ea2
          dsimp only at x0 x1
          have q0 : w9.cell? ⟨gb, 24, none⟩ = some (.bool (bagOf m (.slice A rs.length c)).flag) := (blk_cell Q2.out.bg 24).trans rfl
          have z0 := blk_frozen Q2.out.cg 24
          have q2 := (blk_cell Q2.out.cg 24).trans rfl
          have Q3 := Aside0.mk (Q2.out.setc (c2 := { cb with flag := (bagOf m (.slice A rs.length c)).flag }) (Nat.le_of_lt (Nat.lt_trans HGB.out HGC.out)) (Nat.ne_of_lt HGC.out) 24 (.bool (bagOf m (.slice A rs.length c)).flag) rfl)
          have HDC := Aside0.mk (show dC (bagOf m (.slice A rs.length c)) ⟨3, 7⟩ cb = { cb with flag := (bagOf m (.slice A rs.length c)).flag } from by simp [dC])
          go_wp2_with fail
          go_roundg (L.length + 1 - (i + 1).toNat)
          case measure => have := HI.out; have := HI2.out; omega
          case rel => exact ⟨i + 1, s2, { cb with flag := (bagOf m (.slice A rs.length c)).flag }, by first | rfl | (rw [e1]), ⟨by have := HI.out; have := HI2.out; omega, by have := HI.out; omega, by have := HI2.out; omega⟩, ⟨HE.out.1, by have h_ := HE.out.2; rw [HDC.out] at h_; exact h_⟩, Q3, N2⟩
        · obtain ⟨ad2, ea2, x0, x1⟩ := HAT.out w9 Q2.out.rw
          cases ea2
          dsimp only at x0 x1
          have q0 : w9.cell? ⟨gb, 25, none⟩ = some (.slice A rs.length c) := (blk_cell Q2.out.bg 25).trans rfl
          have z0 := blk_frozen Q2.out.cg 25
          have q2 := (blk_cell Q2.out.cg 25).trans rfl
          have Q3 := Aside0.mk (Q2.out.setc (c2 := { cb with recs := (bagOf m (.slice A rs.length c)).recs }) (Nat.le_of_lt (Nat.lt_trans HGB.out HGC.out)) (Nat.ne_of_lt HGC.out) 25 (.slice A rs.length c) rfl)
          have HDC := Aside0.mk (show dC (bagOf m (.slice A rs.length c)) ⟨4, 11⟩ cb = { cb with recs := (bagOf m (.slice A rs.length c)).recs } from by simp [dC])
          go_wp2_with fail
          go_roundg (L.length + 1 - (i + 1).toNat)
          case measure => have := HI.out; have := HI2.out; omega
          case rel => exact ⟨i + 1, s2, { cb with recs := (bagOf m (.slice A rs.length c)).recs }, by first | rfl | (rw [e1]), ⟨by have := HI.out; have := HI2.out; omega, by have := HI.out; omega, by have := HI2.out; omega⟩, ⟨HE.out.1, by have h_ := HE.out.2; rw [HDC.out] at h_; exact h_⟩, Q3, N2⟩
      case neg =>
        have d1 : decide (i < (L.length : Int)) = false := decide_eq_false hi
        have hs := HA.out
        rw [List.drop_eq_nil_of_le (by have := HI.out; omega)] at hs
        change s = S_ ∧ cb = C_ at hs
        obtain ⟨rfl, rfl⟩ := hs
        clear hi HA HLn
        have HS2 := Aside0.mk (show dSame k cb rs' m rs = some sm from by rw [HSC.out.2]; exact HS.out)
        have HCR := Aside0.mk (show cb.recs = .slice A' rs'.length c' from by rw [HSC.out.2]; exact HRS'.out)
        have HP := Aside0.mk HSC.out.1
        clear HSC HS HRS'
        go_upto_region 20 with (fail)
        rename_i K_ hK_
        (try simp only [Act.put, List.setIfInBounds_toArray, List.set_cons_zero, List.set_cons_succ])
        obtain ⟨sb, bd⟩ := s
        cases bd with
        | true =>
          refine start_ (n := 11) (S := fun w' => DqSt w w' w.heap.size gb gc g m A rs c (bagOf m (.slice A rs.length c)) cb (sb, true) (.slice Av L.length cv) L) (ds := []) #[false, false, false, false, false, false, false, false, false, false, false] (by kernel_rfl) rfl rfl (HQ.out.under (pw_below_drewN (Below.refl _ _) 1)) (fun hHeld => ?_)
          refine pure_ (i := 0) (N := (some 110)) (v := ?_) (a' := ?_) #[true, false, false, false, false, false, false, false, false, false, false] rfl rfl (by kernel_rfl) (fun _ _ _ h => h) (Or.inl ⟨by rfl, ?_⟩) ?_ ?_
          rotate_left
          · intro w'
            go_simp
            with_reducible rfl
          rotate_left
          · simp only [Act.put, List.setIfInBounds_toArray, List.set_cons_zero, List.set_cons_succ, i64_w, i32_w]
            rfl
          refine pure_ (i := 1) (N := (some 111)) (v := ?_) (a' := ?_) #[true, true, false, false, false, false, false, false, false, false, false] rfl rfl (by kernel_rfl) (fun _ _ _ h => h) (Or.inl ⟨by rfl, ?_⟩) ?_ ?_
          rotate_left
          · intro w'
            go_simp
            with_reducible rfl
          rotate_left
          · simp only [Act.put, List.setIfInBounds_toArray, List.set_cons_zero, List.set_cons_succ, i64_w, i32_w]
            rfl
          refine pure_ (i := 2) (N := (some 112)) (v := ?_) (a' := ?_) #[true, true, true, false, false, false, false, false, false, false, false] rfl rfl (by kernel_rfl) (fun _ _ _ h => h) (Or.inl ⟨by rfl, ?_⟩) ?_ ?_
          rotate_left
          · intro w'
            go_simp
            with_reducible rfl
          rotate_left
          · simp only [Act.put, List.setIfInBounds_toArray, List.set_cons_zero, List.set_cons_succ, i64_w, i32_w]
            rfl
          refine take_ (i := 3) (N := (some 113)) (v := ?_) (a' := ?_) #[true, true, true, true, false, false, false, false, false, false, false] rfl rfl (by kernel_rfl) (fun _ _ _ h => h) (Or.inl ⟨by rfl, ?_⟩) hHeld ?_ ?_
          rotate_left
          · rintro w' s_
            obtain ⟨A1, c1, hp1, _⟩ := s_.pn
            have q0 : w'.cell? ⟨g, 1, none⟩ = some (.bool true) := (blk_cell hp1 1).trans rfl
            go_simp
            with_reducible rfl
          rotate_left
          · simp only [Act.put, List.setIfInBounds_toArray, List.set_cons_zero, List.set_cons_succ, i64_w, i32_w]
            rfl
          refine pure_ (i := 4) (N := (some 114)) (v := ?_) (a' := ?_) #[true, true, true, true, true, false, false, false, false, false, false] rfl rfl (by kernel_rfl) (fun _ _ _ h => h) (Or.inl ⟨by rfl, ?_⟩) ?_ ?_
          rotate_left
          · intro w'
            go_simp
            with_reducible rfl
          rotate_left
          · simp only [Act.put, List.setIfInBounds_toArray, List.set_cons_zero, List.set_cons_succ, i64_w, i32_w]
            rfl
          refine pure_ (i := 5) (N := (some 115)) (v := undef) (a' := ?_) #[true, true, true, true, true, true, false, false, false, false, false] rfl rfl (by kernel_rfl) (fun _ _ _ h => h) (Or.inr ⟨by rfl, rfl⟩) ?_ ?_
          rotate_left
          · simp only [Act.put, List.setIfInBounds_toArray, List.set_cons_zero, List.set_cons_succ, i64_w, i32_w]
            rfl
          refine pure_ (i := 6) (N := (some 116)) (v := undef) (a' := ?_) #[true, true, true, true, true, true, true, false, false, false, false] rfl rfl (by kernel_rfl) (fun _ _ _ h => h) (Or.inr ⟨by rfl, rfl⟩) ?_ ?_
          rotate_left
          · simp only [Act.put, List.setIfInBounds_toArray, List.set_cons_zero, List.set_cons_succ, i64_w, i32_w]
            rfl
          refine pure_ (i := 7) (N := (some 117)) (v := undef) (a' := ?_) #[true, true, true, true, true, true, true, true, false, false, false] rfl rfl (by kernel_rfl) (fun _ _ _ h => h) (Or.inr ⟨by rfl, rfl⟩) ?_ ?_
          rotate_left
          · simp only [Act.put, List.setIfInBounds_toArray, List.set_cons_zero, List.set_cons_succ, i64_w, i32_w]
            rfl
          refine pure_ (i := 8) (N := (some 118)) (v := undef) (a' := ?_) #[true, true, true, true, true, true, true, true, true, false, false] rfl rfl (by kernel_rfl) (fun _ _ _ h => h) (Or.inr ⟨by rfl, rfl⟩) ?_ ?_
          rotate_left
          · simp only [Act.put, List.setIfInBounds_toArray, List.set_cons_zero, List.set_cons_succ, i64_w, i32_w]
            rfl
          refine pure_ (i := 9) (N := (some 119)) (v := undef) (a' := ?_) #[true, true, true, true, true, true, true, true, true, true, false] rfl rfl (by kernel_rfl) (fun _ _ _ h => h) (Or.inr ⟨by rfl, rfl⟩) ?_ ?_
          rotate_left
          · simp only [Act.put, List.setIfInBounds_toArray, List.set_cons_zero, List.set_cons_succ, i64_w, i32_w]
            rfl
          refine pure_ (i := 10) (N := (some 120)) (v := ?_) (a' := ?_) #[true, true, true, true, true, true, true, true, true, true, true] rfl rfl (by kernel_rfl) (fun _ _ _ h => h) (Or.inl ⟨by rfl, ?_⟩) ?_ ?_
          rotate_left
          · intro w'
            go_simp
            with_reducible rfl
          rotate_left
          · simp only [Act.put, List.setIfInBounds_toArray, List.set_cons_zero, List.set_cons_succ, i64_w, i32_w]
            rfl
          have QE := Aside0.mk hHeld
          refine done_ (by kernel_rfl) ?_
          clear hHeld
          show K_ _ _
          refine hK_ _ _ ?_
          go_wp2_with fail
          refine bodyPost_ret (v := .tuple #[.slice none 0 0, .int .i64 1]) (by simp [results, Try.results14, go_sem]) rfl ?_
          exact ⟨⟨_, [], 1, rfl, Kd.R_nil _ _ _ _ _, by unfold DqOut; rw [← HP.out, if_pos (by simp)]; exact ⟨rfl, rfl⟩⟩, QE.out.below⟩
        | false =>
          refine start_ (n := 11) (S := fun w' => DqSt w w' w.heap.size gb gc g m A rs c (bagOf m (.slice A rs.length c)) cb (sb, false) (.slice Av L.length cv) L) (ds := []) #[false, false, false, false, false, false, false, false, false, false, false] (by kernel_rfl) rfl rfl (HQ.out.under (pw_below_drewN (Below.refl _ _) 1)) (fun hHeld => ?_)
          refine pure_ (i := 0) (N := (some 110)) (v := ?_) (a' := ?_) #[true, false, false, false, false, false, false, false, false, false, false] rfl rfl (by kernel_rfl) (fun _ _ _ h => h) (Or.inl ⟨by rfl, ?_⟩) ?_ ?_
          rotate_left
          · intro w'
            go_simp
            with_reducible rfl
          rotate_left
          · simp only [Act.put, List.setIfInBounds_toArray, List.set_cons_zero, List.set_cons_succ, i64_w, i32_w]
            rfl
          refine pure_ (i := 1) (N := (some 111)) (v := ?_) (a' := ?_) #[true, true, false, false, false, false, false, false, false, false, false] rfl rfl (by kernel_rfl) (fun _ _ _ h => h) (Or.inl ⟨by rfl, ?_⟩) ?_ ?_
          rotate_left
          · intro w'
            go_simp
            with_reducible rfl
          rotate_left
          · simp only [Act.put, List.setIfInBounds_toArray, List.set_cons_zero, List.set_cons_succ, i64_w, i32_w]
            rfl
          refine pure_ (i := 2) (N := (some 112)) (v := ?_) (a' := ?_) #[true, true, true, false, false, false, false, false, false, false, false] rfl rfl (by kernel_rfl) (fun _ _ _ h => h) (Or.inl ⟨by rfl, ?_⟩) ?_ ?_
          rotate_left
          · intro w'
            go_simp
            with_reducible rfl
          rotate_left
          · simp only [Act.put, List.setIfInBounds_toArray, List.set_cons_zero, List.set_cons_succ, i64_w, i32_w]
            rfl
          refine take_ (i := 3) (N := (some 113)) (v := ?_) (a' := ?_) #[true, true, true, true, false, false, false, false, false, false, false] rfl rfl (by kernel_rfl) (fun _ _ _ h => h) (Or.inl ⟨by rfl, ?_⟩) hHeld ?_ ?_
          rotate_left
          · rintro w' s_
            obtain ⟨A1, c1, hp1, _⟩ := s_.pn
            have q0 : w'.cell? ⟨g, 1, none⟩ = some (.bool false) := (blk_cell hp1 1).trans rfl
            go_simp
            with_reducible rfl
          rotate_left
          · simp only [Act.put, List.setIfInBounds_toArray, List.set_cons_zero, List.set_cons_succ, i64_w, i32_w]
            rfl
          refine pure_ (i := 4) (N := (some 114)) (v := ?_) (a' := ?_) #[true, true, true, true, true, false, false, false, false, false, false] rfl rfl (by kernel_rfl) (fun _ _ _ h => h) (Or.inl ⟨by rfl, ?_⟩) ?_ ?_
          rotate_left
          · intro w'
            go_simp
            with_reducible rfl
          rotate_left
          · simp only [Act.put, List.setIfInBounds_toArray, List.set_cons_zero, List.set_cons_succ, i64_w, i32_w]
            rfl
          refine take_ (i := 5) (N := (some 115)) (v := ?_) (a' := ?_) #[true, true, true, true, true, true, false, false, false, false, false] rfl rfl (by kernel_rfl) (fun _ _ _ h => h) (Or.inl ⟨by rfl, ?_⟩) hHeld ?_ ?_
          rotate_left
          · rintro w' s_
            refine load_eq 74 (.tmp 5) _ ?_ ?_ s_.cg Try.underlying74 rfl info29
            · rfl
            · rfl
          rotate_left
          · simp only [Act.put, List.setIfInBounds_toArray, List.set_cons_zero, List.set_cons_succ, i64_w, i32_w]
            rfl
          refine take_ (i := 7) (N := (some 117)) (v := ?_) (a' := ?_) #[true, true, true, true, true, true, false, true, false, false, false] rfl rfl (by kernel_rfl) (fun _ _ _ h => h) (Or.inl ⟨by rfl, ?_⟩) hHeld ?_ ?_
          rotate_left
          · rintro w' s_
            refine load_eq 26 (.tmp 1) _ ?_ ?_ s_.rq Try.underlying26 rfl info17
            · rfl
            · rfl
          rotate_left
          · simp only [Act.put, List.setIfInBounds_toArray, List.set_cons_zero, List.set_cons_succ, i64_w, i32_w]
            rfl
          refine one_ (i := 6) (N := (some 116)) #[true, true, true, true, true, true, true, true, false, false, false] rfl rfl (by kernel_rfl) (by decide) (fun K hK => ?_)
          refine goes_ Try.func35 (by kernel_rfl) rfl #[.agg cb.cells] (by rfl) rfl rfl (by (try simp only [List.map_toArray, List.map_cons, List.map_nil]); first | done | rfl) ?_
          refine (bref_unbag.calls cb A' rs'.length c' HCR.out _).mono ?_
          rintro e w8 ⟨rfl, hb⟩
          refine ⟨_, rfl, ?_⟩
          refine hK.out _ _ (hHeld.under hb) (fun hHeld => ?_)
          clear hK K
          refine norm_ (a' := ?_) ?_ ?_
          rotate_left
          · show Act.put _ (some 116) _ = _
            simp only [Act.put, List.setIfInBounds_toArray, List.set_cons_zero, List.set_cons_succ, i64_w, i32_w]
            rfl
          refine one_ (i := 8) (N := (some 118)) #[true, true, true, true, true, true, true, true, true, false, false] rfl rfl (by kernel_rfl) (by decide) (fun K hK => ?_)
          refine goes_ Try.func21 (by kernel_rfl) rfl #[.agg #[.int .i64 cb.kind, .int .i64 cb.id, .string cb.t0, .int .i64 (cb.n 2), .int .i64 (cb.n 3), .int .i64 (cb.n 4), .int .i64 (cb.n 5), .int .i64 (cb.n 6), .bool cb.flag, .int .i64 (cb.n 8), .int .i64 (cb.n 9), .int .i64 (cb.n 10), .slice A' rs'.length c', .int .i64 (cb.n 12), .int .i64 (cb.n 13), .int .i64 (cb.n 14), .string cb.t1], .agg #[.int .i64 m.kind, .int .i64 m.id, .string m.topic, .int .i64 m.part, .int .i64 m.parts, .int .i64 m.seg, .int .i64 m.byt, .int .i64 m.age, .bool m.comp, .int .i64 m.delay, .int .i64 m.prod, .int .i64 m.seq, .slice A rs.length c, .int .i64 m.off, .int .i64 m.max, .int .i64 m.time, .string m.group]] (by rfl) rfl rfl (by (try simp only [List.map_toArray, List.map_cons, List.map_nil]); first | done | rfl) ?_
          refine (bollardref20_SameRequest.calls k _ _ _ _ _ _ _ _ _ _ _ _ A' c' rs' _ _ _ _ _ _ _ _ _ _ _ _ _ _ _ _ A c rs _ _ _ _ sm _ (Kd.C_below HR'.out hHeld.below) HC'.out (Kd.C_below HR.out hHeld.below) HC.out HS2.out).mono ?_
          rintro e w7 ⟨rfl, hb⟩
          refine ⟨_, rfl, ?_⟩
          refine hK.out _ _ (hHeld.under hb) (fun hHeld => ?_)
          clear hK K
          refine norm_ (a' := ?_) ?_ ?_
          rotate_left
          · show Act.put _ (some 118) _ = _
            simp only [Act.put, List.setIfInBounds_toArray, List.set_cons_zero, List.set_cons_succ, i64_w, i32_w]
            rfl
          refine pure_ (i := 9) (N := (some 119)) (v := ?_) (a' := ?_) #[true, true, true, true, true, true, true, true, true, true, false] rfl rfl (by kernel_rfl) (fun _ _ _ h => h) (Or.inl ⟨by rfl, ?_⟩) ?_ ?_
          rotate_left
          · intro w'
            go_simp
            with_reducible rfl
          rotate_left
          · simp only [Act.put, List.setIfInBounds_toArray, List.set_cons_zero, List.set_cons_succ, i64_w, i32_w]
            rfl
          refine pure_ (i := 10) (N := (some 120)) (v := ?_) (a' := ?_) #[true, true, true, true, true, true, true, true, true, true, true] rfl rfl (by kernel_rfl) (fun _ _ _ h => h) (Or.inl ⟨by rfl, ?_⟩) ?_ ?_
          rotate_left
          · intro w'
            go_simp
            with_reducible rfl
          rotate_left
          · simp only [Act.put, List.setIfInBounds_toArray, List.set_cons_zero, List.set_cons_succ, i64_w, i32_w]
            rfl
          have QE := Aside0.mk hHeld
          refine done_ (by kernel_rfl) ?_
          clear hHeld
          show K_ _ _
          refine hK_ _ _ ?_
          clear hK_ HQ
          cases sm with
          | false =>
            go_wp2_with fail
            refine bodyPost_ret (v := .tuple #[.slice none 0 0, .int .i64 1]) (by simp [results, Try.results14, go_sem]) rfl ?_
            exact ⟨⟨_, [], 1, rfl, Kd.R_nil _ _ _ _ _, by unfold DqOut; rw [← HP.out, ← HSM.out, if_pos (by simp)]; exact ⟨rfl, rfl⟩⟩, QE.out.below⟩
          | true =>
            obtain ⟨Aw, cw, hpw, hRw⟩ := QE.out.pn
            have q0 : w7.cell? ⟨g, 0, none⟩ = some (.slice Aw sb.length cw) := (blk_cell hpw 0).trans rfl
            have HRw := Aside0.mk hRw
            clear hpw hRw
            go_wp2_with fail
            refine bodyPost_ret (v := .tuple #[.slice Aw sb.length cw, .int .i64 0]) (by simp [results, Try.results14, go_sem]) rfl ?_
            exact ⟨⟨_, sb, 0, rfl, HRw.out, by unfold DqOut; rw [← HP.out, ← HSM.out, ← HEB.out, if_neg (by simp)]; exact ⟨rfl, rfl⟩⟩, QE.out.below⟩

end Go.Proofs.Ytncfofnikmfjbaa.PCi
