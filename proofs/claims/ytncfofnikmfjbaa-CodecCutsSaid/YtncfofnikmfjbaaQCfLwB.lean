import Derived.Test.YtncfofnikmfjbaaQCf6
import Derived.Outline
import Derived.StillTailTactics
import Derived.RegionTactic
import Derived.BigRegion
import Derived.Lib.BufferWrite
import Derived.Test.YtncfofnikmfjbaaQCfV2
import Derived.Test.YtncfofnikmfjbaaQCf7
import Derived.Test.YtncfofnikmfjbaaQPCix4
import Derived.Test.YtncfofnikmfjbaaQPCix2
namespace Go.Proofs.Ytncfofnikmfjbaa.PCi
open Go.RowKit Go.Proofs.YtncfofnikmfjbaaW.PrintWords Go.Proofs.YtncfofnikmfjbaaW.PrintLast Go.Proofs.YtncfofnikmfjbaaW.PrintMore
attribute [local go_sem] max2_int min2_int max_two min_two max_three min_three max_four min_four
set_option linter.unusedVariables false
set_option linter.unusedSimpArgs false

set_option maxHeartbeats 4000000 in
set_option maxRecDepth 100000 in
theorem same_v5 (k : Nat) (m n : Msg) (hms : m.Sl) (hns : n.Sl) (ARm : Option Addr) (cRm : Nat) (lRm : List S98) (ARn : Option Addr) (cRn : Nat) (lRn : List S98) (ATm : Option Addr) (cTm : Nat) (lTm : List ByteArray) (ATn : Option Addr) (cTn : Nat) (lTn : List ByteArray) (AIm : Option Addr) (cIm : Nat) (lIm : List Int) (AIn : Option Addr) (cIn : Nat) (lIn : List Int) (w : World) (hmuR : m.u1 = .slice ARm lRm.length cRm) (hRm : Kd.C k98 w ARm lRm.length lRm) (kRm : lRm.length ≤ cRm) (hnuR : n.u1 = .slice ARn lRn.length cRn) (hRn : Kd.C k98 w ARn lRn.length lRn) (kRn : lRn.length ≤ cRn) (hmuT : m.u2 = .slice ATm lTm.length cTm) (hTm : Kd.C Kd.string w ATm lTm.length lTm) (kTm : lTm.length ≤ cTm) (hnuT : n.u2 = .slice ATn lTn.length cTn) (hTn : Kd.C Kd.string w ATn lTn.length lTn) (kTn : lTn.length ≤ cTn) (hmuI : m.u3 = .slice AIm lIm.length cIm) (hIm : Kd.C (Kd.int .i64) w AIm lIm.length lIm) (kIm : lIm.length ≤ cIm) (hnuI : n.u3 = .slice AIn lIn.length cIn) (hIn : Kd.C (Kd.int .i64) w AIn lIn.length lIn) (kIn : lIn.length ≤ cIn) (ABm ABn : Option Addr) (nBm cBm nBn cBn : Nat) (hmuB : m.u4 = .slice ABm nBm cBm) (hnuB : n.u4 = .slice ABn nBn cBn) (hc : (m.acode == n.acode) = true) (eR : api_Record_55.f k lRm lRn = some true) (eT : slices_Equal_string_string.f k lTm lTn = some true) (eI : slices_Equal_int_int.f k lIm lIn = some true) (hfl : ∀ w : World, (Op.equal 122 (.agg m.flat) (.agg n.flat)).run Try.prog w = .ok true w) :
    Calls Try.prog 30 #[.agg #[.int .i64 m.kind, .int .i64 m.id, .string m.topic, .int .i64 m.part, .int .i64 m.parts, .int .i64 m.seg, .int .i64 m.byt, .int .i64 m.age, .bool m.comp, .int .i64 m.delay, .int .i64 m.prod, .int .i64 m.seq, m.u1, .int .i64 m.off, .int .i64 m.max, .int .i64 m.time, .string m.group, .int .i64 m.akind, .int .i64 m.aid, .int .i64 m.acode, .int .i64 m.aoff, .int .i64 m.astart, .int .i64 m.anext, m.u2, m.u3, m.u4], .agg #[.int .i64 n.kind, .int .i64 n.id, .string n.topic, .int .i64 n.part, .int .i64 n.parts, .int .i64 n.seg, .int .i64 n.byt, .int .i64 n.age, .bool n.comp, .int .i64 n.delay, .int .i64 n.prod, .int .i64 n.seq, n.u1, .int .i64 n.off, .int .i64 n.max, .int .i64 n.time, .string n.group, .int .i64 n.akind, .int .i64 n.aid, .int .i64 n.acode, .int .i64 n.aoff, .int .i64 n.astart, .int .i64 n.anext, n.u2, n.u3, n.u4]] w fun e w' => e = .returned (.bool ((nBm : Int) == (nBn : Int))) ∧ Below w.heap.size w w' := by
  have HmS := Aside0.mk hms
  have HnS := Aside0.mk hns
  have HFL := Aside0.mk hfl
  have HmUB := Aside0.mk hmuB
  have HnUB := Aside0.mk hnuB
  have HmUR := Aside0.mk hmuR
  have HnUR := Aside0.mk hnuR
  have HmUT := Aside0.mk hmuT
  have HnUT := Aside0.mk hnuT
  have HmUI := Aside0.mk hmuI
  have HnUI := Aside0.mk hnuI
  have HRm := Aside0.mk hRm
  have HRn := Aside0.mk hRn
  have HTm := Aside0.mk hTm
  have HTn := Aside0.mk hTn
  have HIm := Aside0.mk hIm
  have HIn := Aside0.mk hIn
  have KRm := Aside0.mk kRm
  have KRn := Aside0.mk kRn
  have KTm := Aside0.mk kTm
  have KTn := Aside0.mk kTn
  have KIm := Aside0.mk kIm
  have KIn := Aside0.mk kIn
  have ER := Aside0.mk eR
  have ET := Aside0.mk eT
  have EI := Aside0.mk eI
  clear hms hns hfl hmuB hnuB hmuR hRm kRm hnuR hRn kRn hmuT hTm kTm hnuT hTn kTn hmuI hIm kIm hnuI hIn kIn eR eT eI
  go_enter Try.func30, Try.ntmps30
  go_upto_region 1 with (fail)
  (try simp only [Act.put, List.setIfInBounds_toArray, List.set_cons_zero, List.set_cons_succ])
  rename_i K_ hK_
  have S0 := Aside0.mk (same_new w m n)
  generalize (w.alloc (.cells #[.int .i64 m.kind, .int .i64 m.id, .string m.topic, .int .i64 m.part, .int .i64 m.parts, .int .i64 m.seg, .int .i64 m.byt, .int .i64 m.age, .bool m.comp, .int .i64 m.delay, .int .i64 m.prod, .int .i64 m.seq, m.u1, .int .i64 m.off, .int .i64 m.max, .int .i64 m.time, .string m.group, .int .i64 m.akind, .int .i64 m.aid, .int .i64 m.acode, .int .i64 m.aoff, .int .i64 m.astart, .int .i64 m.anext, m.u2, m.u3, m.u4] 67)).alloc (.cells #[.int .i64 n.kind, .int .i64 n.id, .string n.topic, .int .i64 n.part, .int .i64 n.parts, .int .i64 n.seg, .int .i64 n.byt, .int .i64 n.age, .bool n.comp, .int .i64 n.delay, .int .i64 n.prod, .int .i64 n.seq, n.u1, .int .i64 n.off, .int .i64 n.max, .int .i64 n.time, .string n.group, .int .i64 n.akind, .int .i64 n.aid, .int .i64 n.acode, .int .i64 n.aoff, .int .i64 n.astart, .int .i64 n.anext, n.u2, n.u3, n.u4] 67) = y0 at S0 ⊢
  refine start_ (n := 53) (S := fun w' => MsAt w' w.heap.size m ∧ MsAt w' (w.heap.size + 1) n ∧ Below w.heap.size w w') (ds := []) #[false, false, false, false, false, false, false, false, false, false, false, false, false, false, false, false, false, false, false, false, false, false, false, false, false, false, false, false, false, false, false, false, false, false, false, false, false, false, false, false, false, false, false, false, false, false, false, false, false, false, false, false, false] (by kernel_rfl) rfl rfl (And.intro S0.out.1 (And.intro S0.out.2.1 (pw_below_drewN S0.out.2.2 1))) (fun hHeld => ?_)
  refine take_ (i := 0) (N := (some 5)) (v := ?_) (a' := ?_) #[true, false, false, false, false, false, false, false, false, false, false, false, false, false, false, false, false, false, false, false, false, false, false, false, false, false, false, false, false, false, false, false, false, false, false, false, false, false, false, false, false, false, false, false, false, false, false, false, false, false, false, false, false] rfl rfl (by kernel_rfl) (fun _ _ _ h => h) (Or.inl ⟨by rfl, ?_⟩) hHeld ?_ ?_
  rotate_left
  · rintro w' s
    refine load_eq 67 (.tmp 2) _ ?_ ?_ s.1 Try.underlying67 rfl info26
    · rfl
    · rfl
  rotate_left
  · simp only [Act.put, List.setIfInBounds_toArray, List.set_cons_zero, List.set_cons_succ, i64_w, i32_w]
    rfl
  refine take_ (i := 2) (N := (some 7)) (v := ?_) (a' := ?_) #[true, false, true, false, false, false, false, false, false, false, false, false, false, false, false, false, false, false, false, false, false, false, false, false, false, false, false, false, false, false, false, false, false, false, false, false, false, false, false, false, false, false, false, false, false, false, false, false, false, false, false, false, false] rfl rfl (by kernel_rfl) (fun _ _ _ h => h) (Or.inl ⟨by rfl, ?_⟩) hHeld ?_ ?_
  rotate_left
  · rintro w' s
    refine load_eq 67 (.tmp 3) _ ?_ ?_ s.2.1 Try.underlying67 rfl info26
    · rfl
    · rfl
  rotate_left
  · simp only [Act.put, List.setIfInBounds_toArray, List.set_cons_zero, List.set_cons_succ, i64_w, i32_w]
    rfl
  refine one_ (i := 1) (N := (some 6)) #[true, true, true, false, false, false, false, false, false, false, false, false, false, false, false, false, false, false, false, false, false, false, false, false, false, false, false, false, false, false, false, false, false, false, false, false, false, false, false, false, false, false, false, false, false, false, false, false, false, false, false, false, false] rfl rfl (by kernel_rfl) (by decide) (fun K hK => ?_)
  refine goes_ Try.func54 (by kernel_rfl) rfl #[.agg #[.int .i64 m.kind, .int .i64 m.id, .string m.topic, .int .i64 m.part, .int .i64 m.parts, .int .i64 m.seg, .int .i64 m.byt, .int .i64 m.age, .bool m.comp, .int .i64 m.delay, .int .i64 m.prod, .int .i64 m.seq, m.u1, .int .i64 m.off, .int .i64 m.max, .int .i64 m.time, .string m.group, .int .i64 m.akind, .int .i64 m.aid, .int .i64 m.acode, .int .i64 m.aoff, .int .i64 m.astart, .int .i64 m.anext, m.u2, m.u3, m.u4]] (by rfl) rfl rfl (by (try simp only [List.map_toArray, List.map_cons, List.map_nil]); first | done | rfl) ?_
  refine (codec_flatten.calls m HmS.out _).mono ?_
  rintro e y1 ⟨rfl, hb⟩
  refine ⟨_, rfl, ?_⟩
  refine hK.out _ _ ⟨blk_below hHeld.1 hb, blk_below hHeld.2.1 hb, below_step hHeld.2.2 hb⟩ (fun hHeld => ?_)
  clear hK K
  refine norm_ (a' := ?_) ?_ ?_
  rotate_left
  · show Act.put _ (some 6) _ = _
    simp only [Act.put, List.setIfInBounds_toArray, List.set_cons_zero, List.set_cons_succ, i64_w, i32_w]
    rfl
  refine one_ (i := 3) (N := (some 8)) #[true, true, true, true, false, false, false, false, false, false, false, false, false, false, false, false, false, false, false, false, false, false, false, false, false, false, false, false, false, false, false, false, false, false, false, false, false, false, false, false, false, false, false, false, false, false, false, false, false, false, false, false, false] rfl rfl (by kernel_rfl) (by decide) (fun K hK => ?_)
  refine goes_ Try.func54 (by kernel_rfl) rfl #[.agg #[.int .i64 n.kind, .int .i64 n.id, .string n.topic, .int .i64 n.part, .int .i64 n.parts, .int .i64 n.seg, .int .i64 n.byt, .int .i64 n.age, .bool n.comp, .int .i64 n.delay, .int .i64 n.prod, .int .i64 n.seq, n.u1, .int .i64 n.off, .int .i64 n.max, .int .i64 n.time, .string n.group, .int .i64 n.akind, .int .i64 n.aid, .int .i64 n.acode, .int .i64 n.aoff, .int .i64 n.astart, .int .i64 n.anext, n.u2, n.u3, n.u4]] (by rfl) rfl rfl (by (try simp only [List.map_toArray, List.map_cons, List.map_nil]); first | done | rfl) ?_
  refine (codec_flatten.calls n HnS.out _).mono ?_
  rintro e y3 ⟨rfl, hb⟩
  refine ⟨_, rfl, ?_⟩
  refine hK.out _ _ ⟨blk_below hHeld.1 hb, blk_below hHeld.2.1 hb, below_step hHeld.2.2 hb⟩ (fun hHeld => ?_)
  clear hK K
  refine norm_ (a' := ?_) ?_ ?_
  rotate_left
  · show Act.put _ (some 8) _ = _
    simp only [Act.put, List.setIfInBounds_toArray, List.set_cons_zero, List.set_cons_succ, i64_w, i32_w]
    rfl
  refine pure_ (i := 4) (N := (some 9)) (v := ?_) (a' := ?_) #[true, true, true, true, true, false, false, false, false, false, false, false, false, false, false, false, false, false, false, false, false, false, false, false, false, false, false, false, false, false, false, false, false, false, false, false, false, false, false, false, false, false, false, false, false, false, false, false, false, false, false, false, false] rfl rfl (by kernel_rfl) (fun _ _ _ h => h) (Or.inl ⟨by rfl, ?_⟩) ?_ ?_
  rotate_left
  · intro w'
    refine bin_eq 122 122 (.tmp 6) (.tmp 8) (xs := m.flat) (ys := n.flat) ?_ ?_ ?_ (by kernel_rfl) (HFL.out w')
    · rfl
    · rfl
    · rfl
  rotate_left
  · simp only [Act.put, List.setIfInBounds_toArray, List.set_cons_zero, List.set_cons_succ, i64_w, i32_w]
    rfl
  refine pure_ (i := 5) (N := (some 10)) (v := ?_) (a' := ?_) #[true, true, true, true, true, true, false, false, false, false, false, false, false, false, false, false, false, false, false, false, false, false, false, false, false, false, false, false, false, false, false, false, false, false, false, false, false, false, false, false, false, false, false, false, false, false, false, false, false, false, false, false, false] rfl rfl (by kernel_rfl) (fun _ _ _ h => h) (Or.inl ⟨by rfl, ?_⟩) ?_ ?_
  rotate_left
  · intro w'
    go_simp
    with_reducible rfl
  rotate_left
  · simp only [Act.put, List.setIfInBounds_toArray, List.set_cons_zero, List.set_cons_succ, i64_w, i32_w]
    rfl
  refine pure_ (i := 6) (N := (some 11)) (v := ?_) (a' := ?_) #[true, true, true, true, true, true, true, false, false, false, false, false, false, false, false, false, false, false, false, false, false, false, false, false, false, false, false, false, false, false, false, false, false, false, false, false, false, false, false, false, false, false, false, false, false, false, false, false, false, false, false, false, false] rfl rfl (by kernel_rfl) (fun _ _ _ h => h) (Or.inl ⟨by rfl, ?_⟩) ?_ ?_
  rotate_left
  · intro w'
    go_simp
    with_reducible rfl
  rotate_left
  · simp only [Act.put, List.setIfInBounds_toArray, List.set_cons_zero, List.set_cons_succ, i64_w, i32_w]
    rfl
  refine pure_ (i := 7) (N := (some 12)) (v := ?_) (a' := ?_) #[true, true, true, true, true, true, true, true, false, false, false, false, false, false, false, false, false, false, false, false, false, false, false, false, false, false, false, false, false, false, false, false, false, false, false, false, false, false, false, false, false, false, false, false, false, false, false, false, false, false, false, false, false] rfl rfl (by kernel_rfl) (fun _ _ _ h => h) (Or.inl ⟨by rfl, ?_⟩) ?_ ?_
  rotate_left
  · intro w'
    go_simp
    with_reducible rfl
  rotate_left
  · simp only [Act.put, List.setIfInBounds_toArray, List.set_cons_zero, List.set_cons_succ, i64_w, i32_w]
    rfl
  refine take_ (i := 8) (N := (some 13)) (v := ?_) (a' := ?_) #[true, true, true, true, true, true, true, true, true, false, false, false, false, false, false, false, false, false, false, false, false, false, false, false, false, false, false, false, false, false, false, false, false, false, false, false, false, false, false, false, false, false, false, false, false, false, false, false, false, false, false, false, false] rfl rfl (by kernel_rfl) (fun _ _ _ h => h) (Or.inl ⟨by rfl, ?_⟩) hHeld ?_ ?_
  rotate_left
  · rintro w' s
    have y19 : w'.cell? ⟨w.heap.size, 19, none⟩ = some (.int .i64 m.acode) := (s.1.cell 19).trans rfl
    go_simp
    with_reducible rfl
  rotate_left
  · simp only [Act.put, List.setIfInBounds_toArray, List.set_cons_zero, List.set_cons_succ, i64_w, i32_w]
    rfl
  refine pure_ (i := 9) (N := (some 14)) (v := ?_) (a' := ?_) #[true, true, true, true, true, true, true, true, true, true, false, false, false, false, false, false, false, false, false, false, false, false, false, false, false, false, false, false, false, false, false, false, false, false, false, false, false, false, false, false, false, false, false, false, false, false, false, false, false, false, false, false, false] rfl rfl (by kernel_rfl) (fun _ _ _ h => h) (Or.inl ⟨by rfl, ?_⟩) ?_ ?_
  rotate_left
  · intro w'
    go_simp
    with_reducible rfl
  rotate_left
  · simp only [Act.put, List.setIfInBounds_toArray, List.set_cons_zero, List.set_cons_succ, i64_w, i32_w]
    rfl
  refine pure_ (i := 10) (N := (some 15)) (v := ?_) (a' := ?_) #[true, true, true, true, true, true, true, true, true, true, true, false, false, false, false, false, false, false, false, false, false, false, false, false, false, false, false, false, false, false, false, false, false, false, false, false, false, false, false, false, false, false, false, false, false, false, false, false, false, false, false, false, false] rfl rfl (by kernel_rfl) (fun _ _ _ h => h) (Or.inl ⟨by rfl, ?_⟩) ?_ ?_
  rotate_left
  · intro w'
    go_simp
    with_reducible rfl
  rotate_left
  · simp only [Act.put, List.setIfInBounds_toArray, List.set_cons_zero, List.set_cons_succ, i64_w, i32_w]
    rfl
  refine take_ (i := 11) (N := (some 16)) (v := ?_) (a' := ?_) #[true, true, true, true, true, true, true, true, true, true, true, true, false, false, false, false, false, false, false, false, false, false, false, false, false, false, false, false, false, false, false, false, false, false, false, false, false, false, false, false, false, false, false, false, false, false, false, false, false, false, false, false, false] rfl rfl (by kernel_rfl) (fun _ _ _ h => h) (Or.inl ⟨by rfl, ?_⟩) hHeld ?_ ?_
  rotate_left
  · rintro w' s
    have y19 : w'.cell? ⟨w.heap.size + 1, 19, none⟩ = some (.int .i64 n.acode) := (s.2.1.cell 19).trans rfl
    go_simp
    with_reducible rfl
  rotate_left
  · simp only [Act.put, List.setIfInBounds_toArray, List.set_cons_zero, List.set_cons_succ, i64_w, i32_w]
    rfl
  refine pure_ (i := 12) (N := (some 17)) (v := ?_) (a' := ?_) #[true, true, true, true, true, true, true, true, true, true, true, true, true, false, false, false, false, false, false, false, false, false, false, false, false, false, false, false, false, false, false, false, false, false, false, false, false, false, false, false, false, false, false, false, false, false, false, false, false, false, false, false, false] rfl rfl (by kernel_rfl) (fun _ _ _ h => h) (Or.inl ⟨by rfl, ?_⟩) ?_ ?_
  rotate_left
  · intro w'
    go_simp
    with_reducible rfl
  rotate_left
  · simp only [Act.put, List.setIfInBounds_toArray, List.set_cons_zero, List.set_cons_succ, i64_w, i32_w]
    rfl
  refine pure_ (i := 13) (N := (some 18)) (v := ?_) (a' := ?_) #[true, true, true, true, true, true, true, true, true, true, true, true, true, true, false, false, false, false, false, false, false, false, false, false, false, false, false, false, false, false, false, false, false, false, false, false, false, false, false, false, false, false, false, false, false, false, false, false, false, false, false, false, false] rfl rfl (by kernel_rfl) (fun _ _ _ h => h) (Or.inl ⟨by rfl, ?_⟩) ?_ ?_
  rotate_left
  · intro w'
    go_simp
    with_reducible rfl
  rotate_left
  · simp only [Act.put, List.setIfInBounds_toArray, List.set_cons_zero, List.set_cons_succ, i64_w, i32_w]
    rfl
  refine pure_ (i := 14) (N := (some 19)) (v := ?_) (a' := ?_) #[true, true, true, true, true, true, true, true, true, true, true, true, true, true, true, false, false, false, false, false, false, false, false, false, false, false, false, false, false, false, false, false, false, false, false, false, false, false, false, false, false, false, false, false, false, false, false, false, false, false, false, false, false] rfl rfl (by kernel_rfl) (fun _ _ _ h => h) (Or.inl ⟨by rfl, ?_⟩) ?_ ?_
  rotate_left
  · intro w'
    go_simp
    with_reducible rfl
  rotate_left
  · simp only [Act.put, List.setIfInBounds_toArray, List.set_cons_zero, List.set_cons_succ, i64_w, i32_w]
    rfl
  refine pure_ (i := 15) (N := (some 20)) (v := ?_) (a' := ?_) #[true, true, true, true, true, true, true, true, true, true, true, true, true, true, true, true, false, false, false, false, false, false, false, false, false, false, false, false, false, false, false, false, false, false, false, false, false, false, false, false, false, false, false, false, false, false, false, false, false, false, false, false, false] rfl rfl (by kernel_rfl) (fun _ _ _ h => h) (Or.inl ⟨by rfl, ?_⟩) ?_ ?_
  rotate_left
  · intro w'
    go_simp
    with_reducible rfl
  rotate_left
  · simp only [Act.put, List.setIfInBounds_toArray, List.set_cons_zero, List.set_cons_succ, i64_w, i32_w]
    rfl
  refine pure_ (i := 16) (N := (some 21)) (v := ?_) (a' := ?_) #[true, true, true, true, true, true, true, true, true, true, true, true, true, true, true, true, true, false, false, false, false, false, false, false, false, false, false, false, false, false, false, false, false, false, false, false, false, false, false, false, false, false, false, false, false, false, false, false, false, false, false, false, false] rfl rfl (by kernel_rfl) (fun _ _ _ h => h) (Or.inl ⟨by rfl, ?_⟩) ?_ ?_
  rotate_left
  · intro w'
    go_simp
    with_reducible rfl
  rotate_left
  · simp only [Act.put, List.setIfInBounds_toArray, List.set_cons_zero, List.set_cons_succ, i64_w, i32_w]
    rfl
  refine take_ (i := 17) (N := (some 22)) (v := ?_) (a' := ?_) #[true, true, true, true, true, true, true, true, true, true, true, true, true, true, true, true, true, true, false, false, false, false, false, false, false, false, false, false, false, false, false, false, false, false, false, false, false, false, false, false, false, false, false, false, false, false, false, false, false, false, false, false, false] rfl rfl (by kernel_rfl) (fun _ _ _ h => h) (Or.inl ⟨by rfl, ?_⟩) hHeld ?_ ?_
  rotate_left
  · rintro w' s
    have q0 : w'.cell? ⟨w.heap.size, 12, none⟩ = some (.slice ARm lRm.length cRm) := (s.1.cell 12).trans (congrArg some HmUR.out)
    go_simp
    with_reducible rfl
  rotate_left
  · simp only [Act.put, List.setIfInBounds_toArray, List.set_cons_zero, List.set_cons_succ, i64_w, i32_w]
    rfl
  refine pure_ (i := 18) (N := (some 23)) (v := ?_) (a' := ?_) #[true, true, true, true, true, true, true, true, true, true, true, true, true, true, true, true, true, true, true, false, false, false, false, false, false, false, false, false, false, false, false, false, false, false, false, false, false, false, false, false, false, false, false, false, false, false, false, false, false, false, false, false, false] rfl rfl (by kernel_rfl) (fun _ _ _ h => h) (Or.inl ⟨by rfl, ?_⟩) ?_ ?_
  rotate_left
  · intro w'
    go_simp
    with_reducible rfl
  rotate_left
  · simp only [Act.put, List.setIfInBounds_toArray, List.set_cons_zero, List.set_cons_succ, i64_w, i32_w]
    rfl
  refine pure_ (i := 19) (N := (some 24)) (v := ?_) (a' := ?_) #[true, true, true, true, true, true, true, true, true, true, true, true, true, true, true, true, true, true, true, true, false, false, false, false, false, false, false, false, false, false, false, false, false, false, false, false, false, false, false, false, false, false, false, false, false, false, false, false, false, false, false, false, false] rfl rfl (by kernel_rfl) (fun _ _ _ h => h) (Or.inl ⟨by rfl, ?_⟩) ?_ ?_
  rotate_left
  · intro w'
    go_simp
    with_reducible rfl
  rotate_left
  · simp only [Act.put, List.setIfInBounds_toArray, List.set_cons_zero, List.set_cons_succ, i64_w, i32_w]
    rfl
  refine take_ (i := 20) (N := (some 25)) (v := ?_) (a' := ?_) #[true, true, true, true, true, true, true, true, true, true, true, true, true, true, true, true, true, true, true, true, true, false, false, false, false, false, false, false, false, false, false, false, false, false, false, false, false, false, false, false, false, false, false, false, false, false, false, false, false, false, false, false, false] rfl rfl (by kernel_rfl) (fun _ _ _ h => h) (Or.inl ⟨by rfl, ?_⟩) hHeld ?_ ?_
  rotate_left
  · rintro w' s
    have q0 : w'.cell? ⟨w.heap.size + 1, 12, none⟩ = some (.slice ARn lRn.length cRn) := (s.2.1.cell 12).trans (congrArg some HnUR.out)
    go_simp
    with_reducible rfl
  rotate_left
  · simp only [Act.put, List.setIfInBounds_toArray, List.set_cons_zero, List.set_cons_succ, i64_w, i32_w]
    rfl
  refine one_ (i := 21) (N := (some 26)) #[true, true, true, true, true, true, true, true, true, true, true, true, true, true, true, true, true, true, true, true, true, true, false, false, false, false, false, false, false, false, false, false, false, false, false, false, false, false, false, false, false, false, false, false, false, false, false, false, false, false, false, false, false] rfl rfl (by kernel_rfl) (by decide) (fun K hK => ?_)
  refine goes_ Try.func55 (by kernel_rfl) rfl #[.slice ARm lRm.length cRm, .slice ARn lRn.length cRn] (by rfl) rfl rfl (by (try simp only [List.map_toArray, List.map_cons, List.map_nil]); first | done | rfl) ?_
  refine (api_Record_55.calls k ARm cRm lRm ARn cRn lRn true _ (Kd.C_below HRm.out hHeld.2.2) KRm.out (Kd.C_below HRn.out hHeld.2.2) KRn.out ER.out).mono ?_
  rintro e y11 ⟨rfl, ⟨m_, rfl⟩⟩
  refine ⟨_, rfl, ?_⟩
  refine hK.out _ _ ⟨hHeld.1, hHeld.2.1, pw_below_drewN hHeld.2.2 m_⟩ (fun hHeld => ?_)
  clear hK K
  refine norm_ (a' := ?_) ?_ ?_
  rotate_left
  · show Act.put _ (some 26) _ = _
    simp only [Act.put, List.setIfInBounds_toArray, List.set_cons_zero, List.set_cons_succ, i64_w, i32_w]
    rfl
  refine pure_ (i := 22) (N := (some 27)) (v := ?_) (a' := ?_) #[true, true, true, true, true, true, true, true, true, true, true, true, true, true, true, true, true, true, true, true, true, true, true, false, false, false, false, false, false, false, false, false, false, false, false, false, false, false, false, false, false, false, false, false, false, false, false, false, false, false, false, false, false] rfl rfl (by kernel_rfl) (fun _ _ _ h => h) (Or.inl ⟨by rfl, ?_⟩) ?_ ?_
  rotate_left
  · intro w'
    go_simp
    with_reducible rfl
  rotate_left
  · simp only [Act.put, List.setIfInBounds_toArray, List.set_cons_zero, List.set_cons_succ, i64_w, i32_w]
    rfl
  refine pure_ (i := 23) (N := (some 28)) (v := ?_) (a' := ?_) #[true, true, true, true, true, true, true, true, true, true, true, true, true, true, true, true, true, true, true, true, true, true, true, true, false, false, false, false, false, false, false, false, false, false, false, false, false, false, false, false, false, false, false, false, false, false, false, false, false, false, false, false, false] rfl rfl (by kernel_rfl) (fun _ _ _ h => h) (Or.inl ⟨by rfl, ?_⟩) ?_ ?_
  rotate_left
  · intro w'
    go_simp
    with_reducible rfl
  rotate_left
  · simp only [Act.put, List.setIfInBounds_toArray, List.set_cons_zero, List.set_cons_succ, i64_w, i32_w]
    rfl
  refine pure_ (i := 24) (N := (some 29)) (v := ?_) (a' := ?_) #[true, true, true, true, true, true, true, true, true, true, true, true, true, true, true, true, true, true, true, true, true, true, true, true, true, false, false, false, false, false, false, false, false, false, false, false, false, false, false, false, false, false, false, false, false, false, false, false, false, false, false, false, false] rfl rfl (by kernel_rfl) (fun _ _ _ h => h) (Or.inl ⟨by rfl, ?_⟩) ?_ ?_
  rotate_left
  · intro w'
    go_simp
    with_reducible rfl
  rotate_left
  · simp only [Act.put, List.setIfInBounds_toArray, List.set_cons_zero, List.set_cons_succ, i64_w, i32_w]
    rfl
  refine pure_ (i := 25) (N := (some 30)) (v := ?_) (a' := ?_) #[true, true, true, true, true, true, true, true, true, true, true, true, true, true, true, true, true, true, true, true, true, true, true, true, true, true, false, false, false, false, false, false, false, false, false, false, false, false, false, false, false, false, false, false, false, false, false, false, false, false, false, false, false] rfl rfl (by kernel_rfl) (fun _ _ _ h => h) (Or.inl ⟨by rfl, ?_⟩) ?_ ?_
  rotate_left
  · intro w'
    go_simp
    with_reducible rfl
  rotate_left
  · simp only [Act.put, List.setIfInBounds_toArray, List.set_cons_zero, List.set_cons_succ, i64_w, i32_w]
    rfl
  refine take_ (i := 26) (N := (some 31)) (v := ?_) (a' := ?_) #[true, true, true, true, true, true, true, true, true, true, true, true, true, true, true, true, true, true, true, true, true, true, true, true, true, true, true, false, false, false, false, false, false, false, false, false, false, false, false, false, false, false, false, false, false, false, false, false, false, false, false, false, false] rfl rfl (by kernel_rfl) (fun _ _ _ h => h) (Or.inl ⟨by rfl, ?_⟩) hHeld ?_ ?_
  rotate_left
  · rintro w' s
    have q0 : w'.cell? ⟨w.heap.size, 23, none⟩ = some (.slice ATm lTm.length cTm) := (s.1.cell 23).trans (congrArg some HmUT.out)
    go_simp
    with_reducible rfl
  rotate_left
  · simp only [Act.put, List.setIfInBounds_toArray, List.set_cons_zero, List.set_cons_succ, i64_w, i32_w]
    rfl
  refine pure_ (i := 27) (N := (some 32)) (v := ?_) (a' := ?_) #[true, true, true, true, true, true, true, true, true, true, true, true, true, true, true, true, true, true, true, true, true, true, true, true, true, true, true, true, false, false, false, false, false, false, false, false, false, false, false, false, false, false, false, false, false, false, false, false, false, false, false, false, false] rfl rfl (by kernel_rfl) (fun _ _ _ h => h) (Or.inl ⟨by rfl, ?_⟩) ?_ ?_
  rotate_left
  · intro w'
    go_simp
    with_reducible rfl
  rotate_left
  · simp only [Act.put, List.setIfInBounds_toArray, List.set_cons_zero, List.set_cons_succ, i64_w, i32_w]
    rfl
  refine pure_ (i := 28) (N := (some 33)) (v := ?_) (a' := ?_) #[true, true, true, true, true, true, true, true, true, true, true, true, true, true, true, true, true, true, true, true, true, true, true, true, true, true, true, true, true, false, false, false, false, false, false, false, false, false, false, false, false, false, false, false, false, false, false, false, false, false, false, false, false] rfl rfl (by kernel_rfl) (fun _ _ _ h => h) (Or.inl ⟨by rfl, ?_⟩) ?_ ?_
  rotate_left
  · intro w'
    go_simp
    with_reducible rfl
  rotate_left
  · simp only [Act.put, List.setIfInBounds_toArray, List.set_cons_zero, List.set_cons_succ, i64_w, i32_w]
    rfl
  refine take_ (i := 29) (N := (some 34)) (v := ?_) (a' := ?_) #[true, true, true, true, true, true, true, true, true, true, true, true, true, true, true, true, true, true, true, true, true, true, true, true, true, true, true, true, true, true, false, false, false, false, false, false, false, false, false, false, false, false, false, false, false, false, false, false, false, false, false, false, false] rfl rfl (by kernel_rfl) (fun _ _ _ h => h) (Or.inl ⟨by rfl, ?_⟩) hHeld ?_ ?_
  rotate_left
  · rintro w' s
    have q0 : w'.cell? ⟨w.heap.size + 1, 23, none⟩ = some (.slice ATn lTn.length cTn) := (s.2.1.cell 23).trans (congrArg some HnUT.out)
    go_simp
    with_reducible rfl
  rotate_left
  · simp only [Act.put, List.setIfInBounds_toArray, List.set_cons_zero, List.set_cons_succ, i64_w, i32_w]
    rfl
  refine one_ (i := 30) (N := (some 35)) #[true, true, true, true, true, true, true, true, true, true, true, true, true, true, true, true, true, true, true, true, true, true, true, true, true, true, true, true, true, true, true, false, false, false, false, false, false, false, false, false, false, false, false, false, false, false, false, false, false, false, false, false, false] rfl rfl (by kernel_rfl) (by decide) (fun K hK => ?_)
  refine goes_ Try.func56 (by kernel_rfl) rfl #[.slice ATm lTm.length cTm, .slice ATn lTn.length cTn] (by rfl) rfl rfl (by (try simp only [List.map_toArray, List.map_cons, List.map_nil]); first | done | rfl) ?_
  refine (slices_Equal_string_string.calls k ATm cTm lTm ATn cTn lTn true _ (Kd.C_below HTm.out hHeld.2.2) KTm.out (Kd.C_below HTn.out hHeld.2.2) KTn.out ET.out).mono ?_
  rintro e y12 ⟨rfl, ⟨m_, rfl⟩⟩
  refine ⟨_, rfl, ?_⟩
  refine hK.out _ _ ⟨hHeld.1, hHeld.2.1, pw_below_drewN hHeld.2.2 m_⟩ (fun hHeld => ?_)
  clear hK K
  refine norm_ (a' := ?_) ?_ ?_
  rotate_left
  · show Act.put _ (some 35) _ = _
    simp only [Act.put, List.setIfInBounds_toArray, List.set_cons_zero, List.set_cons_succ, i64_w, i32_w]
    rfl
  refine pure_ (i := 31) (N := (some 36)) (v := ?_) (a' := ?_) #[true, true, true, true, true, true, true, true, true, true, true, true, true, true, true, true, true, true, true, true, true, true, true, true, true, true, true, true, true, true, true, true, false, false, false, false, false, false, false, false, false, false, false, false, false, false, false, false, false, false, false, false, false] rfl rfl (by kernel_rfl) (fun _ _ _ h => h) (Or.inl ⟨by rfl, ?_⟩) ?_ ?_
  rotate_left
  · intro w'
    go_simp
    with_reducible rfl
  rotate_left
  · simp only [Act.put, List.setIfInBounds_toArray, List.set_cons_zero, List.set_cons_succ, i64_w, i32_w]
    rfl
  refine pure_ (i := 32) (N := (some 37)) (v := ?_) (a' := ?_) #[true, true, true, true, true, true, true, true, true, true, true, true, true, true, true, true, true, true, true, true, true, true, true, true, true, true, true, true, true, true, true, true, true, false, false, false, false, false, false, false, false, false, false, false, false, false, false, false, false, false, false, false, false] rfl rfl (by kernel_rfl) (fun _ _ _ h => h) (Or.inl ⟨by rfl, ?_⟩) ?_ ?_
  rotate_left
  · intro w'
    go_simp
    with_reducible rfl
  rotate_left
  · simp only [Act.put, List.setIfInBounds_toArray, List.set_cons_zero, List.set_cons_succ, i64_w, i32_w]
    rfl
  refine pure_ (i := 33) (N := (some 38)) (v := ?_) (a' := ?_) #[true, true, true, true, true, true, true, true, true, true, true, true, true, true, true, true, true, true, true, true, true, true, true, true, true, true, true, true, true, true, true, true, true, true, false, false, false, false, false, false, false, false, false, false, false, false, false, false, false, false, false, false, false] rfl rfl (by kernel_rfl) (fun _ _ _ h => h) (Or.inl ⟨by rfl, ?_⟩) ?_ ?_
  rotate_left
  · intro w'
    go_simp
    with_reducible rfl
  rotate_left
  · simp only [Act.put, List.setIfInBounds_toArray, List.set_cons_zero, List.set_cons_succ, i64_w, i32_w]
    rfl
  refine pure_ (i := 34) (N := (some 39)) (v := ?_) (a' := ?_) #[true, true, true, true, true, true, true, true, true, true, true, true, true, true, true, true, true, true, true, true, true, true, true, true, true, true, true, true, true, true, true, true, true, true, true, false, false, false, false, false, false, false, false, false, false, false, false, false, false, false, false, false, false] rfl rfl (by kernel_rfl) (fun _ _ _ h => h) (Or.inl ⟨by rfl, ?_⟩) ?_ ?_
  rotate_left
  · intro w'
    go_simp
    with_reducible rfl
  rotate_left
  · simp only [Act.put, List.setIfInBounds_toArray, List.set_cons_zero, List.set_cons_succ, i64_w, i32_w]
    rfl
  refine take_ (i := 35) (N := (some 40)) (v := ?_) (a' := ?_) #[true, true, true, true, true, true, true, true, true, true, true, true, true, true, true, true, true, true, true, true, true, true, true, true, true, true, true, true, true, true, true, true, true, true, true, true, false, false, false, false, false, false, false, false, false, false, false, false, false, false, false, false, false] rfl rfl (by kernel_rfl) (fun _ _ _ h => h) (Or.inl ⟨by rfl, ?_⟩) hHeld ?_ ?_
  rotate_left
  · rintro w' s
    have q0 : w'.cell? ⟨w.heap.size, 24, none⟩ = some (.slice AIm lIm.length cIm) := (s.1.cell 24).trans (congrArg some HmUI.out)
    go_simp
    with_reducible rfl
  rotate_left
  · simp only [Act.put, List.setIfInBounds_toArray, List.set_cons_zero, List.set_cons_succ, i64_w, i32_w]
    rfl
  refine pure_ (i := 36) (N := (some 41)) (v := ?_) (a' := ?_) #[true, true, true, true, true, true, true, true, true, true, true, true, true, true, true, true, true, true, true, true, true, true, true, true, true, true, true, true, true, true, true, true, true, true, true, true, true, false, false, false, false, false, false, false, false, false, false, false, false, false, false, false, false] rfl rfl (by kernel_rfl) (fun _ _ _ h => h) (Or.inl ⟨by rfl, ?_⟩) ?_ ?_
  rotate_left
  · intro w'
    go_simp
    with_reducible rfl
  rotate_left
  · simp only [Act.put, List.setIfInBounds_toArray, List.set_cons_zero, List.set_cons_succ, i64_w, i32_w]
    rfl
  refine pure_ (i := 37) (N := (some 42)) (v := ?_) (a' := ?_) #[true, true, true, true, true, true, true, true, true, true, true, true, true, true, true, true, true, true, true, true, true, true, true, true, true, true, true, true, true, true, true, true, true, true, true, true, true, true, false, false, false, false, false, false, false, false, false, false, false, false, false, false, false] rfl rfl (by kernel_rfl) (fun _ _ _ h => h) (Or.inl ⟨by rfl, ?_⟩) ?_ ?_
  rotate_left
  · intro w'
    go_simp
    with_reducible rfl
  rotate_left
  · simp only [Act.put, List.setIfInBounds_toArray, List.set_cons_zero, List.set_cons_succ, i64_w, i32_w]
    rfl
  refine take_ (i := 38) (N := (some 43)) (v := ?_) (a' := ?_) #[true, true, true, true, true, true, true, true, true, true, true, true, true, true, true, true, true, true, true, true, true, true, true, true, true, true, true, true, true, true, true, true, true, true, true, true, true, true, true, false, false, false, false, false, false, false, false, false, false, false, false, false, false] rfl rfl (by kernel_rfl) (fun _ _ _ h => h) (Or.inl ⟨by rfl, ?_⟩) hHeld ?_ ?_
  rotate_left
  · rintro w' s
    have q0 : w'.cell? ⟨w.heap.size + 1, 24, none⟩ = some (.slice AIn lIn.length cIn) := (s.2.1.cell 24).trans (congrArg some HnUI.out)
    go_simp
    with_reducible rfl
  rotate_left
  · simp only [Act.put, List.setIfInBounds_toArray, List.set_cons_zero, List.set_cons_succ, i64_w, i32_w]
    rfl
  refine one_ (i := 39) (N := (some 44)) #[true, true, true, true, true, true, true, true, true, true, true, true, true, true, true, true, true, true, true, true, true, true, true, true, true, true, true, true, true, true, true, true, true, true, true, true, true, true, true, true, false, false, false, false, false, false, false, false, false, false, false, false, false] rfl rfl (by kernel_rfl) (by decide) (fun K hK => ?_)
  refine goes_ Try.func57 (by kernel_rfl) rfl #[.slice AIm lIm.length cIm, .slice AIn lIn.length cIn] (by rfl) rfl rfl (by (try simp only [List.map_toArray, List.map_cons, List.map_nil]); first | done | rfl) ?_
  refine (slices_Equal_int_int.calls k AIm cIm lIm AIn cIn lIn true _ (Kd.C_below HIm.out hHeld.2.2) KIm.out (Kd.C_below HIn.out hHeld.2.2) KIn.out EI.out).mono ?_
  rintro e y13 ⟨rfl, ⟨m_, rfl⟩⟩
  refine ⟨_, rfl, ?_⟩
  refine hK.out _ _ ⟨hHeld.1, hHeld.2.1, pw_below_drewN hHeld.2.2 m_⟩ (fun hHeld => ?_)
  clear hK K
  refine norm_ (a' := ?_) ?_ ?_
  rotate_left
  · show Act.put _ (some 44) _ = _
    simp only [Act.put, List.setIfInBounds_toArray, List.set_cons_zero, List.set_cons_succ, i64_w, i32_w]
    rfl
  refine pure_ (i := 40) (N := (some 45)) (v := ?_) (a' := ?_) #[true, true, true, true, true, true, true, true, true, true, true, true, true, true, true, true, true, true, true, true, true, true, true, true, true, true, true, true, true, true, true, true, true, true, true, true, true, true, true, true, true, false, false, false, false, false, false, false, false, false, false, false, false] rfl rfl (by kernel_rfl) (fun _ _ _ h => h) (Or.inl ⟨by rfl, ?_⟩) ?_ ?_
  rotate_left
  · intro w'
    go_simp
    with_reducible rfl
  rotate_left
  · simp only [Act.put, List.setIfInBounds_toArray, List.set_cons_zero, List.set_cons_succ, i64_w, i32_w]
    rfl
  refine pure_ (i := 41) (N := (some 46)) (v := ?_) (a' := ?_) #[true, true, true, true, true, true, true, true, true, true, true, true, true, true, true, true, true, true, true, true, true, true, true, true, true, true, true, true, true, true, true, true, true, true, true, true, true, true, true, true, true, true, false, false, false, false, false, false, false, false, false, false, false] rfl rfl (by kernel_rfl) (fun _ _ _ h => h) (Or.inl ⟨by rfl, ?_⟩) ?_ ?_
  rotate_left
  · intro w'
    go_simp
    with_reducible rfl
  rotate_left
  · simp only [Act.put, List.setIfInBounds_toArray, List.set_cons_zero, List.set_cons_succ, i64_w, i32_w]
    rfl
  refine pure_ (i := 42) (N := (some 47)) (v := ?_) (a' := ?_) #[true, true, true, true, true, true, true, true, true, true, true, true, true, true, true, true, true, true, true, true, true, true, true, true, true, true, true, true, true, true, true, true, true, true, true, true, true, true, true, true, true, true, true, false, false, false, false, false, false, false, false, false, false] rfl rfl (by kernel_rfl) (fun _ _ _ h => h) (Or.inl ⟨by rfl, ?_⟩) ?_ ?_
  rotate_left
  · intro w'
    go_simp
    with_reducible rfl
  rotate_left
  · simp only [Act.put, List.setIfInBounds_toArray, List.set_cons_zero, List.set_cons_succ, i64_w, i32_w]
    rfl
  refine pure_ (i := 43) (N := (some 48)) (v := ?_) (a' := ?_) #[true, true, true, true, true, true, true, true, true, true, true, true, true, true, true, true, true, true, true, true, true, true, true, true, true, true, true, true, true, true, true, true, true, true, true, true, true, true, true, true, true, true, true, true, false, false, false, false, false, false, false, false, false] rfl rfl (by kernel_rfl) (fun _ _ _ h => h) (Or.inl ⟨by rfl, ?_⟩) ?_ ?_
  rotate_left
  · intro w'
    go_simp
    with_reducible rfl
  rotate_left
  · simp only [Act.put, List.setIfInBounds_toArray, List.set_cons_zero, List.set_cons_succ, i64_w, i32_w]
    rfl
  refine take_ (i := 44) (N := (some 49)) (v := ?_) (a' := ?_) #[true, true, true, true, true, true, true, true, true, true, true, true, true, true, true, true, true, true, true, true, true, true, true, true, true, true, true, true, true, true, true, true, true, true, true, true, true, true, true, true, true, true, true, true, true, false, false, false, false, false, false, false, false] rfl rfl (by kernel_rfl) (fun _ _ _ h => h) (Or.inl ⟨by rfl, ?_⟩) hHeld ?_ ?_
  rotate_left
  · rintro w' s
    have q0 : w'.cell? ⟨w.heap.size, 25, none⟩ = some (.slice ABm nBm cBm) := (s.1.cell 25).trans (congrArg some HmUB.out)
    go_simp
    with_reducible rfl
  rotate_left
  · simp only [Act.put, List.setIfInBounds_toArray, List.set_cons_zero, List.set_cons_succ, i64_w, i32_w]
    rfl
  refine pure_ (i := 45) (N := (some 50)) (v := ?_) (a' := ?_) #[true, true, true, true, true, true, true, true, true, true, true, true, true, true, true, true, true, true, true, true, true, true, true, true, true, true, true, true, true, true, true, true, true, true, true, true, true, true, true, true, true, true, true, true, true, true, false, false, false, false, false, false, false] rfl rfl (by kernel_rfl) (fun _ _ _ h => h) (Or.inl ⟨by rfl, ?_⟩) ?_ ?_
  rotate_left
  · intro w'
    go_simp
    with_reducible rfl
  rotate_left
  · simp only [Act.put, List.setIfInBounds_toArray, List.set_cons_zero, List.set_cons_succ, i64_w, i32_w]
    rfl
  refine pure_ (i := 46) (N := (some 51)) (v := ?_) (a' := ?_) #[true, true, true, true, true, true, true, true, true, true, true, true, true, true, true, true, true, true, true, true, true, true, true, true, true, true, true, true, true, true, true, true, true, true, true, true, true, true, true, true, true, true, true, true, true, true, true, false, false, false, false, false, false] rfl rfl (by kernel_rfl) (fun _ _ _ h => h) (Or.inl ⟨by rfl, ?_⟩) ?_ ?_
  rotate_left
  · intro w'
    go_simp
    with_reducible rfl
  rotate_left
  · simp only [Act.put, List.setIfInBounds_toArray, List.set_cons_zero, List.set_cons_succ, i64_w, i32_w]
    rfl
  refine pure_ (i := 47) (N := (some 52)) (v := ?_) (a' := ?_) #[true, true, true, true, true, true, true, true, true, true, true, true, true, true, true, true, true, true, true, true, true, true, true, true, true, true, true, true, true, true, true, true, true, true, true, true, true, true, true, true, true, true, true, true, true, true, true, true, false, false, false, false, false] rfl rfl (by kernel_rfl) (fun _ _ _ h => h) (Or.inl ⟨by rfl, ?_⟩) ?_ ?_
  rotate_left
  · intro w'
    go_simp
    with_reducible rfl
  rotate_left
  · simp only [Act.put, List.setIfInBounds_toArray, List.set_cons_zero, List.set_cons_succ, i64_w, i32_w]
    rfl
  refine take_ (i := 48) (N := (some 53)) (v := ?_) (a' := ?_) #[true, true, true, true, true, true, true, true, true, true, true, true, true, true, true, true, true, true, true, true, true, true, true, true, true, true, true, true, true, true, true, true, true, true, true, true, true, true, true, true, true, true, true, true, true, true, true, true, true, false, false, false, false] rfl rfl (by kernel_rfl) (fun _ _ _ h => h) (Or.inl ⟨by rfl, ?_⟩) hHeld ?_ ?_
  rotate_left
  · rintro w' s
    have q0 : w'.cell? ⟨w.heap.size + 1, 25, none⟩ = some (.slice ABn nBn cBn) := (s.2.1.cell 25).trans (congrArg some HnUB.out)
    go_simp
    with_reducible rfl
  rotate_left
  · simp only [Act.put, List.setIfInBounds_toArray, List.set_cons_zero, List.set_cons_succ, i64_w, i32_w]
    rfl
  refine pure_ (i := 49) (N := (some 54)) (v := ?_) (a' := ?_) #[true, true, true, true, true, true, true, true, true, true, true, true, true, true, true, true, true, true, true, true, true, true, true, true, true, true, true, true, true, true, true, true, true, true, true, true, true, true, true, true, true, true, true, true, true, true, true, true, true, true, false, false, false] rfl rfl (by kernel_rfl) (fun _ _ _ h => h) (Or.inl ⟨by rfl, ?_⟩) ?_ ?_
  rotate_left
  · intro w'
    go_simp
    with_reducible rfl
  rotate_left
  · simp only [Act.put, List.setIfInBounds_toArray, List.set_cons_zero, List.set_cons_succ, i64_w, i32_w]
    rfl
  refine pure_ (i := 50) (N := (some 55)) (v := ?_) (a' := ?_) #[true, true, true, true, true, true, true, true, true, true, true, true, true, true, true, true, true, true, true, true, true, true, true, true, true, true, true, true, true, true, true, true, true, true, true, true, true, true, true, true, true, true, true, true, true, true, true, true, true, true, true, false, false] rfl rfl (by kernel_rfl) (fun _ _ _ h => h) (Or.inl ⟨by rfl, ?_⟩) ?_ ?_
  rotate_left
  · intro w'
    go_simp
    with_reducible rfl
  rotate_left
  · simp only [Act.put, List.setIfInBounds_toArray, List.set_cons_zero, List.set_cons_succ, i64_w, i32_w]
    rfl
  refine pure_ (i := 51) (N := (some 56)) (v := ?_) (a' := ?_) #[true, true, true, true, true, true, true, true, true, true, true, true, true, true, true, true, true, true, true, true, true, true, true, true, true, true, true, true, true, true, true, true, true, true, true, true, true, true, true, true, true, true, true, true, true, true, true, true, true, true, true, true, false] rfl rfl (by kernel_rfl) (fun _ _ _ h => h) (Or.inl ⟨by rfl, ?_⟩) ?_ ?_
  rotate_left
  · intro w'
    go_simp
    with_reducible rfl
  rotate_left
  · simp only [Act.put, List.setIfInBounds_toArray, List.set_cons_zero, List.set_cons_succ, i64_w, i32_w]
    rfl
  refine pure_ (i := 52) (N := (some 4)) (v := ?_) (a' := ?_) #[true, true, true, true, true, true, true, true, true, true, true, true, true, true, true, true, true, true, true, true, true, true, true, true, true, true, true, true, true, true, true, true, true, true, true, true, true, true, true, true, true, true, true, true, true, true, true, true, true, true, true, true, true] rfl rfl (by kernel_rfl) (fun _ _ _ h => h) (Or.inl ⟨by rfl, ?_⟩) ?_ ?_
  rotate_left
  · intro w'
    go_simp
    with_reducible rfl
  rotate_left
  · simp only [Act.put, List.setIfInBounds_toArray, List.set_cons_zero, List.set_cons_succ, i64_w, i32_w]
    rfl
  have SB_ := Aside0.mk hHeld.2.2
  refine done_ (by kernel_rfl) ?_
  clear hHeld
  show K_ _ _
  refine hK_ _ _ ?_
  skip
  go_wp2_with fail
  go_ret
  exact ⟨rfl, SB_.out⟩

end Go.Proofs.Ytncfofnikmfjbaa.PCi

namespace Go.Proofs.Ytncfofnikmfjbaa.PCi
open Go.RowKit Go.Proofs.YtncfofnikmfjbaaW.PrintWords Go.Proofs.YtncfofnikmfjbaaW.PrintLast Go.Proofs.YtncfofnikmfjbaaW.PrintMore
attribute [local go_sem] max2_int min2_int max_two min_two max_three min_three max_four min_four
set_option linter.unusedVariables false
set_option linter.unusedSimpArgs false

/-- A request's message: the response's part is nought. -/
structure Msg.Z (m : Msg) : Prop where
  z1 : m.akind = 0
  z2 : m.aid = 0
  z3 : m.acode = 0
  z4 : m.aoff = 0
  z5 : m.astart = 0
  z6 : m.anext = 0
  z7 : m.u2 = .slice none 0 0
  z8 : m.u3 = .slice none 0 0
  z9 : m.u4 = .slice none 0 0
/-- Two requests are the same. -/
def rqSame (m n : Msg) (rs rs' : List S98) : Prop := m.lits = n.lits ∧ rs = rs'
/-- What same tells of two requests. -/
def EqOk : Prop := ∀ rs rs' : List S98, rs.length ≤ 9223372036854775807 → ∃ k r, api_Record_55.f k rs rs' = some r ∧ (r = true ↔ rs = rs')
theorem same_rq (m n : Msg) (A A' : Option Addr) (c c' : Nat) (rs rs' : List S98) (w : World) (hE : EqOk) (hm : m.Wf) (hn : n.Wf) (zm : m.Z) (zn : n.Z) (hu : m.u1 = .slice A rs.length c) (hu' : n.u1 = .slice A' rs'.length c') (hr : Kd.C k98 w A rs.length rs) (hc : rs.length ≤ c) (hr' : Kd.C k98 w A' rs'.length rs') (hc' : rs'.length ≤ c') (hl : rs.length ≤ 9223372036854775807) :
    Calls Try.prog 30 #[.agg m.cells, .agg n.cells] w fun e w' => (∃ r : Bool, e = .returned (.bool r) ∧ (r = true ↔ rqSame m n rs rs')) ∧ Below w.heap.size w w' := by
  have hms : m.Sl := ⟨⟨_, _, _, hu⟩, ⟨_, _, _, zm.z7⟩, ⟨_, _, _, zm.z8⟩, ⟨_, _, _, zm.z9⟩⟩
  have hns : n.Sl := ⟨⟨_, _, _, hu'⟩, ⟨_, _, _, zn.z7⟩, ⟨_, _, _, zn.z8⟩, ⟨_, _, _, zn.z9⟩⟩
  obtain ⟨f, h1, h2⟩ := flat_eq m n hm hn
  obtain ⟨k, r, h3, h4⟩ := hE rs rs' hl
  have nS : Kd.C Kd.string w none ([] : List ByteArray).length [] := Kd.C_nil _ _
  have nI : Kd.C (Kd.int .i64) w none ([] : List Int).length [] := Kd.C_nil _ _
  have hc0 : (m.acode == n.acode) = true := by rw [zm.z3, zn.z3]; rfl
  have eT : slices_Equal_string_string.f (k + 1) [] [] = some true := rfl
  have eI : slices_Equal_int_int.f (k + 1) [] [] = some true := rfl
  have h3' := api_Record_55.mono rs rs' k _ h3
  cases f with
  | false =>
    refine (same_v0 (k + 1) m n hms hns A c rs A' c' rs' none 0 [] none 0 [] none 0 [] none 0 [] w hu hr hc hu' hr' hc' zm.z7 nS (Nat.le_refl _) zn.z7 nS (Nat.le_refl _) zm.z8 nI (Nat.le_refl _) zn.z8 nI (Nat.le_refl _) none none 0 0 0 0 zm.z9 zn.z9 h1).mono ?_
    rintro e w' ⟨rfl, hb⟩
    exact ⟨⟨false, rfl, by unfold rqSame; exact ⟨fun h => (by cases h), fun h => h2.2 h.1⟩⟩, hb⟩
  | true =>
    cases r with
    | false =>
      refine (same_v2 (k + 1) m n hms hns A c rs A' c' rs' none 0 [] none 0 [] none 0 [] none 0 [] w hu hr hc hu' hr' hc' zm.z7 nS (Nat.le_refl _) zn.z7 nS (Nat.le_refl _) zm.z8 nI (Nat.le_refl _) zn.z8 nI (Nat.le_refl _) none none 0 0 0 0 zm.z9 zn.z9 hc0 h3' h1).mono ?_
      rintro e w' ⟨rfl, hb⟩
      exact ⟨⟨false, rfl, by unfold rqSame; exact ⟨fun h => (by cases h), fun h => h4.2 h.2⟩⟩, hb⟩
    | true =>
      refine (same_v5 (k + 1) m n hms hns A c rs A' c' rs' none 0 [] none 0 [] none 0 [] none 0 [] w hu hr hc hu' hr' hc' zm.z7 nS (Nat.le_refl _) zn.z7 nS (Nat.le_refl _) zm.z8 nI (Nat.le_refl _) zn.z8 nI (Nat.le_refl _) none none 0 0 0 0 zm.z9 zn.z9 hc0 h3' eT eI h1).mono ?_
      rintro e w' ⟨rfl, hb⟩
      exact ⟨⟨true, rfl, by unfold rqSame; exact ⟨fun _ => ⟨h2.1 rfl, h4.1 rfl⟩, fun _ => rfl⟩⟩, hb⟩
/-- What is written. -/
def rqWr (m : Msg) (rs : List S98) : List Int × Bool := wFs m rs ((codec_fields.f 0 m.kind).getD []) (nb m.kind 1 ++ nb m.id 4, false)
def rqBad1 (m : Msg) : Bool := !(codec_fields.f 0 m.kind).isSome || (decide (m.id < 0) || decide (4294967295 < m.id))
/-- Request's answer. -/
def RqOut (m : Msg) (rs : List S98) (b : List Int) (e : Int) : Prop :=
  (b = (rqWr m rs).1 ∧ e = 0 ∧ rqBad1 m = false ∧ (rqWr m rs).2 = false ∧ (codec_ParseRequest.f (rqWr m rs).1).2.2 = 0 ∧ rqSame m (codec_ParseRequest.f (rqWr m rs).1).1 rs (codec_ParseRequest.f (rqWr m rs).1).2.1) ∨
  (b = [] ∧ e = 1 ∧ ¬ (rqBad1 m = false ∧ (rqWr m rs).2 = false ∧ (codec_ParseRequest.f (rqWr m rs).1).2.2 = 0 ∧ rqSame m (codec_ParseRequest.f (rqWr m rs).1).1 rs (codec_ParseRequest.f (rqWr m rs).1).2.1))

end Go.Proofs.Ytncfofnikmfjbaa.PCi

namespace Go.Proofs.Ytncfofnikmfjbaa.PCi
open Go.RowKit Go.Proofs.YtncfofnikmfjbaaW.PrintWords Go.Proofs.YtncfofnikmfjbaaW.PrintLast Go.Proofs.YtncfofnikmfjbaaW.PrintMore
attribute [local go_sem] max2_int min2_int max_two min_two max_three min_three max_four min_four
set_option linter.unusedVariables false
set_option linter.unusedSimpArgs false

theorem fds_out2 {B : Nat} {a f : Int} {e : Ending} {w' : World} (hp : FdsPost B (codec_fields.f a f) e w') : ∃ ok A L, e = .returned (.tuple #[.slice A L.length L.length, .bool ok]) ∧ (codec_fields.f a f).isSome = ok ∧ (codec_fields.f a f).getD [] = L ∧ L.length ≤ 7 ∧ ∀ g base W', w'.heap.size ≤ g → KeepW w' W' g base → Kd.C (Kd.int .i64) W' A L.length L := by
  rcases hp with ⟨h1, rfl⟩ | ⟨L, v, h1, rfl, g, rfl, h2, h3⟩
  · exact ⟨false, none, [], rfl, by rw [h1]; rfl, by rw [h1]; rfl, by simp, fun _ _ _ _ _ => Kd.C_nil _ _⟩
  · exact ⟨true, _, L, rfl, by rw [h1]; rfl, by rw [h1]; rfl, fields_len h1, fun g2 base W' hg hW => row_C (hW.blk h3 (by have := blk_lt h3; omega) (by decide)) (by have := fields_len h1; omega)⟩
theorem put_ints (m : Msg) (f x : Int) : ∀ y ∈ (m.put 0 f x).ints, y = x ∨ y ∈ m.ints := by
  intro y
  unfold Msg.put
  by_cases h2 : f = 2
  · simp only [if_pos h2]; exact fun hy => (List.mem_or_eq_of_mem_set (l := m.ints) (i := 2) hy).symm
  simp only [if_neg h2]
  by_cases h3 : f = 3
  · simp only [if_pos h3]; exact fun hy => (List.mem_or_eq_of_mem_set (l := m.ints) (i := 3) hy).symm
  simp only [if_neg h3]
  by_cases h4 : f = 4
  · simp only [if_pos h4]; exact fun hy => (List.mem_or_eq_of_mem_set (l := m.ints) (i := 4) hy).symm
  simp only [if_neg h4]
  by_cases h5 : f = 5
  · simp only [if_pos h5]; exact fun hy => (List.mem_or_eq_of_mem_set (l := m.ints) (i := 5) hy).symm
  simp only [if_neg h5]
  by_cases h6 : f = 6
  · simp only [if_pos h6]; exact fun hy => (List.mem_or_eq_of_mem_set (l := m.ints) (i := 6) hy).symm
  simp only [if_neg h6]
  by_cases h8 : f = 8
  · simp only [if_pos h8]; exact fun hy => (List.mem_or_eq_of_mem_set (l := m.ints) (i := 7) hy).symm
  simp only [if_neg h8]
  by_cases h9 : f = 9
  · simp only [if_pos h9]; exact fun hy => (List.mem_or_eq_of_mem_set (l := m.ints) (i := 8) hy).symm
  simp only [if_neg h9]
  by_cases h10 : f = 10
  · simp only [if_pos h10]; exact fun hy => (List.mem_or_eq_of_mem_set (l := m.ints) (i := 9) hy).symm
  simp only [if_neg h10]
  by_cases h12 : f = 12
  · simp only [if_pos h12]; exact fun hy => (List.mem_or_eq_of_mem_set (l := m.ints) (i := 11) hy).symm
  simp only [if_neg h12]
  by_cases h13 : f = 13
  · simp only [if_pos h13]; exact fun hy => (List.mem_or_eq_of_mem_set (l := m.ints) (i := 12) hy).symm
  simp only [if_neg h13]
  by_cases h14 : f = 14
  · simp only [if_pos h14]; exact fun hy => (List.mem_or_eq_of_mem_set (l := m.ints) (i := 16) hy).symm
  simp only [if_neg h14]
  by_cases h15 : f = 15
  · simp only [if_pos h15]; exact fun hy => (List.mem_or_eq_of_mem_set (l := m.ints) (i := 17) hy).symm
  simp only [if_neg h15]
  simp only [if_true]; exact fun hy => (List.mem_or_eq_of_mem_set (l := m.ints) (i := 10) hy).symm
theorem put_same (m : Msg) (f x : Int) (h14 : f ≠ 14) (h15 : f ≠ 15) : (m.put 0 f x).topic = m.topic ∧ (m.put 0 f x).group = m.group ∧ (m.Z → (m.put 0 f x).Z) := by
  unfold Msg.put
  by_cases h2_ : f = 2
  · simp only [if_pos h2_]; exact ⟨trivial, trivial, fun z => ⟨z.z1, z.z2, z.z3, z.z4, z.z5, z.z6, z.z7, z.z8, z.z9⟩⟩
  simp only [if_neg h2_]
  by_cases h3_ : f = 3
  · simp only [if_pos h3_]; exact ⟨trivial, trivial, fun z => ⟨z.z1, z.z2, z.z3, z.z4, z.z5, z.z6, z.z7, z.z8, z.z9⟩⟩
  simp only [if_neg h3_]
  by_cases h4_ : f = 4
  · simp only [if_pos h4_]; exact ⟨trivial, trivial, fun z => ⟨z.z1, z.z2, z.z3, z.z4, z.z5, z.z6, z.z7, z.z8, z.z9⟩⟩
  simp only [if_neg h4_]
  by_cases h5_ : f = 5
  · simp only [if_pos h5_]; exact ⟨trivial, trivial, fun z => ⟨z.z1, z.z2, z.z3, z.z4, z.z5, z.z6, z.z7, z.z8, z.z9⟩⟩
  simp only [if_neg h5_]
  by_cases h6_ : f = 6
  · simp only [if_pos h6_]; exact ⟨trivial, trivial, fun z => ⟨z.z1, z.z2, z.z3, z.z4, z.z5, z.z6, z.z7, z.z8, z.z9⟩⟩
  simp only [if_neg h6_]
  by_cases h8_ : f = 8
  · simp only [if_pos h8_]; exact ⟨trivial, trivial, fun z => ⟨z.z1, z.z2, z.z3, z.z4, z.z5, z.z6, z.z7, z.z8, z.z9⟩⟩
  simp only [if_neg h8_]
  by_cases h9_ : f = 9
  · simp only [if_pos h9_]; exact ⟨trivial, trivial, fun z => ⟨z.z1, z.z2, z.z3, z.z4, z.z5, z.z6, z.z7, z.z8, z.z9⟩⟩
  simp only [if_neg h9_]
  by_cases h10_ : f = 10
  · simp only [if_pos h10_]; exact ⟨trivial, trivial, fun z => ⟨z.z1, z.z2, z.z3, z.z4, z.z5, z.z6, z.z7, z.z8, z.z9⟩⟩
  simp only [if_neg h10_]
  by_cases h12_ : f = 12
  · simp only [if_pos h12_]; exact ⟨trivial, trivial, fun z => ⟨z.z1, z.z2, z.z3, z.z4, z.z5, z.z6, z.z7, z.z8, z.z9⟩⟩
  simp only [if_neg h12_]
  by_cases h13_ : f = 13
  · simp only [if_pos h13_]; exact ⟨trivial, trivial, fun z => ⟨z.z1, z.z2, z.z3, z.z4, z.z5, z.z6, z.z7, z.z8, z.z9⟩⟩
  simp only [if_neg h13_]
  by_cases h14_ : f = 14
  · exact absurd h14_ h14
  simp only [if_neg h14_]
  by_cases h15_ : f = 15
  · exact absurd h15_ h15
  simp only [if_neg h15_]
  simp only [if_true]; exact ⟨trivial, trivial, fun z => ⟨z.z1, z.z2, z.z3, z.z4, z.z5, z.z6, z.z7, z.z8, z.z9⟩⟩
theorem rdNum_wf (n : Nat) (l : List Int) (b : Bool) : (Lit.int .i64 (rdNum n l b).1).wf = true := by
  unfold rdNum
  split
  · exact wf64 (f := 0) (by omega)
  · exact wf64 (by unfold wrap64; omega)
theorem rdBytes_by {n : Int} {l : List Int} {b : Bool} (h : Bp.Bytes l) : Bp.Bytes (rdBytes n l b).2.1 ∧ (rdBytes n l b).2.1.length ≤ l.length ∧ (rdBytes n l b).1.length ≤ l.length := by
  unfold rdBytes
  split
  · exact ⟨h, Nat.le_refl _, by simp⟩
  · exact ⟨fun x hx => h x (List.mem_of_mem_drop hx), by simp, by simp; omega⟩
theorem rdNum_by {n : Nat} {l : List Int} {b : Bool} (h : Bp.Bytes l) : Bp.Bytes (rdNum n l b).2.1 ∧ (rdNum n l b).2.1.length ≤ l.length := by
  unfold rdNum
  split
  · exact ⟨h, Nat.le_refl _⟩
  · exact ⟨fun x hx => h x (List.mem_of_mem_drop hx), by simp⟩
theorem strOfNums_size (l : List Int) : (strOfNums l).size = l.length := by simp [strOfNums, ByteArray.size]
theorem rdText_by {l : List Int} {b : Bool} (h : Bp.Bytes l) : Bp.Bytes (rdText l b).2.1 ∧ (rdText l b).2.1.length ≤ l.length ∧ (rdText l b).1.size ≤ l.length := by
  have h1 := rdNum_by (n := 2) (b := b) h
  have h2 := rdBytes_by (n := (rdNum 2 l b).1) (b := (rdNum 2 l b).2.2) h1.1
  unfold rdText
  rw [strOfNums_size]
  exact ⟨h2.1, by dsimp only; omega, by omega⟩
theorem rdRec_by {l : List Int} {b : Bool} (h : Bp.Bytes l) : Bp.Bytes (rdRec l b).2.1 ∧ (rdRec l b).2.1.length ≤ l.length := by
  have opt : ∀ (is : Bool) (l : List Int) (b : Bool), Bp.Bytes l → Bp.Bytes (rdOpt is l b).2.1 ∧ (rdOpt is l b).2.1.length ≤ l.length := fun is l b h => by
    unfold rdOpt
    split
    · exact ⟨(rdText_by h).1, (rdText_by h).2.1⟩
    · exact ⟨h, Nat.le_refl _⟩
  have h1 := rdNum_by (n := 1) (b := b) h
  have h2 := opt (rdFl (rdNum 1 l b).1 1) _ ((rdNum 1 l b).2.2 || decide (3 < (rdNum 1 l b).1)) h1.1
  have h3 := opt (rdFl (rdNum 1 l b).1 2) _ (rdOpt (rdFl (rdNum 1 l b).1 1) (rdNum 1 l b).2.1 ((rdNum 1 l b).2.2 || decide (3 < (rdNum 1 l b).1))).2.2 h2.1
  unfold rdRec
  exact ⟨(rdNum_by h3.1).1, by have := (rdNum_by (n := 8) (b := (rdOpt (rdFl (rdNum 1 l b).1 2) (rdOpt (rdFl (rdNum 1 l b).1 1) (rdNum 1 l b).2.1 ((rdNum 1 l b).2.2 || decide (3 < (rdNum 1 l b).1))).2.1 (rdOpt (rdFl (rdNum 1 l b).1 1) (rdNum 1 l b).2.1 ((rdNum 1 l b).2.2 || decide (3 < (rdNum 1 l b).1))).2.2).2.2) h3.1).2; dsimp only at *; omega⟩
theorem rdAll_by {α : Type} {one : List Int → Bool → α × List Int × Bool} (ho : ∀ l b, Bp.Bytes l → Bp.Bytes (one l b).2.1 ∧ (one l b).2.1.length ≤ l.length) : ∀ (n : Nat) (l : List Int) (b : Bool), Bp.Bytes l → Bp.Bytes (rdAll one n l b).2.1 ∧ (rdAll one n l b).2.1.length ≤ l.length
  | 0, l, b, h => ⟨h, Nat.le_refl _⟩
  | n + 1, l, b, h => by
    rw [rdAll]
    split
    · exact ⟨h, Nat.le_refl _⟩
    · have h1 := ho l b h
      have h2 := rdAll_by ho n _ (one l b).2.2 h1.1
      exact ⟨h2.1, by have := h2.2; have := h1.2; dsimp only; omega⟩
theorem rdList_by {α : Type} {one : List Int → Bool → α × List Int × Bool} (ho : ∀ l b, Bp.Bytes l → Bp.Bytes (one l b).2.1 ∧ (one l b).2.1.length ≤ l.length) {l : List Int} {b : Bool} (h : Bp.Bytes l) : Bp.Bytes (rdList one l b).2.1 ∧ (rdList one l b).2.1.length ≤ l.length := by
  have h1 := rdNum_by (n := 2) (b := b) h
  have h2 := rdAll_by ho (rdNum 2 l b).1.toNat _ (rdNum 2 l b).2.2 h1.1
  unfold rdList
  exact ⟨h2.1, by omega⟩
def RqOk (s : Msg × List S98 × List Int × Bool) : Prop := s.1.Wf ∧ s.1.Z ∧ Bp.Bytes s.2.2.1 ∧ s.2.2.1.length ≤ 4611686018427387904
theorem rqF_ok (f : Int) (s : Msg × List S98 × List Int × Bool) (h : RqOk s) (h14 : f ≠ 14) (h15 : f ≠ 15) : RqOk (rqF f s) := by
  obtain ⟨hw, hz, hb, hl⟩ := h
  have hT := rdText_by (b := s.2.2.2) hb
  have hml : (4611686018427387904 : Nat) ≤ maxLen := by decide
  unfold rqF
  split
  · exact ⟨⟨hw.ints, by dsimp only; omega, hw.group⟩, ⟨hz.z1, hz.z2, hz.z3, hz.z4, hz.z5, hz.z6, hz.z7, hz.z8, hz.z9⟩, hT.1, by have := hT.2.1; dsimp only; omega⟩
  split
  · exact ⟨⟨hw.ints, hw.topic, by dsimp only; omega⟩, ⟨hz.z1, hz.z2, hz.z3, hz.z4, hz.z5, hz.z6, hz.z7, hz.z8, hz.z9⟩, hT.1, by have := hT.2.1; dsimp only; omega⟩
  split
  · have h1 := rdNum_by (n := 1) (b := s.2.2.2) hb
    exact ⟨⟨hw.ints, hw.topic, hw.group⟩, ⟨hz.z1, hz.z2, hz.z3, hz.z4, hz.z5, hz.z6, hz.z7, hz.z8, hz.z9⟩, h1.1, by have := h1.2; dsimp only; omega⟩
  split
  · have h1 := rdList_by (one := rdRec) (fun l b h => rdRec_by h) (b := s.2.2.2) hb
    exact ⟨hw, hz, h1.1, by have := h1.2; dsimp only; omega⟩
  · have h1 := rdNum_by (n := 8) (b := s.2.2.2) hb
    have h2 := put_same s.1 f (rdInt s.2.2.1 s.2.2.2).1 h14 h15
    refine ⟨⟨fun y hy => ?_, by dsimp only; rw [h2.1]; exact hw.topic, by dsimp only; rw [h2.2.1]; exact hw.group⟩, h2.2.2 hz, h1.1, by have := h1.2; dsimp only [rdInt]; omega⟩
    rcases put_ints _ _ _ y hy with rfl | hy
    · exact rdNum_wf _ _ _
    · exact hw.ints y hy
theorem rqFs_ok : ∀ (L : List Int) (s : Msg × List S98 × List Int × Bool), RqOk s → (∀ f ∈ L, f ≠ 14 ∧ f ≠ 15) → RqOk (rqFs L s)
  | [], _, h, _ => h
  | f :: L, s, h, hL => rqFs_ok L (rqF f s) (rqF_ok f s h (hL f List.mem_cons_self).1 (hL f List.mem_cons_self).2) (fun x hx => hL x (List.mem_cons_of_mem _ hx))
theorem fields_req2 {k : Int} : ∀ x ∈ (codec_fields.f 0 k).getD [], x ≠ 14 ∧ x ≠ 15 := by
  intro x hx
  cases h : codec_fields.f 0 k with
  | none => rw [h] at hx; cases hx
  | some L =>
    rw [h] at hx
    obtain ⟨e, h1, h2, _, rfl⟩ := fields_mem h
    exact (by decide : ∀ e ∈ wayT, e.1 = 0 → ∀ x ∈ e.2.2, x ≠ 14 ∧ x ≠ 15) e h1 h2 x hx
theorem msg0_ok : msg0.Wf ∧ msg0.Z := ⟨⟨by intro x hx; simp [Msg.ints, msg0] at hx; subst hx; decide, by decide, by decide⟩, ⟨rfl, rfl, rfl, rfl, rfl, rfl, rfl, rfl, rfl⟩⟩
theorem rqRaw_ok (l : List Int) (hb : Bp.Bytes l) (hl : l.length ≤ 4611686018427387904) : RqOk (rqRaw l) := by
  have h1 := rdNum_by (n := 1) (b := false) hb
  have h2 := rdNum_by (n := 4) (b := (rdNum 1 l false).2.2) h1.1
  refine rqFs_ok _ _ ⟨⟨?_, msg0_ok.1.topic, msg0_ok.1.group⟩, ⟨rfl, rfl, rfl, rfl, rfl, rfl, rfl, rfl, rfl⟩, h2.1, by have := h1.2; have := h2.2; dsimp only; omega⟩ fields_req2
  intro x hx
  simp only [Msg.ints, msg0, List.mem_cons, List.not_mem_nil, or_false] at hx
  rcases hx with rfl | rfl | hx
  · exact rdNum_wf _ _ _
  · exact rdNum_wf _ _ _
  · have : x = 0 := by omega
    subst this
    decide
theorem parse_ok (l : List Int) (hb : Bp.Bytes l) (hl : l.length ≤ 4611686018427387904) : (codec_ParseRequest.f l).1.Wf ∧ (codec_ParseRequest.f l).1.Z := by
  unfold codec_ParseRequest.f
  split
  · exact msg0_ok
  · exact ⟨(rqRaw_ok l hb hl).1, (rqRaw_ok l hb hl).2.1⟩

end Go.Proofs.Ytncfofnikmfjbaa.PCi

/- Strings of bytes: two rows of bytes are the same where their strings are. -/
namespace Go.Proofs.Ytncfofnikmfjbaa.Bp
open Go Go.RowKit Go.Proofs.YtncfofnikmfjbaaW.PrintWords Go.Proofs.YtncfofnikmfjbaaW.PrintLast Go.Proofs.YtncfofnikmfjbaaW.PrintMore
set_option linter.unusedVariables false
set_option linter.unusedSimpArgs false

theorem toList_loop_ (bs : ByteArray) : ∀ (n i : Nat) (r : List UInt8), bs.size - i = n → ByteArray.toList.loop bs i r = r.reverse ++ bs.data.toList.drop i
  | 0, i, r, h => by
    rw [ByteArray.toList.loop, if_neg (by omega)]
    have : bs.data.toList.drop i = [] := List.drop_eq_nil_of_le (by rw [Array.length_toList]; show bs.size ≤ i; omega)
    rw [this, List.append_nil]
  | n + 1, i, r, h => by
    have hi : i < bs.data.size := by show i < bs.size; omega
    have e : bs.data.toList.drop i = bs.data[i] :: bs.data.toList.drop (i + 1) := List.drop_eq_getElem_cons (by rw [Array.length_toList]; exact hi)
    rw [ByteArray.toList.loop, if_pos (by omega), toList_loop_ bs n (i + 1) _ (by omega), List.reverse_cons, List.append_assoc, e]
    have e2 : bs.get! i = bs.data[i] := by unfold ByteArray.get!; exact getElem!_pos bs.data i hi
    rw [e2]
    rfl
theorem toList_data_ (bs : ByteArray) : bs.toList = bs.data.toList := by
  have := toList_loop_ bs _ 0 [] rfl
  simpa [ByteArray.toList] using this
theorem strs_eq {l m : List Int} (hl : Bytes l) (hm : Bytes m) : (strOfNums l).toList = (strOfNums m).toList ↔ l = m := by
  constructor
  · intro h
    rw [toList_data_, toList_data_, strOfNums_data, strOfNums_data] at h
    have h2 := congrArg (List.map fun b : UInt8 => (b.toNat : Int)) h
    rw [List.map_map, List.map_map] at h2
    have e : ∀ {x : List Int}, Bytes x → x.map ((fun b : UInt8 => (b.toNat : Int)) ∘ fun n : Int => UInt8.ofNat n.toNat) = x := by
      intro x hx
      conv => rhs; rw [← List.map_id x]
      refine List.map_congr_left fun b hb => ?_
      have := hx b hb
      simp only [Function.comp, id, UInt8.toNat_ofNat']
      omega
    rwa [e hl, e hm] at h2
  · rintro rfl
    rfl
theorem strs_beq {l m : List Int} (hl : Bytes l) (hm : Bytes m) : ((strOfNums l).toList == (strOfNums m).toList) = decide (l = m) := by
  by_cases c : l = m
  · rw [decide_eq_true c, beq_iff_eq]; exact (strs_eq hl hm).2 c
  · rw [decide_eq_false c, beq_eq_false_iff_ne]; exact fun h => c ((strs_eq hl hm).1 h)

end Go.Proofs.Ytncfofnikmfjbaa.Bp

namespace Go.Proofs.Ytncfofnikmfjbaa.PCi
open Go.RowKit Go.Proofs.YtncfofnikmfjbaaW.PrintWords Go.Proofs.YtncfofnikmfjbaaW.PrintLast Go.Proofs.YtncfofnikmfjbaaW.PrintMore
attribute [local go_sem] max2_int min2_int max_two min_two max_three min_three max_four min_four
set_option linter.unusedVariables false
set_option linter.unusedSimpArgs false

/-! ### codec: plain laws -/
theorem bl_inj {a b : ByteArray} : a.toList = b.toList ↔ a = b := by
  rw [Bp.toList_data_, Bp.toList_data_]
  refine ⟨fun h => ?_, fun h => by rw [h]⟩
  cases a with | mk x => cases b with | mk y => exact congrArg ByteArray.mk (Array.toList_inj.1 h)
theorem eqR_one (x y : S98) : ((!(x.f0 == y.f0) || (!((x.f1).toList == (y.f1).toList) || (!(x.f2 == y.f2) || (!((x.f3).toList == (y.f3).toList) || (!(x.f4 == y.f4) || (!(x.f5 == y.f5))))))) = true) ↔ x ≠ y := by
  have h1 : ((x.f1).toList == (y.f1).toList) = true ↔ x.f1 = y.f1 := by rw [beq_iff_eq]; exact bl_inj
  have h3 : ((x.f3).toList == (y.f3).toList) = true ↔ x.f3 = y.f3 := by rw [beq_iff_eq]; exact bl_inj
  have e1 : ((x.f1).toList == (y.f1).toList) = decide (x.f1 = y.f1) := by
    cases h : ((x.f1).toList == (y.f1).toList)
    · exact (decide_eq_false (fun e => by rw [h1.2 e] at h; cases h)).symm
    · exact (decide_eq_true (h1.1 h)).symm
  have e3 : ((x.f3).toList == (y.f3).toList) = decide (x.f3 = y.f3) := by
    cases h : ((x.f3).toList == (y.f3).toList)
    · exact (decide_eq_false (fun e => by rw [h3.2 e] at h; cases h)).symm
    · exact (decide_eq_true (h3.1 h)).symm
  rw [e1, e3]
  cases x with | mk a b c d e f => cases y with | mk a' b' c' d' e' f' =>
  simp only [S98.mk.injEq, ne_eq, Bool.or_eq_true, Bool.not_eq_true', beq_eq_false_iff_ne, decide_eq_false_iff_not, not_and]
  constructor
  · rintro (h | h | h | h | h | h) h0 h1 h2 h3 h4 <;> simp_all
  · intro h
    by_cases c0 : a = a' <;> by_cases c1 : b = b' <;> by_cases c2 : c = c' <;> by_cases c3 : d = d' <;> by_cases c4 : e = e' <;> simp_all
theorem eqR_l0 (l m : List S98) (hl : l.length ≤ 9223372036854775807) (h : l.length = m.length) (n : Nat) : ∀ (k i : Nat), i + n = l.length → n + 1 ≤ k → ∃ r, api_Record_55.l0 k l m (l.length : Int) (i : Int) = some r ∧ (r = true ↔ l.drop i = m.drop i) := by
  induction n with
  | zero =>
    intro k i hi hk
    obtain ⟨K, rfl⟩ : ∃ K, k = K + 1 := ⟨k - 1, by omega⟩
    simp only [api_Record_55.l0]
    rw [if_neg (by omega), List.drop_eq_nil_of_le (by omega), List.drop_eq_nil_of_le (by omega)]
    exact ⟨_, rfl, by simp⟩
  | succ n ih =>
    intro k i hi hk
    obtain ⟨K, rfl⟩ : ∃ K, k = K + 1 := ⟨k - 1, by omega⟩
    have d1 := drop_rd z98 (l := l) (i := (i : Int)) (by omega) (by omega)
    have d2 := drop_rd z98 (l := m) (i := (i : Int)) (by omega) (by omega)
    rw [Int.toNat_natCast] at d1 d2
    rw [show ((i : Int) + 1).toNat = i + 1 from by omega] at d1 d2
    simp only [api_Record_55.l0]
    rw [if_pos (by omega), if_pos (by omega), if_pos (by omega), if_pos (by omega), d1, d2]
    by_cases c : rd_T98 l (i : Int) = rd_T98 m (i : Int)
    · rw [if_neg (fun h_ => (eqR_one _ _).1 h_ c), show wrap64 ((i : Int) + 1) = ((i + 1 : Nat) : Int) from by unfold wrap64; omega]
      obtain ⟨r, h1, h2⟩ := ih K (i + 1) (by omega) (by omega)
      refine ⟨r, h1, h2.trans ⟨fun e => ?_, fun e => (List.cons.inj e).2⟩⟩
      rw [e]
      exact congrArg (· :: m.drop (i + 1)) c
    · rw [if_pos ((eqR_one _ _).2 c)]
      exact ⟨false, rfl, ⟨fun e => (by cases e), fun e => absurd (List.cons.inj e).1 c⟩⟩
theorem eqOk : EqOk := by
  intro rs rs' hl
  unfold api_Record_55.f
  by_cases h : (rs.length : Int) = (rs'.length : Int)
  · obtain ⟨r, h1, h2⟩ := eqR_l0 rs rs' hl (by omega) rs.length (rs.length + 1) 0 (by omega) (by omega)
    exact ⟨rs.length + 1, r, by rw [if_pos h]; exact h1, by simpa using h2⟩
  · exact ⟨0, false, by rw [if_neg h], ⟨fun e => (by cases e), fun e => absurd (by rw [e]) h⟩⟩
theorem nb_bytes (v : Int) (n : Nat) : Bp.Bytes (nb v n) := Bp.beL_bytes _ _
theorem bytes_app {l m : List Int} (h1 : Bp.Bytes l) (h2 : Bp.Bytes m) : Bp.Bytes (l ++ m) := fun x hx => (List.mem_append.1 hx).elim (h1 x) (h2 x)
theorem bytesOf_bytes (s : ByteArray) : Bp.Bytes (bytesOf s) := by
  intro x hx
  unfold bytesOf at hx
  simp only [List.mem_map] at hx
  obtain ⟨y, _, rfl⟩ := hx
  have := y.toNat_lt
  omega
theorem txt_bytes (s : ByteArray) : Bp.Bytes (txt1 s) := bytes_app (nb_bytes _ _) (bytesOf_bytes _)
theorem nil_bytes : Bp.Bytes [] := fun x hx => by cases hx
theorem rec_bytes (x : S98) : Bp.Bytes (rec1 x) := by
  unfold rec1 recW
  refine bytes_app (nb_bytes _ _) (bytes_app ?_ (bytes_app ?_ (nb_bytes _ _)))
  · split
    · exact txt_bytes _
    · exact nil_bytes
  · split
    · exact txt_bytes _
    · exact nil_bytes
theorem lw_bytes {α : Type} {one : α → List Int} (ob : α → Bool) (h : ∀ x, Bp.Bytes (one x)) : ∀ (l : List α) (xs : List Int) (b : Bool), Bp.Bytes xs → Bp.Bytes (lw one ob l xs b).1
  | [], _, _, hx => hx
  | x :: l, xs, b, hx => by
    rw [lw]
    split
    · exact hx
    · exact lw_bytes ob h l _ _ (bytes_app hx (h x))
theorem lw_ge {α : Type} (one : α → List Int) (ob : α → Bool) : ∀ (l : List α) (xs : List Int) (b : Bool), xs.length ≤ (lw one ob l xs b).1.length
  | [], _, _ => Nat.le_refl _
  | x :: l, xs, b => by
    rw [lw]
    split
    · exact Nat.le_refl _
    · have := lw_ge one ob l (xs ++ one x) (b || ob x)
      rw [List.length_append] at this
      omega
theorem wF_bytes (m : Msg) (rs : List S98) (f : Int) (s : List Int × Bool) (h : Bp.Bytes s.1) : Bp.Bytes (wF m rs f s).1 ∧ s.1.length ≤ (wF m rs f s).1.length := by
  unfold wF
  split
  · exact ⟨bytes_app h (txt_bytes _), by simp⟩
  split
  · exact ⟨bytes_app h (txt_bytes _), by simp⟩
  split
  · exact ⟨bytes_app h (nb_bytes _ _), by simp⟩
  split
  · exact ⟨lw_bytes _ rec_bytes _ _ _ (bytes_app h (nb_bytes _ _)), Nat.le_trans (by simp) (lw_ge _ _ _ _ _)⟩
  · exact ⟨bytes_app h (nb_bytes _ _), by simp⟩
theorem wFs_bytes (m : Msg) (rs : List S98) : ∀ (L : List Int) (s : List Int × Bool), Bp.Bytes s.1 → Bp.Bytes (wFs m rs L s).1 ∧ s.1.length ≤ (wFs m rs L s).1.length
  | [], _, h => ⟨h, Nat.le_refl _⟩
  | f :: L, s, h => by
    have h1 := wF_bytes m rs f s h
    have h2 := wFs_bytes m rs L (wF m rs f s) h1.1
    exact ⟨h2.1, Nat.le_trans h1.2 h2.2⟩
theorem rqWr_bytes (m : Msg) (rs : List S98) : Bp.Bytes (rqWr m rs).1 ∧ 5 ≤ (rqWr m rs).1.length := by
  have h := wFs_bytes m rs ((codec_fields.f 0 m.kind).getD []) (nb m.kind 1 ++ nb m.id 4, false) (bytes_app (nb_bytes _ _) (nb_bytes _ _))
  refine ⟨h.1, Nat.le_trans ?_ h.2⟩
  simp [nb_len]
theorem small_l0 (l : List S98) (hl : l.length ≤ 4000000000000000000) (hs : ∀ y ∈ l, y.f1.size ≤ 140737488351232 ∧ y.f3.size ≤ 140737488351232) (n : Nat) : ∀ (k i : Nat) (sum : Int), 0 ≤ sum → i + n = l.length → n + 1 ≤ k → ∃ r, bollardalike_Small.l0 k l sum (i : Int) = some r ∧ (r = true → sum + (((l.drop i).map fun y => y.f1.size + y.f3.size).sum : Nat) ≤ 20000 ∧ l.length ≤ 300) := by
  induction n with
  | zero =>
    intro k i sum h0 hi hk
    obtain ⟨K, rfl⟩ : ∃ K, k = K + 1 := ⟨k - 1, by omega⟩
    simp only [bollardalike_Small.l0]
    rw [if_neg (by omega)]
    by_cases c : sum ≤ 20000
    · rw [if_pos c]
      exact ⟨_, rfl, fun h => by have := of_decide_eq_true h; rw [List.drop_eq_nil_of_le (by omega)]; simp; omega⟩
    · rw [if_neg c]
      exact ⟨_, rfl, fun h => by cases h⟩
  | succ n ih =>
    intro k i sum h0 hi hk
    obtain ⟨K, rfl⟩ : ∃ K, k = K + 1 := ⟨k - 1, by omega⟩
    have d1 := drop_rd z98 (l := l) (i := (i : Int)) (by omega) (by omega)
    rw [Int.toNat_natCast, show ((i : Int) + 1).toNat = i + 1 from by omega] at d1
    have hm : rd_T98 l (i : Int) ∈ l := List.mem_of_mem_drop (i := i) (by rw [d1]; exact List.mem_cons_self)
    have hz := hs _ hm
    simp only [bollardalike_Small.l0]
    rw [if_pos (by omega)]
    by_cases c : sum ≤ 20000
    · rw [if_pos c, if_pos (by omega), show wrap64 ((i : Int) + 1) = ((i + 1 : Nat) : Int) from by unfold wrap64; omega]
      rw [show wrap64 (wrap64 (sum + ((rd_T98 l (i : Int)).f1.size : Int)) + ((rd_T98 l (i : Int)).f3.size : Int)) = sum + ((rd_T98 l (i : Int)).f1.size : Int) + ((rd_T98 l (i : Int)).f3.size : Int) from by unfold wrap64; omega]
      obtain ⟨r, h1, h2⟩ := ih K (i + 1) (sum + ((rd_T98 l (i : Int)).f1.size : Int) + ((rd_T98 l (i : Int)).f3.size : Int)) (by omega) (by omega) (by omega)
      refine ⟨r, h1, fun h => ?_⟩
      have := h2 h
      rw [d1, List.map_cons, List.sum_cons]
      refine ⟨?_, this.2⟩
      have e := this.1
      change sum + (((rd_T98 l (i : Int)).f1.size + (rd_T98 l (i : Int)).f3.size + ((l.drop (i + 1)).map fun y => y.f1.size + y.f3.size).sum : Nat) : Int) ≤ 20000
      omega
    · rw [if_neg c]
      exact ⟨_, rfl, fun h => by cases h⟩
theorem sum_recN (l : List S98) : (l.map recN).sum = 13 * l.length + (l.map fun y => y.f1.size + y.f3.size).sum := by
  induction l with
  | nil => rfl
  | cons x l ih => simp only [List.map_cons, List.sum_cons, List.length_cons, ih, recN]; omega
theorem small_f (l : List S98) (hl : l.length ≤ 4000000000000000000) (hs : ∀ y ∈ l, y.f1.size ≤ 140737488351232 ∧ y.f3.size ≤ 140737488351232) : ∃ k r, bollardalike_Small.f k l = some r ∧ (r = true → (l.map recN).sum ≤ 30000) := by
  obtain ⟨r, h1, h2⟩ := small_l0 l hl hs l.length (l.length + 1) 0 (l.length : Int) (by omega) (by omega) (by omega)
  refine ⟨l.length + 1, r, h1, fun h => ?_⟩
  have := h2 h
  rw [List.drop_zero] at this
  rw [sum_recN]
  omega

end Go.Proofs.Ytncfofnikmfjbaa.PCi

namespace Go.Proofs.Ytncfofnikmfjbaa.PCi
open Go.RowKit Go.Proofs.YtncfofnikmfjbaaW.PrintWords Go.Proofs.YtncfofnikmfjbaaW.PrintLast Go.Proofs.YtncfofnikmfjbaaW.PrintMore
attribute [local go_sem] max2_int min2_int max_two min_two max_three min_three max_four min_four
set_option linter.unusedVariables false
set_option linter.unusedSimpArgs false

/-! ### codec: what is read of bytes is read of them with more behind -/
abbrev Rdr (α : Type) := List Int → Bool → α × List Int × Bool
/-- F reads on: with more behind it reads the same; it stays over. -/
def Ext {α : Type} (F : Rdr α) : Prop := (∀ l t b, (F l b).2.2 = false → F (l ++ t) b = ((F l b).1, (F l b).2.1 ++ t, false)) ∧ ∀ l, (F l true).2.2 = true
def fmap {α β : Type} (g : α → β) (F : Rdr α) : Rdr β := fun l b => (g (F l b).1, (F l b).2)
def fbind {α β : Type} (F : Rdr α) (G : α → Rdr β) : Rdr β := fun l b => G (F l b).1 (F l b).2.1 (F l b).2.2
def forr {α : Type} (F : Rdr α) (p : α → Bool) : Rdr α := fun l b => ((F l b).1, (F l b).2.1, (F l b).2.2 || p (F l b).1)
def fpure {α : Type} (x : α) : Rdr α := fun l b => (x, l, b)
theorem Ext.off {α : Type} {F : Rdr α} (h : Ext F) {l : List Int} {b : Bool} (hf : (F l b).2.2 = false) : b = false := by
  cases b with
  | false => rfl
  | true => rw [h.2 l] at hf; cases hf
theorem ext_map {α β : Type} (g : α → β) {F : Rdr α} (h : Ext F) : Ext (fmap g F) := by
  refine ⟨fun l t b hf => ?_, fun l => h.2 l⟩
  have := h.1 l t b hf
  unfold fmap
  rw [this]
theorem ext_pure {α : Type} (x : α) : Ext (fpure x) := ⟨fun l t b hf => by unfold fpure at hf ⊢; dsimp only at hf ⊢; rw [hf], fun _ => rfl⟩
theorem ext_bind {α β : Type} {F : Rdr α} {G : α → Rdr β} (h : Ext F) (hG : ∀ x, Ext (G x)) : Ext (fbind F G) := by
  refine ⟨fun l t b hf => ?_, fun l => ?_⟩
  · have c := (hG _).off hf
    have e := h.1 l t b c
    unfold fbind at hf ⊢
    rw [e]
    dsimp only
    rw [c] at hf ⊢
    exact (hG _).1 _ t false hf
  · unfold fbind
    rw [h.2 l]
    exact (hG _).2 _
theorem ext_or {α : Type} {F : Rdr α} (h : Ext F) (p : α → Bool) : Ext (forr F p) := by
  refine ⟨fun l t b hf => ?_, fun l => by unfold forr; rw [h.2 l]; rfl⟩
  unfold forr at hf ⊢
  dsimp only at hf ⊢
  rw [Bool.or_eq_false_iff] at hf
  rw [h.1 l t b hf.1]
  dsimp only
  rw [hf.2]
  rfl
theorem bytes_ext (n : Int) : Ext (rdBytes n) := by
  refine ⟨fun l t b h => ?_, fun l => by unfold rdBytes; rw [if_pos (.inl rfl)]⟩
  unfold rdBytes at h ⊢
  by_cases c : b = true ∨ (l.length : Int) < n
  · rw [if_pos c] at h; cases h
  · have c2 : ¬ (b = true ∨ ((l ++ t).length : Int) < n) := fun h_ => h_.elim (fun h_ => c (.inl h_)) (fun h_ => c (.inr (by rw [List.length_append] at h_; omega)))
    have c3 : n.toNat ≤ l.length := by
      rcases Int.lt_or_le (l.length : Int) n with h_ | h_
      · exact absurd (.inr h_) c
      · omega
    rw [if_neg c, if_neg c2, List.take_append_of_le_length c3, List.drop_append_of_le_length c3]
theorem num_ext (n : Nat) : Ext (rdNum n) := by
  refine ⟨fun l t b h => ?_, fun l => by unfold rdNum; rw [if_pos (.inl rfl)]⟩
  unfold rdNum at h ⊢
  by_cases c : b = true ∨ l.length < n
  · rw [if_pos c] at h; cases h
  · have c2 : ¬ (b = true ∨ (l ++ t).length < n) := fun h_ => h_.elim (fun h_ => c (.inl h_)) (fun h_ => c (.inr (by rw [List.length_append] at h_; omega)))
    have c3 : n ≤ l.length := by
      rcases Nat.lt_or_ge l.length n with h_ | h_
      · exact absurd (.inr h_) c
      · omega
    rw [if_neg c, if_neg c2, List.take_append_of_le_length c3, List.drop_append_of_le_length c3]
theorem text_ext : Ext rdText := ext_bind (F := rdNum 2) (G := fun n => fmap strOfNums (rdBytes n)) (num_ext 2) (fun n => ext_map _ (bytes_ext n))
theorem opt_ext (is : Bool) : Ext (rdOpt is) := by
  cases is with
  | true => exact text_ext
  | false => exact ext_pure _
theorem rec_ext : Ext rdRec := ext_bind (F := forr (rdNum 1) (fun f => decide (3 < f))) (G := fun f => fbind (rdOpt (rdFl f 1)) fun k => fbind (rdOpt (rdFl f 2)) fun v => fmap (fun t => (⟨rdFl f 1, k, rdFl f 2, v, t, 0⟩ : S98)) (rdNum 8))
  (ext_or (num_ext 1) _) (fun f => ext_bind (opt_ext _) fun k => ext_bind (opt_ext _) fun v => ext_map _ (num_ext 8))
theorem all_ext {α : Type} {one : Rdr α} (ho : Ext one) : ∀ n, Ext (rdAll one n)
  | 0 => ext_pure _
  | n + 1 => by
    have h := ext_bind (F := one) (G := fun x => fmap (fun r => x :: r) (rdAll one n)) ho (fun x => ext_map _ (all_ext ho n))
    have e : ∀ l, rdAll one (n + 1) l false = fbind one (fun x => fmap (fun r => x :: r) (rdAll one n)) l false := fun l => by rw [rdAll, if_neg (by simp)]; rfl
    refine ⟨fun l t b hf => ?_, fun l => by rw [rdAll_bad]⟩
    cases b with
    | true => rw [rdAll_bad] at hf; cases hf
    | false =>
      rw [e] at hf ⊢
      rw [e]
      exact h.1 l t false hf
theorem list_ext {α : Type} {one : Rdr α} (ho : Ext one) : Ext (rdList one) := ext_bind (F := rdNum 2) (G := fun n => rdAll one n.toNat) (num_ext 2) (fun n => all_ext ho _)
def rqRd (f : Int) (m : Msg) (rs : List S98) : Rdr (Msg × List S98) := fun l b => (((rqF f (m, rs, l, b)).1, (rqF f (m, rs, l, b)).2.1), (rqF f (m, rs, l, b)).2.2)
theorem rqF_ext (f : Int) (m : Msg) (rs : List S98) : Ext (rqRd f m rs) := by
  by_cases h0 : f = 0
  · have e : rqRd f m rs = fmap (fun s => ({ m with topic := s }, rs)) rdText := by funext l b; unfold rqRd rqF; rw [if_pos h0]; rfl
    rw [e]; exact ext_map _ text_ext
  by_cases h1 : f = 1
  · have e : rqRd f m rs = fmap (fun s => ({ m with group := s }, rs)) rdText := by funext l b; unfold rqRd rqF; rw [if_neg h0, if_pos h1]; rfl
    rw [e]; exact ext_map _ text_ext
  by_cases h7 : f = 7
  · have e : rqRd f m rs = fmap (fun v => ({ m with comp := v == 1 }, rs)) (forr (rdNum 1) (fun v => decide (1 < v))) := by funext l b; unfold rqRd rqF; rw [if_neg h0, if_neg h1, if_pos h7]; rfl
    rw [e]; exact ext_map _ (ext_or (num_ext 1) _)
  by_cases h16 : f = 16
  · have e : rqRd f m rs = fmap (fun r => (m, r)) (rdList rdRec) := by funext l b; unfold rqRd rqF; rw [if_neg h0, if_neg h1, if_neg h7, if_pos h16]; rfl
    rw [e]; exact ext_map _ (list_ext rec_ext)
  · have e : rqRd f m rs = fmap (fun v => (m.put 0 f v, rs)) (rdNum 8) := by funext l b; unfold rqRd rqF rdInt; rw [if_neg h0, if_neg h1, if_neg h7, if_neg h16]; rfl
    rw [e]; exact ext_map _ (num_ext 8)
def rqRds : List Int → Msg → List S98 → Rdr (Msg × List S98)
  | [], m, rs => fpure (m, rs)
  | f :: L, m, rs => fbind (rqRd f m rs) fun x => rqRds L x.1 x.2
theorem rqRds_ext : ∀ (L : List Int) (m : Msg) (rs : List S98), Ext (rqRds L m rs)
  | [], _, _ => ext_pure _
  | _ :: L, m, rs => ext_bind (rqF_ext _ m rs) fun x => rqRds_ext L x.1 x.2
theorem rqRds_eq : ∀ (L : List Int) (m : Msg) (rs : List S98) (l : List Int) (b : Bool), rqFs L (m, rs, l, b) = ((rqRds L m rs l b).1.1, (rqRds L m rs l b).1.2, (rqRds L m rs l b).2)
  | [], _, _, _, _ => rfl
  | f :: L, m, rs, l, b => rqRds_eq L (rqF f (m, rs, l, b)).1 (rqF f (m, rs, l, b)).2.1 (rqF f (m, rs, l, b)).2.2.1 (rqF f (m, rs, l, b)).2.2.2
/-- All that is read of a request. -/
def rqAll : Rdr (Int × Msg × List S98) := fbind (rdNum 1) fun k => fbind (rdNum 4) fun i => fmap (fun x => (k, x)) (rqRds ((codec_fields.f 0 k).getD []) { msg0 with kind := k, id := i } [])
theorem rqAll_ext : Ext rqAll := ext_bind (num_ext 1) fun _ => ext_bind (num_ext 4) fun _ => ext_map _ (rqRds_ext _ _ _)
theorem rqAll_eq (l : List Int) : (rqAll l false).1.1 = (rdNum 1 l false).1 ∧ (rqAll l false).2 = (rqRaw l).2.2 ∧ (rqAll l false).1.2 = ((rqRaw l).1, (rqRaw l).2.1) := by
  refine ⟨rfl, ?_, ?_⟩
  · unfold rqRaw
    rw [show (rdNum 4 (rdNum 1 l false).2.1 (rdNum 1 l false).2.2).2 = ((rdNum 4 (rdNum 1 l false).2.1 (rdNum 1 l false).2.2).2.1, (rdNum 4 (rdNum 1 l false).2.1 (rdNum 1 l false).2.2).2.2) from rfl, rqRds_eq]
    rfl
  · unfold rqRaw
    rw [show (rdNum 4 (rdNum 1 l false).2.1 (rdNum 1 l false).2.2).2 = ((rdNum 4 (rdNum 1 l false).2.1 (rdNum 1 l false).2.2).2.1, (rdNum 4 (rdNum 1 l false).2.1 (rdNum 1 l false).2.2).2.2) from rfl, rqRds_eq]
    rfl
/-- What is read as a request is none with more behind. -/
theorem parse_more (l t : List Int) (ht : t ≠ []) (h : rqBad l = false) : rqBad (l ++ t) = true := by
  unfold rqBad at h
  simp only [Bool.or_eq_false_iff, decide_eq_false_iff_not] at h
  obtain ⟨h1, h2, h3⟩ := h
  have hr : (rqRaw l).2.2.1 = [] := List.eq_nil_of_length_eq_zero (by omega)
  have e := rqAll_ext.1 l t false (by rw [(rqAll_eq l).2.1]; exact h2)
  have key : (rqRaw (l ++ t)).2.2.1 = t := by
    rw [← (rqAll_eq (l ++ t)).2.1, e, (rqAll_eq l).2.1, hr]
    rfl
  unfold rqBad
  rw [key]
  have : 0 < t.length := by
    cases t with
    | nil => exact absurd rfl ht
    | cons x t => simp
  rw [decide_eq_true this]
  simp
theorem parse_cut (b : List Int) (h : (codec_ParseRequest.f b).2.2 = 0) (j : Nat) (hj : j < b.length) : (codec_ParseRequest.f (b.take j)).2.2 = 13 := by
  unfold codec_ParseRequest.f at h ⊢
  cases hq : rqBad (b.take j) with
  | true => rfl
  | false =>
    have := parse_more (b.take j) (b.drop j) (fun e => by have := congrArg List.length e; rw [List.length_drop] at this; simp at this; omega) hq
    rw [List.take_append_drop] at this
    rw [this] at h
    cases h

end Go.Proofs.Ytncfofnikmfjbaa.PCi

namespace Go.Proofs.Ytncfofnikmfjbaa.PCi
open Go.RowKit Go.Proofs.YtncfofnikmfjbaaW.PrintWords Go.Proofs.YtncfofnikmfjbaaW.PrintLast Go.Proofs.YtncfofnikmfjbaaW.PrintMore
attribute [local go_sem] max2_int min2_int max_two min_two max_three min_three max_four min_four
set_option linter.unusedVariables false
set_option linter.unusedSimpArgs false

structure QqSt (w W : World) (g h : Nat) (s : List Int × Bool) (m : Msg) : Prop where
  wr : Wr W g w.heap.size s.1 s.2
  ms : MsAt W h m
  below : Below w.heap.size w W
theorem QqSt.step {w W W2 : World} {g h : Nat} {s s2 : List Int × Bool} {m : Msg} (q : QqSt w W g h s m) (hgh : h ≠ g) (hw : Wr W2 g w.heap.size s2.1 s2.2) (hk : KeepW W W2 g w.heap.size) : QqSt w W2 g h s2 m := ⟨hw, q.ms.keep hk hgh, q.below.trans hk.below⟩
theorem QqSt.under {w W W2 : World} {g h : Nat} {s : List Int × Bool} {m : Msg} (q : QqSt w W g h s m) (hb : Below W.heap.size W W2) : QqSt w W2 g h s m := ⟨q.wr.below hb, blk_below q.ms hb, below_step q.below hb⟩
theorem rqm_cells {m : Msg} (z : m.Z) : m.cells = #[.int .i64 m.kind, .int .i64 m.id, .string m.topic, .int .i64 m.part, .int .i64 m.parts, .int .i64 m.seg, .int .i64 m.byt, .int .i64 m.age, .bool m.comp, .int .i64 m.delay, .int .i64 m.prod, .int .i64 m.seq, m.u1, .int .i64 m.off, .int .i64 m.max, .int .i64 m.time, .string m.group, .int .i64 0, .int .i64 0, .int .i64 0, .int .i64 0, .int .i64 0, .int .i64 0, .slice none 0 0, .slice none 0 0, .slice none 0 0] := by unfold Msg.cells; rw [z.z1, z.z2, z.z3, z.z4, z.z5, z.z6, z.z7, z.z8, z.z9]
theorem writer_new {w W : World} (hb : Below w.heap.size w W) : Wr (W.alloc (.cells #[.slice none 0 0, .bool false] 64)) W.heap.size w.heap.size [] false ∧ Below w.heap.size w (W.alloc (.cells #[.slice none 0 0, .bool false] 64)) := ⟨⟨none, 0, heap_alloc_new W _, Kd.R_nil _ _ _ _ _⟩, hb.alloc hb.size _⟩
theorem all26m (m : Msg) {A : Option Addr} {n c : Nat} (h : m.u1 = .slice A n c) : (#[.int .i64 m.kind, .int .i64 m.id, .string m.topic, .int .i64 m.part, .int .i64 m.parts, .int .i64 m.seg, .int .i64 m.byt, .int .i64 m.age, .bool m.comp, .int .i64 m.delay, .int .i64 m.prod, .int .i64 m.seq, m.u1, .int .i64 m.off, .int .i64 m.max, .int .i64 m.time, .string m.group, .int .i64 0, .int .i64 0, .int .i64 0, .int .i64 0, .int .i64 0, .int .i64 0, .slice none 0 0, .slice none 0 0, .slice none 0 0] : Array Value).all (·.oneCell') = true := by
  rw [← Array.all_toList]
  simp [h, Value.oneCell']
set_option maxHeartbeats 4000000 in
set_option maxRecDepth 100000 in
theorem codec_Request.calls (m : Msg) (A : Option Addr) (c : Nat) (rs : List S98) (w : World) (hE : EqOk) (hwf : m.Wf) (hz : m.Z) (hid : (Lit.int .i64 m.kind).wf = true) (hu : m.u1 = .slice A rs.length c) (hr : Kd.C k98 w A rs.length rs) (hc : rs.length ≤ c) (hn : rqN m rs ≤ 50000000) (hby : Bp.Bytes (rqWr m rs).1) :
    Calls Try.prog 13 #[.agg #[.int .i64 m.kind, .int .i64 m.id, .string m.topic, .int .i64 m.part, .int .i64 m.parts, .int .i64 m.seg, .int .i64 m.byt, .int .i64 m.age, .bool m.comp, .int .i64 m.delay, .int .i64 m.prod, .int .i64 m.seq, m.u1, .int .i64 m.off, .int .i64 m.max, .int .i64 m.time, .string m.group]] w fun e w' => (∃ v b n, e = .returned (.tuple #[v, .int .i64 n]) ∧ Kd.R (Kd.int .u8) 5 w' w.heap.size (fun _ => True) v b ∧ RqOut m rs b n) ∧ Below w.heap.size w w' := by
  have HE := Aside0.mk hE
  have HWF := Aside0.mk hwf
  have HZ := Aside0.mk hz
  have HID := Aside0.mk hid
  have HU := Aside0.mk hu
  have HR := Aside0.mk hr
  have HC := Aside0.mk hc
  have HN := Aside0.mk hn
  have HBY := Aside0.mk hby
  clear hE hwf hz hid hu hr hc hn hby
  go_enter Try.func13, Try.ntmps13
  go_upto_region 1 with (fail)
  (try simp only [Act.put, List.setIfInBounds_toArray, List.set_cons_zero, List.set_cons_succ])
  have P0 := Aside0.mk (And.intro (heap_alloc_new w (.cells #[.int .i64 m.kind, .int .i64 m.id, .string m.topic, .int .i64 m.part, .int .i64 m.parts, .int .i64 m.seg, .int .i64 m.byt, .int .i64 m.age, .bool m.comp, .int .i64 m.delay, .int .i64 m.prod, .int .i64 m.seq, m.u1, .int .i64 m.off, .int .i64 m.max, .int .i64 m.time, .string m.group] 26)) (below_alloc (Below.refl w.heap.size w) (.cells #[.int .i64 m.kind, .int .i64 m.id, .string m.topic, .int .i64 m.part, .int .i64 m.parts, .int .i64 m.seg, .int .i64 m.byt, .int .i64 m.age, .bool m.comp, .int .i64 m.delay, .int .i64 m.prod, .int .i64 m.seq, m.u1, .int .i64 m.off, .int .i64 m.max, .int .i64 m.time, .string m.group] 26)))
  generalize w.alloc (.cells #[.int .i64 m.kind, .int .i64 m.id, .string m.topic, .int .i64 m.part, .int .i64 m.parts, .int .i64 m.seg, .int .i64 m.byt, .int .i64 m.age, .bool m.comp, .int .i64 m.delay, .int .i64 m.prod, .int .i64 m.seq, m.u1, .int .i64 m.off, .int .i64 m.max, .int .i64 m.time, .string m.group] 26) = w0 at P0 ⊢
  have q0 : w0.cell? ⟨w.heap.size, 0, none⟩ = some (.int .i64 m.kind) := (blk_cell P0.out.1 0).trans rfl
  go_wp2_with fail
  refine (codec_fields.calls 0 m.kind w0 (by decide) HID.out).mono ?_
  rintro e w1 ⟨hp, hb⟩
  obtain ⟨ok, Al, L, rfl, hok, hL, hL7, hC⟩ := fds_out2 hp
  have HOK := Aside0.mk hok
  have HLL := Aside0.mk hL
  have HL7 := Aside0.mk hL7
  have P1 := Aside0.mk (And.intro (blk_below P0.out.1 hb) (below_step P0.out.2 hb))
  have HCL := Aside0.mk (show ∀ g W', w1.heap.size ≤ g → KeepW w1 W' g w.heap.size → Kd.C (Kd.int .i64) W' Al L.length L from fun g W' hg hW => hC g _ W' hg hW)
  have HX := Aside0.mk (show ∀ x ∈ L, x ≠ 17 ∧ x ≠ 18 ∧ x ≠ 19 from fun x hx => by cases hq : codec_fields.f 0 m.kind with | none => rw [hq] at hL; subst hL; cases hx | some L' => rw [hq] at hL; subst hL; exact fields_req hq x hx)
  clear hp hok hL hL7 hC hb q0 P0
  obtain ⟨eb, heb⟩ : ∃ b, b = rqBad1 m := ⟨_, rfl⟩
  have HEB := Aside0.mk (show eb = (!ok || (decide (m.id < 0) || decide (4294967295 < m.id))) from by rw [heb]; unfold rqBad1; rw [HOK.out])
  have HEB0 := Aside0.mk heb
  clear heb
  have q1 : w1.cell? ⟨w.heap.size, 1, none⟩ = some (.int .i64 m.id) := (blk_cell P1.out.1 1).trans rfl
  go_upto_region 2 with (fail)
  (try simp only [Act.put, List.setIfInBounds_toArray, List.set_cons_zero, List.set_cons_succ])
  go_cut [5, 29] (fun v5 v29 wc => v29 = .bool eb ∧ wc = w1)
  case first =>
    go_wp2
    all_goals
      go_meet
      case rel => exact ⟨congrArg Value.bool (by rw [HEB.out]; first | (simp [*]; done) | (simp [*, Bool.or_assoc]; done)), rfl⟩
  obtain ⟨rfl, rfl⟩ := hcut
  clear q1
  cases eb with
  | true =>
    go_wp2_with fail
    refine bodyPost_ret (v := .tuple #[.slice none 0 0, .int .i64 1]) (by simp [results, Try.results13, go_sem]) rfl ?_
    exact ⟨⟨_, [], 1, rfl, Kd.R_nil _ _ _ _ _, .inr ⟨rfl, rfl, fun h_ => by have h1 := HEB0.out; rw [h_.1] at h1; cases h1⟩⟩, P1.out.2⟩
  | false =>
    go_upto_region 5 with (fail)
    (try simp only [Act.put, List.setIfInBounds_toArray, List.set_cons_zero, List.set_cons_succ])
    obtain ⟨g, hg⟩ : ∃ g, g = wc.heap.size := ⟨_, rfl⟩
    have HG := Aside0.mk hg
    have P2 := Aside0.mk (writer_new P1.out.2)
    have B2 := Aside0.mk (blk_alloc P1.out.1 (.cells #[.slice none 0 0, .bool false] 64))
    have K2 := Aside0.mk (KeepW.of_below (g := wc.heap.size) (base := w.heap.size) (below_alloc (Below.refl wc.heap.size wc) (.cells #[.slice none 0 0, .bool false] 64)) P1.out.2.size)
    generalize wc.alloc (.cells #[.slice none 0 0, .bool false] 64) = w2 at P2 B2 K2 ⊢
    rw [← hg] at P2 K2 ⊢
    clear hg
    have HGE := Aside0.mk (show w.heap.size < g from by rw [HG.out]; exact blk_lt P1.out.1)
    have q0 : w2.cell? ⟨w.heap.size, 0, none⟩ = some (.int .i64 m.kind) := (blk_cell B2.out 0).trans rfl
    go_wp2_with fail
    refine (wr_number g w.heap.size [] false m.kind 1 w2 P2.out.1 (Nat.le_of_lt HGE.out) P2.out.2.size (by decide) (by decide) (by decide)).mono ?_
    rintro e w3 ⟨rfl, h1, h2⟩
    have P3 := Aside0.mk (And.intro h1 (P2.out.2.trans h2.below))
    have B3 := Aside0.mk (h2.blk B2.out (by have := HGE.out; omega) (by decide))
    have K3 := Aside0.mk (K2.out.trans h2)
    clear h1 h2 P2 B2 K2 q0
    have q1 : w3.cell? ⟨w.heap.size, 1, none⟩ = some (.int .i64 m.id) := (blk_cell B3.out 1).trans rfl
    go_wp2_with fail
    refine (wr_number g w.heap.size ([] ++ nb m.kind 1) false m.id 4 w3 P3.out.1 (Nat.le_of_lt HGE.out) P3.out.2.size (by decide) (by decide) (by rw [List.length_append, nb_len]; decide)).mono ?_
    rintro e w4 ⟨rfl, h1, h2⟩
    rw [List.nil_append] at h1
    have P4 := Aside0.mk (And.intro h1 (P3.out.2.trans h2.below))
    have B4 := Aside0.mk (h2.blk B3.out (by have := HGE.out; omega) (by decide))
    have K4 := Aside0.mk (K3.out.trans h2)
    clear h1 h2 P3 B3 K3 q1
    go_wp2_with (first | (refine wpl_loadG (by rfl) 26 (.tmp 1) rfl _ rfl B4.out Try.underlying26 rfl info17 ?_) | (refine wpList_store_row rfl 67 (.tmp 7) (.tmp 41) rfl w4.heap.size #[.int .i64 m.kind, .int .i64 m.id, .string m.topic, .int .i64 m.part, .int .i64 m.parts, .int .i64 m.seg, .int .i64 m.byt, .int .i64 m.age, .bool m.comp, .int .i64 m.delay, .int .i64 m.prod, .int .i64 m.seq, m.u1, .int .i64 m.off, .int .i64 m.max, .int .i64 m.time, .string m.group, .int .i64 0, .int .i64 0, .int .i64 0, .int .i64 0, .int .i64 0, .int .i64 0, .slice none 0 0, .slice none 0 0, .slice none 0 0] rfl rfl 67 #[.int .i64 0, .int .i64 0, .string ⟨#[]⟩, .int .i64 0, .int .i64 0, .int .i64 0, .int .i64 0, .int .i64 0, .bool false, .int .i64 0, .int .i64 0, .int .i64 0, .slice none 0 0, .int .i64 0, .int .i64 0, .int .i64 0, .string ⟨#[]⟩, .int .i64 0, .int .i64 0, .int .i64 0, .int .i64 0, .int .i64 0, .int .i64 0, .slice none 0 0, .slice none 0 0, .slice none 0 0] (heap_alloc_new w4 _) info26 rfl (all26m m HU.out) ?_))
    have HH := Aside0.mk (show g < w4.heap.size from P4.out.1.lt)
    have S5 := Aside0.mk (show QqSt w ((w4.alloc (.cells #[.int .i64 0, .int .i64 0, .string ⟨#[]⟩, .int .i64 0, .int .i64 0, .int .i64 0, .int .i64 0, .int .i64 0, .bool false, .int .i64 0, .int .i64 0, .int .i64 0, .slice none 0 0, .int .i64 0, .int .i64 0, .int .i64 0, .string ⟨#[]⟩, .int .i64 0, .int .i64 0, .int .i64 0, .int .i64 0, .int .i64 0, .int .i64 0, .slice none 0 0, .slice none 0 0, .slice none 0 0] 67)).setRow w4.heap.size #[.int .i64 m.kind, .int .i64 m.id, .string m.topic, .int .i64 m.part, .int .i64 m.parts, .int .i64 m.seg, .int .i64 m.byt, .int .i64 m.age, .bool m.comp, .int .i64 m.delay, .int .i64 m.prod, .int .i64 m.seq, m.u1, .int .i64 m.off, .int .i64 m.max, .int .i64 m.time, .string m.group, .int .i64 0, .int .i64 0, .int .i64 0, .int .i64 0, .int .i64 0, .int .i64 0, .slice none 0 0, .slice none 0 0, .slice none 0 0]) g w4.heap.size (nb m.kind 1 ++ nb m.id 4, false) m from have hb := below_row (below_alloc (Below.refl w4.heap.size w4) (.cells #[.int .i64 0, .int .i64 0, .string ⟨#[]⟩, .int .i64 0, .int .i64 0, .int .i64 0, .int .i64 0, .int .i64 0, .bool false, .int .i64 0, .int .i64 0, .int .i64 0, .slice none 0 0, .int .i64 0, .int .i64 0, .int .i64 0, .string ⟨#[]⟩, .int .i64 0, .int .i64 0, .int .i64 0, .int .i64 0, .int .i64 0, .int .i64 0, .slice none 0 0, .slice none 0 0, .slice none 0 0] 67)) (Nat.le_refl _) #[.int .i64 m.kind, .int .i64 m.id, .string m.topic, .int .i64 m.part, .int .i64 m.parts, .int .i64 m.seg, .int .i64 m.byt, .int .i64 m.age, .bool m.comp, .int .i64 m.delay, .int .i64 m.prod, .int .i64 m.seq, m.u1, .int .i64 m.off, .int .i64 m.max, .int .i64 m.time, .string m.group, .int .i64 0, .int .i64 0, .int .i64 0, .int .i64 0, .int .i64 0, .int .i64 0, .slice none 0 0, .slice none 0 0, .slice none 0 0]; ⟨P4.out.1.below hb, by unfold MsAt; rw [rqm_cells HZ.out]; exact setRow_heap _ _ _ _ _ _ (heap_alloc_new w4 _), below_step P4.out.2 hb⟩)
    have K5 := Aside0.mk (show KeepW wc ((w4.alloc (.cells #[.int .i64 0, .int .i64 0, .string ⟨#[]⟩, .int .i64 0, .int .i64 0, .int .i64 0, .int .i64 0, .int .i64 0, .bool false, .int .i64 0, .int .i64 0, .int .i64 0, .slice none 0 0, .int .i64 0, .int .i64 0, .int .i64 0, .string ⟨#[]⟩, .int .i64 0, .int .i64 0, .int .i64 0, .int .i64 0, .int .i64 0, .int .i64 0, .slice none 0 0, .slice none 0 0, .slice none 0 0] 67)).setRow w4.heap.size #[.int .i64 m.kind, .int .i64 m.id, .string m.topic, .int .i64 m.part, .int .i64 m.parts, .int .i64 m.seg, .int .i64 m.byt, .int .i64 m.age, .bool m.comp, .int .i64 m.delay, .int .i64 m.prod, .int .i64 m.seq, m.u1, .int .i64 m.off, .int .i64 m.max, .int .i64 m.time, .string m.group, .int .i64 0, .int .i64 0, .int .i64 0, .int .i64 0, .int .i64 0, .int .i64 0, .slice none 0 0, .slice none 0 0, .slice none 0 0]) g w.heap.size from K4.out.trans (KeepW.of_below (below_row (below_alloc (Below.refl w4.heap.size w4) (.cells #[.int .i64 0, .int .i64 0, .string ⟨#[]⟩, .int .i64 0, .int .i64 0, .int .i64 0, .int .i64 0, .int .i64 0, .bool false, .int .i64 0, .int .i64 0, .int .i64 0, .slice none 0 0, .int .i64 0, .int .i64 0, .int .i64 0, .string ⟨#[]⟩, .int .i64 0, .int .i64 0, .int .i64 0, .int .i64 0, .int .i64 0, .int .i64 0, .slice none 0 0, .slice none 0 0, .slice none 0 0] 67)) (Nat.le_refl _) #[.int .i64 m.kind, .int .i64 m.id, .string m.topic, .int .i64 m.part, .int .i64 m.parts, .int .i64 m.seg, .int .i64 m.byt, .int .i64 m.age, .bool m.comp, .int .i64 m.delay, .int .i64 m.prod, .int .i64 m.seq, m.u1, .int .i64 m.off, .int .i64 m.max, .int .i64 m.time, .string m.group, .int .i64 0, .int .i64 0, .int .i64 0, .int .i64 0, .int .i64 0, .int .i64 0, .slice none 0 0, .slice none 0 0, .slice none 0 0]) P4.out.2.size))
    generalize (w4.alloc (.cells #[.int .i64 0, .int .i64 0, .string ⟨#[]⟩, .int .i64 0, .int .i64 0, .int .i64 0, .int .i64 0, .int .i64 0, .bool false, .int .i64 0, .int .i64 0, .int .i64 0, .slice none 0 0, .int .i64 0, .int .i64 0, .int .i64 0, .string ⟨#[]⟩, .int .i64 0, .int .i64 0, .int .i64 0, .int .i64 0, .int .i64 0, .int .i64 0, .slice none 0 0, .slice none 0 0, .slice none 0 0] 67)).setRow w4.heap.size #[.int .i64 m.kind, .int .i64 m.id, .string m.topic, .int .i64 m.part, .int .i64 m.parts, .int .i64 m.seg, .int .i64 m.byt, .int .i64 m.age, .bool m.comp, .int .i64 m.delay, .int .i64 m.prod, .int .i64 m.seq, m.u1, .int .i64 m.off, .int .i64 m.max, .int .i64 m.time, .string m.group, .int .i64 0, .int .i64 0, .int .i64 0, .int .i64 0, .int .i64 0, .int .i64 0, .slice none 0 0, .slice none 0 0, .slice none 0 0] = w5 at S5 K5 ⊢
    obtain ⟨h, hh⟩ : ∃ h, h = w4.heap.size := ⟨_, rfl⟩
    rw [← hh] at S5 HH ⊢
    have HGH := Aside0.mk (show h ≠ g from by have := HH.out; omega)
    clear P4 B4 K4 hh
    obtain ⟨S_, hS_⟩ : ∃ s, s = rqWr m rs := ⟨_, rfl⟩
    have HS_ := Aside0.mk hS_
    have HS2 := Aside0.mk (show wFs m rs L (nb m.kind 1 ++ nb m.id 4, false) = S_ from by rw [hS_]; unfold rqWr; rw [HLL.out])
    clear hS_
    have HLR := Aside0.mk (show ∀ W, Below w.heap.size w W → Kd.C k98 W A rs.length rs from fun W hW => Kd.C_below HR.out hW)
    have HWC := Aside0.mk (show wc.heap.size ≤ g from by rw [HG.out]; exact Nat.le_refl _)
    go_loopg [44] (L.length + 1) (fun kq v44 w' => ∃ (i : Int) (s : List Int × Bool), v44 = .int .i64 i ∧ Aside0 (kq + i.toNat = L.length + 1 ∧ 0 ≤ i ∧ i ≤ (L.length : Int)) ∧ Aside0 (wFs m rs (L.drop i.toNat) s = S_) ∧ Aside0 (QqSt w w' g h s m) ∧ Aside0 (KeepW wc w' g w.heap.size) ∧ Aside0 (s.1.length ≤ 5 + i.toNat * 50000008))
    case atStart => exact ⟨0, _, rfl, ⟨by simp, by omega, by omega⟩, HS2, S5, K5, ⟨by rw [List.length_append, nb_len, nb_len]; simp⟩⟩
    case round =>
      obtain ⟨i, s, rfl, HI, HA, HQ, HK, HLn⟩ := hrel
      clear S5 K5 HS2
      by_cases hi : i < (L.length : Int)
      · have d1 : decide (i < (L.length : Int)) = true := decide_eq_true hi
        have h0 := HI.out.2.1
        obtain ⟨ad, ea, x0⟩ := Kd.at_int (HCL.out g wr HWC.out HK.out) i h0 hi
        cases ea
        have p1 := eq_true h0
        have p2 := eq_true hi
        have HE2 := Aside0.mk (show wFs m rs (rd L i :: L.drop (i + 1).toNat) s = S_ from by have h_ := drop_rd (0 : Int) h0 hi; rw [← HA.out, h_]; rfl)
        have e1 : IntKind.i64.wrap (i + 1) = i + 1 := (i64_w _).trans (by have := HL7.out; unfold wrap64; omega)
        have hx := HX.out (rd L i) (List.mem_of_mem_drop (i := i.toNat) (by have h_ := drop_rd (0 : Int) h0 hi; rw [h_]; exact List.mem_cons_self))
        have HX2 := Aside0.mk hx
        have HI2 := Aside0.mk hi
        clear hx hi h0
        go_wp2_with fail
        refine (rq_wfield g w.heap.size h (rd L i) s m A c rs wr HQ.out.wr (Nat.le_of_lt HGE.out) HQ.out.below.size HQ.out.ms HU.out (fun W hW => HLR.out W (HQ.out.below.trans hW)) (by have := HLn.out; have := HN.out; have := HI.out; have := HI2.out; have := HL7.out; have : i.toNat ≤ 6 := (by omega); have : i.toNat * 50000008 ≤ 6 * 50000008 := Nat.mul_le_mul_right _ this; omega) HX2.out.1 HX2.out.2.1 HX2.out.2.2).mono ?_
        rintro e w9 ⟨rfl, h3, h4⟩
        have Q2 := Aside0.mk (HQ.out.step HGH.out h3 h4)
        have K2 := Aside0.mk (HK.out.trans h4)
        have N2 := Aside0.mk (show (wF m rs (rd L i) s).1.length ≤ 5 + (i + 1).toNat * 50000008 from by have := wF_len m rs (rd L i) s; have := HLn.out; have := HN.out; rw [show (i + 1).toNat = i.toNat + 1 from by have := HI.out; omega]; omega)
        clear h3 h4 HQ HK HLn x0
        go_wp2_with fail
        go_roundg (L.length + 1 - (i + 1).toNat)
        case measure => have := HI.out; have := HI2.out; omega
        case rel => exact ⟨i + 1, wF m rs (rd L i) s, by first | rfl | (rw [e1]), ⟨by have := HI.out; have := HI2.out; omega, by have := HI.out; omega, by have := HI2.out; omega⟩, ⟨HE2.out⟩, Q2, K2, N2⟩
      · have d1 : decide (i < (L.length : Int)) = false := decide_eq_false hi
        have hs := HA.out
        rw [List.drop_eq_nil_of_le (by have := HI.out; omega)] at hs
        change s = S_ at hs
        subst hs
        have HSL := Aside0.mk (show s.1.length ≤ 400000000 from by have := HLn.out; have := HI.out; have := HL7.out; have : i.toNat ≤ 7 := (by omega); have : i.toNat * 50000008 ≤ 7 * 50000008 := Nat.mul_le_mul_right _ this; omega)
        clear hi HA HK HLn HX HCL HI
        obtain ⟨b, sb⟩ := s
        dsimp only at HSL
        obtain ⟨Aw, cw, hgw, hRw⟩ := HQ.out.wr
        have q0 : wr.cell? ⟨g, 0, none⟩ = some (.slice Aw b.length cw) := (blk_cell hgw 0).trans rfl
        have q1 : wr.cell? ⟨g, 1, none⟩ = some (.bool sb) := (blk_cell hgw 1).trans rfl
        have HRw := Aside0.mk hRw
        have HGw := Aside0.mk hgw
        clear hgw hRw
        cases sb with
        | true =>
          go_wp2_with fail
          refine bodyPost_ret (v := .tuple #[.slice none 0 0, .int .i64 1]) (by simp [results, Try.results13, go_sem]) rfl ?_
          exact ⟨⟨_, [], 1, rfl, Kd.R_nil _ _ _ _ _, .inr ⟨rfl, rfl, fun h_ => by have h1 := HS_.out; rw [← h1] at h_; exact absurd h_.2.1 (by simp)⟩⟩, HQ.out.below⟩
        | false =>
          go_wp2_with fail
          have HBb := Aside0.mk (show Bp.Bytes b from by have h1 := HBY.out; rw [← HS_.out] at h1; exact h1)
          refine (codec_ParseRequest.calls Aw cw b wr (Kd.R_reads' HRw.out).2.2 (Kd.R_reads' HRw.out).2.1 HBb.out).mono ?_
          rintro e w6 ⟨⟨v, rfl, hv⟩, hb⟩
          obtain ⟨⟨n, rs', er⟩, hp⟩ : ∃ p, p = codec_ParseRequest.f b := ⟨_, rfl⟩
          have HP := Aside0.mk hp
          have hok := parse_ok b HBb.out (by have := HSL.out; omega)
          rw [← hp] at hok hv ⊢
          dsimp only at hok hv ⊢
          have HOK2 := Aside0.mk hok
          obtain ⟨Av, cv, ev⟩ := Kd.R_slice hv
          subst ev
          have HV := Aside0.mk hv
          have Q6 := Aside0.mk (HQ.out.under hb)
          have G6 := Aside0.mk (blk_below HGw.out hb)
          have R6 := Aside0.mk (Kd.R_below HRw.out hb)
          clear hp hok hv hb HQ HGw HRw q0 q1
          go_upto_region 16 with (refine wpList_store_row rfl 26 (.tmp 10) (.tmp 62) rfl w6.heap.size #[.int .i64 n.kind, .int .i64 n.id, .string n.topic, .int .i64 n.part, .int .i64 n.parts, .int .i64 n.seg, .int .i64 n.byt, .int .i64 n.age, .bool n.comp, .int .i64 n.delay, .int .i64 n.prod, .int .i64 n.seq, .slice Av rs'.length cv, .int .i64 n.off, .int .i64 n.max, .int .i64 n.time, .string n.group] rfl rfl 26 #[.int .i64 0, .int .i64 0, .string ⟨#[]⟩, .int .i64 0, .int .i64 0, .int .i64 0, .int .i64 0, .int .i64 0, .bool false, .int .i64 0, .int .i64 0, .int .i64 0, .slice none 0 0, .int .i64 0, .int .i64 0, .int .i64 0, .string ⟨#[]⟩] (heap_alloc_new w6 _) info17 rfl (req_all { n with u1 := .slice Av rs'.length cv } rfl) ?_)
          (try simp only [Act.put, List.setIfInBounds_toArray, List.set_cons_zero, List.set_cons_succ])
          have hb7 := below_row (below_alloc (Below.refl w6.heap.size w6) (.cells #[.int .i64 0, .int .i64 0, .string ⟨#[]⟩, .int .i64 0, .int .i64 0, .int .i64 0, .int .i64 0, .int .i64 0, .bool false, .int .i64 0, .int .i64 0, .int .i64 0, .slice none 0 0, .int .i64 0, .int .i64 0, .int .i64 0, .string ⟨#[]⟩] 26)) (Nat.le_refl _) #[.int .i64 n.kind, .int .i64 n.id, .string n.topic, .int .i64 n.part, .int .i64 n.parts, .int .i64 n.seg, .int .i64 n.byt, .int .i64 n.age, .bool n.comp, .int .i64 n.delay, .int .i64 n.prod, .int .i64 n.seq, .slice Av rs'.length cv, .int .i64 n.off, .int .i64 n.max, .int .i64 n.time, .string n.group]
          have Q7 := Aside0.mk (Q6.out.under hb7)
          have G7 := Aside0.mk (blk_below G6.out hb7)
          have R7 := Aside0.mk (Kd.R_below R6.out hb7)
          have V7 := Aside0.mk (Kd.R_below HV.out hb7)
          have T7 := Aside0.mk (setRow_heap _ _ _ #[.int .i64 n.kind, .int .i64 n.id, .string n.topic, .int .i64 n.part, .int .i64 n.parts, .int .i64 n.seg, .int .i64 n.byt, .int .i64 n.age, .bool n.comp, .int .i64 n.delay, .int .i64 n.prod, .int .i64 n.seq, .slice Av rs'.length cv, .int .i64 n.off, .int .i64 n.max, .int .i64 n.time, .string n.group] _ _ (heap_alloc_new w6 (.cells #[.int .i64 0, .int .i64 0, .string ⟨#[]⟩, .int .i64 0, .int .i64 0, .int .i64 0, .int .i64 0, .int .i64 0, .bool false, .int .i64 0, .int .i64 0, .int .i64 0, .slice none 0 0, .int .i64 0, .int .i64 0, .int .i64 0, .string ⟨#[]⟩] 26)))
          generalize (w6.alloc (.cells #[.int .i64 0, .int .i64 0, .string ⟨#[]⟩, .int .i64 0, .int .i64 0, .int .i64 0, .int .i64 0, .int .i64 0, .bool false, .int .i64 0, .int .i64 0, .int .i64 0, .slice none 0 0, .int .i64 0, .int .i64 0, .int .i64 0, .string ⟨#[]⟩] 26)).setRow w6.heap.size #[.int .i64 n.kind, .int .i64 n.id, .string n.topic, .int .i64 n.part, .int .i64 n.parts, .int .i64 n.seg, .int .i64 n.byt, .int .i64 n.age, .bool n.comp, .int .i64 n.delay, .int .i64 n.prod, .int .i64 n.seq, .slice Av rs'.length cv, .int .i64 n.off, .int .i64 n.max, .int .i64 n.time, .string n.group] = w7 at Q7 G7 R7 V7 T7 ⊢
          clear hb7 Q6 G6 R6 HV
          by_cases he : er = 0
          case neg =>
            have d2 : (er == 0) = false := beq_eq_false_iff_ne.2 he
            have d3 : (er != 0) = true := by simpa using he
            have HER := Aside0.mk he
            clear he
            go_wp2_with fail
            refine bodyPost_ret (v := .tuple #[.slice none 0 0, .int .i64 1]) (by simp [results, Try.results13, go_sem]) rfl ?_
            exact ⟨⟨_, [], 1, rfl, Kd.R_nil _ _ _ _ _, .inr ⟨rfl, rfl, fun h_ => by have h1 := HS_.out; rw [← h1, ← HP.out] at h_; exact HER.out h_.2.2.1⟩⟩, Q7.out.below⟩
          subst he
          go_wp2_with (first | (refine wpl_loadG (by rfl) 67 (.tmp 7) rfl _ rfl Q7.out.ms Try.underlying67 rfl info26 ?_) | (refine wpl_loadG (by rfl) 26 (.tmp 10) rfl _ rfl T7.out Try.underlying26 rfl info17 ?_))
          have hsm := same_rq m { n with u1 := .slice Av rs'.length cv } A Av c cv rs rs' w7 HE.out HWF.out ⟨HOK2.out.1.ints, HOK2.out.1.topic, HOK2.out.1.group⟩ HZ.out ⟨HOK2.out.2.z1, HOK2.out.2.z2, HOK2.out.2.z3, HOK2.out.2.z4, HOK2.out.2.z5, HOK2.out.2.z6, HOK2.out.2.z7, HOK2.out.2.z8, HOK2.out.2.z9⟩ HU.out rfl (HLR.out w7 Q7.out.below) HC.out (Kd.R_reads' V7.out).2.2 (Kd.R_reads' V7.out).2.1 HR.out.2.1
          rw [rqm_cells (m := { n with u1 := .slice Av rs'.length cv }) ⟨HOK2.out.2.z1, HOK2.out.2.z2, HOK2.out.2.z3, HOK2.out.2.z4, HOK2.out.2.z5, HOK2.out.2.z6, HOK2.out.2.z7, HOK2.out.2.z8, HOK2.out.2.z9⟩] at hsm
          refine hsm.mono ?_
          clear hsm
          rintro e w8 ⟨⟨r, rfl, hr⟩, hb⟩
          have HRR := Aside0.mk hr
          have Q8 := Aside0.mk (Q7.out.under hb)
          have G8 := Aside0.mk (blk_below G7.out hb)
          have R8 := Aside0.mk (Kd.R_below R7.out hb)
          clear hr hb Q7 G7 R7 V7 T7
          cases r with
          | false =>
            go_wp2_with fail
            refine bodyPost_ret (v := .tuple #[.slice none 0 0, .int .i64 1]) (by simp [results, Try.results13, go_sem]) rfl ?_
            exact ⟨⟨_, [], 1, rfl, Kd.R_nil _ _ _ _ _, .inr ⟨rfl, rfl, fun h_ => by have h1 := HS_.out; rw [← h1, ← HP.out] at h_; have h2 := HRR.out.2 h_.2.2.2; cases h2⟩⟩, Q8.out.below⟩
          | true =>
            have q0 : w8.cell? ⟨g, 0, none⟩ = some (.slice Aw b.length cw) := (blk_cell G8.out 0).trans rfl
            go_wp2_with fail
            refine bodyPost_ret (v := .tuple #[.slice Aw b.length cw, .int .i64 0]) (by simp [results, Try.results13, go_sem]) rfl ?_
            exact ⟨⟨_, b, 0, rfl, R8.out, .inl (by have h1 := HS_.out; rw [← h1, ← HP.out]; exact ⟨rfl, rfl, HEB0.out.symm, rfl, rfl, HRR.out.1 (by first | rfl | trivial)⟩)⟩, Q8.out.below⟩

end Go.Proofs.Ytncfofnikmfjbaa.PCi

namespace Go.Proofs.Ytncfofnikmfjbaa.PCi
open Go.RowKit Go.Proofs.YtncfofnikmfjbaaW.PrintWords Go.Proofs.YtncfofnikmfjbaaW.PrintLast Go.Proofs.YtncfofnikmfjbaaW.PrintMore
attribute [local go_sem] max2_int min2_int max_two min_two max_three min_three max_four min_four
set_option linter.unusedVariables false
set_option linter.unusedSimpArgs false

/-! ### bollardlaw20.awake -/
def aw : Msg := ⟨2, 7, ⟨#[97]⟩, 0, 0, 0, 0, 0, false, 0, 0, 0, .slice none 0 0, 0, 0, 0, ⟨#[]⟩, 0, 0, 0, 0, 0, 0, .slice none 0 0, .slice none 0 0, .slice none 0 0⟩
def awB : List Int := [2, 0, 0, 0, 7, 0, 1, 97]
theorem aw_bad : rqBad1 aw = false := by kernel_rfl
theorem aw_wr : rqWr aw [] = (awB, false) := by kernel_rfl
theorem aw_e : (codec_ParseRequest.f awB).2.2 = 0 := by kernel_rfl
theorem aw_rs : (codec_ParseRequest.f awB).2.1 = [] := by kernel_rfl
theorem aw_lits : (codec_ParseRequest.f awB).1.lits = aw.lits := by kernel_rfl
theorem aw_none : (codec_ParseRequest.f [2]).2.2 = 13 := by kernel_rfl
theorem row_C8 {W : World} {q : Nat} {L : List Int} {T : TypeId} {fz : Nat × Nat} (hb : W.heap[q]? = some (.cells (L.map (Value.int .u8)).toArray T fz)) (hx : L.length ≤ 9223372036854775807) : Kd.C (Kd.int .u8) W (some ⟨q, 0, none⟩) L.length L := by
  refine Kd.C_of_reads (d := (0 : Int)) (h1 := fun _ => rfl) ⟨rfl, hx, fun _ => ⟨_, rfl, fun j hj => ?_⟩⟩
  have ha : (⟨q, 0, none⟩ : Addr).add j = ⟨q, j, none⟩ := by unfold Addr.add; split <;> simp_all
  rw [ha]
  unfold World.cell?
  simp only [hb]
  simp [List.getElem?_eq_getElem hj, List.getD_eq_getElem?_getD]
theorem aw_out {b : List Int} {n : Int} (h : RqOut aw [] b n) : b = awB ∧ n = 0 := by
  unfold RqOut at h
  rw [aw_wr] at h
  rcases h with ⟨h1, h2, _⟩ | ⟨_, _, h3⟩
  · exact ⟨h1, h2⟩
  · exact absurd ⟨aw_bad, rfl, aw_e, aw_lits.symm, aw_rs.symm⟩ h3
theorem aw_wf : aw.Wf := ⟨by intro x hx; simp only [Msg.ints, aw, List.mem_cons, List.not_mem_nil, or_false] at hx; exact wf64 (by omega), by decide, by decide⟩
theorem aw_bytes : Bp.Bytes (rqWr aw []).1 := by rw [aw_wr]; intro x hx; simp only [awB, List.mem_cons, List.not_mem_nil, or_false] at hx; omega
set_option maxHeartbeats 4000000 in
set_option maxRecDepth 100000 in
theorem bollardlaw20_awake.calls (hE : EqOk) (w : World) : Calls Try.prog 12 #[] w fun e w' => e = .returned (.bool true) ∧ Below w.heap.size w w' := by
  have HE := Aside0.mk hE
  clear hE
  go_enter Try.func12, Try.ntmps12
  go_wp2_with fail
  refine (codec_Request.calls aw none 0 [] w HE.out aw_wf ⟨rfl, rfl, rfl, rfl, rfl, rfl, rfl, rfl, rfl⟩ (wf64 (by decide)) rfl (Kd.C_nil _ _) (Nat.le_refl _) (by decide) aw_bytes).mono ?_
  rintro e w1 ⟨⟨v, b, n, rfl, hv, ho⟩, hb⟩
  obtain ⟨rfl, rfl⟩ := aw_out ho
  obtain ⟨Av, cv, ev⟩ := Kd.R_slice hv
  subst ev
  have HV := Aside0.mk hv
  have HB := Aside0.mk hb
  clear hv ho hb
  go_wp2_with fail
  have B2 := Aside0.mk (below_step HB.out (below_alloc (Below.refl w1.heap.size w1) (.cells #[.int .u8 2] 5)))
  have V2 := Aside0.mk (Kd.R_below HV.out (below_alloc (Below.refl w1.heap.size w1) (.cells #[.int .u8 2] 5)))
  have C2 := Aside0.mk (row_C8 (L := [2]) (heap_alloc_new w1 (.cells #[.int .u8 2] 5)) (by decide))
  generalize w1.alloc (.cells #[.int .u8 2] 5) = w2 at B2 V2 C2 ⊢
  clear HB HV
  refine (codec_ParseRequest.calls _ 1 [2] w2 C2.out (Nat.le_refl _) (by intro x hx; simp only [List.mem_cons, List.not_mem_nil, or_false] at hx; omega)).mono ?_
  rintro e w3 ⟨⟨v, rfl, hv⟩, hb⟩
  rw [aw_none]
  obtain ⟨p, hp⟩ : ∃ p, p = (codec_ParseRequest.f [2]).1 := ⟨_, rfl⟩
  rw [← hp]
  obtain ⟨Ap, cp, ep⟩ := Kd.R_slice hv
  subst ep
  obtain ⟨np, hnp⟩ : ∃ k, k = (codec_ParseRequest.f [2]).2.1.length := ⟨_, rfl⟩
  rw [← hnp]
  have B3 := Aside0.mk (below_step B2.out hb)
  have V3 := Aside0.mk (Kd.R_below V2.out hb)
  clear hv hb hp hnp C2 B2 V2
  go_upto_region 3 with (refine wpList_store_row rfl 26 (.tmp 3) (.tmp 13) rfl w3.heap.size (Msg.req { p with u1 := .slice Ap np cp }) rfl rfl 26 #[.int .i64 0, .int .i64 0, .string ⟨#[]⟩, .int .i64 0, .int .i64 0, .int .i64 0, .int .i64 0, .int .i64 0, .bool false, .int .i64 0, .int .i64 0, .int .i64 0, .slice none 0 0, .int .i64 0, .int .i64 0, .int .i64 0, .string ⟨#[]⟩] (heap_alloc_new w3 _) info17 rfl (req_all _ rfl) ?_)
  (try simp only [Act.put, List.setIfInBounds_toArray, List.set_cons_zero, List.set_cons_succ])
  have hb4 := below_row (below_alloc (Below.refl w3.heap.size w3) (.cells #[.int .i64 0, .int .i64 0, .string ⟨#[]⟩, .int .i64 0, .int .i64 0, .int .i64 0, .int .i64 0, .int .i64 0, .bool false, .int .i64 0, .int .i64 0, .int .i64 0, .slice none 0 0, .int .i64 0, .int .i64 0, .int .i64 0, .string ⟨#[]⟩] 26)) (Nat.le_refl _) (Msg.req { p with u1 := .slice Ap np cp })
  have B4 := Aside0.mk (below_step B3.out hb4)
  have V4 := Aside0.mk (Kd.R_below V3.out hb4)
  generalize (w3.alloc (.cells #[.int .i64 0, .int .i64 0, .string ⟨#[]⟩, .int .i64 0, .int .i64 0, .int .i64 0, .int .i64 0, .int .i64 0, .bool false, .int .i64 0, .int .i64 0, .int .i64 0, .slice none 0 0, .int .i64 0, .int .i64 0, .int .i64 0, .string ⟨#[]⟩] 26)).setRow w3.heap.size (Msg.req { p with u1 := .slice Ap np cp }) = w4 at B4 V4 ⊢
  clear hb4 B3 V3
  go_wp2_with fail
  have hb5 := below_alloc (Below.refl w4.heap.size w4) (.cells #[.int .u8 2, .int .u8 0, .int .u8 0, .int .u8 0, .int .u8 7, .int .u8 0, .int .u8 1, .int .u8 97] 5)
  have C5 := Aside0.mk (row_C8 (L := awB) (heap_alloc_new w4 (.cells #[.int .u8 2, .int .u8 0, .int .u8 0, .int .u8 0, .int .u8 7, .int .u8 0, .int .u8 1, .int .u8 97] 5)) (by decide))
  refine (bollardalike_Bytes.calls 20 Av cv awB _ 8 awB true _ (Kd.C_below (Kd.R_reads' V4.out).2.2 hb5) (Kd.R_reads' V4.out).2.1 C5.out (by decide) (by kernel_rfl)).mono ?_
  rintro e w6 ⟨rfl, hb6⟩
  have B6 := Aside0.mk (below_step (below_step B4.out hb5) (Drawn0.below hb6))
  clear hb5 hb6 C5 B4 V4
  go_wp2_with fail
  go_ret
  exact ⟨rfl, B6.out⟩

end Go.Proofs.Ytncfofnikmfjbaa.PCi

namespace Go.Proofs.Ytncfofnikmfjbaa.PCi
open Go.RowKit Go.Proofs.YtncfofnikmfjbaaW.PrintWords Go.Proofs.YtncfofnikmfjbaaW.PrintLast Go.Proofs.YtncfofnikmfjbaaW.PrintMore
attribute [local go_sem] max2_int min2_int max_two min_two max_three min_three max_four min_four
set_option linter.unusedVariables false
set_option linter.unusedSimpArgs false

/-! ### codec's laws: what they share -/
/-- What is known of a request that a law is handed. -/
structure RqArg (m : Msg) (l : List S98) : Prop where
  wf : m.Wf
  z : m.Z
  kind : (Lit.int .i64 m.kind).wf = true
  len : l.length ≤ 2305843009213693951
  recs : ∀ y ∈ l, y.f1.size ≤ 140737488351232 ∧ y.f3.size ≤ 140737488351232
  topic : m.topic.size ≤ 140737488351232
  group : m.group.size ≤ 140737488351232
theorem rq_arg (a0_0 : Int) (a0_1 : Int) (a0_2 : ByteArray) (a0_3 : Int) (a0_4 : Int) (a0_5 : Int) (a0_6 : Int) (a0_7 : Int) (a0_8 : Bool) (a0_9 : Int) (a0_10 : Int) (a0_11 : Int) (A0_12 : Option Addr) (c0_12 : Nat) (l0_12 : List S98) (a0_13 : Int) (a0_14 : Int) (a0_15 : Int) (a0_16 : ByteArray) (h0 : (Lit.int .i64 a0_0).wf = true) (h1 : (Lit.int .i64 a0_1).wf = true) (h2 : a0_2.size ≤ 140737488351232) (h3 : (Lit.int .i64 a0_3).wf = true) (h4 : (Lit.int .i64 a0_4).wf = true) (h5 : (Lit.int .i64 a0_5).wf = true) (h6 : (Lit.int .i64 a0_6).wf = true) (h7 : (Lit.int .i64 a0_7).wf = true) (h9 : (Lit.int .i64 a0_9).wf = true) (h10 : (Lit.int .i64 a0_10).wf = true) (h11 : (Lit.int .i64 a0_11).wf = true) (h12 : l0_12.length * 64 ≤ 140737488351232 ∧ ∀ y0 ∈ l0_12, (True ∧ (y0.f1.size ≤ 140737488351232 ∧ (True ∧ (y0.f3.size ≤ 140737488351232 ∧ ((Lit.int .i64 y0.f4).wf = true ∧ (Lit.int .i64 y0.f5).wf = true)))))) (h13 : (Lit.int .i64 a0_13).wf = true) (h14 : (Lit.int .i64 a0_14).wf = true) (h15 : (Lit.int .i64 a0_15).wf = true) (h16 : a0_16.size ≤ 140737488351232) : RqArg (⟨a0_0, a0_1, a0_2, a0_3, a0_4, a0_5, a0_6, a0_7, a0_8, a0_9, a0_10, a0_11, (.slice A0_12 l0_12.length c0_12), a0_13, a0_14, a0_15, a0_16, 0, 0, 0, 0, 0, 0, .slice none 0 0, .slice none 0 0, .slice none 0 0⟩ : Msg) l0_12 where
  wf := ⟨fun x hx => by
    simp only [Msg.ints, List.mem_cons, List.not_mem_nil, or_false] at hx
    rcases hx with rfl | rfl | rfl | rfl | rfl | rfl | rfl | rfl | rfl | rfl | rfl | rfl | rfl | rfl | rfl | rfl | rfl | rfl
    all_goals first | assumption | decide, Nat.le_trans h2 (by decide), Nat.le_trans h16 (by decide)⟩
  z := ⟨rfl, rfl, rfl, rfl, rfl, rfl, rfl, rfl, rfl⟩
  kind := h0
  len := by have := h12.1; omega
  recs := fun y hy => ⟨(h12.2 y hy).2.1, (h12.2 y hy).2.2.2.1⟩
  topic := h2
  group := h16
theorem in_f (a0_0 : Int) (a0_1 : Int) (a0_2 : ByteArray) (a0_3 : Int) (a0_4 : Int) (a0_5 : Int) (a0_6 : Int) (a0_7 : Int) (a0_8 : Bool) (a0_9 : Int) (a0_10 : Int) (a0_11 : Int) (A0_12 : Option Addr) (c0_12 : Nat) (l0_12 : List S98) (a0_13 : Int) (a0_14 : Int) (a0_15 : Int) (a0_16 : ByteArray) (h : RqArg (⟨a0_0, a0_1, a0_2, a0_3, a0_4, a0_5, a0_6, a0_7, a0_8, a0_9, a0_10, a0_11, (.slice A0_12 l0_12.length c0_12), a0_13, a0_14, a0_15, a0_16, 0, 0, 0, 0, 0, 0, .slice none 0 0, .slice none 0 0, .slice none 0 0⟩ : Msg) l0_12) : ∃ k r, bollardlaw20_in.f k a0_0 a0_1 a0_2 a0_3 a0_4 a0_5 a0_6 a0_7 a0_8 a0_9 a0_10 a0_11 l0_12 a0_13 a0_14 a0_15 a0_16 = some r ∧ (r = true → rqN (⟨a0_0, a0_1, a0_2, a0_3, a0_4, a0_5, a0_6, a0_7, a0_8, a0_9, a0_10, a0_11, (.slice A0_12 l0_12.length c0_12), a0_13, a0_14, a0_15, a0_16, 0, 0, 0, 0, 0, 0, .slice none 0 0, .slice none 0 0, .slice none 0 0⟩ : Msg) l0_12 ≤ 50000000) := by
  obtain ⟨k, r, h1, h2⟩ := small_f l0_12 (by have := h.len; omega) h.recs
  cases r with
  | false => exact ⟨k, false, by unfold bollardlaw20_in.f; rw [h1]; rfl, fun e => by cases e⟩
  | true =>
    refine ⟨k, decide (wrap64 ((a0_2.size : Int) + (a0_16.size : Int)) ≤ 140000), by unfold bollardlaw20_in.f; rw [h1]; rfl, fun e => ?_⟩
    have e1 := of_decide_eq_true e
    have e2 := h2 rfl
    have e3 : a0_2.size ≤ 140737488351232 := h.topic
    have e4 : a0_16.size ≤ 140737488351232 := h.group
    unfold wrap64 at e1
    unfold rqN
    dsimp only
    omega
theorem ok_out {m : Msg} {rs : List S98} {b : List Int} {n : Int} (h : RqOut m rs b n) : (n = 0 ∧ 5 ≤ b.length ∧ Bp.Bytes b ∧ (codec_ParseRequest.f b).2.2 = 0) ∨ (n = 1 ∧ b = []) := by
  rcases h with ⟨rfl, h2, _, _, h5, _⟩ | ⟨rfl, h2, _⟩
  · exact .inl ⟨h2, (rqWr_bytes m rs).2, (rqWr_bytes m rs).1, h5⟩
  · exact .inr ⟨h2, rfl⟩
theorem round_f (a n : Int) (ha : -9223372036854775808 ≤ a ∧ a < 9223372036854775808) (hn : 0 < n ∧ n ≤ 9223372036854775807) : ∃ j, bollardalike_Round.f a n = some j ∧ 0 ≤ j ∧ j < n := by
  unfold bollardalike_Round.f
  rw [if_neg (by omega)]
  have h1 := Int.tmod_lt_of_pos a hn.1
  by_cases c : Int.tmod a n < 0
  · rw [if_pos c]
    have h2 : -n < Int.tmod a n := by
      have h3 := Int.tmod_lt_of_pos (-a) hn.1
      rw [Int.neg_tmod] at h3
      omega
    refine ⟨_, rfl, ?_⟩
    unfold wrap64
    omega
  · rw [if_neg c]
    exact ⟨_, rfl, by omega, h1⟩

end Go.Proofs.Ytncfofnikmfjbaa.PCi
