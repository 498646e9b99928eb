-- written by a program of this session (wip/tools/pr.py, over the kit's printer): not by hand
import Derived.Test.YtgmeellapjimgaaRows
import Derived.Test.YtgmeellapjimgaaQPBbx12
import Derived.Test.YtgmeellapjimgaaQOpens
import Derived.WalkKit
import Derived.ProofKit
import Derived.OpenShut
import Derived.ShutString
import Derived.ChangeOld
import Derived.Below
import Derived.SizedLaws
import Derived.Carry
import Derived.KernelRfl
namespace Go.Proofs.Ytgmeellapjimgaa.batchBack
open Go.ChangeShapes Go.WideShapes Go.ChangeAt Go.RowKit Go.Proofs.Ytgmeellapjimgaa.PBb Go.Proofs.YtgmeellapjimgaaW.PrintWords Go.Proofs.YtgmeellapjimgaaW.PrintLast Go.Proofs.YtgmeellapjimgaaW.PrintMore
open Go.ChangeMaps (open_string shut_string)
set_option linter.unusedVariables false
set_option linter.unusedSimpArgs false
theorem own : ownKnob Try.prog.godebug = none := by kernel_rfl
theorem laidOut : laidOutB Try.prog = true := by kernel_rfl
set_option maxRecDepth 100000 in
set_option maxHeartbeats 2000000 in
theorem lifted (os : Os) (started : os.Started) (H : Type) (enc : TypeId × Value → H) :
    ReturnsInHanded {} Try.checked os 10 .any (Rows.batchBackSpec.pre6 enc Try.prog Try.f10 Rows.batchBackRow.domain false) (Rows.batchBackSpec.post enc Try.prog Try.f10 false true false false) := by
  refine returnsInHanded_of_change_sized (C := Try.checked) own started (by kernel_rfl) Try.func10
    (ChangeSpec.witness6 (enc := enc) (C := Try.checked) false ⟨#[], #[.agg #[.int .i64 0, .int .i64 0, .int .i64 0, .int .i64 0, .slice none 0 0], .int .i64 0, .slice none 0 0], []⟩ 8 (by kernel_rfl) (by kernel_rfl) (by kernel_rfl) (by kernel_rfl)) ?_
  intro W base args ds gs before hval0 hW hcnd hsz0 _
  have hsz : (DataW.weightsEach Try.prog (Try.f10.params.toList ++ Rows.batchBackSpec.plain.varTypes Try.prog) (ds ++ gs)).all (· ≤ reachBytes) = true := hsz0
  have hval : ∀ (j : Nat) t v, Try.f10.params[j]? = some t → args[j]? = some v → Value.okWide Try.prog W .any base t v := hval0
  have hW' := hW
  obtain ⟨p, q, hA0, hV, rfl, hfz, hnd⟩ := hW
  have hA : DataW.TrodAll enc Try.prog W 0 (fun _ => true) true Try.f10.params.toList args.toList ds p := hA0
  rw [Try.params10] at hA hval hsz
  obtain ⟨v0, vs0, d0, ds0, p0, q0, hargs, rfl, rfl, h0, r0⟩ := trodAll_cons hA
  obtain ⟨v1, vs1, d1, ds1, p1, q1, rfl, rfl, rfl, h1, r1⟩ := trodAll_cons r0
  obtain ⟨v2, vs2, d2, ds2, p2, q2, rfl, rfl, rfl, h2, r2⟩ := trodAll_cons r1
  obtain ⟨rfl, rfl, rfl⟩ := trodAll_nil r2
  obtain rfl : args = #[v0, v1, v2] := by cases args; simp_all
  obtain ⟨rfl, rfl⟩ := trodVars_none hV
  have lt0 : ∀ x ∈ p0, x.block < W.heap.size := by obtain ⟨m, hm⟩ := h0; exact DataW.trod_lt m _ _ _ hm
  obtain ⟨x0, hK0, hQ0⟩ := ((Op.opens_struct id id (fun _ => rfl) Try.underlying24 rfl (by kernel_rfl) (Op.opensF_cons rfl (Op.opens_int Try.underlying3 (by kernel_rfl)) (Op.opensF_cons rfl (Op.opens_int Try.underlying3 (by kernel_rfl)) (Op.opensF_cons rfl (Op.opens_int Try.underlying3 (by kernel_rfl)) (Op.opensF_cons rfl (Op.opens_int Try.underlying3 (by kernel_rfl)) (Op.opensF_one rfl (Op.opens_slice (B := 64) Try.underlying22 (by kernel_rfl) (by kernel_rfl) (Op.opens_struct (fun x : S45 => (x.f0, x.f1, x.f2, x.f3, x.f4, x.f5)) (fun a => ⟨a.1, a.2.1, a.2.2.1, a.2.2.2.1, a.2.2.2.2.1, a.2.2.2.2.2⟩) (fun _ => rfl) Try.underlying45 rfl (by kernel_rfl) (Op.opensF_cons rfl (Op.opens_bool Try.underlying4 (by kernel_rfl)) (Op.opensF_cons rfl (Op.opens_string Try.underlying9 (by kernel_rfl)) (Op.opensF_cons rfl (Op.opens_bool Try.underlying4 (by kernel_rfl)) (Op.opensF_cons rfl (Op.opens_string Try.underlying9 (by kernel_rfl)) (Op.opensF_cons rfl (Op.opens_int Try.underlying3 (by kernel_rfl)) (Op.opensF_one rfl (Op.opens_int Try.underlying3 (by kernel_rfl)))))))))))))))) : Op.Opens Try.prog 24 _ _).arg hsz (j := 0) rfl rfl h0
  obtain ⟨cs0, rfl, hcs0⟩ := okWide_struct Try.underlying24 (hval 0 24 v0 rfl rfl)
  obtain ⟨cl0⟩ := cs0
  have hm0 : (Value.agg ⟨cl0⟩).cells.toList = cl0 := rfl
  rw [hm0] at hK0
  clear hm0
  obtain ⟨_, _, rfl, rfl, ⟨_, _, rfl, rfl, ⟨_, _, rfl, rfl, ⟨_, _, rfl, rfl, ⟨A0_5_, c0_5_, rfl, hl0_5_, hC0_5_⟩⟩⟩⟩⟩ := hK0
  obtain ⟨a1, rfl, rfl, rfl, w1⟩ := open_int Try.underlying3 (hval 1 3 v1 rfl rfl) h1
  have lt2 : ∀ x ∈ p2, x.block < W.heap.size := by obtain ⟨m, hm⟩ := h2; exact DataW.trod_lt m _ _ _ hm
  obtain ⟨x2, hK2, hQ2⟩ := ((Op.opens_slice (B := 1) Try.underlying27 (by kernel_rfl) (by kernel_rfl) (Op.opens_int Try.underlying5 (by kernel_rfl))) : Op.Opens Try.prog 27 _ _).arg hsz (j := 2) rfl rfl h2
  obtain ⟨aw2, lw2, cw2, rfl⟩ := okWide_slice Try.underlying27 (hval 2 27 v2 rfl rfl)
  obtain ⟨A2, c2, ev2, hl2, hC2⟩ := hK2
  simp [Value.cells] at ev2
  obtain ⟨rfl, rfl, rfl⟩ := ev2
  clear hA0 hval0 hsz0 hsz
  obtain ⟨k, hk⟩ := Pure.BatchBack (x0.1) (x0.2.1) (x0.2.2.1) (x0.2.2.2.1) (x0.2.2.2.2) a1 x2 (hQ0.1) (hQ0.2.1) (hQ0.2.2.1) (hQ0.2.2.2.1) (hQ0.2.2.2.2) w1 hQ2
  refine Calls.mono (show Calls Try.prog 10 #[.agg #[.int .i64 (x0.1), .int .i64 (x0.2.1), .int .i64 (x0.2.2.1), .int .i64 (x0.2.2.2.1), .slice _ (x0.2.2.2.2).length _], .int .i64 a1, .slice _ x2.length _] W _ from bollardlaw13_BatchBack.calls k (x0.1) (x0.2.1) (x0.2.2.1) (x0.2.2.2.1) _ _ x0.2.2.2.2 a1 _ _ x2 true W hC0_5_ hl0_5_ hC2 hl2 hk) fun e W' ⟨he, bel⟩ => ?_
  subst he
  have bel : Below W.heap.size W W' := by first | exact bel | exact bel.below
  exact ⟨_, rfl, _, _, _, [], _, [], hW', trodAll_mk1 (shut_bool Try.underlying4 _), (trodAll_cons_mk (Below.trod laidOut (by kernel_rfl) (of_decide_eq_true (by kernel_rfl)) h0 bel lt0) (trodAll_cons_mk (shut_int Try.underlying3 w1) (trodAll_cons_mk (Below.trod laidOut (by kernel_rfl) (of_decide_eq_true (by kernel_rfl)) h2 bel lt2) trodAll_mk0))), rfl, bel.frame _, fun h => by cases h⟩
theorem over : Rows.batchBackRow.holds Try.pinned (OpenSpec.ofChange Rows.batchBackSpec) :=
  OpenClaim.holds_of_wide 10 Try.f10 rfl rfl rfl rfl rfl rfl rfl ⟨rfl, rfl, rfl, rfl, rfl⟩ rfl rfl rfl rfl rfl (by kernel_rfl) Try.func10 (by kernel_rfl)
    (of_decide_eq_true (by kernel_rfl)) (by unfold Func.isWrapper; first | (rw [if_pos (by decide +kernel)]; kernel_rfl) | (rw [if_neg (by decide +kernel)]; exact ⟨rfl, rfl⟩))
    (fun os started H enc _ => lifted os started H enc)
theorem proved : Rows.BatchBackSaid := over
#print axioms proved
end Go.Proofs.Ytgmeellapjimgaa.batchBack
namespace Go.Proofs.Ytgmeellapjimgaa
/-- The row, under a short name, for the claim. -/
theorem batchBack_holds : Rows.BatchBackSaid := batchBack.proved
end Go.Proofs.Ytgmeellapjimgaa
