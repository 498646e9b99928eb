-- written by a program of this session (wip/tools/pr.py, over the kit's printer): not by hand
import Derived.JoinedCond
import Derived.Deep.CondSized
import Derived.Test.YtdlkofmcioalfaaQPCkx3
import Derived.Test.YtdlkofmcioalfaaRows
import Derived.Test.YtdlkofmcioalfaaQPureCheckAfter
import Derived.WalkKit
import Derived.ProofKit
import Derived.OpenShut
import Derived.ShutString
import Derived.ChangeOld
import Derived.Below
import Derived.SizedLaws
import Derived.Carry
import Derived.KernelRfl
namespace Go.Proofs.Ytdlkofmcioalfaa.checkAfter
open Go.ChangeShapes Go.WideShapes Go.ChangeAt Go.RowKit Go.Proofs.Ytdlkofmcioalfaa.PCk Go.Proofs.YtdlkofmcioalfaaW.PrintWords Go.Proofs.YtdlkofmcioalfaaW.PrintLast Go.Proofs.YtdlkofmcioalfaaW.PrintMore
open Go.ChangeMaps (open_string shut_string)
set_option linter.unusedVariables false
set_option linter.unusedSimpArgs false
theorem own : ownKnob Try.prog.godebug = none := by kernel_rfl
theorem laidOut : laidOutB Try.prog = true := by kernel_rfl
set_option maxRecDepth 100000 in
set_option maxHeartbeats 2000000 in
theorem lifted (os : Os) (started : os.Started) (H : Type) (enc : TypeId × Value → H) (F : Stop.Interp) :
    ReturnsInHanded {} Try.checked os 7 .any ((Rows.OpenSpec.upto Rows.checkAfterSpec).pre6 enc Try.prog Try.f7 Rows.checkAfterUptoRow.domain false) (((Rows.OpenSpec.upto Rows.checkAfterSpec).at F).post enc Try.prog Try.f7 false true false false) := by
  refine returnsInHanded_of_cond_sized (C := Try.checked) (s := (Rows.OpenSpec.upto Rows.checkAfterSpec)) (k := Rows.uptoSmall) rfl own started (by kernel_rfl) Try.func7
    (OpenSpec.witness (enc := enc) (C := Try.checked) (s := (Rows.OpenSpec.upto Rows.checkAfterSpec)) (k := Rows.uptoSmall) rfl false ⟨#[], #[.slice none 0 0, .agg #[.string ByteArray.empty, .int .i64 0, .int .i64 0, .int .i64 0, .int .i64 0, .slice none 0 0]], []⟩ 8 (by kernel_rfl) (by kernel_rfl) (by kernel_rfl)
      (x := ([.nil, .agg [.lit (.string []), .lit (.int .i64 0), .lit (.int .i64 0), .lit (.int .i64 0), .lit (.int .i64 0), .nil]], [], [])) (by kernel_rfl) rfl (by kernel_rfl)) ?_
  intro W base args ds gs before hval0 hW0 hcnd hk_ hsz0 _
  show Calls Try.prog 7 args W fun e W' => ∃ v, e = .returned v ∧ Rows.checkAfterSpec.post enc Try.prog Try.f7 false true false false W args v W'
  have hW : DataW.Whole enc Try.prog Try.f7.params.toList Rows.checkAfterSpec.vars false W args.toList ds gs before := hW0
  clear hW0
  have hsz : (DataW.weightsEach Try.prog (Try.f7.params.toList ++ Rows.checkAfterSpec.plain.varTypes Try.prog) (ds ++ gs)).all (· ≤ reachBytes) = true := hsz0
  have hval : ∀ (j : Nat) t v, Try.f7.params[j]? = some t → args[j]? = some v → Value.okWide Try.prog W .any base t v := hval0
  have hW' := hW
  obtain ⟨p, q, hA0, hV, rfl, hfz, hnd⟩ := hW
  have hA : DataW.TrodAll enc Try.prog W 0 (fun _ => true) true Try.f7.params.toList args.toList ds p := hA0
  rw [Try.params7] at hA hval hsz
  obtain ⟨v0, vs0, d0, ds0, p0, q0, hargs, rfl, rfl, h0, r0⟩ := trodAll_cons hA
  obtain ⟨v1, vs1, d1, ds1, p1, q1, rfl, rfl, rfl, h1, r1⟩ := trodAll_cons r0
  obtain ⟨rfl, rfl, rfl⟩ := trodAll_nil r1
  obtain rfl : args = #[v0, v1] := by cases args; simp_all
  obtain ⟨rfl, rfl⟩ := trodVars_none hV
  have hbk : Rows.uptoBulkAll ([d0, d1] ++ []) ≤ 1048576 := of_decide_eq_true hk_
  simp only [List.append_nil, Rows.uptoBulkAll] at hbk
  clear hk_
  have lt0 : ∀ x ∈ p0, x.block < W.heap.size := by obtain ⟨m, hm⟩ := h0; exact DataW.trod_lt m _ _ _ hm
  obtain ⟨x0, hK0, hQ0⟩ := ((Op.opens_slice (B := 72) Try.underlying22 (by kernel_rfl) (by kernel_rfl) (Op.opens_struct (fun x : S35 => (x.f0, x.f1, x.f2, x.f3, x.f4, x.f5)) (fun a => ⟨a.1, a.2.1, a.2.2.1, a.2.2.2.1, a.2.2.2.2.1, a.2.2.2.2.2⟩) (fun _ => rfl) Try.underlying35 rfl (by kernel_rfl) (Op.opensF_cons rfl (Op.opens_string Try.underlying9 (by kernel_rfl)) (Op.opensF_cons rfl (Op.opens_int Try.underlying3 (by kernel_rfl)) (Op.opensF_cons rfl (Op.opens_int Try.underlying3 (by kernel_rfl)) (Op.opensF_cons rfl (Op.opens_int Try.underlying3 (by kernel_rfl)) (Op.opensF_cons rfl (Op.opens_int Try.underlying3 (by kernel_rfl)) (Op.opensF_one rfl (Op.opens_slice (B := 56) Try.underlying33 (by kernel_rfl) (by kernel_rfl) (Op.opens_struct (fun x : S61 => (x.f0, x.f1, x.f2, x.f3, x.f4)) (fun a => ⟨a.1, a.2.1, a.2.2.1, a.2.2.2.1, a.2.2.2.2⟩) (fun _ => rfl) Try.underlying61 rfl (by kernel_rfl) (Op.opensF_cons rfl (Op.opens_int Try.underlying3 (by kernel_rfl)) (Op.opensF_cons rfl (Op.opens_int Try.underlying3 (by kernel_rfl)) (Op.opensF_cons rfl (Op.opens_int Try.underlying3 (by kernel_rfl)) (Op.opensF_cons rfl (Op.opens_int Try.underlying3 (by kernel_rfl)) (Op.opensF_one rfl (Op.opens_slice (B := 64) Try.underlying50 (by kernel_rfl) (by kernel_rfl) (Op.opens_struct (fun x : S48 => (x.f0, x.f1, x.f2, x.f3, x.f4, x.f5)) (fun a => ⟨a.1, a.2.1, a.2.2.1, a.2.2.2.1, a.2.2.2.2.1, a.2.2.2.2.2⟩) (fun _ => rfl) Try.underlying48 rfl (by kernel_rfl) (Op.opensF_cons rfl (Op.opens_bool Try.underlying4 (by kernel_rfl)) (Op.opensF_cons rfl (Op.opens_string Try.underlying9 (by kernel_rfl)) (Op.opensF_cons rfl (Op.opens_bool Try.underlying4 (by kernel_rfl)) (Op.opensF_cons rfl (Op.opens_string Try.underlying9 (by kernel_rfl)) (Op.opensF_cons rfl (Op.opens_int Try.underlying3 (by kernel_rfl)) (Op.opensF_one rfl (Op.opens_int Try.underlying3 (by kernel_rfl))))))))))))))))))))))))) : Op.Opens Try.prog 22 _ _).arg hsz (j := 0) rfl rfl h0
  have hB0 := ((Op.bulk_slice Try.underlying22 (by kernel_rfl) (Op.bulk_struct (fun x : S35 => (x.f0, x.f1, x.f2, x.f3, x.f4, x.f5)) Try.underlying35 rfl (by kernel_rfl) (Op.bulkF_cons rfl (Op.bulk_string Try.underlying9 (by kernel_rfl)) (Op.bulkF_cons rfl (Op.bulk_int (k := .i64) (by kernel_rfl)) (Op.bulkF_cons rfl (Op.bulk_int (k := .i64) (by kernel_rfl)) (Op.bulkF_cons rfl (Op.bulk_int (k := .i64) (by kernel_rfl)) (Op.bulkF_cons rfl (Op.bulk_int (k := .i64) (by kernel_rfl)) (Op.bulkF_one rfl (Op.bulk_slice Try.underlying33 (by kernel_rfl) (Op.bulk_struct (fun x : S61 => (x.f0, x.f1, x.f2, x.f3, x.f4)) Try.underlying61 rfl (by kernel_rfl) (Op.bulkF_cons rfl (Op.bulk_int (k := .i64) (by kernel_rfl)) (Op.bulkF_cons rfl (Op.bulk_int (k := .i64) (by kernel_rfl)) (Op.bulkF_cons rfl (Op.bulk_int (k := .i64) (by kernel_rfl)) (Op.bulkF_cons rfl (Op.bulk_int (k := .i64) (by kernel_rfl)) (Op.bulkF_one rfl (Op.bulk_slice Try.underlying50 (by kernel_rfl) (Op.bulk_struct (fun x : S48 => (x.f0, x.f1, x.f2, x.f3, x.f4, x.f5)) Try.underlying48 rfl (by kernel_rfl) (Op.bulkF_cons rfl (Op.bulk_bool (by kernel_rfl)) (Op.bulkF_cons rfl (Op.bulk_string Try.underlying9 (by kernel_rfl)) (Op.bulkF_cons rfl (Op.bulk_bool (by kernel_rfl)) (Op.bulkF_cons rfl (Op.bulk_string Try.underlying9 (by kernel_rfl)) (Op.bulkF_cons rfl (Op.bulk_int (k := .i64) (by kernel_rfl)) (Op.bulkF_one rfl (Op.bulk_int (k := .i64) (by kernel_rfl))))))))))))))))))))))))) : Op.Bulk Try.prog 22 _ _).arg h0 hK0
  obtain ⟨aw0, lw0, cw0, rfl⟩ := okWide_slice Try.underlying22 (hval 0 22 v0 rfl rfl)
  obtain ⟨A0, c0, ev0, hl0, hC0⟩ := hK0
  simp [Value.cells] at ev0
  obtain ⟨rfl, rfl, rfl⟩ := ev0
  have lt1 : ∀ x ∈ p1, x.block < W.heap.size := by obtain ⟨m, hm⟩ := h1; exact DataW.trod_lt m _ _ _ hm
  obtain ⟨x1, hK1, hQ1⟩ := ((Op.opens_struct id id (fun _ => rfl) Try.underlying35 rfl (by kernel_rfl) (Op.opensF_cons rfl (Op.opens_string Try.underlying9 (by kernel_rfl)) (Op.opensF_cons rfl (Op.opens_int Try.underlying3 (by kernel_rfl)) (Op.opensF_cons rfl (Op.opens_int Try.underlying3 (by kernel_rfl)) (Op.opensF_cons rfl (Op.opens_int Try.underlying3 (by kernel_rfl)) (Op.opensF_cons rfl (Op.opens_int Try.underlying3 (by kernel_rfl)) (Op.opensF_one rfl (Op.opens_slice (B := 56) Try.underlying33 (by kernel_rfl) (by kernel_rfl) (Op.opens_struct (fun x : S61 => (x.f0, x.f1, x.f2, x.f3, x.f4)) (fun a => ⟨a.1, a.2.1, a.2.2.1, a.2.2.2.1, a.2.2.2.2⟩) (fun _ => rfl) Try.underlying61 rfl (by kernel_rfl) (Op.opensF_cons rfl (Op.opens_int Try.underlying3 (by kernel_rfl)) (Op.opensF_cons rfl (Op.opens_int Try.underlying3 (by kernel_rfl)) (Op.opensF_cons rfl (Op.opens_int Try.underlying3 (by kernel_rfl)) (Op.opensF_cons rfl (Op.opens_int Try.underlying3 (by kernel_rfl)) (Op.opensF_one rfl (Op.opens_slice (B := 64) Try.underlying50 (by kernel_rfl) (by kernel_rfl) (Op.opens_struct (fun x : S48 => (x.f0, x.f1, x.f2, x.f3, x.f4, x.f5)) (fun a => ⟨a.1, a.2.1, a.2.2.1, a.2.2.2.1, a.2.2.2.2.1, a.2.2.2.2.2⟩) (fun _ => rfl) Try.underlying48 rfl (by kernel_rfl) (Op.opensF_cons rfl (Op.opens_bool Try.underlying4 (by kernel_rfl)) (Op.opensF_cons rfl (Op.opens_string Try.underlying9 (by kernel_rfl)) (Op.opensF_cons rfl (Op.opens_bool Try.underlying4 (by kernel_rfl)) (Op.opensF_cons rfl (Op.opens_string Try.underlying9 (by kernel_rfl)) (Op.opensF_cons rfl (Op.opens_int Try.underlying3 (by kernel_rfl)) (Op.opensF_one rfl (Op.opens_int Try.underlying3 (by kernel_rfl)))))))))))))))))))))))) : Op.Opens Try.prog 35 _ _).arg hsz (j := 1) rfl rfl h1
  have hB1 := ((Op.bulk_struct id Try.underlying35 rfl (by kernel_rfl) (Op.bulkF_cons rfl (Op.bulk_string Try.underlying9 (by kernel_rfl)) (Op.bulkF_cons rfl (Op.bulk_int (k := .i64) (by kernel_rfl)) (Op.bulkF_cons rfl (Op.bulk_int (k := .i64) (by kernel_rfl)) (Op.bulkF_cons rfl (Op.bulk_int (k := .i64) (by kernel_rfl)) (Op.bulkF_cons rfl (Op.bulk_int (k := .i64) (by kernel_rfl)) (Op.bulkF_one rfl (Op.bulk_slice Try.underlying33 (by kernel_rfl) (Op.bulk_struct (fun x : S61 => (x.f0, x.f1, x.f2, x.f3, x.f4)) Try.underlying61 rfl (by kernel_rfl) (Op.bulkF_cons rfl (Op.bulk_int (k := .i64) (by kernel_rfl)) (Op.bulkF_cons rfl (Op.bulk_int (k := .i64) (by kernel_rfl)) (Op.bulkF_cons rfl (Op.bulk_int (k := .i64) (by kernel_rfl)) (Op.bulkF_cons rfl (Op.bulk_int (k := .i64) (by kernel_rfl)) (Op.bulkF_one rfl (Op.bulk_slice Try.underlying50 (by kernel_rfl) (Op.bulk_struct (fun x : S48 => (x.f0, x.f1, x.f2, x.f3, x.f4, x.f5)) Try.underlying48 rfl (by kernel_rfl) (Op.bulkF_cons rfl (Op.bulk_bool (by kernel_rfl)) (Op.bulkF_cons rfl (Op.bulk_string Try.underlying9 (by kernel_rfl)) (Op.bulkF_cons rfl (Op.bulk_bool (by kernel_rfl)) (Op.bulkF_cons rfl (Op.bulk_string Try.underlying9 (by kernel_rfl)) (Op.bulkF_cons rfl (Op.bulk_int (k := .i64) (by kernel_rfl)) (Op.bulkF_one rfl (Op.bulk_int (k := .i64) (by kernel_rfl)))))))))))))))))))))))) : Op.Bulk Try.prog 35 _ _).arg h1 hK1
  obtain ⟨cs1, rfl, hcs1⟩ := okWide_struct Try.underlying35 (hval 1 35 v1 rfl rfl)
  obtain ⟨cl1⟩ := cs1
  have hm1 : (Value.agg ⟨cl1⟩).cells.toList = cl1 := rfl
  rw [hm1] at hK1
  clear hm1
  obtain ⟨_, _, rfl, rfl, ⟨_, _, rfl, rfl, ⟨_, _, rfl, rfl, ⟨_, _, rfl, rfl, ⟨_, _, rfl, rfl, ⟨A1_6_, c1_6_, rfl, hl1_6_, hC1_6_⟩⟩⟩⟩⟩⟩ := hK1
  clear hA0 hval0 hsz0 hsz
  obtain ⟨k, hk⟩ := Pure.CheckAfter x0 (x1.1) (x1.2.1) (x1.2.2.1) (x1.2.2.2.1) (x1.2.2.2.2.1) (x1.2.2.2.2.2) hQ0 (hQ1.1) (hQ1.2.1) (hQ1.2.2.1) (hQ1.2.2.2.1) (hQ1.2.2.2.2.1) (hQ1.2.2.2.2.2) ((Nat.le_trans (Nat.add_le_add hB0 (Nat.add_le_add hB1 (Nat.le_refl 0))) hbk))
  refine Calls.mono (show Calls Try.prog 7 #[.slice _ x0.length _, .agg #[.string (x1.1), .int .i64 (x1.2.1), .int .i64 (x1.2.2.1), .int .i64 (x1.2.2.2.1), .int .i64 (x1.2.2.2.2.1), .slice _ (x1.2.2.2.2.2).length _]] W _ from bollardlaw24_CheckAfter.calls k _ _ x0 (x1.1) (x1.2.1) (x1.2.2.1) (x1.2.2.2.1) (x1.2.2.2.2.1) _ _ x1.2.2.2.2.2 true W hC0 hl0 hC1_6_ hl1_6_ hk) fun e W' ⟨he, bel⟩ => ?_
  subst he
  have bel : Below W.heap.size W W' := by first | exact bel | exact bel.below
  exact ⟨_, rfl, _, _, _, [], _, [], hW', trodAll_mk1 (shut_bool Try.underlying4 _), (trodAll_cons_mk (Below.trod laidOut (by kernel_rfl) (of_decide_eq_true (by kernel_rfl)) h0 bel lt0) (trodAll_cons_mk (Below.trod laidOut (by kernel_rfl) (of_decide_eq_true (by kernel_rfl)) h1 bel lt1) trodAll_mk0)), rfl, bel.frame _, fun h => by cases h⟩
theorem over : Rows.checkAfterUptoRow.holds Try.pinned (Rows.OpenSpec.upto Rows.checkAfterSpec) :=
  OpenClaim.holds_of_cond 7 Try.f7 rfl rfl rfl rfl rfl rfl rfl ⟨rfl, rfl, rfl, rfl, rfl⟩ rfl rfl rfl rfl rfl (by kernel_rfl) Try.func7 (by kernel_rfl)
    (of_decide_eq_true (by kernel_rfl)) (by unfold Func.isWrapper; first | (rw [if_pos (by decide +kernel)]; kernel_rfl) | (rw [if_neg (by decide +kernel)]; exact ⟨rfl, rfl⟩))
    (fun os started H enc _ F => lifted os started H enc F)
theorem proved : Rows.CheckAfterUptoSaid := over
#print axioms proved
end Go.Proofs.Ytdlkofmcioalfaa.checkAfter
namespace Go.Proofs.Ytdlkofmcioalfaa
/-- The row, under a short name, for the claim. -/
theorem checkAfter_holds : Rows.CheckAfterUptoSaid := checkAfter.proved
end Go.Proofs.Ytdlkofmcioalfaa
