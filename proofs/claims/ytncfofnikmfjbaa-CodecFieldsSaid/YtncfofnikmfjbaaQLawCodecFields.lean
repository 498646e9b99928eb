-- written by a program of this session (wip/tools/pr.py, over the kit's printer): not by hand
import Derived.Test.YtncfofnikmfjbaaRows
import Derived.Test.YtncfofnikmfjbaaQPCix2
import Derived.Test.YtncfofnikmfjbaaQOpens
import Derived.WalkKit
import Derived.ProofKit
import Derived.OpenShut
import Derived.ShutString
import Derived.ChangeOld
import Derived.Below
import Derived.SizedLaws
import Derived.Carry
import Derived.KernelRfl
namespace Go.Proofs.Ytncfofnikmfjbaa.codecFields
open Go.ChangeShapes Go.WideShapes Go.ChangeAt Go.RowKit Go.Proofs.Ytncfofnikmfjbaa.PCi Go.Proofs.YtncfofnikmfjbaaW.PrintWords Go.Proofs.YtncfofnikmfjbaaW.PrintLast Go.Proofs.YtncfofnikmfjbaaW.PrintMore
open Go.ChangeMaps (open_string shut_string)
set_option linter.unusedVariables false
set_option linter.unusedSimpArgs false
theorem own : ownKnob Try.prog.godebug = none := by kernel_rfl
theorem laidOut : laidOutB Try.prog = true := by kernel_rfl
set_option maxRecDepth 100000 in
set_option maxHeartbeats 2000000 in
theorem lifted (os : Os) (started : os.Started) (H : Type) (enc : TypeId × Value → H) :
    ReturnsInHanded {} Try.checked os 4 .any (Rows.codecFieldsSpec.pre6 enc Try.prog Try.f4 Rows.codecFieldsRow.domain false) (Rows.codecFieldsSpec.post enc Try.prog Try.f4 false true false false) := by
  refine returnsInHanded_of_change_sized (C := Try.checked) own started (by kernel_rfl) Try.func4
    (ChangeSpec.witness6 (enc := enc) (C := Try.checked) false ⟨#[], #[.agg #[.int .i64 0, .int .i64 0, .string ByteArray.empty, .int .i64 0, .int .i64 0, .int .i64 0, .int .i64 0, .int .i64 0, .bool false, .int .i64 0, .int .i64 0, .int .i64 0, .slice none 0 0, .int .i64 0, .int .i64 0, .int .i64 0, .string ByteArray.empty]], []⟩ 8 (by kernel_rfl) (by kernel_rfl) (by kernel_rfl) (by kernel_rfl)) ?_
  intro W base args ds gs before hval0 hW hcnd hsz0 _
  have hsz : (DataW.weightsEach Try.prog (Try.f4.params.toList ++ Rows.codecFieldsSpec.plain.varTypes Try.prog) (ds ++ gs)).all (· ≤ reachBytes) = true := hsz0
  have hval : ∀ (j : Nat) t v, Try.f4.params[j]? = some t → args[j]? = some v → Value.okWide Try.prog W .any base t v := hval0
  have hW' := hW
  obtain ⟨p, q, hA0, hV, rfl, hfz, hnd⟩ := hW
  have hA : DataW.TrodAll enc Try.prog W 0 (fun _ => true) true Try.f4.params.toList args.toList ds p := hA0
  rw [Try.params4] at hA hval hsz
  obtain ⟨v0, vs0, d0, ds0, p0, q0, hargs, rfl, rfl, h0, r0⟩ := trodAll_cons hA
  obtain ⟨rfl, rfl, rfl⟩ := trodAll_nil r0
  obtain rfl : args = #[v0] := by cases args; simp_all
  obtain ⟨rfl, rfl⟩ := trodVars_none hV
  have lt0 : ∀ x ∈ p0, x.block < W.heap.size := by obtain ⟨m, hm⟩ := h0; exact DataW.trod_lt m _ _ _ hm
  obtain ⟨x0, hK0, hQ0⟩ := ((Op.opens_struct id id (fun _ => rfl) Try.underlying26 rfl (by kernel_rfl) (Op.opensF_cons rfl (Op.opens_int Try.underlying3 (by kernel_rfl)) (Op.opensF_cons rfl (Op.opens_int Try.underlying3 (by kernel_rfl)) (Op.opensF_cons rfl (Op.opens_string Try.underlying9 (by kernel_rfl)) (Op.opensF_cons rfl (Op.opens_int Try.underlying3 (by kernel_rfl)) (Op.opensF_cons rfl (Op.opens_int Try.underlying3 (by kernel_rfl)) (Op.opensF_cons rfl (Op.opens_struct id id (fun _ => rfl) Try.underlying23 rfl (by kernel_rfl) (Op.opensF_cons rfl (Op.opens_int Try.underlying3 (by kernel_rfl)) (Op.opensF_cons rfl (Op.opens_int Try.underlying3 (by kernel_rfl)) (Op.opensF_cons rfl (Op.opens_int Try.underlying3 (by kernel_rfl)) (Op.opensF_cons rfl (Op.opens_bool Try.underlying4 (by kernel_rfl)) (Op.opensF_one rfl (Op.opens_int Try.underlying3 (by kernel_rfl)))))))) (Op.opensF_cons rfl (Op.opens_int Try.underlying3 (by kernel_rfl)) (Op.opensF_cons rfl (Op.opens_int Try.underlying3 (by kernel_rfl)) (Op.opensF_cons rfl (Op.opens_slice (B := 64) Try.underlying24 (by kernel_rfl) (by kernel_rfl) (Op.opens_struct (fun x : S98 => (x.f0, x.f1, x.f2, x.f3, x.f4, x.f5)) (fun a => ⟨a.1, a.2.1, a.2.2.1, a.2.2.2.1, a.2.2.2.2.1, a.2.2.2.2.2⟩) (fun _ => rfl) Try.underlying98 rfl (by kernel_rfl) (Op.opensF_cons rfl (Op.opens_bool Try.underlying4 (by kernel_rfl)) (Op.opensF_cons rfl (Op.opens_string Try.underlying9 (by kernel_rfl)) (Op.opensF_cons rfl (Op.opens_bool Try.underlying4 (by kernel_rfl)) (Op.opensF_cons rfl (Op.opens_string Try.underlying9 (by kernel_rfl)) (Op.opensF_cons rfl (Op.opens_int Try.underlying3 (by kernel_rfl)) (Op.opensF_one rfl (Op.opens_int Try.underlying3 (by kernel_rfl)))))))))) (Op.opensF_cons rfl (Op.opens_int Try.underlying3 (by kernel_rfl)) (Op.opensF_cons rfl (Op.opens_int Try.underlying3 (by kernel_rfl)) (Op.opensF_cons rfl (Op.opens_int Try.underlying3 (by kernel_rfl)) (Op.opensF_one rfl (Op.opens_string Try.underlying9 (by kernel_rfl)))))))))))))))) : Op.Opens Try.prog 26 _ _).arg hsz (j := 0) rfl rfl h0
  obtain ⟨cs0, rfl, hcs0⟩ := okWide_struct Try.underlying26 (hval 0 26 v0 rfl rfl)
  obtain ⟨cl0⟩ := cs0
  have hm0 : (Value.agg ⟨cl0⟩).cells.toList = cl0 := rfl
  rw [hm0] at hK0
  clear hm0
  obtain ⟨_, _, rfl, rfl, ⟨_, _, rfl, rfl, ⟨_, _, rfl, rfl, ⟨_, _, rfl, rfl, ⟨_, _, rfl, rfl, ⟨_, _, rfl, ⟨_, _, rfl, rfl, ⟨_, _, rfl, rfl, ⟨_, _, rfl, rfl, ⟨_, _, rfl, rfl, rfl⟩⟩⟩⟩, ⟨_, _, rfl, rfl, ⟨_, _, rfl, rfl, ⟨_, _, rfl, ⟨A0_13_, c0_13_, rfl, hl0_13_, hC0_13_⟩, ⟨_, _, rfl, rfl, ⟨_, _, rfl, rfl, ⟨_, _, rfl, rfl, rfl⟩⟩⟩⟩⟩⟩⟩⟩⟩⟩⟩⟩ := hK0
  clear hA0 hval0 hsz0 hsz
  obtain ⟨k, hk⟩ := Pure.CodecFields (x0.1) (x0.2.1) (x0.2.2.1) (x0.2.2.2.1) (x0.2.2.2.2.1) (x0.2.2.2.2.2.1.1) (x0.2.2.2.2.2.1.2.1) (x0.2.2.2.2.2.1.2.2.1) (x0.2.2.2.2.2.1.2.2.2.1) (x0.2.2.2.2.2.1.2.2.2.2) (x0.2.2.2.2.2.2.1) (x0.2.2.2.2.2.2.2.1) (x0.2.2.2.2.2.2.2.2.1) (x0.2.2.2.2.2.2.2.2.2.1) (x0.2.2.2.2.2.2.2.2.2.2.1) (x0.2.2.2.2.2.2.2.2.2.2.2.1) (x0.2.2.2.2.2.2.2.2.2.2.2.2) (hQ0.1) (hQ0.2.1) (hQ0.2.2.1) (hQ0.2.2.2.1) (hQ0.2.2.2.2.1) (hQ0.2.2.2.2.2.1.1) (hQ0.2.2.2.2.2.1.2.1) (hQ0.2.2.2.2.2.1.2.2.1) (hQ0.2.2.2.2.2.1.2.2.2.2) (hQ0.2.2.2.2.2.2.1) (hQ0.2.2.2.2.2.2.2.1) (hQ0.2.2.2.2.2.2.2.2.1) (hQ0.2.2.2.2.2.2.2.2.2.1) (hQ0.2.2.2.2.2.2.2.2.2.2.1) (hQ0.2.2.2.2.2.2.2.2.2.2.2.1) (hQ0.2.2.2.2.2.2.2.2.2.2.2.2)
  refine Calls.mono (show Calls Try.prog 4 #[.agg #[.int .i64 (x0.1), .int .i64 (x0.2.1), .string (x0.2.2.1), .int .i64 (x0.2.2.2.1), .int .i64 (x0.2.2.2.2.1), .int .i64 (x0.2.2.2.2.2.1.1), .int .i64 (x0.2.2.2.2.2.1.2.1), .int .i64 (x0.2.2.2.2.2.1.2.2.1), .bool (x0.2.2.2.2.2.1.2.2.2.1), .int .i64 (x0.2.2.2.2.2.1.2.2.2.2), .int .i64 (x0.2.2.2.2.2.2.1), .int .i64 (x0.2.2.2.2.2.2.2.1), .slice _ (x0.2.2.2.2.2.2.2.2.1).length _, .int .i64 (x0.2.2.2.2.2.2.2.2.2.1), .int .i64 (x0.2.2.2.2.2.2.2.2.2.2.1), .int .i64 (x0.2.2.2.2.2.2.2.2.2.2.2.1), .string (x0.2.2.2.2.2.2.2.2.2.2.2.2)]] W _ from bollardlaw20_CodecFields.calls k (x0.1) (x0.2.1) (x0.2.2.1) (x0.2.2.2.1) (x0.2.2.2.2.1) (x0.2.2.2.2.2.1.1) (x0.2.2.2.2.2.1.2.1) (x0.2.2.2.2.2.1.2.2.1) (x0.2.2.2.2.2.1.2.2.2.1) (x0.2.2.2.2.2.1.2.2.2.2) (x0.2.2.2.2.2.2.1) (x0.2.2.2.2.2.2.2.1) _ _ x0.2.2.2.2.2.2.2.2.1 (x0.2.2.2.2.2.2.2.2.2.1) (x0.2.2.2.2.2.2.2.2.2.2.1) (x0.2.2.2.2.2.2.2.2.2.2.2.1) (x0.2.2.2.2.2.2.2.2.2.2.2.2) true W hC0_13_ hl0_13_ hk) fun e W' ⟨he, bel⟩ => ?_
  subst he
  have bel : Below W.heap.size W W' := by first | exact bel | exact bel.below
  exact ⟨_, rfl, _, _, _, [], _, [], hW', trodAll_mk1 (shut_bool Try.underlying4 _), (trodAll_cons_mk (Below.trod laidOut (by kernel_rfl) (of_decide_eq_true (by kernel_rfl)) h0 bel lt0) trodAll_mk0), rfl, bel.frame _, fun h => by cases h⟩
theorem over : Rows.codecFieldsRow.holds Try.pinned (OpenSpec.ofChange Rows.codecFieldsSpec) :=
  OpenClaim.holds_of_wide 4 Try.f4 rfl rfl rfl rfl rfl rfl rfl ⟨rfl, rfl, rfl, rfl, rfl⟩ rfl rfl rfl rfl rfl (by kernel_rfl) Try.func4 (by kernel_rfl)
    (of_decide_eq_true (by kernel_rfl)) (by unfold Func.isWrapper; first | (rw [if_pos (by decide +kernel)]; kernel_rfl) | (rw [if_neg (by decide +kernel)]; exact ⟨rfl, rfl⟩))
    (fun os started H enc _ => lifted os started H enc)
theorem proved : Rows.CodecFieldsSaid := over
#print axioms proved
end Go.Proofs.Ytncfofnikmfjbaa.codecFields
namespace Go.Proofs.Ytncfofnikmfjbaa
/-- The row, under a short name, for the claim. -/
theorem codecFields_holds : Rows.CodecFieldsSaid := codecFields.proved
end Go.Proofs.Ytncfofnikmfjbaa
