-- written by a program of this session (wip/tools/pr.py, over the kit's printer): not by hand
import Derived.Test.YtncfofnikmfjbaaQPCix0
import Derived.Test.YtncfofnikmfjbaaQPCix6
namespace Go.Proofs.Ytncfofnikmfjbaa.PCi
open Go.RowKit Go.Proofs.YtncfofnikmfjbaaW.PrintWords Go.Proofs.YtncfofnikmfjbaaW.PrintLast Go.Proofs.YtncfofnikmfjbaaW.PrintMore
attribute [local go_sem] max2_int min2_int max_two min_two max_three min_three max_four min_four   -- for this text's walks alone
set_option linter.unusedVariables false
set_option linter.unusedSimpArgs false

/-! ### bollardref12_Encode -/
section
variable {w W W2 : World} {hk : Bool} {key : ByteArray} {hv : Bool} {val : ByteArray} {t o : Int}
end
end Go.Proofs.Ytncfofnikmfjbaa.PCi

-- written by a program of this session (wip/tools/pr.py, over the kit's printer): not by hand
namespace Go.Proofs.Ytncfofnikmfjbaa.PCi
open Go.RowKit Go.Proofs.YtncfofnikmfjbaaW.PrintWords Go.Proofs.YtncfofnikmfjbaaW.PrintLast Go.Proofs.YtncfofnikmfjbaaW.PrintMore
attribute [local go_sem] max2_int min2_int max_two min_two max_three min_three max_four min_four   -- for this text's walks alone
set_option linter.unusedVariables false
set_option linter.unusedSimpArgs false

/-! ### bollardref12_body: function 81 -/
/-! ### bollardref12_CheckBatch -/
/-! ### bollardref1_step: function 106 -/
end Go.Proofs.Ytncfofnikmfjbaa.PCi

-- written by a program of this session (wip/tools/pr.py, over the kit's printer): not by hand
namespace Go.Proofs.Ytncfofnikmfjbaa.PCi
open Go.RowKit Go.Proofs.YtncfofnikmfjbaaW.PrintWords Go.Proofs.YtncfofnikmfjbaaW.PrintLast Go.Proofs.YtncfofnikmfjbaaW.PrintMore
attribute [local go_sem] max2_int min2_int max_two min_two max_three min_three max_four min_four   -- for this text's walks alone
set_option linter.unusedVariables false
set_option linter.unusedSimpArgs false

/-! ### bollardref1_More: function 89 -/
/-! ### bollardref1_Sum: function 82 -/
/-! ### bollardref12_EncodeBatch: function 61 -/
/-! ### bollardlaw20_CodecRequests -/
/-! ### bollardalike_Round: function 17 -/
/-! ### bollardlaw20_CodecCuts -/
/-! ### bollardlaw20_CodecFields -/
open Classical in
noncomputable def bollardlaw20_CodecFields.f (_ : Nat) (a0_0 : Int) (a0_1 : Int) (a0_2 : ByteArray) (a0_3 : Int) (a0_4 : Int) (a0_5 : Int) (a0_6 : Int) (a0_7 : Int) (a0_8 : Bool) (a0_9 : Int) (a0_10 : Int) (a0_11 : Int) (l0_12 : List (S98)) (a0_13 : Int) (a0_14 : Int) (a0_15 : Int) (a0_16 : ByteArray) : Option Bool := if ((Lit.int .i64 a0_0).wf = true) ∧ ((Lit.int .i64 a0_1).wf = true) ∧ (a0_2.size ≤ 140737488351232) ∧ ((Lit.int .i64 a0_3).wf = true) ∧ ((Lit.int .i64 a0_4).wf = true) ∧ ((Lit.int .i64 a0_5).wf = true) ∧ ((Lit.int .i64 a0_6).wf = true) ∧ ((Lit.int .i64 a0_7).wf = true) ∧ ((Lit.int .i64 a0_9).wf = true) ∧ ((Lit.int .i64 a0_10).wf = true) ∧ ((Lit.int .i64 a0_11).wf = true) ∧ ((l0_12.length * 64 ≤ 140737488351232 ∧ ∀ y0 ∈ l0_12, (True ∧ (y0.f1.size ≤ 140737488351232 ∧ (True ∧ (y0.f3.size ≤ 140737488351232 ∧ ((Lit.int .i64 y0.f4).wf = true ∧ (Lit.int .i64 y0.f5).wf = true))))))) ∧ ((Lit.int .i64 a0_13).wf = true) ∧ ((Lit.int .i64 a0_14).wf = true) ∧ ((Lit.int .i64 a0_15).wf = true) ∧ (a0_16.size ≤ 140737488351232) then some true else none

/-- THE ONE PURE STATEMENT of bollardlaw20_CodecFields: mine. -/
def bollardlaw20_CodecFields.Pure : Prop := ∀ (a0_0 : Int) (a0_1 : Int) (a0_2 : ByteArray) (a0_3 : Int) (a0_4 : Int) (a0_5 : Int) (a0_6 : Int) (a0_7 : Int) (a0_8 : Bool) (a0_9 : Int) (a0_10 : Int) (a0_11 : Int) (l0_12 : List (S98)) (a0_13 : Int) (a0_14 : Int) (a0_15 : Int) (a0_16 : ByteArray), (Lit.int .i64 a0_0).wf = true → (Lit.int .i64 a0_1).wf = true → a0_2.size ≤ 140737488351232 → (Lit.int .i64 a0_3).wf = true → (Lit.int .i64 a0_4).wf = true → (Lit.int .i64 a0_5).wf = true → (Lit.int .i64 a0_6).wf = true → (Lit.int .i64 a0_7).wf = true → (Lit.int .i64 a0_9).wf = true → (Lit.int .i64 a0_10).wf = true → (Lit.int .i64 a0_11).wf = true → (l0_12.length * 64 ≤ 140737488351232 ∧ ∀ y0 ∈ l0_12, (True ∧ (y0.f1.size ≤ 140737488351232 ∧ (True ∧ (y0.f3.size ≤ 140737488351232 ∧ ((Lit.int .i64 y0.f4).wf = true ∧ (Lit.int .i64 y0.f5).wf = true)))))) → (Lit.int .i64 a0_13).wf = true → (Lit.int .i64 a0_14).wf = true → (Lit.int .i64 a0_15).wf = true → a0_16.size ≤ 140737488351232 → ∃ k, bollardlaw20_CodecFields.f k a0_0 a0_1 a0_2 a0_3 a0_4 a0_5 a0_6 a0_7 a0_8 a0_9 a0_10 a0_11 l0_12 a0_13 a0_14 a0_15 a0_16 = some true

end Go.Proofs.Ytncfofnikmfjbaa.PCi

-- written by a program of this session (wip/tools/pr.py, over the kit's printer): not by hand
namespace Go.Proofs.Ytncfofnikmfjbaa.PCi
open Go.RowKit Go.Proofs.YtncfofnikmfjbaaW.PrintWords Go.Proofs.YtncfofnikmfjbaaW.PrintLast Go.Proofs.YtncfofnikmfjbaaW.PrintMore
attribute [local go_sem] max2_int min2_int max_two min_two max_three min_three max_four min_four   -- for this text's walks alone
set_option linter.unusedVariables false
set_option linter.unusedSimpArgs false

theorem eqA98 (d : Nat) (w : World) (x0 y0 : Bool) (x1 y1 : ByteArray) (x2 y2 : Bool) (x3 y3 : ByteArray) (x4 y4 : Int) (x5 y5 : Int) :
    (Op.equalIn (d + 2) 98 (.agg #[.bool x0, .string x1, .bool x2, .string x3, .int .i64 x4, .int .i64 x5]) (.agg #[.bool y0, .string y1, .bool y2, .string y3, .int .i64 y4, .int .i64 y5])).run Try.prog w = .ok (x0 == y0 && (x1.toList == y1.toList && (x2 == y2 && (x3.toList == y3.toList && (x4 == y4 && (x5 == y5)))))) w := by
  refine eqA_of Try.underlying98 (by kernel_rfl) ?_
  refine eqf_cons (by rfl) (by go_simp; rfl) (by go_simp; rfl) (by go_simp) ?_
  refine eqf_cons (by rfl) (by go_simp; rfl) (by go_simp; rfl) (by go_simp) ?_
  refine eqf_cons (by rfl) (by go_simp; rfl) (by go_simp; rfl) (by go_simp) ?_
  refine eqf_cons (by rfl) (by go_simp; rfl) (by go_simp; rfl) (by go_simp) ?_
  refine eqf_cons (by rfl) (by go_simp; rfl) (by go_simp; rfl) (by go_simp) ?_
  exact eqf_last (by rfl) (by go_simp; rfl) (by go_simp; rfl) (by go_simp)
end Go.Proofs.Ytncfofnikmfjbaa.PCi
