-- written by a program of this session (wip/tools/pr.py, over the kit's printer): not by hand
import Derived.Test.YtncfofnikmfjbaaQPCix0
import Derived.Test.YtncfofnikmfjbaaQPCix1
import Derived.Test.YtncfofnikmfjbaaQPCix2
namespace Go.Proofs.Ytncfofnikmfjbaa.PCi
open Go.RowKit Go.Proofs.YtncfofnikmfjbaaW.PrintWords Go.Proofs.YtncfofnikmfjbaaW.PrintLast Go.Proofs.YtncfofnikmfjbaaW.PrintMore
attribute [local go_sem] max2_int min2_int max_two min_two max_three min_three max_four min_four   -- for this text's walks alone
set_option linter.unusedVariables false
set_option linter.unusedSimpArgs false

attribute [local go_sem high] eqA23 eqA98
/-! ### bollardref20_SameRequest: function 21 -/
mutual
def bollardref20_SameRequest.j0 : Nat → Bool → Int → Int → ByteArray → Int → Int → Int → Int → Int → Bool → Int → Int → Int → List (S98) → Int → Int → Int → ByteArray → Int → Int → ByteArray → Int → Int → Int → Int → Int → Bool → Int → Int → Int → List (S98) → Int → Int → Int → ByteArray → Option (Bool)
  | 0, _, _, _, _, _, _, _, _, _, _, _, _, _, _, _, _, _, _, _, _, _, _, _, _, _, _, _, _, _, _, _, _, _, _, _ => none
  | k + 1, x96, x147000, x147001, x147002, x147003, x147004, x147005, x147006, x147007, x147008, x147009, x147010, x147011, x147012, x147013, x147014, x147015, x147016, x148000, x148001, x148002, x148003, x148004, x148005, x148006, x148007, x148008, x148009, x148010, x148011, x148012, x148013, x148014, x148015, x148016 => if x96 = true then (some false) else (bollardref20_SameRequest.l0 k 0 x147000 x147001 x147002 x147003 x147004 x147005 x147006 x147007 x147008 x147009 x147010 x147011 x147012 x147013 x147014 x147015 x147016 x148000 x148001 x148002 x148003 x148004 x148005 x148006 x148007 x148008 x148009 x148010 x148011 x148012 x148013 x148014 x148015 x148016)
def bollardref20_SameRequest.l0 : Nat → Int → Int → Int → ByteArray → Int → Int → Int → Int → Int → Bool → Int → Int → Int → List (S98) → Int → Int → Int → ByteArray → Int → Int → ByteArray → Int → Int → Int → Int → Int → Bool → Int → Int → Int → List (S98) → Int → Int → Int → ByteArray → Option (Bool)
  | 0, _, _, _, _, _, _, _, _, _, _, _, _, _, _, _, _, _, _, _, _, _, _, _, _, _, _, _, _, _, _, _, _, _, _, _ => none
  | k + 1, x5, x147000, x147001, x147002, x147003, x147004, x147005, x147006, x147007, x147008, x147009, x147010, x147011, x147012, x147013, x147014, x147015, x147016, x148000, x148001, x148002, x148003, x148004, x148005, x148006, x148007, x148008, x148009, x148010, x148011, x148012, x148013, x148014, x148015, x148016 => if x5 < (x147012.length : Int) then (if 0 ≤ x5 then (if x5 < (x148012.length : Int) then (if (!(((rd_T98 x147012 x5).f0) == ((rd_T98 x148012 x5).f0)) || (!((((rd_T98 x147012 x5).f1).toList) == (((rd_T98 x148012 x5).f1).toList)) || (!(((rd_T98 x147012 x5).f2) == ((rd_T98 x148012 x5).f2)) || (!((((rd_T98 x147012 x5).f3).toList) == (((rd_T98 x148012 x5).f3).toList)) || (!(((rd_T98 x147012 x5).f4) == ((rd_T98 x148012 x5).f4)) || (!(((rd_T98 x147012 x5).f5) == ((rd_T98 x148012 x5).f5)))))))) = true then (some false) else (bollardref20_SameRequest.l0 k (wrap64 (x5 + 1)) x147000 x147001 x147002 x147003 x147004 x147005 x147006 x147007 x147008 x147009 x147010 x147011 x147012 x147013 x147014 x147015 x147016 x148000 x148001 x148002 x148003 x148004 x148005 x148006 x148007 x148008 x148009 x148010 x148011 x148012 x148013 x148014 x148015 x148016)) else (none)) else (none)) else (some true)
end
def bollardref20_SameRequest.f (k : Nat) (a0_0 : Int) (a0_1 : Int) (a0_2 : ByteArray) (a0_3 : Int) (a0_4 : Int) (a0_5 : Int) (a0_6 : Int) (a0_7 : Int) (a0_8 : Bool) (a0_9 : Int) (a0_10 : Int) (a0_11 : Int) (l0_12 : List (S98)) (a0_13 : Int) (a0_14 : Int) (a0_15 : Int) (a0_16 : ByteArray) (a1_0 : Int) (a1_1 : Int) (a1_2 : ByteArray) (a1_3 : Int) (a1_4 : Int) (a1_5 : Int) (a1_6 : Int) (a1_7 : Int) (a1_8 : Bool) (a1_9 : Int) (a1_10 : Int) (a1_11 : Int) (l1_12 : List (S98)) (a1_13 : Int) (a1_14 : Int) (a1_15 : Int) (a1_16 : ByteArray) : Option (Bool) := if a0_0 = a1_0 then (if a0_1 = a1_1 then (if a0_2.toList = a1_2.toList then (if a0_16.toList = a1_16.toList then (if a0_3 = a1_3 then (if a0_4 = a1_4 then (if (!(a0_5 == a1_5) || (!(a0_6 == a1_6) || (!(a0_7 == a1_7) || (!(a0_8 == a1_8) || (!(a0_9 == a1_9)))))) = true then (bollardref20_SameRequest.j0 k true a0_0 a0_1 a0_2 a0_3 a0_4 a0_5 a0_6 a0_7 a0_8 a0_9 a0_10 a0_11 l0_12 a0_13 a0_14 a0_15 a0_16 a1_0 a1_1 a1_2 a1_3 a1_4 a1_5 a1_6 a1_7 a1_8 a1_9 a1_10 a1_11 l1_12 a1_13 a1_14 a1_15 a1_16) else (if a0_10 = a1_10 then (if a0_11 = a1_11 then (if a0_13 = a1_13 then (if a0_14 = a1_14 then (if a0_15 = a1_15 then (bollardref20_SameRequest.j0 k ((l0_12.length : Int) != (l1_12.length : Int)) a0_0 a0_1 a0_2 a0_3 a0_4 a0_5 a0_6 a0_7 a0_8 a0_9 a0_10 a0_11 l0_12 a0_13 a0_14 a0_15 a0_16 a1_0 a1_1 a1_2 a1_3 a1_4 a1_5 a1_6 a1_7 a1_8 a1_9 a1_10 a1_11 l1_12 a1_13 a1_14 a1_15 a1_16) else (bollardref20_SameRequest.j0 k true a0_0 a0_1 a0_2 a0_3 a0_4 a0_5 a0_6 a0_7 a0_8 a0_9 a0_10 a0_11 l0_12 a0_13 a0_14 a0_15 a0_16 a1_0 a1_1 a1_2 a1_3 a1_4 a1_5 a1_6 a1_7 a1_8 a1_9 a1_10 a1_11 l1_12 a1_13 a1_14 a1_15 a1_16)) else (bollardref20_SameRequest.j0 k true a0_0 a0_1 a0_2 a0_3 a0_4 a0_5 a0_6 a0_7 a0_8 a0_9 a0_10 a0_11 l0_12 a0_13 a0_14 a0_15 a0_16 a1_0 a1_1 a1_2 a1_3 a1_4 a1_5 a1_6 a1_7 a1_8 a1_9 a1_10 a1_11 l1_12 a1_13 a1_14 a1_15 a1_16)) else (bollardref20_SameRequest.j0 k true a0_0 a0_1 a0_2 a0_3 a0_4 a0_5 a0_6 a0_7 a0_8 a0_9 a0_10 a0_11 l0_12 a0_13 a0_14 a0_15 a0_16 a1_0 a1_1 a1_2 a1_3 a1_4 a1_5 a1_6 a1_7 a1_8 a1_9 a1_10 a1_11 l1_12 a1_13 a1_14 a1_15 a1_16)) else (bollardref20_SameRequest.j0 k true a0_0 a0_1 a0_2 a0_3 a0_4 a0_5 a0_6 a0_7 a0_8 a0_9 a0_10 a0_11 l0_12 a0_13 a0_14 a0_15 a0_16 a1_0 a1_1 a1_2 a1_3 a1_4 a1_5 a1_6 a1_7 a1_8 a1_9 a1_10 a1_11 l1_12 a1_13 a1_14 a1_15 a1_16)) else (bollardref20_SameRequest.j0 k true a0_0 a0_1 a0_2 a0_3 a0_4 a0_5 a0_6 a0_7 a0_8 a0_9 a0_10 a0_11 l0_12 a0_13 a0_14 a0_15 a0_16 a1_0 a1_1 a1_2 a1_3 a1_4 a1_5 a1_6 a1_7 a1_8 a1_9 a1_10 a1_11 l1_12 a1_13 a1_14 a1_15 a1_16))) else (bollardref20_SameRequest.j0 k true a0_0 a0_1 a0_2 a0_3 a0_4 a0_5 a0_6 a0_7 a0_8 a0_9 a0_10 a0_11 l0_12 a0_13 a0_14 a0_15 a0_16 a1_0 a1_1 a1_2 a1_3 a1_4 a1_5 a1_6 a1_7 a1_8 a1_9 a1_10 a1_11 l1_12 a1_13 a1_14 a1_15 a1_16)) else (bollardref20_SameRequest.j0 k true a0_0 a0_1 a0_2 a0_3 a0_4 a0_5 a0_6 a0_7 a0_8 a0_9 a0_10 a0_11 l0_12 a0_13 a0_14 a0_15 a0_16 a1_0 a1_1 a1_2 a1_3 a1_4 a1_5 a1_6 a1_7 a1_8 a1_9 a1_10 a1_11 l1_12 a1_13 a1_14 a1_15 a1_16)) else (bollardref20_SameRequest.j0 k true a0_0 a0_1 a0_2 a0_3 a0_4 a0_5 a0_6 a0_7 a0_8 a0_9 a0_10 a0_11 l0_12 a0_13 a0_14 a0_15 a0_16 a1_0 a1_1 a1_2 a1_3 a1_4 a1_5 a1_6 a1_7 a1_8 a1_9 a1_10 a1_11 l1_12 a1_13 a1_14 a1_15 a1_16)) else (bollardref20_SameRequest.j0 k true a0_0 a0_1 a0_2 a0_3 a0_4 a0_5 a0_6 a0_7 a0_8 a0_9 a0_10 a0_11 l0_12 a0_13 a0_14 a0_15 a0_16 a1_0 a1_1 a1_2 a1_3 a1_4 a1_5 a1_6 a1_7 a1_8 a1_9 a1_10 a1_11 l1_12 a1_13 a1_14 a1_15 a1_16)) else (bollardref20_SameRequest.j0 k true a0_0 a0_1 a0_2 a0_3 a0_4 a0_5 a0_6 a0_7 a0_8 a0_9 a0_10 a0_11 l0_12 a0_13 a0_14 a0_15 a0_16 a1_0 a1_1 a1_2 a1_3 a1_4 a1_5 a1_6 a1_7 a1_8 a1_9 a1_10 a1_11 l1_12 a1_13 a1_14 a1_15 a1_16)) else (bollardref20_SameRequest.j0 k true a0_0 a0_1 a0_2 a0_3 a0_4 a0_5 a0_6 a0_7 a0_8 a0_9 a0_10 a0_11 l0_12 a0_13 a0_14 a0_15 a0_16 a1_0 a1_1 a1_2 a1_3 a1_4 a1_5 a1_6 a1_7 a1_8 a1_9 a1_10 a1_11 l1_12 a1_13 a1_14 a1_15 a1_16)
set_option maxHeartbeats 8000000 in
set_option maxRecDepth 100000 in
theorem bollardref20_SameRequest.calls (k : Nat) (a0_0 : Int) (a0_1 : Int) (a0_2 : ByteArray) (a0_3 : Int) (a0_4 : Int) (a0_5 : Int) (a0_6 : Int) (a0_7 : Int) (a0_8 : Bool) (a0_9 : Int) (a0_10 : Int) (a0_11 : Int) (A0_12 : Option Addr) (c0_12 : Nat) (l0_12 : List (S98)) (a0_13 : Int) (a0_14 : Int) (a0_15 : Int) (a0_16 : ByteArray) (a1_0 : Int) (a1_1 : Int) (a1_2 : ByteArray) (a1_3 : Int) (a1_4 : Int) (a1_5 : Int) (a1_6 : Int) (a1_7 : Int) (a1_8 : Bool) (a1_9 : Int) (a1_10 : Int) (a1_11 : Int) (A1_12 : Option Addr) (c1_12 : Nat) (l1_12 : List (S98)) (a1_13 : Int) (a1_14 : Int) (a1_15 : Int) (a1_16 : ByteArray) (r : Bool) (w : World) (hr0_12 : Kd.C k98 w A0_12 l0_12.length l0_12) (hc0_12 : l0_12.length ≤ c0_12) (hr1_12 : Kd.C k98 w A1_12 l1_12.length l1_12) (hc1_12 : l1_12.length ≤ c1_12) (h : bollardref20_SameRequest.f k a0_0 a0_1 a0_2 a0_3 a0_4 a0_5 a0_6 a0_7 a0_8 a0_9 a0_10 a0_11 l0_12 a0_13 a0_14 a0_15 a0_16 a1_0 a1_1 a1_2 a1_3 a1_4 a1_5 a1_6 a1_7 a1_8 a1_9 a1_10 a1_11 l1_12 a1_13 a1_14 a1_15 a1_16 = some r) :
    Calls Try.prog 21 #[.agg #[.int .i64 a0_0, .int .i64 a0_1, .string a0_2, .int .i64 a0_3, .int .i64 a0_4, .int .i64 a0_5, .int .i64 a0_6, .int .i64 a0_7, .bool a0_8, .int .i64 a0_9, .int .i64 a0_10, .int .i64 a0_11, .slice A0_12 l0_12.length c0_12, .int .i64 a0_13, .int .i64 a0_14, .int .i64 a0_15, .string a0_16], .agg #[.int .i64 a1_0, .int .i64 a1_1, .string a1_2, .int .i64 a1_3, .int .i64 a1_4, .int .i64 a1_5, .int .i64 a1_6, .int .i64 a1_7, .bool a1_8, .int .i64 a1_9, .int .i64 a1_10, .int .i64 a1_11, .slice A1_12 l1_12.length c1_12, .int .i64 a1_13, .int .i64 a1_14, .int .i64 a1_15, .string a1_16]] w fun e w' => e = .returned (.bool r) ∧ Below w.heap.size w w' := by
  have hu26 := Try.underlying26
  have hu23 := Try.underlying23
  have hu98 := Try.underlying98
  have HR0_12 := Aside0.mk hr0_12
  have HC0_12 := Aside0.mk hc0_12
  clear hr0_12 hc0_12
  have HR1_12 := Aside0.mk hr1_12
  have HC1_12 := Aside0.mk hc1_12
  clear hr1_12 hc1_12
  have HB := Aside0.mk (Below.refl w.heap.size w)
  have H : (if a0_0 = a1_0 then (if a0_1 = a1_1 then (if a0_2.toList = a1_2.toList then (if a0_16.toList = a1_16.toList then (if a0_3 = a1_3 then (if a0_4 = a1_4 then (if (!(a0_5 == a1_5) || (!(a0_6 == a1_6) || (!(a0_7 == a1_7) || (!(a0_8 == a1_8) || (!(a0_9 == a1_9)))))) = true then (bollardref20_SameRequest.j0 k true a0_0 a0_1 a0_2 a0_3 a0_4 a0_5 a0_6 a0_7 a0_8 a0_9 a0_10 a0_11 l0_12 a0_13 a0_14 a0_15 a0_16 a1_0 a1_1 a1_2 a1_3 a1_4 a1_5 a1_6 a1_7 a1_8 a1_9 a1_10 a1_11 l1_12 a1_13 a1_14 a1_15 a1_16) else (if a0_10 = a1_10 then (if a0_11 = a1_11 then (if a0_13 = a1_13 then (if a0_14 = a1_14 then (if a0_15 = a1_15 then (bollardref20_SameRequest.j0 k ((l0_12.length : Int) != (l1_12.length : Int)) a0_0 a0_1 a0_2 a0_3 a0_4 a0_5 a0_6 a0_7 a0_8 a0_9 a0_10 a0_11 l0_12 a0_13 a0_14 a0_15 a0_16 a1_0 a1_1 a1_2 a1_3 a1_4 a1_5 a1_6 a1_7 a1_8 a1_9 a1_10 a1_11 l1_12 a1_13 a1_14 a1_15 a1_16) else (bollardref20_SameRequest.j0 k true a0_0 a0_1 a0_2 a0_3 a0_4 a0_5 a0_6 a0_7 a0_8 a0_9 a0_10 a0_11 l0_12 a0_13 a0_14 a0_15 a0_16 a1_0 a1_1 a1_2 a1_3 a1_4 a1_5 a1_6 a1_7 a1_8 a1_9 a1_10 a1_11 l1_12 a1_13 a1_14 a1_15 a1_16)) else (bollardref20_SameRequest.j0 k true a0_0 a0_1 a0_2 a0_3 a0_4 a0_5 a0_6 a0_7 a0_8 a0_9 a0_10 a0_11 l0_12 a0_13 a0_14 a0_15 a0_16 a1_0 a1_1 a1_2 a1_3 a1_4 a1_5 a1_6 a1_7 a1_8 a1_9 a1_10 a1_11 l1_12 a1_13 a1_14 a1_15 a1_16)) else (bollardref20_SameRequest.j0 k true a0_0 a0_1 a0_2 a0_3 a0_4 a0_5 a0_6 a0_7 a0_8 a0_9 a0_10 a0_11 l0_12 a0_13 a0_14 a0_15 a0_16 a1_0 a1_1 a1_2 a1_3 a1_4 a1_5 a1_6 a1_7 a1_8 a1_9 a1_10 a1_11 l1_12 a1_13 a1_14 a1_15 a1_16)) else (bollardref20_SameRequest.j0 k true a0_0 a0_1 a0_2 a0_3 a0_4 a0_5 a0_6 a0_7 a0_8 a0_9 a0_10 a0_11 l0_12 a0_13 a0_14 a0_15 a0_16 a1_0 a1_1 a1_2 a1_3 a1_4 a1_5 a1_6 a1_7 a1_8 a1_9 a1_10 a1_11 l1_12 a1_13 a1_14 a1_15 a1_16)) else (bollardref20_SameRequest.j0 k true a0_0 a0_1 a0_2 a0_3 a0_4 a0_5 a0_6 a0_7 a0_8 a0_9 a0_10 a0_11 l0_12 a0_13 a0_14 a0_15 a0_16 a1_0 a1_1 a1_2 a1_3 a1_4 a1_5 a1_6 a1_7 a1_8 a1_9 a1_10 a1_11 l1_12 a1_13 a1_14 a1_15 a1_16))) else (bollardref20_SameRequest.j0 k true a0_0 a0_1 a0_2 a0_3 a0_4 a0_5 a0_6 a0_7 a0_8 a0_9 a0_10 a0_11 l0_12 a0_13 a0_14 a0_15 a0_16 a1_0 a1_1 a1_2 a1_3 a1_4 a1_5 a1_6 a1_7 a1_8 a1_9 a1_10 a1_11 l1_12 a1_13 a1_14 a1_15 a1_16)) else (bollardref20_SameRequest.j0 k true a0_0 a0_1 a0_2 a0_3 a0_4 a0_5 a0_6 a0_7 a0_8 a0_9 a0_10 a0_11 l0_12 a0_13 a0_14 a0_15 a0_16 a1_0 a1_1 a1_2 a1_3 a1_4 a1_5 a1_6 a1_7 a1_8 a1_9 a1_10 a1_11 l1_12 a1_13 a1_14 a1_15 a1_16)) else (bollardref20_SameRequest.j0 k true a0_0 a0_1 a0_2 a0_3 a0_4 a0_5 a0_6 a0_7 a0_8 a0_9 a0_10 a0_11 l0_12 a0_13 a0_14 a0_15 a0_16 a1_0 a1_1 a1_2 a1_3 a1_4 a1_5 a1_6 a1_7 a1_8 a1_9 a1_10 a1_11 l1_12 a1_13 a1_14 a1_15 a1_16)) else (bollardref20_SameRequest.j0 k true a0_0 a0_1 a0_2 a0_3 a0_4 a0_5 a0_6 a0_7 a0_8 a0_9 a0_10 a0_11 l0_12 a0_13 a0_14 a0_15 a0_16 a1_0 a1_1 a1_2 a1_3 a1_4 a1_5 a1_6 a1_7 a1_8 a1_9 a1_10 a1_11 l1_12 a1_13 a1_14 a1_15 a1_16)) else (bollardref20_SameRequest.j0 k true a0_0 a0_1 a0_2 a0_3 a0_4 a0_5 a0_6 a0_7 a0_8 a0_9 a0_10 a0_11 l0_12 a0_13 a0_14 a0_15 a0_16 a1_0 a1_1 a1_2 a1_3 a1_4 a1_5 a1_6 a1_7 a1_8 a1_9 a1_10 a1_11 l1_12 a1_13 a1_14 a1_15 a1_16)) else (bollardref20_SameRequest.j0 k true a0_0 a0_1 a0_2 a0_3 a0_4 a0_5 a0_6 a0_7 a0_8 a0_9 a0_10 a0_11 l0_12 a0_13 a0_14 a0_15 a0_16 a1_0 a1_1 a1_2 a1_3 a1_4 a1_5 a1_6 a1_7 a1_8 a1_9 a1_10 a1_11 l1_12 a1_13 a1_14 a1_15 a1_16)) = some r := h
  clear h
  have HC3 := Aside0.mk H
  clear H
  go_enter Try.func21, Try.ntmps21
  go_upto_region 1 with (first | ((with_reducible refine gate_dst (N := 2) rfl ?_); (try (refine gate_guard (by rfl) ?_; dsimp only)); refine box_event ?hg (N := 2) ?hd (cs := #[.int .i64 a0_0, .int .i64 a0_1, .string a0_2, .int .i64 a0_3, .int .i64 a0_4, .int .i64 a0_5, .int .i64 a0_6, .int .i64 a0_7, .bool a0_8, .int .i64 a0_9, .int .i64 a0_10, .int .i64 a0_11, .slice A0_12 l0_12.length c0_12, .int .i64 a0_13, .int .i64 a0_14, .int .i64 a0_15, .string a0_16]) (t := 26) ?hr ?_; (case hd => rfl); (case hg => rfl); (case hr => first | (go_simp; done) | (go_simp; rfl)); intro gb146 hg w4 hbox hb; have n0_ := Aside0.mk (below_step (by repeat (first | (with_reducible first | exact HB.out | apply below_alloc | apply pw_below_drewN | apply below_drew1) | exact HB.out)) hb); have n1_ := Aside0.mk (hbox); have n2_ := Aside0.mk ((by rw [hg]; exact (below_size (by repeat (first | (with_reducible first | exact HB.out | apply below_alloc | apply pw_below_drewN | apply below_drew1) | exact HB.out))) : w.heap.size ≤ gb146)); have n3_ := Aside0.mk ((by rw [hg]; exact (below_size (by repeat (first | (with_reducible first | exact HB.out | apply below_alloc | apply pw_below_drewN | apply below_drew1) | exact HB.out))) : w.heap.size ≤ gb146)); clear HB; have HB := n0_; have BK146 := n1_; have GW146 := n2_; have GE146 := n3_; clear n0_ n1_ n2_ n3_; clear hb hbox hg) | ((with_reducible refine gate_dst (N := 3) rfl ?_); (try (refine gate_guard (by rfl) ?_; dsimp only)); refine box_event ?hg (N := 3) ?hd (cs := #[.int .i64 a1_0, .int .i64 a1_1, .string a1_2, .int .i64 a1_3, .int .i64 a1_4, .int .i64 a1_5, .int .i64 a1_6, .int .i64 a1_7, .bool a1_8, .int .i64 a1_9, .int .i64 a1_10, .int .i64 a1_11, .slice A1_12 l1_12.length c1_12, .int .i64 a1_13, .int .i64 a1_14, .int .i64 a1_15, .string a1_16]) (t := 26) ?hr ?_; (case hd => rfl); (case hg => rfl); (case hr => first | (go_simp; done) | (go_simp; rfl)); intro gb147 hg w5 hbox hb; have n0_ := Aside0.mk (blk_below (g := gb146) (o := .cells #[.int .i64 a0_0, .int .i64 a0_1, .string a0_2, .int .i64 a0_3, .int .i64 a0_4, .int .i64 a0_5, .int .i64 a0_6, .int .i64 a0_7, .bool a0_8, .int .i64 a0_9, .int .i64 a0_10, .int .i64 a0_11, .slice A0_12 l0_12.length c0_12, .int .i64 a0_13, .int .i64 a0_14, .int .i64 a0_15, .string a0_16] 26 (0, 0)) (by (with_reducible repeat (first | refine blk_drewN ?_ _ | refine blk_drew ?_ | refine blk_alloc ?_ _)); exact BK146.out) hb); have n1_ := Aside0.mk (below_step (by repeat (first | (with_reducible first | exact HB.out | apply below_alloc | apply pw_below_drewN | apply below_drew1 | refine below_set ?_ GE146.out) | exact HB.out)) hb); have n2_ := Aside0.mk (hbox); have n3_ := Aside0.mk ((by rw [hg]; exact (below_size (by repeat (first | (with_reducible first | exact HB.out | apply below_alloc | apply pw_below_drewN | apply below_drew1 | refine below_set ?_ GE146.out) | exact HB.out))) : w.heap.size ≤ gb147)); have n4_ := Aside0.mk ((by rw [hg]; exact (below_size (by repeat (first | (with_reducible first | exact HB.out | apply below_alloc | apply pw_below_drewN | apply below_drew1 | refine below_set ?_ GE146.out) | exact HB.out))) : w.heap.size ≤ gb147)); have n5_ := Aside0.mk ((by rw [hg]; exact Nat.ne_of_lt (blk_lt (g := gb146) (o := .cells #[.int .i64 a0_0, .int .i64 a0_1, .string a0_2, .int .i64 a0_3, .int .i64 a0_4, .int .i64 a0_5, .int .i64 a0_6, .int .i64 a0_7, .bool a0_8, .int .i64 a0_9, .int .i64 a0_10, .int .i64 a0_11, .slice A0_12 l0_12.length c0_12, .int .i64 a0_13, .int .i64 a0_14, .int .i64 a0_15, .string a0_16] 26 (0, 0)) (by (with_reducible repeat (first | refine blk_drewN ?_ _ | refine blk_drew ?_ | refine blk_alloc ?_ _)); exact BK146.out)) : gb146 ≠ gb147)); have n6_ := Aside0.mk ((by rw [hg]; exact Nat.ne_of_gt (blk_lt (g := gb146) (o := .cells #[.int .i64 a0_0, .int .i64 a0_1, .string a0_2, .int .i64 a0_3, .int .i64 a0_4, .int .i64 a0_5, .int .i64 a0_6, .int .i64 a0_7, .bool a0_8, .int .i64 a0_9, .int .i64 a0_10, .int .i64 a0_11, .slice A0_12 l0_12.length c0_12, .int .i64 a0_13, .int .i64 a0_14, .int .i64 a0_15, .string a0_16] 26 (0, 0)) (by (with_reducible repeat (first | refine blk_drewN ?_ _ | refine blk_drew ?_ | refine blk_alloc ?_ _)); exact BK146.out)) : gb147 ≠ gb146)); clear BK146; clear HB; have BK146 := n0_; have HB := n1_; have BK147 := n2_; have GW147 := n3_; have GE147 := n4_; have NB146_147 := n5_; have NB147_146 := n6_; clear n0_ n1_ n2_ n3_ n4_ n5_ n6_; clear hb hbox hg))
  repeat (go_quiet (first | ((with_reducible refine gate_dst (N := 2) rfl ?_); (try (refine gate_guard (by rfl) ?_; dsimp only)); refine box_event ?hg (N := 2) ?hd (cs := #[.int .i64 a0_0, .int .i64 a0_1, .string a0_2, .int .i64 a0_3, .int .i64 a0_4, .int .i64 a0_5, .int .i64 a0_6, .int .i64 a0_7, .bool a0_8, .int .i64 a0_9, .int .i64 a0_10, .int .i64 a0_11, .slice A0_12 l0_12.length c0_12, .int .i64 a0_13, .int .i64 a0_14, .int .i64 a0_15, .string a0_16]) (t := 26) ?hr ?_; (case hd => rfl); (case hg => rfl); (case hr => first | (go_simp; done) | (go_simp; rfl)); intro gb146 hg w4 hbox hb; have n0_ := Aside0.mk (below_step (by repeat (first | (with_reducible first | exact HB.out | apply below_alloc | apply pw_below_drewN | apply below_drew1) | exact HB.out)) hb); have n1_ := Aside0.mk (hbox); have n2_ := Aside0.mk ((by rw [hg]; exact (below_size (by repeat (first | (with_reducible first | exact HB.out | apply below_alloc | apply pw_below_drewN | apply below_drew1) | exact HB.out))) : w.heap.size ≤ gb146)); have n3_ := Aside0.mk ((by rw [hg]; exact (below_size (by repeat (first | (with_reducible first | exact HB.out | apply below_alloc | apply pw_below_drewN | apply below_drew1) | exact HB.out))) : w.heap.size ≤ gb146)); clear HB; have HB := n0_; have BK146 := n1_; have GW146 := n2_; have GE146 := n3_; clear n0_ n1_ n2_ n3_; clear hb hbox hg) | ((with_reducible refine gate_dst (N := 3) rfl ?_); (try (refine gate_guard (by rfl) ?_; dsimp only)); refine box_event ?hg (N := 3) ?hd (cs := #[.int .i64 a1_0, .int .i64 a1_1, .string a1_2, .int .i64 a1_3, .int .i64 a1_4, .int .i64 a1_5, .int .i64 a1_6, .int .i64 a1_7, .bool a1_8, .int .i64 a1_9, .int .i64 a1_10, .int .i64 a1_11, .slice A1_12 l1_12.length c1_12, .int .i64 a1_13, .int .i64 a1_14, .int .i64 a1_15, .string a1_16]) (t := 26) ?hr ?_; (case hd => rfl); (case hg => rfl); (case hr => first | (go_simp; done) | (go_simp; rfl)); intro gb147 hg w5 hbox hb; have n0_ := Aside0.mk (blk_below (g := gb146) (o := .cells #[.int .i64 a0_0, .int .i64 a0_1, .string a0_2, .int .i64 a0_3, .int .i64 a0_4, .int .i64 a0_5, .int .i64 a0_6, .int .i64 a0_7, .bool a0_8, .int .i64 a0_9, .int .i64 a0_10, .int .i64 a0_11, .slice A0_12 l0_12.length c0_12, .int .i64 a0_13, .int .i64 a0_14, .int .i64 a0_15, .string a0_16] 26 (0, 0)) (by (with_reducible repeat (first | refine blk_drewN ?_ _ | refine blk_drew ?_ | refine blk_alloc ?_ _)); exact BK146.out) hb); have n1_ := Aside0.mk (below_step (by repeat (first | (with_reducible first | exact HB.out | apply below_alloc | apply pw_below_drewN | apply below_drew1 | refine below_set ?_ GE146.out) | exact HB.out)) hb); have n2_ := Aside0.mk (hbox); have n3_ := Aside0.mk ((by rw [hg]; exact (below_size (by repeat (first | (with_reducible first | exact HB.out | apply below_alloc | apply pw_below_drewN | apply below_drew1 | refine below_set ?_ GE146.out) | exact HB.out))) : w.heap.size ≤ gb147)); have n4_ := Aside0.mk ((by rw [hg]; exact (below_size (by repeat (first | (with_reducible first | exact HB.out | apply below_alloc | apply pw_below_drewN | apply below_drew1 | refine below_set ?_ GE146.out) | exact HB.out))) : w.heap.size ≤ gb147)); have n5_ := Aside0.mk ((by rw [hg]; exact Nat.ne_of_lt (blk_lt (g := gb146) (o := .cells #[.int .i64 a0_0, .int .i64 a0_1, .string a0_2, .int .i64 a0_3, .int .i64 a0_4, .int .i64 a0_5, .int .i64 a0_6, .int .i64 a0_7, .bool a0_8, .int .i64 a0_9, .int .i64 a0_10, .int .i64 a0_11, .slice A0_12 l0_12.length c0_12, .int .i64 a0_13, .int .i64 a0_14, .int .i64 a0_15, .string a0_16] 26 (0, 0)) (by (with_reducible repeat (first | refine blk_drewN ?_ _ | refine blk_drew ?_ | refine blk_alloc ?_ _)); exact BK146.out)) : gb146 ≠ gb147)); have n6_ := Aside0.mk ((by rw [hg]; exact Nat.ne_of_gt (blk_lt (g := gb146) (o := .cells #[.int .i64 a0_0, .int .i64 a0_1, .string a0_2, .int .i64 a0_3, .int .i64 a0_4, .int .i64 a0_5, .int .i64 a0_6, .int .i64 a0_7, .bool a0_8, .int .i64 a0_9, .int .i64 a0_10, .int .i64 a0_11, .slice A0_12 l0_12.length c0_12, .int .i64 a0_13, .int .i64 a0_14, .int .i64 a0_15, .string a0_16] 26 (0, 0)) (by (with_reducible repeat (first | refine blk_drewN ?_ _ | refine blk_drew ?_ | refine blk_alloc ?_ _)); exact BK146.out)) : gb147 ≠ gb146)); clear BK146; clear HB; have BK146 := n0_; have HB := n1_; have BK147 := n2_; have GW147 := n3_; have GE147 := n4_; have NB146_147 := n5_; have NB147_146 := n6_; clear n0_ n1_ n2_ n3_ n4_ n5_ n6_; clear hb hbox hg)); go_upto_region 1 with (first | ((with_reducible refine gate_dst (N := 2) rfl ?_); (try (refine gate_guard (by rfl) ?_; dsimp only)); refine box_event ?hg (N := 2) ?hd (cs := #[.int .i64 a0_0, .int .i64 a0_1, .string a0_2, .int .i64 a0_3, .int .i64 a0_4, .int .i64 a0_5, .int .i64 a0_6, .int .i64 a0_7, .bool a0_8, .int .i64 a0_9, .int .i64 a0_10, .int .i64 a0_11, .slice A0_12 l0_12.length c0_12, .int .i64 a0_13, .int .i64 a0_14, .int .i64 a0_15, .string a0_16]) (t := 26) ?hr ?_; (case hd => rfl); (case hg => rfl); (case hr => first | (go_simp; done) | (go_simp; rfl)); intro gb146 hg w4 hbox hb; have n0_ := Aside0.mk (below_step (by repeat (first | (with_reducible first | exact HB.out | apply below_alloc | apply pw_below_drewN | apply below_drew1) | exact HB.out)) hb); have n1_ := Aside0.mk (hbox); have n2_ := Aside0.mk ((by rw [hg]; exact (below_size (by repeat (first | (with_reducible first | exact HB.out | apply below_alloc | apply pw_below_drewN | apply below_drew1) | exact HB.out))) : w.heap.size ≤ gb146)); have n3_ := Aside0.mk ((by rw [hg]; exact (below_size (by repeat (first | (with_reducible first | exact HB.out | apply below_alloc | apply pw_below_drewN | apply below_drew1) | exact HB.out))) : w.heap.size ≤ gb146)); clear HB; have HB := n0_; have BK146 := n1_; have GW146 := n2_; have GE146 := n3_; clear n0_ n1_ n2_ n3_; clear hb hbox hg) | ((with_reducible refine gate_dst (N := 3) rfl ?_); (try (refine gate_guard (by rfl) ?_; dsimp only)); refine box_event ?hg (N := 3) ?hd (cs := #[.int .i64 a1_0, .int .i64 a1_1, .string a1_2, .int .i64 a1_3, .int .i64 a1_4, .int .i64 a1_5, .int .i64 a1_6, .int .i64 a1_7, .bool a1_8, .int .i64 a1_9, .int .i64 a1_10, .int .i64 a1_11, .slice A1_12 l1_12.length c1_12, .int .i64 a1_13, .int .i64 a1_14, .int .i64 a1_15, .string a1_16]) (t := 26) ?hr ?_; (case hd => rfl); (case hg => rfl); (case hr => first | (go_simp; done) | (go_simp; rfl)); intro gb147 hg w5 hbox hb; have n0_ := Aside0.mk (blk_below (g := gb146) (o := .cells #[.int .i64 a0_0, .int .i64 a0_1, .string a0_2, .int .i64 a0_3, .int .i64 a0_4, .int .i64 a0_5, .int .i64 a0_6, .int .i64 a0_7, .bool a0_8, .int .i64 a0_9, .int .i64 a0_10, .int .i64 a0_11, .slice A0_12 l0_12.length c0_12, .int .i64 a0_13, .int .i64 a0_14, .int .i64 a0_15, .string a0_16] 26 (0, 0)) (by (with_reducible repeat (first | refine blk_drewN ?_ _ | refine blk_drew ?_ | refine blk_alloc ?_ _)); exact BK146.out) hb); have n1_ := Aside0.mk (below_step (by repeat (first | (with_reducible first | exact HB.out | apply below_alloc | apply pw_below_drewN | apply below_drew1 | refine below_set ?_ GE146.out) | exact HB.out)) hb); have n2_ := Aside0.mk (hbox); have n3_ := Aside0.mk ((by rw [hg]; exact (below_size (by repeat (first | (with_reducible first | exact HB.out | apply below_alloc | apply pw_below_drewN | apply below_drew1 | refine below_set ?_ GE146.out) | exact HB.out))) : w.heap.size ≤ gb147)); have n4_ := Aside0.mk ((by rw [hg]; exact (below_size (by repeat (first | (with_reducible first | exact HB.out | apply below_alloc | apply pw_below_drewN | apply below_drew1 | refine below_set ?_ GE146.out) | exact HB.out))) : w.heap.size ≤ gb147)); have n5_ := Aside0.mk ((by rw [hg]; exact Nat.ne_of_lt (blk_lt (g := gb146) (o := .cells #[.int .i64 a0_0, .int .i64 a0_1, .string a0_2, .int .i64 a0_3, .int .i64 a0_4, .int .i64 a0_5, .int .i64 a0_6, .int .i64 a0_7, .bool a0_8, .int .i64 a0_9, .int .i64 a0_10, .int .i64 a0_11, .slice A0_12 l0_12.length c0_12, .int .i64 a0_13, .int .i64 a0_14, .int .i64 a0_15, .string a0_16] 26 (0, 0)) (by (with_reducible repeat (first | refine blk_drewN ?_ _ | refine blk_drew ?_ | refine blk_alloc ?_ _)); exact BK146.out)) : gb146 ≠ gb147)); have n6_ := Aside0.mk ((by rw [hg]; exact Nat.ne_of_gt (blk_lt (g := gb146) (o := .cells #[.int .i64 a0_0, .int .i64 a0_1, .string a0_2, .int .i64 a0_3, .int .i64 a0_4, .int .i64 a0_5, .int .i64 a0_6, .int .i64 a0_7, .bool a0_8, .int .i64 a0_9, .int .i64 a0_10, .int .i64 a0_11, .slice A0_12 l0_12.length c0_12, .int .i64 a0_13, .int .i64 a0_14, .int .i64 a0_15, .string a0_16] 26 (0, 0)) (by (with_reducible repeat (first | refine blk_drewN ?_ _ | refine blk_drew ?_ | refine blk_alloc ?_ _)); exact BK146.out)) : gb147 ≠ gb146)); clear BK146; clear HB; have BK146 := n0_; have HB := n1_; have BK147 := n2_; have GW147 := n3_; have GE147 := n4_; have NB146_147 := n5_; have NB147_146 := n6_; clear n0_ n1_ n2_ n3_ n4_ n5_ n6_; clear hb hbox hg)))
  (try simp only [Act.put, List.setIfInBounds_toArray, List.set_cons_zero, List.set_cons_succ])
  go_cut [96] (fun v96 wc => ∃ (kq : Nat) (x96_2 : Bool), v96 = .bool x96_2 ∧ Aside0 (bollardref20_SameRequest.j0 kq x96_2 a0_0 a0_1 a0_2 a0_3 a0_4 a0_5 a0_6 a0_7 a0_8 a0_9 a0_10 a0_11 l0_12 a0_13 a0_14 a0_15 a0_16 a1_0 a1_1 a1_2 a1_3 a1_4 a1_5 a1_6 a1_7 a1_8 a1_9 a1_10 a1_11 l1_12 a1_13 a1_14 a1_15 a1_16 = some r) ∧ Aside0 (kq ≤ k) ∧ Aside0 (wc.heap[gb146]? = some (.cells #[.int .i64 a0_0, .int .i64 a0_1, .string a0_2, .int .i64 a0_3, .int .i64 a0_4, .int .i64 a0_5, .int .i64 a0_6, .int .i64 a0_7, .bool a0_8, .int .i64 a0_9, .int .i64 a0_10, .int .i64 a0_11, (.slice A0_12 l0_12.length c0_12), .int .i64 a0_13, .int .i64 a0_14, .int .i64 a0_15, .string a0_16] 26 (0, 0))) ∧ Aside0 (wc.heap[gb147]? = some (.cells #[.int .i64 a1_0, .int .i64 a1_1, .string a1_2, .int .i64 a1_3, .int .i64 a1_4, .int .i64 a1_5, .int .i64 a1_6, .int .i64 a1_7, .bool a1_8, .int .i64 a1_9, .int .i64 a1_10, .int .i64 a1_11, (.slice A1_12 l1_12.length c1_12), .int .i64 a1_13, .int .i64 a1_14, .int .i64 a1_15, .string a1_16] 26 (0, 0))) ∧ Aside0 (Below w.heap.size w wc))
  case first =>
    have H := HC3.out
    clear HC3
    by_cases c6 : a0_0 = a1_0
    · rw [if_pos c6] at H
      have c6b0 : (a0_0 == a1_0) = true := beq_iff_eq.mpr c6
      have c6b1 : (a0_0 != a1_0) = false := bne_eq_false_iff_eq.mpr c6
      clear c6
      (first | rw [c6b0] | (simp only [i64_w, i32_w]; rw [c6b0]) | skip)
      by_cases c7 : a0_1 = a1_1
      · rw [if_pos c7] at H
        have c7b0 : (a0_1 == a1_1) = true := beq_iff_eq.mpr c7
        have c7b1 : (a0_1 != a1_1) = false := bne_eq_false_iff_eq.mpr c7
        clear c7
        by_cases c8 : a0_2.toList = a1_2.toList
        · rw [if_pos c8] at H
          have c8b0 : (a0_2.toList == a1_2.toList) = true := beq_iff_eq.mpr c8
          have c8b1 : (a0_2.toList != a1_2.toList) = false := bne_eq_false_iff_eq.mpr c8
          clear c8
          by_cases c9 : a0_16.toList = a1_16.toList
          · rw [if_pos c9] at H
            have c9b0 : (a0_16.toList == a1_16.toList) = true := beq_iff_eq.mpr c9
            have c9b1 : (a0_16.toList != a1_16.toList) = false := bne_eq_false_iff_eq.mpr c9
            clear c9
            by_cases c10 : a0_3 = a1_3
            · rw [if_pos c10] at H
              have c10b0 : (a0_3 == a1_3) = true := beq_iff_eq.mpr c10
              have c10b1 : (a0_3 != a1_3) = false := bne_eq_false_iff_eq.mpr c10
              clear c10
              by_cases c11 : a0_4 = a1_4
              · rw [if_pos c11] at H
                have c11b0 : (a0_4 == a1_4) = true := beq_iff_eq.mpr c11
                have c11b1 : (a0_4 != a1_4) = false := bne_eq_false_iff_eq.mpr c11
                clear c11
                by_cases c12 : (!(a0_5 == a1_5) || (!(a0_6 == a1_6) || (!(a0_7 == a1_7) || (!(a0_8 == a1_8) || (!(a0_9 == a1_9)))))) = true
                · rw [if_pos c12] at H
                  have c12b0 : (!(a0_5 == a1_5) || (!(a0_6 == a1_6) || (!(a0_7 == a1_7) || (!(a0_8 == a1_8) || (!(a0_9 == a1_9)))))) = true := c12
                  clear c12
                  have H' := Aside0.mk H
                  clear H
                  have hnb13 := NB146_147.out
                  have hnc13 := NB147_146.out
                  have hcz14_0 : w5.cell? ⟨gb146, 0, none⟩ = some (.int .i64 a0_0) := (blk_cell BK146.out 0).trans rfl
                  have hcz14_1 : w5.cell? ⟨gb146, 1, none⟩ = some (.int .i64 a0_1) := (blk_cell BK146.out 1).trans rfl
                  have hcz14_2 : w5.cell? ⟨gb146, 2, none⟩ = some (.string a0_2) := (blk_cell BK146.out 2).trans rfl
                  have hcz14_3 : w5.cell? ⟨gb146, 3, none⟩ = some (.int .i64 a0_3) := (blk_cell BK146.out 3).trans rfl
                  have hcz14_4 : w5.cell? ⟨gb146, 4, none⟩ = some (.int .i64 a0_4) := (blk_cell BK146.out 4).trans rfl
                  have hcz14_5 : w5.cell? ⟨gb146, 5, none⟩ = some (.int .i64 a0_5) := (blk_cell BK146.out 5).trans rfl
                  have hcz14_6 : w5.cell? ⟨gb146, 6, none⟩ = some (.int .i64 a0_6) := (blk_cell BK146.out 6).trans rfl
                  have hcz14_7 : w5.cell? ⟨gb146, 7, none⟩ = some (.int .i64 a0_7) := (blk_cell BK146.out 7).trans rfl
                  have hcz14_8 : w5.cell? ⟨gb146, 8, none⟩ = some (.bool a0_8) := (blk_cell BK146.out 8).trans rfl
                  have hcz14_9 : w5.cell? ⟨gb146, 9, none⟩ = some (.int .i64 a0_9) := (blk_cell BK146.out 9).trans rfl
                  have hcz14_10 : w5.cell? ⟨gb146, 10, none⟩ = some (.int .i64 a0_10) := (blk_cell BK146.out 10).trans rfl
                  have hcz14_11 : w5.cell? ⟨gb146, 11, none⟩ = some (.int .i64 a0_11) := (blk_cell BK146.out 11).trans rfl
                  have hcz14_12 : w5.cell? ⟨gb146, 12, none⟩ = some (.slice A0_12 l0_12.length c0_12) := (blk_cell BK146.out 12).trans rfl
                  have hcz14_13 : w5.cell? ⟨gb146, 13, none⟩ = some (.int .i64 a0_13) := (blk_cell BK146.out 13).trans rfl
                  have hcz14_14 : w5.cell? ⟨gb146, 14, none⟩ = some (.int .i64 a0_14) := (blk_cell BK146.out 14).trans rfl
                  have hcz14_15 : w5.cell? ⟨gb146, 15, none⟩ = some (.int .i64 a0_15) := (blk_cell BK146.out 15).trans rfl
                  have hcz14_16 : w5.cell? ⟨gb146, 16, none⟩ = some (.string a0_16) := (blk_cell BK146.out 16).trans rfl
                  have hfz14_0 := blk_frozen BK146.out 0
                  have hfz14_1 := blk_frozen BK146.out 1
                  have hfz14_2 := blk_frozen BK146.out 2
                  have hfz14_3 := blk_frozen BK146.out 3
                  have hfz14_4 := blk_frozen BK146.out 4
                  have hfz14_5 := blk_frozen BK146.out 5
                  have hfz14_6 := blk_frozen BK146.out 6
                  have hfz14_7 := blk_frozen BK146.out 7
                  have hfz14_8 := blk_frozen BK146.out 8
                  have hfz14_9 := blk_frozen BK146.out 9
                  have hfz14_10 := blk_frozen BK146.out 10
                  have hfz14_11 := blk_frozen BK146.out 11
                  have hfz14_12 := blk_frozen BK146.out 12
                  have hfz14_13 := blk_frozen BK146.out 13
                  have hfz14_14 := blk_frozen BK146.out 14
                  have hfz14_15 := blk_frozen BK146.out 15
                  have hfz14_16 := blk_frozen BK146.out 16
                  have hcz15_0 : w5.cell? ⟨gb147, 0, none⟩ = some (.int .i64 a1_0) := (blk_cell BK147.out 0).trans rfl
                  have hcz15_1 : w5.cell? ⟨gb147, 1, none⟩ = some (.int .i64 a1_1) := (blk_cell BK147.out 1).trans rfl
                  have hcz15_2 : w5.cell? ⟨gb147, 2, none⟩ = some (.string a1_2) := (blk_cell BK147.out 2).trans rfl
                  have hcz15_3 : w5.cell? ⟨gb147, 3, none⟩ = some (.int .i64 a1_3) := (blk_cell BK147.out 3).trans rfl
                  have hcz15_4 : w5.cell? ⟨gb147, 4, none⟩ = some (.int .i64 a1_4) := (blk_cell BK147.out 4).trans rfl
                  have hcz15_5 : w5.cell? ⟨gb147, 5, none⟩ = some (.int .i64 a1_5) := (blk_cell BK147.out 5).trans rfl
                  have hcz15_6 : w5.cell? ⟨gb147, 6, none⟩ = some (.int .i64 a1_6) := (blk_cell BK147.out 6).trans rfl
                  have hcz15_7 : w5.cell? ⟨gb147, 7, none⟩ = some (.int .i64 a1_7) := (blk_cell BK147.out 7).trans rfl
                  have hcz15_8 : w5.cell? ⟨gb147, 8, none⟩ = some (.bool a1_8) := (blk_cell BK147.out 8).trans rfl
                  have hcz15_9 : w5.cell? ⟨gb147, 9, none⟩ = some (.int .i64 a1_9) := (blk_cell BK147.out 9).trans rfl
                  have hcz15_10 : w5.cell? ⟨gb147, 10, none⟩ = some (.int .i64 a1_10) := (blk_cell BK147.out 10).trans rfl
                  have hcz15_11 : w5.cell? ⟨gb147, 11, none⟩ = some (.int .i64 a1_11) := (blk_cell BK147.out 11).trans rfl
                  have hcz15_12 : w5.cell? ⟨gb147, 12, none⟩ = some (.slice A1_12 l1_12.length c1_12) := (blk_cell BK147.out 12).trans rfl
                  have hcz15_13 : w5.cell? ⟨gb147, 13, none⟩ = some (.int .i64 a1_13) := (blk_cell BK147.out 13).trans rfl
                  have hcz15_14 : w5.cell? ⟨gb147, 14, none⟩ = some (.int .i64 a1_14) := (blk_cell BK147.out 14).trans rfl
                  have hcz15_15 : w5.cell? ⟨gb147, 15, none⟩ = some (.int .i64 a1_15) := (blk_cell BK147.out 15).trans rfl
                  have hcz15_16 : w5.cell? ⟨gb147, 16, none⟩ = some (.string a1_16) := (blk_cell BK147.out 16).trans rfl
                  have hfz15_0 := blk_frozen BK147.out 0
                  have hfz15_1 := blk_frozen BK147.out 1
                  have hfz15_2 := blk_frozen BK147.out 2
                  have hfz15_3 := blk_frozen BK147.out 3
                  have hfz15_4 := blk_frozen BK147.out 4
                  have hfz15_5 := blk_frozen BK147.out 5
                  have hfz15_6 := blk_frozen BK147.out 6
                  have hfz15_7 := blk_frozen BK147.out 7
                  have hfz15_8 := blk_frozen BK147.out 8
                  have hfz15_9 := blk_frozen BK147.out 9
                  have hfz15_10 := blk_frozen BK147.out 10
                  have hfz15_11 := blk_frozen BK147.out 11
                  have hfz15_12 := blk_frozen BK147.out 12
                  have hfz15_13 := blk_frozen BK147.out 13
                  have hfz15_14 := blk_frozen BK147.out 14
                  have hfz15_15 := blk_frozen BK147.out 15
                  have hfz15_16 := blk_frozen BK147.out 16
                  go_wp2
                  repeat (go_quiet (fail); try go_wp2)
                  go_meet
                  case rel => exact ⟨_, (true), (by first | rfl | (simp; done) | (simp [*]; done) | exact congrArg Value.bool (ne_empty _) | exact congrArg Value.bool (eq_empty _)), H', ⟨by first | omega | exact Nat.le_refl _⟩, ⟨by (with_reducible repeat (first | refine blk_drewN ?_ _ | refine blk_drew ?_ | refine blk_alloc ?_ _)); exact BK146.out⟩, ⟨by (with_reducible repeat (first | refine blk_drewN ?_ _ | refine blk_drew ?_ | refine blk_alloc ?_ _)); exact BK147.out⟩, ⟨by repeat (first | (with_reducible first | exact HB.out | apply below_alloc | apply pw_below_drewN | apply below_drew1 | refine below_set ?_ GE146.out | refine below_set ?_ GE147.out) | exact HB.out)⟩⟩
                · rw [if_neg c12] at H
                  have c12b0 : (!(a0_5 == a1_5) || (!(a0_6 == a1_6) || (!(a0_7 == a1_7) || (!(a0_8 == a1_8) || (!(a0_9 == a1_9)))))) = false := by simpa using c12
                  clear c12
                  by_cases c16 : a0_10 = a1_10
                  · rw [if_pos c16] at H
                    have c16b0 : (a0_10 == a1_10) = true := beq_iff_eq.mpr c16
                    have c16b1 : (a0_10 != a1_10) = false := bne_eq_false_iff_eq.mpr c16
                    clear c16
                    by_cases c17 : a0_11 = a1_11
                    · rw [if_pos c17] at H
                      have c17b0 : (a0_11 == a1_11) = true := beq_iff_eq.mpr c17
                      have c17b1 : (a0_11 != a1_11) = false := bne_eq_false_iff_eq.mpr c17
                      clear c17
                      by_cases c18 : a0_13 = a1_13
                      · rw [if_pos c18] at H
                        have c18b0 : (a0_13 == a1_13) = true := beq_iff_eq.mpr c18
                        have c18b1 : (a0_13 != a1_13) = false := bne_eq_false_iff_eq.mpr c18
                        clear c18
                        by_cases c19 : a0_14 = a1_14
                        · rw [if_pos c19] at H
                          have c19b0 : (a0_14 == a1_14) = true := beq_iff_eq.mpr c19
                          have c19b1 : (a0_14 != a1_14) = false := bne_eq_false_iff_eq.mpr c19
                          clear c19
                          by_cases c20 : a0_15 = a1_15
                          · rw [if_pos c20] at H
                            have c20b0 : (a0_15 == a1_15) = true := beq_iff_eq.mpr c20
                            have c20b1 : (a0_15 != a1_15) = false := bne_eq_false_iff_eq.mpr c20
                            clear c20
                            have H' := Aside0.mk H
                            clear H
                            have hnb21 := NB146_147.out
                            have hnc21 := NB147_146.out
                            have hcz22_0 : w5.cell? ⟨gb146, 0, none⟩ = some (.int .i64 a0_0) := (blk_cell BK146.out 0).trans rfl
                            have hcz22_1 : w5.cell? ⟨gb146, 1, none⟩ = some (.int .i64 a0_1) := (blk_cell BK146.out 1).trans rfl
                            have hcz22_2 : w5.cell? ⟨gb146, 2, none⟩ = some (.string a0_2) := (blk_cell BK146.out 2).trans rfl
                            have hcz22_3 : w5.cell? ⟨gb146, 3, none⟩ = some (.int .i64 a0_3) := (blk_cell BK146.out 3).trans rfl
                            have hcz22_4 : w5.cell? ⟨gb146, 4, none⟩ = some (.int .i64 a0_4) := (blk_cell BK146.out 4).trans rfl
                            have hcz22_5 : w5.cell? ⟨gb146, 5, none⟩ = some (.int .i64 a0_5) := (blk_cell BK146.out 5).trans rfl
                            have hcz22_6 : w5.cell? ⟨gb146, 6, none⟩ = some (.int .i64 a0_6) := (blk_cell BK146.out 6).trans rfl
                            have hcz22_7 : w5.cell? ⟨gb146, 7, none⟩ = some (.int .i64 a0_7) := (blk_cell BK146.out 7).trans rfl
                            have hcz22_8 : w5.cell? ⟨gb146, 8, none⟩ = some (.bool a0_8) := (blk_cell BK146.out 8).trans rfl
                            have hcz22_9 : w5.cell? ⟨gb146, 9, none⟩ = some (.int .i64 a0_9) := (blk_cell BK146.out 9).trans rfl
                            have hcz22_10 : w5.cell? ⟨gb146, 10, none⟩ = some (.int .i64 a0_10) := (blk_cell BK146.out 10).trans rfl
                            have hcz22_11 : w5.cell? ⟨gb146, 11, none⟩ = some (.int .i64 a0_11) := (blk_cell BK146.out 11).trans rfl
                            have hcz22_12 : w5.cell? ⟨gb146, 12, none⟩ = some (.slice A0_12 l0_12.length c0_12) := (blk_cell BK146.out 12).trans rfl
                            have hcz22_13 : w5.cell? ⟨gb146, 13, none⟩ = some (.int .i64 a0_13) := (blk_cell BK146.out 13).trans rfl
                            have hcz22_14 : w5.cell? ⟨gb146, 14, none⟩ = some (.int .i64 a0_14) := (blk_cell BK146.out 14).trans rfl
                            have hcz22_15 : w5.cell? ⟨gb146, 15, none⟩ = some (.int .i64 a0_15) := (blk_cell BK146.out 15).trans rfl
                            have hcz22_16 : w5.cell? ⟨gb146, 16, none⟩ = some (.string a0_16) := (blk_cell BK146.out 16).trans rfl
                            have hfz22_0 := blk_frozen BK146.out 0
                            have hfz22_1 := blk_frozen BK146.out 1
                            have hfz22_2 := blk_frozen BK146.out 2
                            have hfz22_3 := blk_frozen BK146.out 3
                            have hfz22_4 := blk_frozen BK146.out 4
                            have hfz22_5 := blk_frozen BK146.out 5
                            have hfz22_6 := blk_frozen BK146.out 6
                            have hfz22_7 := blk_frozen BK146.out 7
                            have hfz22_8 := blk_frozen BK146.out 8
                            have hfz22_9 := blk_frozen BK146.out 9
                            have hfz22_10 := blk_frozen BK146.out 10
                            have hfz22_11 := blk_frozen BK146.out 11
                            have hfz22_12 := blk_frozen BK146.out 12
                            have hfz22_13 := blk_frozen BK146.out 13
                            have hfz22_14 := blk_frozen BK146.out 14
                            have hfz22_15 := blk_frozen BK146.out 15
                            have hfz22_16 := blk_frozen BK146.out 16
                            have hcz23_0 : w5.cell? ⟨gb147, 0, none⟩ = some (.int .i64 a1_0) := (blk_cell BK147.out 0).trans rfl
                            have hcz23_1 : w5.cell? ⟨gb147, 1, none⟩ = some (.int .i64 a1_1) := (blk_cell BK147.out 1).trans rfl
                            have hcz23_2 : w5.cell? ⟨gb147, 2, none⟩ = some (.string a1_2) := (blk_cell BK147.out 2).trans rfl
                            have hcz23_3 : w5.cell? ⟨gb147, 3, none⟩ = some (.int .i64 a1_3) := (blk_cell BK147.out 3).trans rfl
                            have hcz23_4 : w5.cell? ⟨gb147, 4, none⟩ = some (.int .i64 a1_4) := (blk_cell BK147.out 4).trans rfl
                            have hcz23_5 : w5.cell? ⟨gb147, 5, none⟩ = some (.int .i64 a1_5) := (blk_cell BK147.out 5).trans rfl
                            have hcz23_6 : w5.cell? ⟨gb147, 6, none⟩ = some (.int .i64 a1_6) := (blk_cell BK147.out 6).trans rfl
                            have hcz23_7 : w5.cell? ⟨gb147, 7, none⟩ = some (.int .i64 a1_7) := (blk_cell BK147.out 7).trans rfl
                            have hcz23_8 : w5.cell? ⟨gb147, 8, none⟩ = some (.bool a1_8) := (blk_cell BK147.out 8).trans rfl
                            have hcz23_9 : w5.cell? ⟨gb147, 9, none⟩ = some (.int .i64 a1_9) := (blk_cell BK147.out 9).trans rfl
                            have hcz23_10 : w5.cell? ⟨gb147, 10, none⟩ = some (.int .i64 a1_10) := (blk_cell BK147.out 10).trans rfl
                            have hcz23_11 : w5.cell? ⟨gb147, 11, none⟩ = some (.int .i64 a1_11) := (blk_cell BK147.out 11).trans rfl
                            have hcz23_12 : w5.cell? ⟨gb147, 12, none⟩ = some (.slice A1_12 l1_12.length c1_12) := (blk_cell BK147.out 12).trans rfl
                            have hcz23_13 : w5.cell? ⟨gb147, 13, none⟩ = some (.int .i64 a1_13) := (blk_cell BK147.out 13).trans rfl
                            have hcz23_14 : w5.cell? ⟨gb147, 14, none⟩ = some (.int .i64 a1_14) := (blk_cell BK147.out 14).trans rfl
                            have hcz23_15 : w5.cell? ⟨gb147, 15, none⟩ = some (.int .i64 a1_15) := (blk_cell BK147.out 15).trans rfl
                            have hcz23_16 : w5.cell? ⟨gb147, 16, none⟩ = some (.string a1_16) := (blk_cell BK147.out 16).trans rfl
                            have hfz23_0 := blk_frozen BK147.out 0
                            have hfz23_1 := blk_frozen BK147.out 1
                            have hfz23_2 := blk_frozen BK147.out 2
                            have hfz23_3 := blk_frozen BK147.out 3
                            have hfz23_4 := blk_frozen BK147.out 4
                            have hfz23_5 := blk_frozen BK147.out 5
                            have hfz23_6 := blk_frozen BK147.out 6
                            have hfz23_7 := blk_frozen BK147.out 7
                            have hfz23_8 := blk_frozen BK147.out 8
                            have hfz23_9 := blk_frozen BK147.out 9
                            have hfz23_10 := blk_frozen BK147.out 10
                            have hfz23_11 := blk_frozen BK147.out 11
                            have hfz23_12 := blk_frozen BK147.out 12
                            have hfz23_13 := blk_frozen BK147.out 13
                            have hfz23_14 := blk_frozen BK147.out 14
                            have hfz23_15 := blk_frozen BK147.out 15
                            have hfz23_16 := blk_frozen BK147.out 16
                            go_wp2
                            repeat (go_quiet (fail); try go_wp2)
                            go_meet
                            case rel => exact ⟨_, (((l0_12.length : Int) != (l1_12.length : Int))), (by first | rfl | (simp; done) | (simp [*]; done) | exact congrArg Value.bool (ne_empty _) | exact congrArg Value.bool (eq_empty _)), H', ⟨by first | omega | exact Nat.le_refl _⟩, ⟨by (with_reducible repeat (first | refine blk_drewN ?_ _ | refine blk_drew ?_ | refine blk_alloc ?_ _)); exact BK146.out⟩, ⟨by (with_reducible repeat (first | refine blk_drewN ?_ _ | refine blk_drew ?_ | refine blk_alloc ?_ _)); exact BK147.out⟩, ⟨by repeat (first | (with_reducible first | exact HB.out | apply below_alloc | apply pw_below_drewN | apply below_drew1 | refine below_set ?_ GE146.out | refine below_set ?_ GE147.out) | exact HB.out)⟩⟩
                          · rw [if_neg c20] at H
                            have c20b0 : (a0_15 == a1_15) = false := beq_eq_false_iff_ne.mpr c20
                            have c20b1 : (a0_15 != a1_15) = true := bne_iff_ne.mpr c20
                            have H' := Aside0.mk H
                            clear H
                            have hnb24 := NB146_147.out
                            have hnc24 := NB147_146.out
                            have hcz25_0 : w5.cell? ⟨gb146, 0, none⟩ = some (.int .i64 a0_0) := (blk_cell BK146.out 0).trans rfl
                            have hcz25_1 : w5.cell? ⟨gb146, 1, none⟩ = some (.int .i64 a0_1) := (blk_cell BK146.out 1).trans rfl
                            have hcz25_2 : w5.cell? ⟨gb146, 2, none⟩ = some (.string a0_2) := (blk_cell BK146.out 2).trans rfl
                            have hcz25_3 : w5.cell? ⟨gb146, 3, none⟩ = some (.int .i64 a0_3) := (blk_cell BK146.out 3).trans rfl
                            have hcz25_4 : w5.cell? ⟨gb146, 4, none⟩ = some (.int .i64 a0_4) := (blk_cell BK146.out 4).trans rfl
                            have hcz25_5 : w5.cell? ⟨gb146, 5, none⟩ = some (.int .i64 a0_5) := (blk_cell BK146.out 5).trans rfl
                            have hcz25_6 : w5.cell? ⟨gb146, 6, none⟩ = some (.int .i64 a0_6) := (blk_cell BK146.out 6).trans rfl
                            have hcz25_7 : w5.cell? ⟨gb146, 7, none⟩ = some (.int .i64 a0_7) := (blk_cell BK146.out 7).trans rfl
                            have hcz25_8 : w5.cell? ⟨gb146, 8, none⟩ = some (.bool a0_8) := (blk_cell BK146.out 8).trans rfl
                            have hcz25_9 : w5.cell? ⟨gb146, 9, none⟩ = some (.int .i64 a0_9) := (blk_cell BK146.out 9).trans rfl
                            have hcz25_10 : w5.cell? ⟨gb146, 10, none⟩ = some (.int .i64 a0_10) := (blk_cell BK146.out 10).trans rfl
                            have hcz25_11 : w5.cell? ⟨gb146, 11, none⟩ = some (.int .i64 a0_11) := (blk_cell BK146.out 11).trans rfl
                            have hcz25_12 : w5.cell? ⟨gb146, 12, none⟩ = some (.slice A0_12 l0_12.length c0_12) := (blk_cell BK146.out 12).trans rfl
                            have hcz25_13 : w5.cell? ⟨gb146, 13, none⟩ = some (.int .i64 a0_13) := (blk_cell BK146.out 13).trans rfl
                            have hcz25_14 : w5.cell? ⟨gb146, 14, none⟩ = some (.int .i64 a0_14) := (blk_cell BK146.out 14).trans rfl
                            have hcz25_15 : w5.cell? ⟨gb146, 15, none⟩ = some (.int .i64 a0_15) := (blk_cell BK146.out 15).trans rfl
                            have hcz25_16 : w5.cell? ⟨gb146, 16, none⟩ = some (.string a0_16) := (blk_cell BK146.out 16).trans rfl
                            have hfz25_0 := blk_frozen BK146.out 0
                            have hfz25_1 := blk_frozen BK146.out 1
                            have hfz25_2 := blk_frozen BK146.out 2
                            have hfz25_3 := blk_frozen BK146.out 3
                            have hfz25_4 := blk_frozen BK146.out 4
                            have hfz25_5 := blk_frozen BK146.out 5
                            have hfz25_6 := blk_frozen BK146.out 6
                            have hfz25_7 := blk_frozen BK146.out 7
                            have hfz25_8 := blk_frozen BK146.out 8
                            have hfz25_9 := blk_frozen BK146.out 9
                            have hfz25_10 := blk_frozen BK146.out 10
                            have hfz25_11 := blk_frozen BK146.out 11
                            have hfz25_12 := blk_frozen BK146.out 12
                            have hfz25_13 := blk_frozen BK146.out 13
                            have hfz25_14 := blk_frozen BK146.out 14
                            have hfz25_15 := blk_frozen BK146.out 15
                            have hfz25_16 := blk_frozen BK146.out 16
                            have hcz26_0 : w5.cell? ⟨gb147, 0, none⟩ = some (.int .i64 a1_0) := (blk_cell BK147.out 0).trans rfl
                            have hcz26_1 : w5.cell? ⟨gb147, 1, none⟩ = some (.int .i64 a1_1) := (blk_cell BK147.out 1).trans rfl
                            have hcz26_2 : w5.cell? ⟨gb147, 2, none⟩ = some (.string a1_2) := (blk_cell BK147.out 2).trans rfl
                            have hcz26_3 : w5.cell? ⟨gb147, 3, none⟩ = some (.int .i64 a1_3) := (blk_cell BK147.out 3).trans rfl
                            have hcz26_4 : w5.cell? ⟨gb147, 4, none⟩ = some (.int .i64 a1_4) := (blk_cell BK147.out 4).trans rfl
                            have hcz26_5 : w5.cell? ⟨gb147, 5, none⟩ = some (.int .i64 a1_5) := (blk_cell BK147.out 5).trans rfl
                            have hcz26_6 : w5.cell? ⟨gb147, 6, none⟩ = some (.int .i64 a1_6) := (blk_cell BK147.out 6).trans rfl
                            have hcz26_7 : w5.cell? ⟨gb147, 7, none⟩ = some (.int .i64 a1_7) := (blk_cell BK147.out 7).trans rfl
                            have hcz26_8 : w5.cell? ⟨gb147, 8, none⟩ = some (.bool a1_8) := (blk_cell BK147.out 8).trans rfl
                            have hcz26_9 : w5.cell? ⟨gb147, 9, none⟩ = some (.int .i64 a1_9) := (blk_cell BK147.out 9).trans rfl
                            have hcz26_10 : w5.cell? ⟨gb147, 10, none⟩ = some (.int .i64 a1_10) := (blk_cell BK147.out 10).trans rfl
                            have hcz26_11 : w5.cell? ⟨gb147, 11, none⟩ = some (.int .i64 a1_11) := (blk_cell BK147.out 11).trans rfl
                            have hcz26_12 : w5.cell? ⟨gb147, 12, none⟩ = some (.slice A1_12 l1_12.length c1_12) := (blk_cell BK147.out 12).trans rfl
                            have hcz26_13 : w5.cell? ⟨gb147, 13, none⟩ = some (.int .i64 a1_13) := (blk_cell BK147.out 13).trans rfl
                            have hcz26_14 : w5.cell? ⟨gb147, 14, none⟩ = some (.int .i64 a1_14) := (blk_cell BK147.out 14).trans rfl
                            have hcz26_15 : w5.cell? ⟨gb147, 15, none⟩ = some (.int .i64 a1_15) := (blk_cell BK147.out 15).trans rfl
                            have hcz26_16 : w5.cell? ⟨gb147, 16, none⟩ = some (.string a1_16) := (blk_cell BK147.out 16).trans rfl
                            have hfz26_0 := blk_frozen BK147.out 0
                            have hfz26_1 := blk_frozen BK147.out 1
                            have hfz26_2 := blk_frozen BK147.out 2
                            have hfz26_3 := blk_frozen BK147.out 3
                            have hfz26_4 := blk_frozen BK147.out 4
                            have hfz26_5 := blk_frozen BK147.out 5
                            have hfz26_6 := blk_frozen BK147.out 6
                            have hfz26_7 := blk_frozen BK147.out 7
                            have hfz26_8 := blk_frozen BK147.out 8
                            have hfz26_9 := blk_frozen BK147.out 9
                            have hfz26_10 := blk_frozen BK147.out 10
                            have hfz26_11 := blk_frozen BK147.out 11
                            have hfz26_12 := blk_frozen BK147.out 12
                            have hfz26_13 := blk_frozen BK147.out 13
                            have hfz26_14 := blk_frozen BK147.out 14
                            have hfz26_15 := blk_frozen BK147.out 15
                            have hfz26_16 := blk_frozen BK147.out 16
                            go_wp2
                            repeat (go_quiet (fail); try go_wp2)
                            go_meet
                            case rel => exact ⟨_, (true), (by first | rfl | (simp; done) | (simp [*]; done) | exact congrArg Value.bool (ne_empty _) | exact congrArg Value.bool (eq_empty _)), H', ⟨by first | omega | exact Nat.le_refl _⟩, ⟨by (with_reducible repeat (first | refine blk_drewN ?_ _ | refine blk_drew ?_ | refine blk_alloc ?_ _)); exact BK146.out⟩, ⟨by (with_reducible repeat (first | refine blk_drewN ?_ _ | refine blk_drew ?_ | refine blk_alloc ?_ _)); exact BK147.out⟩, ⟨by repeat (first | (with_reducible first | exact HB.out | apply below_alloc | apply pw_below_drewN | apply below_drew1 | refine below_set ?_ GE146.out | refine below_set ?_ GE147.out) | exact HB.out)⟩⟩
                        · rw [if_neg c19] at H
                          have c19b0 : (a0_14 == a1_14) = false := beq_eq_false_iff_ne.mpr c19
                          have c19b1 : (a0_14 != a1_14) = true := bne_iff_ne.mpr c19
                          have H' := Aside0.mk H
                          clear H
                          have hnb27 := NB146_147.out
                          have hnc27 := NB147_146.out
                          have hcz28_0 : w5.cell? ⟨gb146, 0, none⟩ = some (.int .i64 a0_0) := (blk_cell BK146.out 0).trans rfl
                          have hcz28_1 : w5.cell? ⟨gb146, 1, none⟩ = some (.int .i64 a0_1) := (blk_cell BK146.out 1).trans rfl
                          have hcz28_2 : w5.cell? ⟨gb146, 2, none⟩ = some (.string a0_2) := (blk_cell BK146.out 2).trans rfl
                          have hcz28_3 : w5.cell? ⟨gb146, 3, none⟩ = some (.int .i64 a0_3) := (blk_cell BK146.out 3).trans rfl
                          have hcz28_4 : w5.cell? ⟨gb146, 4, none⟩ = some (.int .i64 a0_4) := (blk_cell BK146.out 4).trans rfl
                          have hcz28_5 : w5.cell? ⟨gb146, 5, none⟩ = some (.int .i64 a0_5) := (blk_cell BK146.out 5).trans rfl
                          have hcz28_6 : w5.cell? ⟨gb146, 6, none⟩ = some (.int .i64 a0_6) := (blk_cell BK146.out 6).trans rfl
                          have hcz28_7 : w5.cell? ⟨gb146, 7, none⟩ = some (.int .i64 a0_7) := (blk_cell BK146.out 7).trans rfl
                          have hcz28_8 : w5.cell? ⟨gb146, 8, none⟩ = some (.bool a0_8) := (blk_cell BK146.out 8).trans rfl
                          have hcz28_9 : w5.cell? ⟨gb146, 9, none⟩ = some (.int .i64 a0_9) := (blk_cell BK146.out 9).trans rfl
                          have hcz28_10 : w5.cell? ⟨gb146, 10, none⟩ = some (.int .i64 a0_10) := (blk_cell BK146.out 10).trans rfl
                          have hcz28_11 : w5.cell? ⟨gb146, 11, none⟩ = some (.int .i64 a0_11) := (blk_cell BK146.out 11).trans rfl
                          have hcz28_12 : w5.cell? ⟨gb146, 12, none⟩ = some (.slice A0_12 l0_12.length c0_12) := (blk_cell BK146.out 12).trans rfl
                          have hcz28_13 : w5.cell? ⟨gb146, 13, none⟩ = some (.int .i64 a0_13) := (blk_cell BK146.out 13).trans rfl
                          have hcz28_14 : w5.cell? ⟨gb146, 14, none⟩ = some (.int .i64 a0_14) := (blk_cell BK146.out 14).trans rfl
                          have hcz28_15 : w5.cell? ⟨gb146, 15, none⟩ = some (.int .i64 a0_15) := (blk_cell BK146.out 15).trans rfl
                          have hcz28_16 : w5.cell? ⟨gb146, 16, none⟩ = some (.string a0_16) := (blk_cell BK146.out 16).trans rfl
                          have hfz28_0 := blk_frozen BK146.out 0
                          have hfz28_1 := blk_frozen BK146.out 1
                          have hfz28_2 := blk_frozen BK146.out 2
                          have hfz28_3 := blk_frozen BK146.out 3
                          have hfz28_4 := blk_frozen BK146.out 4
                          have hfz28_5 := blk_frozen BK146.out 5
                          have hfz28_6 := blk_frozen BK146.out 6
                          have hfz28_7 := blk_frozen BK146.out 7
                          have hfz28_8 := blk_frozen BK146.out 8
                          have hfz28_9 := blk_frozen BK146.out 9
                          have hfz28_10 := blk_frozen BK146.out 10
                          have hfz28_11 := blk_frozen BK146.out 11
                          have hfz28_12 := blk_frozen BK146.out 12
                          have hfz28_13 := blk_frozen BK146.out 13
                          have hfz28_14 := blk_frozen BK146.out 14
                          have hfz28_15 := blk_frozen BK146.out 15
                          have hfz28_16 := blk_frozen BK146.out 16
                          have hcz29_0 : w5.cell? ⟨gb147, 0, none⟩ = some (.int .i64 a1_0) := (blk_cell BK147.out 0).trans rfl
                          have hcz29_1 : w5.cell? ⟨gb147, 1, none⟩ = some (.int .i64 a1_1) := (blk_cell BK147.out 1).trans rfl
                          have hcz29_2 : w5.cell? ⟨gb147, 2, none⟩ = some (.string a1_2) := (blk_cell BK147.out 2).trans rfl
                          have hcz29_3 : w5.cell? ⟨gb147, 3, none⟩ = some (.int .i64 a1_3) := (blk_cell BK147.out 3).trans rfl
                          have hcz29_4 : w5.cell? ⟨gb147, 4, none⟩ = some (.int .i64 a1_4) := (blk_cell BK147.out 4).trans rfl
                          have hcz29_5 : w5.cell? ⟨gb147, 5, none⟩ = some (.int .i64 a1_5) := (blk_cell BK147.out 5).trans rfl
                          have hcz29_6 : w5.cell? ⟨gb147, 6, none⟩ = some (.int .i64 a1_6) := (blk_cell BK147.out 6).trans rfl
                          have hcz29_7 : w5.cell? ⟨gb147, 7, none⟩ = some (.int .i64 a1_7) := (blk_cell BK147.out 7).trans rfl
                          have hcz29_8 : w5.cell? ⟨gb147, 8, none⟩ = some (.bool a1_8) := (blk_cell BK147.out 8).trans rfl
                          have hcz29_9 : w5.cell? ⟨gb147, 9, none⟩ = some (.int .i64 a1_9) := (blk_cell BK147.out 9).trans rfl
                          have hcz29_10 : w5.cell? ⟨gb147, 10, none⟩ = some (.int .i64 a1_10) := (blk_cell BK147.out 10).trans rfl
                          have hcz29_11 : w5.cell? ⟨gb147, 11, none⟩ = some (.int .i64 a1_11) := (blk_cell BK147.out 11).trans rfl
                          have hcz29_12 : w5.cell? ⟨gb147, 12, none⟩ = some (.slice A1_12 l1_12.length c1_12) := (blk_cell BK147.out 12).trans rfl
                          have hcz29_13 : w5.cell? ⟨gb147, 13, none⟩ = some (.int .i64 a1_13) := (blk_cell BK147.out 13).trans rfl
                          have hcz29_14 : w5.cell? ⟨gb147, 14, none⟩ = some (.int .i64 a1_14) := (blk_cell BK147.out 14).trans rfl
                          have hcz29_15 : w5.cell? ⟨gb147, 15, none⟩ = some (.int .i64 a1_15) := (blk_cell BK147.out 15).trans rfl
                          have hcz29_16 : w5.cell? ⟨gb147, 16, none⟩ = some (.string a1_16) := (blk_cell BK147.out 16).trans rfl
                          have hfz29_0 := blk_frozen BK147.out 0
                          have hfz29_1 := blk_frozen BK147.out 1
                          have hfz29_2 := blk_frozen BK147.out 2
                          have hfz29_3 := blk_frozen BK147.out 3
                          have hfz29_4 := blk_frozen BK147.out 4
                          have hfz29_5 := blk_frozen BK147.out 5
                          have hfz29_6 := blk_frozen BK147.out 6
                          have hfz29_7 := blk_frozen BK147.out 7
                          have hfz29_8 := blk_frozen BK147.out 8
                          have hfz29_9 := blk_frozen BK147.out 9
                          have hfz29_10 := blk_frozen BK147.out 10
                          have hfz29_11 := blk_frozen BK147.out 11
                          have hfz29_12 := blk_frozen BK147.out 12
                          have hfz29_13 := blk_frozen BK147.out 13
                          have hfz29_14 := blk_frozen BK147.out 14
                          have hfz29_15 := blk_frozen BK147.out 15
                          have hfz29_16 := blk_frozen BK147.out 16
                          go_wp2
                          repeat (go_quiet (fail); try go_wp2)
                          go_meet
                          case rel => exact ⟨_, (true), (by first | rfl | (simp; done) | (simp [*]; done) | exact congrArg Value.bool (ne_empty _) | exact congrArg Value.bool (eq_empty _)), H', ⟨by first | omega | exact Nat.le_refl _⟩, ⟨by (with_reducible repeat (first | refine blk_drewN ?_ _ | refine blk_drew ?_ | refine blk_alloc ?_ _)); exact BK146.out⟩, ⟨by (with_reducible repeat (first | refine blk_drewN ?_ _ | refine blk_drew ?_ | refine blk_alloc ?_ _)); exact BK147.out⟩, ⟨by repeat (first | (with_reducible first | exact HB.out | apply below_alloc | apply pw_below_drewN | apply below_drew1 | refine below_set ?_ GE146.out | refine below_set ?_ GE147.out) | exact HB.out)⟩⟩
                      · rw [if_neg c18] at H
                        have c18b0 : (a0_13 == a1_13) = false := beq_eq_false_iff_ne.mpr c18
                        have c18b1 : (a0_13 != a1_13) = true := bne_iff_ne.mpr c18
                        have H' := Aside0.mk H
                        clear H
                        have hnb30 := NB146_147.out
                        have hnc30 := NB147_146.out
                        have hcz31_0 : w5.cell? ⟨gb146, 0, none⟩ = some (.int .i64 a0_0) := (blk_cell BK146.out 0).trans rfl
                        have hcz31_1 : w5.cell? ⟨gb146, 1, none⟩ = some (.int .i64 a0_1) := (blk_cell BK146.out 1).trans rfl
                        have hcz31_2 : w5.cell? ⟨gb146, 2, none⟩ = some (.string a0_2) := (blk_cell BK146.out 2).trans rfl
                        have hcz31_3 : w5.cell? ⟨gb146, 3, none⟩ = some (.int .i64 a0_3) := (blk_cell BK146.out 3).trans rfl
                        have hcz31_4 : w5.cell? ⟨gb146, 4, none⟩ = some (.int .i64 a0_4) := (blk_cell BK146.out 4).trans rfl
                        have hcz31_5 : w5.cell? ⟨gb146, 5, none⟩ = some (.int .i64 a0_5) := (blk_cell BK146.out 5).trans rfl
                        have hcz31_6 : w5.cell? ⟨gb146, 6, none⟩ = some (.int .i64 a0_6) := (blk_cell BK146.out 6).trans rfl
                        have hcz31_7 : w5.cell? ⟨gb146, 7, none⟩ = some (.int .i64 a0_7) := (blk_cell BK146.out 7).trans rfl
                        have hcz31_8 : w5.cell? ⟨gb146, 8, none⟩ = some (.bool a0_8) := (blk_cell BK146.out 8).trans rfl
                        have hcz31_9 : w5.cell? ⟨gb146, 9, none⟩ = some (.int .i64 a0_9) := (blk_cell BK146.out 9).trans rfl
                        have hcz31_10 : w5.cell? ⟨gb146, 10, none⟩ = some (.int .i64 a0_10) := (blk_cell BK146.out 10).trans rfl
                        have hcz31_11 : w5.cell? ⟨gb146, 11, none⟩ = some (.int .i64 a0_11) := (blk_cell BK146.out 11).trans rfl
                        have hcz31_12 : w5.cell? ⟨gb146, 12, none⟩ = some (.slice A0_12 l0_12.length c0_12) := (blk_cell BK146.out 12).trans rfl
                        have hcz31_13 : w5.cell? ⟨gb146, 13, none⟩ = some (.int .i64 a0_13) := (blk_cell BK146.out 13).trans rfl
                        have hcz31_14 : w5.cell? ⟨gb146, 14, none⟩ = some (.int .i64 a0_14) := (blk_cell BK146.out 14).trans rfl
                        have hcz31_15 : w5.cell? ⟨gb146, 15, none⟩ = some (.int .i64 a0_15) := (blk_cell BK146.out 15).trans rfl
                        have hcz31_16 : w5.cell? ⟨gb146, 16, none⟩ = some (.string a0_16) := (blk_cell BK146.out 16).trans rfl
                        have hfz31_0 := blk_frozen BK146.out 0
                        have hfz31_1 := blk_frozen BK146.out 1
                        have hfz31_2 := blk_frozen BK146.out 2
                        have hfz31_3 := blk_frozen BK146.out 3
                        have hfz31_4 := blk_frozen BK146.out 4
                        have hfz31_5 := blk_frozen BK146.out 5
                        have hfz31_6 := blk_frozen BK146.out 6
                        have hfz31_7 := blk_frozen BK146.out 7
                        have hfz31_8 := blk_frozen BK146.out 8
                        have hfz31_9 := blk_frozen BK146.out 9
                        have hfz31_10 := blk_frozen BK146.out 10
                        have hfz31_11 := blk_frozen BK146.out 11
                        have hfz31_12 := blk_frozen BK146.out 12
                        have hfz31_13 := blk_frozen BK146.out 13
                        have hfz31_14 := blk_frozen BK146.out 14
                        have hfz31_15 := blk_frozen BK146.out 15
                        have hfz31_16 := blk_frozen BK146.out 16
                        have hcz32_0 : w5.cell? ⟨gb147, 0, none⟩ = some (.int .i64 a1_0) := (blk_cell BK147.out 0).trans rfl
                        have hcz32_1 : w5.cell? ⟨gb147, 1, none⟩ = some (.int .i64 a1_1) := (blk_cell BK147.out 1).trans rfl
                        have hcz32_2 : w5.cell? ⟨gb147, 2, none⟩ = some (.string a1_2) := (blk_cell BK147.out 2).trans rfl
                        have hcz32_3 : w5.cell? ⟨gb147, 3, none⟩ = some (.int .i64 a1_3) := (blk_cell BK147.out 3).trans rfl
                        have hcz32_4 : w5.cell? ⟨gb147, 4, none⟩ = some (.int .i64 a1_4) := (blk_cell BK147.out 4).trans rfl
                        have hcz32_5 : w5.cell? ⟨gb147, 5, none⟩ = some (.int .i64 a1_5) := (blk_cell BK147.out 5).trans rfl
                        have hcz32_6 : w5.cell? ⟨gb147, 6, none⟩ = some (.int .i64 a1_6) := (blk_cell BK147.out 6).trans rfl
                        have hcz32_7 : w5.cell? ⟨gb147, 7, none⟩ = some (.int .i64 a1_7) := (blk_cell BK147.out 7).trans rfl
                        have hcz32_8 : w5.cell? ⟨gb147, 8, none⟩ = some (.bool a1_8) := (blk_cell BK147.out 8).trans rfl
                        have hcz32_9 : w5.cell? ⟨gb147, 9, none⟩ = some (.int .i64 a1_9) := (blk_cell BK147.out 9).trans rfl
                        have hcz32_10 : w5.cell? ⟨gb147, 10, none⟩ = some (.int .i64 a1_10) := (blk_cell BK147.out 10).trans rfl
                        have hcz32_11 : w5.cell? ⟨gb147, 11, none⟩ = some (.int .i64 a1_11) := (blk_cell BK147.out 11).trans rfl
                        have hcz32_12 : w5.cell? ⟨gb147, 12, none⟩ = some (.slice A1_12 l1_12.length c1_12) := (blk_cell BK147.out 12).trans rfl
                        have hcz32_13 : w5.cell? ⟨gb147, 13, none⟩ = some (.int .i64 a1_13) := (blk_cell BK147.out 13).trans rfl
                        have hcz32_14 : w5.cell? ⟨gb147, 14, none⟩ = some (.int .i64 a1_14) := (blk_cell BK147.out 14).trans rfl
                        have hcz32_15 : w5.cell? ⟨gb147, 15, none⟩ = some (.int .i64 a1_15) := (blk_cell BK147.out 15).trans rfl
                        have hcz32_16 : w5.cell? ⟨gb147, 16, none⟩ = some (.string a1_16) := (blk_cell BK147.out 16).trans rfl
                        have hfz32_0 := blk_frozen BK147.out 0
                        have hfz32_1 := blk_frozen BK147.out 1
                        have hfz32_2 := blk_frozen BK147.out 2
                        have hfz32_3 := blk_frozen BK147.out 3
                        have hfz32_4 := blk_frozen BK147.out 4
                        have hfz32_5 := blk_frozen BK147.out 5
                        have hfz32_6 := blk_frozen BK147.out 6
                        have hfz32_7 := blk_frozen BK147.out 7
                        have hfz32_8 := blk_frozen BK147.out 8
                        have hfz32_9 := blk_frozen BK147.out 9
                        have hfz32_10 := blk_frozen BK147.out 10
                        have hfz32_11 := blk_frozen BK147.out 11
                        have hfz32_12 := blk_frozen BK147.out 12
                        have hfz32_13 := blk_frozen BK147.out 13
                        have hfz32_14 := blk_frozen BK147.out 14
                        have hfz32_15 := blk_frozen BK147.out 15
                        have hfz32_16 := blk_frozen BK147.out 16
                        go_wp2
                        repeat (go_quiet (fail); try go_wp2)
                        go_meet
                        case rel => exact ⟨_, (true), (by first | rfl | (simp; done) | (simp [*]; done) | exact congrArg Value.bool (ne_empty _) | exact congrArg Value.bool (eq_empty _)), H', ⟨by first | omega | exact Nat.le_refl _⟩, ⟨by (with_reducible repeat (first | refine blk_drewN ?_ _ | refine blk_drew ?_ | refine blk_alloc ?_ _)); exact BK146.out⟩, ⟨by (with_reducible repeat (first | refine blk_drewN ?_ _ | refine blk_drew ?_ | refine blk_alloc ?_ _)); exact BK147.out⟩, ⟨by repeat (first | (with_reducible first | exact HB.out | apply below_alloc | apply pw_below_drewN | apply below_drew1 | refine below_set ?_ GE146.out | refine below_set ?_ GE147.out) | exact HB.out)⟩⟩
                    · rw [if_neg c17] at H
                      have c17b0 : (a0_11 == a1_11) = false := beq_eq_false_iff_ne.mpr c17
                      have c17b1 : (a0_11 != a1_11) = true := bne_iff_ne.mpr c17
                      have H' := Aside0.mk H
                      clear H
                      have hnb33 := NB146_147.out
                      have hnc33 := NB147_146.out
                      have hcz34_0 : w5.cell? ⟨gb146, 0, none⟩ = some (.int .i64 a0_0) := (blk_cell BK146.out 0).trans rfl
                      have hcz34_1 : w5.cell? ⟨gb146, 1, none⟩ = some (.int .i64 a0_1) := (blk_cell BK146.out 1).trans rfl
                      have hcz34_2 : w5.cell? ⟨gb146, 2, none⟩ = some (.string a0_2) := (blk_cell BK146.out 2).trans rfl
                      have hcz34_3 : w5.cell? ⟨gb146, 3, none⟩ = some (.int .i64 a0_3) := (blk_cell BK146.out 3).trans rfl
                      have hcz34_4 : w5.cell? ⟨gb146, 4, none⟩ = some (.int .i64 a0_4) := (blk_cell BK146.out 4).trans rfl
                      have hcz34_5 : w5.cell? ⟨gb146, 5, none⟩ = some (.int .i64 a0_5) := (blk_cell BK146.out 5).trans rfl
                      have hcz34_6 : w5.cell? ⟨gb146, 6, none⟩ = some (.int .i64 a0_6) := (blk_cell BK146.out 6).trans rfl
                      have hcz34_7 : w5.cell? ⟨gb146, 7, none⟩ = some (.int .i64 a0_7) := (blk_cell BK146.out 7).trans rfl
                      have hcz34_8 : w5.cell? ⟨gb146, 8, none⟩ = some (.bool a0_8) := (blk_cell BK146.out 8).trans rfl
                      have hcz34_9 : w5.cell? ⟨gb146, 9, none⟩ = some (.int .i64 a0_9) := (blk_cell BK146.out 9).trans rfl
                      have hcz34_10 : w5.cell? ⟨gb146, 10, none⟩ = some (.int .i64 a0_10) := (blk_cell BK146.out 10).trans rfl
                      have hcz34_11 : w5.cell? ⟨gb146, 11, none⟩ = some (.int .i64 a0_11) := (blk_cell BK146.out 11).trans rfl
                      have hcz34_12 : w5.cell? ⟨gb146, 12, none⟩ = some (.slice A0_12 l0_12.length c0_12) := (blk_cell BK146.out 12).trans rfl
                      have hcz34_13 : w5.cell? ⟨gb146, 13, none⟩ = some (.int .i64 a0_13) := (blk_cell BK146.out 13).trans rfl
                      have hcz34_14 : w5.cell? ⟨gb146, 14, none⟩ = some (.int .i64 a0_14) := (blk_cell BK146.out 14).trans rfl
                      have hcz34_15 : w5.cell? ⟨gb146, 15, none⟩ = some (.int .i64 a0_15) := (blk_cell BK146.out 15).trans rfl
                      have hcz34_16 : w5.cell? ⟨gb146, 16, none⟩ = some (.string a0_16) := (blk_cell BK146.out 16).trans rfl
                      have hfz34_0 := blk_frozen BK146.out 0
                      have hfz34_1 := blk_frozen BK146.out 1
                      have hfz34_2 := blk_frozen BK146.out 2
                      have hfz34_3 := blk_frozen BK146.out 3
                      have hfz34_4 := blk_frozen BK146.out 4
                      have hfz34_5 := blk_frozen BK146.out 5
                      have hfz34_6 := blk_frozen BK146.out 6
                      have hfz34_7 := blk_frozen BK146.out 7
                      have hfz34_8 := blk_frozen BK146.out 8
                      have hfz34_9 := blk_frozen BK146.out 9
                      have hfz34_10 := blk_frozen BK146.out 10
                      have hfz34_11 := blk_frozen BK146.out 11
                      have hfz34_12 := blk_frozen BK146.out 12
                      have hfz34_13 := blk_frozen BK146.out 13
                      have hfz34_14 := blk_frozen BK146.out 14
                      have hfz34_15 := blk_frozen BK146.out 15
                      have hfz34_16 := blk_frozen BK146.out 16
                      have hcz35_0 : w5.cell? ⟨gb147, 0, none⟩ = some (.int .i64 a1_0) := (blk_cell BK147.out 0).trans rfl
                      have hcz35_1 : w5.cell? ⟨gb147, 1, none⟩ = some (.int .i64 a1_1) := (blk_cell BK147.out 1).trans rfl
                      have hcz35_2 : w5.cell? ⟨gb147, 2, none⟩ = some (.string a1_2) := (blk_cell BK147.out 2).trans rfl
                      have hcz35_3 : w5.cell? ⟨gb147, 3, none⟩ = some (.int .i64 a1_3) := (blk_cell BK147.out 3).trans rfl
                      have hcz35_4 : w5.cell? ⟨gb147, 4, none⟩ = some (.int .i64 a1_4) := (blk_cell BK147.out 4).trans rfl
                      have hcz35_5 : w5.cell? ⟨gb147, 5, none⟩ = some (.int .i64 a1_5) := (blk_cell BK147.out 5).trans rfl
                      have hcz35_6 : w5.cell? ⟨gb147, 6, none⟩ = some (.int .i64 a1_6) := (blk_cell BK147.out 6).trans rfl
                      have hcz35_7 : w5.cell? ⟨gb147, 7, none⟩ = some (.int .i64 a1_7) := (blk_cell BK147.out 7).trans rfl
                      have hcz35_8 : w5.cell? ⟨gb147, 8, none⟩ = some (.bool a1_8) := (blk_cell BK147.out 8).trans rfl
                      have hcz35_9 : w5.cell? ⟨gb147, 9, none⟩ = some (.int .i64 a1_9) := (blk_cell BK147.out 9).trans rfl
                      have hcz35_10 : w5.cell? ⟨gb147, 10, none⟩ = some (.int .i64 a1_10) := (blk_cell BK147.out 10).trans rfl
                      have hcz35_11 : w5.cell? ⟨gb147, 11, none⟩ = some (.int .i64 a1_11) := (blk_cell BK147.out 11).trans rfl
                      have hcz35_12 : w5.cell? ⟨gb147, 12, none⟩ = some (.slice A1_12 l1_12.length c1_12) := (blk_cell BK147.out 12).trans rfl
                      have hcz35_13 : w5.cell? ⟨gb147, 13, none⟩ = some (.int .i64 a1_13) := (blk_cell BK147.out 13).trans rfl
                      have hcz35_14 : w5.cell? ⟨gb147, 14, none⟩ = some (.int .i64 a1_14) := (blk_cell BK147.out 14).trans rfl
                      have hcz35_15 : w5.cell? ⟨gb147, 15, none⟩ = some (.int .i64 a1_15) := (blk_cell BK147.out 15).trans rfl
                      have hcz35_16 : w5.cell? ⟨gb147, 16, none⟩ = some (.string a1_16) := (blk_cell BK147.out 16).trans rfl
                      have hfz35_0 := blk_frozen BK147.out 0
                      have hfz35_1 := blk_frozen BK147.out 1
                      have hfz35_2 := blk_frozen BK147.out 2
                      have hfz35_3 := blk_frozen BK147.out 3
                      have hfz35_4 := blk_frozen BK147.out 4
                      have hfz35_5 := blk_frozen BK147.out 5
                      have hfz35_6 := blk_frozen BK147.out 6
                      have hfz35_7 := blk_frozen BK147.out 7
                      have hfz35_8 := blk_frozen BK147.out 8
                      have hfz35_9 := blk_frozen BK147.out 9
                      have hfz35_10 := blk_frozen BK147.out 10
                      have hfz35_11 := blk_frozen BK147.out 11
                      have hfz35_12 := blk_frozen BK147.out 12
                      have hfz35_13 := blk_frozen BK147.out 13
                      have hfz35_14 := blk_frozen BK147.out 14
                      have hfz35_15 := blk_frozen BK147.out 15
                      have hfz35_16 := blk_frozen BK147.out 16
                      go_wp2
                      repeat (go_quiet (fail); try go_wp2)
                      go_meet
                      case rel => exact ⟨_, (true), (by first | rfl | (simp; done) | (simp [*]; done) | exact congrArg Value.bool (ne_empty _) | exact congrArg Value.bool (eq_empty _)), H', ⟨by first | omega | exact Nat.le_refl _⟩, ⟨by (with_reducible repeat (first | refine blk_drewN ?_ _ | refine blk_drew ?_ | refine blk_alloc ?_ _)); exact BK146.out⟩, ⟨by (with_reducible repeat (first | refine blk_drewN ?_ _ | refine blk_drew ?_ | refine blk_alloc ?_ _)); exact BK147.out⟩, ⟨by repeat (first | (with_reducible first | exact HB.out | apply below_alloc | apply pw_below_drewN | apply below_drew1 | refine below_set ?_ GE146.out | refine below_set ?_ GE147.out) | exact HB.out)⟩⟩
                  · rw [if_neg c16] at H
                    have c16b0 : (a0_10 == a1_10) = false := beq_eq_false_iff_ne.mpr c16
                    have c16b1 : (a0_10 != a1_10) = true := bne_iff_ne.mpr c16
                    have H' := Aside0.mk H
                    clear H
                    have hnb36 := NB146_147.out
                    have hnc36 := NB147_146.out
                    have hcz37_0 : w5.cell? ⟨gb146, 0, none⟩ = some (.int .i64 a0_0) := (blk_cell BK146.out 0).trans rfl
                    have hcz37_1 : w5.cell? ⟨gb146, 1, none⟩ = some (.int .i64 a0_1) := (blk_cell BK146.out 1).trans rfl
                    have hcz37_2 : w5.cell? ⟨gb146, 2, none⟩ = some (.string a0_2) := (blk_cell BK146.out 2).trans rfl
                    have hcz37_3 : w5.cell? ⟨gb146, 3, none⟩ = some (.int .i64 a0_3) := (blk_cell BK146.out 3).trans rfl
                    have hcz37_4 : w5.cell? ⟨gb146, 4, none⟩ = some (.int .i64 a0_4) := (blk_cell BK146.out 4).trans rfl
                    have hcz37_5 : w5.cell? ⟨gb146, 5, none⟩ = some (.int .i64 a0_5) := (blk_cell BK146.out 5).trans rfl
                    have hcz37_6 : w5.cell? ⟨gb146, 6, none⟩ = some (.int .i64 a0_6) := (blk_cell BK146.out 6).trans rfl
                    have hcz37_7 : w5.cell? ⟨gb146, 7, none⟩ = some (.int .i64 a0_7) := (blk_cell BK146.out 7).trans rfl
                    have hcz37_8 : w5.cell? ⟨gb146, 8, none⟩ = some (.bool a0_8) := (blk_cell BK146.out 8).trans rfl
                    have hcz37_9 : w5.cell? ⟨gb146, 9, none⟩ = some (.int .i64 a0_9) := (blk_cell BK146.out 9).trans rfl
                    have hcz37_10 : w5.cell? ⟨gb146, 10, none⟩ = some (.int .i64 a0_10) := (blk_cell BK146.out 10).trans rfl
                    have hcz37_11 : w5.cell? ⟨gb146, 11, none⟩ = some (.int .i64 a0_11) := (blk_cell BK146.out 11).trans rfl
                    have hcz37_12 : w5.cell? ⟨gb146, 12, none⟩ = some (.slice A0_12 l0_12.length c0_12) := (blk_cell BK146.out 12).trans rfl
                    have hcz37_13 : w5.cell? ⟨gb146, 13, none⟩ = some (.int .i64 a0_13) := (blk_cell BK146.out 13).trans rfl
                    have hcz37_14 : w5.cell? ⟨gb146, 14, none⟩ = some (.int .i64 a0_14) := (blk_cell BK146.out 14).trans rfl
                    have hcz37_15 : w5.cell? ⟨gb146, 15, none⟩ = some (.int .i64 a0_15) := (blk_cell BK146.out 15).trans rfl
                    have hcz37_16 : w5.cell? ⟨gb146, 16, none⟩ = some (.string a0_16) := (blk_cell BK146.out 16).trans rfl
                    have hfz37_0 := blk_frozen BK146.out 0
                    have hfz37_1 := blk_frozen BK146.out 1
                    have hfz37_2 := blk_frozen BK146.out 2
                    have hfz37_3 := blk_frozen BK146.out 3
                    have hfz37_4 := blk_frozen BK146.out 4
                    have hfz37_5 := blk_frozen BK146.out 5
                    have hfz37_6 := blk_frozen BK146.out 6
                    have hfz37_7 := blk_frozen BK146.out 7
                    have hfz37_8 := blk_frozen BK146.out 8
                    have hfz37_9 := blk_frozen BK146.out 9
                    have hfz37_10 := blk_frozen BK146.out 10
                    have hfz37_11 := blk_frozen BK146.out 11
                    have hfz37_12 := blk_frozen BK146.out 12
                    have hfz37_13 := blk_frozen BK146.out 13
                    have hfz37_14 := blk_frozen BK146.out 14
                    have hfz37_15 := blk_frozen BK146.out 15
                    have hfz37_16 := blk_frozen BK146.out 16
                    have hcz38_0 : w5.cell? ⟨gb147, 0, none⟩ = some (.int .i64 a1_0) := (blk_cell BK147.out 0).trans rfl
                    have hcz38_1 : w5.cell? ⟨gb147, 1, none⟩ = some (.int .i64 a1_1) := (blk_cell BK147.out 1).trans rfl
                    have hcz38_2 : w5.cell? ⟨gb147, 2, none⟩ = some (.string a1_2) := (blk_cell BK147.out 2).trans rfl
                    have hcz38_3 : w5.cell? ⟨gb147, 3, none⟩ = some (.int .i64 a1_3) := (blk_cell BK147.out 3).trans rfl
                    have hcz38_4 : w5.cell? ⟨gb147, 4, none⟩ = some (.int .i64 a1_4) := (blk_cell BK147.out 4).trans rfl
                    have hcz38_5 : w5.cell? ⟨gb147, 5, none⟩ = some (.int .i64 a1_5) := (blk_cell BK147.out 5).trans rfl
                    have hcz38_6 : w5.cell? ⟨gb147, 6, none⟩ = some (.int .i64 a1_6) := (blk_cell BK147.out 6).trans rfl
                    have hcz38_7 : w5.cell? ⟨gb147, 7, none⟩ = some (.int .i64 a1_7) := (blk_cell BK147.out 7).trans rfl
                    have hcz38_8 : w5.cell? ⟨gb147, 8, none⟩ = some (.bool a1_8) := (blk_cell BK147.out 8).trans rfl
                    have hcz38_9 : w5.cell? ⟨gb147, 9, none⟩ = some (.int .i64 a1_9) := (blk_cell BK147.out 9).trans rfl
                    have hcz38_10 : w5.cell? ⟨gb147, 10, none⟩ = some (.int .i64 a1_10) := (blk_cell BK147.out 10).trans rfl
                    have hcz38_11 : w5.cell? ⟨gb147, 11, none⟩ = some (.int .i64 a1_11) := (blk_cell BK147.out 11).trans rfl
                    have hcz38_12 : w5.cell? ⟨gb147, 12, none⟩ = some (.slice A1_12 l1_12.length c1_12) := (blk_cell BK147.out 12).trans rfl
                    have hcz38_13 : w5.cell? ⟨gb147, 13, none⟩ = some (.int .i64 a1_13) := (blk_cell BK147.out 13).trans rfl
                    have hcz38_14 : w5.cell? ⟨gb147, 14, none⟩ = some (.int .i64 a1_14) := (blk_cell BK147.out 14).trans rfl
                    have hcz38_15 : w5.cell? ⟨gb147, 15, none⟩ = some (.int .i64 a1_15) := (blk_cell BK147.out 15).trans rfl
                    have hcz38_16 : w5.cell? ⟨gb147, 16, none⟩ = some (.string a1_16) := (blk_cell BK147.out 16).trans rfl
                    have hfz38_0 := blk_frozen BK147.out 0
                    have hfz38_1 := blk_frozen BK147.out 1
                    have hfz38_2 := blk_frozen BK147.out 2
                    have hfz38_3 := blk_frozen BK147.out 3
                    have hfz38_4 := blk_frozen BK147.out 4
                    have hfz38_5 := blk_frozen BK147.out 5
                    have hfz38_6 := blk_frozen BK147.out 6
                    have hfz38_7 := blk_frozen BK147.out 7
                    have hfz38_8 := blk_frozen BK147.out 8
                    have hfz38_9 := blk_frozen BK147.out 9
                    have hfz38_10 := blk_frozen BK147.out 10
                    have hfz38_11 := blk_frozen BK147.out 11
                    have hfz38_12 := blk_frozen BK147.out 12
                    have hfz38_13 := blk_frozen BK147.out 13
                    have hfz38_14 := blk_frozen BK147.out 14
                    have hfz38_15 := blk_frozen BK147.out 15
                    have hfz38_16 := blk_frozen BK147.out 16
                    go_wp2
                    repeat (go_quiet (fail); try go_wp2)
                    go_meet
                    case rel => exact ⟨_, (true), (by first | rfl | (simp; done) | (simp [*]; done) | exact congrArg Value.bool (ne_empty _) | exact congrArg Value.bool (eq_empty _)), H', ⟨by first | omega | exact Nat.le_refl _⟩, ⟨by (with_reducible repeat (first | refine blk_drewN ?_ _ | refine blk_drew ?_ | refine blk_alloc ?_ _)); exact BK146.out⟩, ⟨by (with_reducible repeat (first | refine blk_drewN ?_ _ | refine blk_drew ?_ | refine blk_alloc ?_ _)); exact BK147.out⟩, ⟨by repeat (first | (with_reducible first | exact HB.out | apply below_alloc | apply pw_below_drewN | apply below_drew1 | refine below_set ?_ GE146.out | refine below_set ?_ GE147.out) | exact HB.out)⟩⟩
              · rw [if_neg c11] at H
                have c11b0 : (a0_4 == a1_4) = false := beq_eq_false_iff_ne.mpr c11
                have c11b1 : (a0_4 != a1_4) = true := bne_iff_ne.mpr c11
                have H' := Aside0.mk H
                clear H
                have hnb39 := NB146_147.out
                have hnc39 := NB147_146.out
                have hcz40_0 : w5.cell? ⟨gb146, 0, none⟩ = some (.int .i64 a0_0) := (blk_cell BK146.out 0).trans rfl
                have hcz40_1 : w5.cell? ⟨gb146, 1, none⟩ = some (.int .i64 a0_1) := (blk_cell BK146.out 1).trans rfl
                have hcz40_2 : w5.cell? ⟨gb146, 2, none⟩ = some (.string a0_2) := (blk_cell BK146.out 2).trans rfl
                have hcz40_3 : w5.cell? ⟨gb146, 3, none⟩ = some (.int .i64 a0_3) := (blk_cell BK146.out 3).trans rfl
                have hcz40_4 : w5.cell? ⟨gb146, 4, none⟩ = some (.int .i64 a0_4) := (blk_cell BK146.out 4).trans rfl
                have hcz40_5 : w5.cell? ⟨gb146, 5, none⟩ = some (.int .i64 a0_5) := (blk_cell BK146.out 5).trans rfl
                have hcz40_6 : w5.cell? ⟨gb146, 6, none⟩ = some (.int .i64 a0_6) := (blk_cell BK146.out 6).trans rfl
                have hcz40_7 : w5.cell? ⟨gb146, 7, none⟩ = some (.int .i64 a0_7) := (blk_cell BK146.out 7).trans rfl
                have hcz40_8 : w5.cell? ⟨gb146, 8, none⟩ = some (.bool a0_8) := (blk_cell BK146.out 8).trans rfl
                have hcz40_9 : w5.cell? ⟨gb146, 9, none⟩ = some (.int .i64 a0_9) := (blk_cell BK146.out 9).trans rfl
                have hcz40_10 : w5.cell? ⟨gb146, 10, none⟩ = some (.int .i64 a0_10) := (blk_cell BK146.out 10).trans rfl
                have hcz40_11 : w5.cell? ⟨gb146, 11, none⟩ = some (.int .i64 a0_11) := (blk_cell BK146.out 11).trans rfl
                have hcz40_12 : w5.cell? ⟨gb146, 12, none⟩ = some (.slice A0_12 l0_12.length c0_12) := (blk_cell BK146.out 12).trans rfl
                have hcz40_13 : w5.cell? ⟨gb146, 13, none⟩ = some (.int .i64 a0_13) := (blk_cell BK146.out 13).trans rfl
                have hcz40_14 : w5.cell? ⟨gb146, 14, none⟩ = some (.int .i64 a0_14) := (blk_cell BK146.out 14).trans rfl
                have hcz40_15 : w5.cell? ⟨gb146, 15, none⟩ = some (.int .i64 a0_15) := (blk_cell BK146.out 15).trans rfl
                have hcz40_16 : w5.cell? ⟨gb146, 16, none⟩ = some (.string a0_16) := (blk_cell BK146.out 16).trans rfl
                have hfz40_0 := blk_frozen BK146.out 0
                have hfz40_1 := blk_frozen BK146.out 1
                have hfz40_2 := blk_frozen BK146.out 2
                have hfz40_3 := blk_frozen BK146.out 3
                have hfz40_4 := blk_frozen BK146.out 4
                have hfz40_5 := blk_frozen BK146.out 5
                have hfz40_6 := blk_frozen BK146.out 6
                have hfz40_7 := blk_frozen BK146.out 7
                have hfz40_8 := blk_frozen BK146.out 8
                have hfz40_9 := blk_frozen BK146.out 9
                have hfz40_10 := blk_frozen BK146.out 10
                have hfz40_11 := blk_frozen BK146.out 11
                have hfz40_12 := blk_frozen BK146.out 12
                have hfz40_13 := blk_frozen BK146.out 13
                have hfz40_14 := blk_frozen BK146.out 14
                have hfz40_15 := blk_frozen BK146.out 15
                have hfz40_16 := blk_frozen BK146.out 16
                have hcz41_0 : w5.cell? ⟨gb147, 0, none⟩ = some (.int .i64 a1_0) := (blk_cell BK147.out 0).trans rfl
                have hcz41_1 : w5.cell? ⟨gb147, 1, none⟩ = some (.int .i64 a1_1) := (blk_cell BK147.out 1).trans rfl
                have hcz41_2 : w5.cell? ⟨gb147, 2, none⟩ = some (.string a1_2) := (blk_cell BK147.out 2).trans rfl
                have hcz41_3 : w5.cell? ⟨gb147, 3, none⟩ = some (.int .i64 a1_3) := (blk_cell BK147.out 3).trans rfl
                have hcz41_4 : w5.cell? ⟨gb147, 4, none⟩ = some (.int .i64 a1_4) := (blk_cell BK147.out 4).trans rfl
                have hcz41_5 : w5.cell? ⟨gb147, 5, none⟩ = some (.int .i64 a1_5) := (blk_cell BK147.out 5).trans rfl
                have hcz41_6 : w5.cell? ⟨gb147, 6, none⟩ = some (.int .i64 a1_6) := (blk_cell BK147.out 6).trans rfl
                have hcz41_7 : w5.cell? ⟨gb147, 7, none⟩ = some (.int .i64 a1_7) := (blk_cell BK147.out 7).trans rfl
                have hcz41_8 : w5.cell? ⟨gb147, 8, none⟩ = some (.bool a1_8) := (blk_cell BK147.out 8).trans rfl
                have hcz41_9 : w5.cell? ⟨gb147, 9, none⟩ = some (.int .i64 a1_9) := (blk_cell BK147.out 9).trans rfl
                have hcz41_10 : w5.cell? ⟨gb147, 10, none⟩ = some (.int .i64 a1_10) := (blk_cell BK147.out 10).trans rfl
                have hcz41_11 : w5.cell? ⟨gb147, 11, none⟩ = some (.int .i64 a1_11) := (blk_cell BK147.out 11).trans rfl
                have hcz41_12 : w5.cell? ⟨gb147, 12, none⟩ = some (.slice A1_12 l1_12.length c1_12) := (blk_cell BK147.out 12).trans rfl
                have hcz41_13 : w5.cell? ⟨gb147, 13, none⟩ = some (.int .i64 a1_13) := (blk_cell BK147.out 13).trans rfl
                have hcz41_14 : w5.cell? ⟨gb147, 14, none⟩ = some (.int .i64 a1_14) := (blk_cell BK147.out 14).trans rfl
                have hcz41_15 : w5.cell? ⟨gb147, 15, none⟩ = some (.int .i64 a1_15) := (blk_cell BK147.out 15).trans rfl
                have hcz41_16 : w5.cell? ⟨gb147, 16, none⟩ = some (.string a1_16) := (blk_cell BK147.out 16).trans rfl
                have hfz41_0 := blk_frozen BK147.out 0
                have hfz41_1 := blk_frozen BK147.out 1
                have hfz41_2 := blk_frozen BK147.out 2
                have hfz41_3 := blk_frozen BK147.out 3
                have hfz41_4 := blk_frozen BK147.out 4
                have hfz41_5 := blk_frozen BK147.out 5
                have hfz41_6 := blk_frozen BK147.out 6
                have hfz41_7 := blk_frozen BK147.out 7
                have hfz41_8 := blk_frozen BK147.out 8
                have hfz41_9 := blk_frozen BK147.out 9
                have hfz41_10 := blk_frozen BK147.out 10
                have hfz41_11 := blk_frozen BK147.out 11
                have hfz41_12 := blk_frozen BK147.out 12
                have hfz41_13 := blk_frozen BK147.out 13
                have hfz41_14 := blk_frozen BK147.out 14
                have hfz41_15 := blk_frozen BK147.out 15
                have hfz41_16 := blk_frozen BK147.out 16
                go_wp2
                repeat (go_quiet (fail); try go_wp2)
                go_meet
                case rel => exact ⟨_, (true), (by first | rfl | (simp; done) | (simp [*]; done) | exact congrArg Value.bool (ne_empty _) | exact congrArg Value.bool (eq_empty _)), H', ⟨by first | omega | exact Nat.le_refl _⟩, ⟨by (with_reducible repeat (first | refine blk_drewN ?_ _ | refine blk_drew ?_ | refine blk_alloc ?_ _)); exact BK146.out⟩, ⟨by (with_reducible repeat (first | refine blk_drewN ?_ _ | refine blk_drew ?_ | refine blk_alloc ?_ _)); exact BK147.out⟩, ⟨by repeat (first | (with_reducible first | exact HB.out | apply below_alloc | apply pw_below_drewN | apply below_drew1 | refine below_set ?_ GE146.out | refine below_set ?_ GE147.out) | exact HB.out)⟩⟩
            · rw [if_neg c10] at H
              have c10b0 : (a0_3 == a1_3) = false := beq_eq_false_iff_ne.mpr c10
              have c10b1 : (a0_3 != a1_3) = true := bne_iff_ne.mpr c10
              have H' := Aside0.mk H
              clear H
              have hnb42 := NB146_147.out
              have hnc42 := NB147_146.out
              have hcz43_0 : w5.cell? ⟨gb146, 0, none⟩ = some (.int .i64 a0_0) := (blk_cell BK146.out 0).trans rfl
              have hcz43_1 : w5.cell? ⟨gb146, 1, none⟩ = some (.int .i64 a0_1) := (blk_cell BK146.out 1).trans rfl
              have hcz43_2 : w5.cell? ⟨gb146, 2, none⟩ = some (.string a0_2) := (blk_cell BK146.out 2).trans rfl
              have hcz43_3 : w5.cell? ⟨gb146, 3, none⟩ = some (.int .i64 a0_3) := (blk_cell BK146.out 3).trans rfl
              have hcz43_4 : w5.cell? ⟨gb146, 4, none⟩ = some (.int .i64 a0_4) := (blk_cell BK146.out 4).trans rfl
              have hcz43_5 : w5.cell? ⟨gb146, 5, none⟩ = some (.int .i64 a0_5) := (blk_cell BK146.out 5).trans rfl
              have hcz43_6 : w5.cell? ⟨gb146, 6, none⟩ = some (.int .i64 a0_6) := (blk_cell BK146.out 6).trans rfl
              have hcz43_7 : w5.cell? ⟨gb146, 7, none⟩ = some (.int .i64 a0_7) := (blk_cell BK146.out 7).trans rfl
              have hcz43_8 : w5.cell? ⟨gb146, 8, none⟩ = some (.bool a0_8) := (blk_cell BK146.out 8).trans rfl
              have hcz43_9 : w5.cell? ⟨gb146, 9, none⟩ = some (.int .i64 a0_9) := (blk_cell BK146.out 9).trans rfl
              have hcz43_10 : w5.cell? ⟨gb146, 10, none⟩ = some (.int .i64 a0_10) := (blk_cell BK146.out 10).trans rfl
              have hcz43_11 : w5.cell? ⟨gb146, 11, none⟩ = some (.int .i64 a0_11) := (blk_cell BK146.out 11).trans rfl
              have hcz43_12 : w5.cell? ⟨gb146, 12, none⟩ = some (.slice A0_12 l0_12.length c0_12) := (blk_cell BK146.out 12).trans rfl
              have hcz43_13 : w5.cell? ⟨gb146, 13, none⟩ = some (.int .i64 a0_13) := (blk_cell BK146.out 13).trans rfl
              have hcz43_14 : w5.cell? ⟨gb146, 14, none⟩ = some (.int .i64 a0_14) := (blk_cell BK146.out 14).trans rfl
              have hcz43_15 : w5.cell? ⟨gb146, 15, none⟩ = some (.int .i64 a0_15) := (blk_cell BK146.out 15).trans rfl
              have hcz43_16 : w5.cell? ⟨gb146, 16, none⟩ = some (.string a0_16) := (blk_cell BK146.out 16).trans rfl
              have hfz43_0 := blk_frozen BK146.out 0
              have hfz43_1 := blk_frozen BK146.out 1
              have hfz43_2 := blk_frozen BK146.out 2
              have hfz43_3 := blk_frozen BK146.out 3
              have hfz43_4 := blk_frozen BK146.out 4
              have hfz43_5 := blk_frozen BK146.out 5
              have hfz43_6 := blk_frozen BK146.out 6
              have hfz43_7 := blk_frozen BK146.out 7
              have hfz43_8 := blk_frozen BK146.out 8
              have hfz43_9 := blk_frozen BK146.out 9
              have hfz43_10 := blk_frozen BK146.out 10
              have hfz43_11 := blk_frozen BK146.out 11
              have hfz43_12 := blk_frozen BK146.out 12
              have hfz43_13 := blk_frozen BK146.out 13
              have hfz43_14 := blk_frozen BK146.out 14
              have hfz43_15 := blk_frozen BK146.out 15
              have hfz43_16 := blk_frozen BK146.out 16
              have hcz44_0 : w5.cell? ⟨gb147, 0, none⟩ = some (.int .i64 a1_0) := (blk_cell BK147.out 0).trans rfl
              have hcz44_1 : w5.cell? ⟨gb147, 1, none⟩ = some (.int .i64 a1_1) := (blk_cell BK147.out 1).trans rfl
              have hcz44_2 : w5.cell? ⟨gb147, 2, none⟩ = some (.string a1_2) := (blk_cell BK147.out 2).trans rfl
              have hcz44_3 : w5.cell? ⟨gb147, 3, none⟩ = some (.int .i64 a1_3) := (blk_cell BK147.out 3).trans rfl
              have hcz44_4 : w5.cell? ⟨gb147, 4, none⟩ = some (.int .i64 a1_4) := (blk_cell BK147.out 4).trans rfl
              have hcz44_5 : w5.cell? ⟨gb147, 5, none⟩ = some (.int .i64 a1_5) := (blk_cell BK147.out 5).trans rfl
              have hcz44_6 : w5.cell? ⟨gb147, 6, none⟩ = some (.int .i64 a1_6) := (blk_cell BK147.out 6).trans rfl
              have hcz44_7 : w5.cell? ⟨gb147, 7, none⟩ = some (.int .i64 a1_7) := (blk_cell BK147.out 7).trans rfl
              have hcz44_8 : w5.cell? ⟨gb147, 8, none⟩ = some (.bool a1_8) := (blk_cell BK147.out 8).trans rfl
              have hcz44_9 : w5.cell? ⟨gb147, 9, none⟩ = some (.int .i64 a1_9) := (blk_cell BK147.out 9).trans rfl
              have hcz44_10 : w5.cell? ⟨gb147, 10, none⟩ = some (.int .i64 a1_10) := (blk_cell BK147.out 10).trans rfl
              have hcz44_11 : w5.cell? ⟨gb147, 11, none⟩ = some (.int .i64 a1_11) := (blk_cell BK147.out 11).trans rfl
              have hcz44_12 : w5.cell? ⟨gb147, 12, none⟩ = some (.slice A1_12 l1_12.length c1_12) := (blk_cell BK147.out 12).trans rfl
              have hcz44_13 : w5.cell? ⟨gb147, 13, none⟩ = some (.int .i64 a1_13) := (blk_cell BK147.out 13).trans rfl
              have hcz44_14 : w5.cell? ⟨gb147, 14, none⟩ = some (.int .i64 a1_14) := (blk_cell BK147.out 14).trans rfl
              have hcz44_15 : w5.cell? ⟨gb147, 15, none⟩ = some (.int .i64 a1_15) := (blk_cell BK147.out 15).trans rfl
              have hcz44_16 : w5.cell? ⟨gb147, 16, none⟩ = some (.string a1_16) := (blk_cell BK147.out 16).trans rfl
              have hfz44_0 := blk_frozen BK147.out 0
              have hfz44_1 := blk_frozen BK147.out 1
              have hfz44_2 := blk_frozen BK147.out 2
              have hfz44_3 := blk_frozen BK147.out 3
              have hfz44_4 := blk_frozen BK147.out 4
              have hfz44_5 := blk_frozen BK147.out 5
              have hfz44_6 := blk_frozen BK147.out 6
              have hfz44_7 := blk_frozen BK147.out 7
              have hfz44_8 := blk_frozen BK147.out 8
              have hfz44_9 := blk_frozen BK147.out 9
              have hfz44_10 := blk_frozen BK147.out 10
              have hfz44_11 := blk_frozen BK147.out 11
              have hfz44_12 := blk_frozen BK147.out 12
              have hfz44_13 := blk_frozen BK147.out 13
              have hfz44_14 := blk_frozen BK147.out 14
              have hfz44_15 := blk_frozen BK147.out 15
              have hfz44_16 := blk_frozen BK147.out 16
              go_wp2
              repeat (go_quiet (fail); try go_wp2)
              go_meet
              case rel => exact ⟨_, (true), (by first | rfl | (simp; done) | (simp [*]; done) | exact congrArg Value.bool (ne_empty _) | exact congrArg Value.bool (eq_empty _)), H', ⟨by first | omega | exact Nat.le_refl _⟩, ⟨by (with_reducible repeat (first | refine blk_drewN ?_ _ | refine blk_drew ?_ | refine blk_alloc ?_ _)); exact BK146.out⟩, ⟨by (with_reducible repeat (first | refine blk_drewN ?_ _ | refine blk_drew ?_ | refine blk_alloc ?_ _)); exact BK147.out⟩, ⟨by repeat (first | (with_reducible first | exact HB.out | apply below_alloc | apply pw_below_drewN | apply below_drew1 | refine below_set ?_ GE146.out | refine below_set ?_ GE147.out) | exact HB.out)⟩⟩
          · rw [if_neg c9] at H
            have c9b0 : (a0_16.toList == a1_16.toList) = false := beq_eq_false_iff_ne.mpr c9
            have c9b1 : (a0_16.toList != a1_16.toList) = true := bne_iff_ne.mpr c9
            have H' := Aside0.mk H
            clear H
            have hnb45 := NB146_147.out
            have hnc45 := NB147_146.out
            have hcz46_0 : w5.cell? ⟨gb146, 0, none⟩ = some (.int .i64 a0_0) := (blk_cell BK146.out 0).trans rfl
            have hcz46_1 : w5.cell? ⟨gb146, 1, none⟩ = some (.int .i64 a0_1) := (blk_cell BK146.out 1).trans rfl
            have hcz46_2 : w5.cell? ⟨gb146, 2, none⟩ = some (.string a0_2) := (blk_cell BK146.out 2).trans rfl
            have hcz46_3 : w5.cell? ⟨gb146, 3, none⟩ = some (.int .i64 a0_3) := (blk_cell BK146.out 3).trans rfl
            have hcz46_4 : w5.cell? ⟨gb146, 4, none⟩ = some (.int .i64 a0_4) := (blk_cell BK146.out 4).trans rfl
            have hcz46_5 : w5.cell? ⟨gb146, 5, none⟩ = some (.int .i64 a0_5) := (blk_cell BK146.out 5).trans rfl
            have hcz46_6 : w5.cell? ⟨gb146, 6, none⟩ = some (.int .i64 a0_6) := (blk_cell BK146.out 6).trans rfl
            have hcz46_7 : w5.cell? ⟨gb146, 7, none⟩ = some (.int .i64 a0_7) := (blk_cell BK146.out 7).trans rfl
            have hcz46_8 : w5.cell? ⟨gb146, 8, none⟩ = some (.bool a0_8) := (blk_cell BK146.out 8).trans rfl
            have hcz46_9 : w5.cell? ⟨gb146, 9, none⟩ = some (.int .i64 a0_9) := (blk_cell BK146.out 9).trans rfl
            have hcz46_10 : w5.cell? ⟨gb146, 10, none⟩ = some (.int .i64 a0_10) := (blk_cell BK146.out 10).trans rfl
            have hcz46_11 : w5.cell? ⟨gb146, 11, none⟩ = some (.int .i64 a0_11) := (blk_cell BK146.out 11).trans rfl
            have hcz46_12 : w5.cell? ⟨gb146, 12, none⟩ = some (.slice A0_12 l0_12.length c0_12) := (blk_cell BK146.out 12).trans rfl
            have hcz46_13 : w5.cell? ⟨gb146, 13, none⟩ = some (.int .i64 a0_13) := (blk_cell BK146.out 13).trans rfl
            have hcz46_14 : w5.cell? ⟨gb146, 14, none⟩ = some (.int .i64 a0_14) := (blk_cell BK146.out 14).trans rfl
            have hcz46_15 : w5.cell? ⟨gb146, 15, none⟩ = some (.int .i64 a0_15) := (blk_cell BK146.out 15).trans rfl
            have hcz46_16 : w5.cell? ⟨gb146, 16, none⟩ = some (.string a0_16) := (blk_cell BK146.out 16).trans rfl
            have hfz46_0 := blk_frozen BK146.out 0
            have hfz46_1 := blk_frozen BK146.out 1
            have hfz46_2 := blk_frozen BK146.out 2
            have hfz46_3 := blk_frozen BK146.out 3
            have hfz46_4 := blk_frozen BK146.out 4
            have hfz46_5 := blk_frozen BK146.out 5
            have hfz46_6 := blk_frozen BK146.out 6
            have hfz46_7 := blk_frozen BK146.out 7
            have hfz46_8 := blk_frozen BK146.out 8
            have hfz46_9 := blk_frozen BK146.out 9
            have hfz46_10 := blk_frozen BK146.out 10
            have hfz46_11 := blk_frozen BK146.out 11
            have hfz46_12 := blk_frozen BK146.out 12
            have hfz46_13 := blk_frozen BK146.out 13
            have hfz46_14 := blk_frozen BK146.out 14
            have hfz46_15 := blk_frozen BK146.out 15
            have hfz46_16 := blk_frozen BK146.out 16
            have hcz47_0 : w5.cell? ⟨gb147, 0, none⟩ = some (.int .i64 a1_0) := (blk_cell BK147.out 0).trans rfl
            have hcz47_1 : w5.cell? ⟨gb147, 1, none⟩ = some (.int .i64 a1_1) := (blk_cell BK147.out 1).trans rfl
            have hcz47_2 : w5.cell? ⟨gb147, 2, none⟩ = some (.string a1_2) := (blk_cell BK147.out 2).trans rfl
            have hcz47_3 : w5.cell? ⟨gb147, 3, none⟩ = some (.int .i64 a1_3) := (blk_cell BK147.out 3).trans rfl
            have hcz47_4 : w5.cell? ⟨gb147, 4, none⟩ = some (.int .i64 a1_4) := (blk_cell BK147.out 4).trans rfl
            have hcz47_5 : w5.cell? ⟨gb147, 5, none⟩ = some (.int .i64 a1_5) := (blk_cell BK147.out 5).trans rfl
            have hcz47_6 : w5.cell? ⟨gb147, 6, none⟩ = some (.int .i64 a1_6) := (blk_cell BK147.out 6).trans rfl
            have hcz47_7 : w5.cell? ⟨gb147, 7, none⟩ = some (.int .i64 a1_7) := (blk_cell BK147.out 7).trans rfl
            have hcz47_8 : w5.cell? ⟨gb147, 8, none⟩ = some (.bool a1_8) := (blk_cell BK147.out 8).trans rfl
            have hcz47_9 : w5.cell? ⟨gb147, 9, none⟩ = some (.int .i64 a1_9) := (blk_cell BK147.out 9).trans rfl
            have hcz47_10 : w5.cell? ⟨gb147, 10, none⟩ = some (.int .i64 a1_10) := (blk_cell BK147.out 10).trans rfl
            have hcz47_11 : w5.cell? ⟨gb147, 11, none⟩ = some (.int .i64 a1_11) := (blk_cell BK147.out 11).trans rfl
            have hcz47_12 : w5.cell? ⟨gb147, 12, none⟩ = some (.slice A1_12 l1_12.length c1_12) := (blk_cell BK147.out 12).trans rfl
            have hcz47_13 : w5.cell? ⟨gb147, 13, none⟩ = some (.int .i64 a1_13) := (blk_cell BK147.out 13).trans rfl
            have hcz47_14 : w5.cell? ⟨gb147, 14, none⟩ = some (.int .i64 a1_14) := (blk_cell BK147.out 14).trans rfl
            have hcz47_15 : w5.cell? ⟨gb147, 15, none⟩ = some (.int .i64 a1_15) := (blk_cell BK147.out 15).trans rfl
            have hcz47_16 : w5.cell? ⟨gb147, 16, none⟩ = some (.string a1_16) := (blk_cell BK147.out 16).trans rfl
            have hfz47_0 := blk_frozen BK147.out 0
            have hfz47_1 := blk_frozen BK147.out 1
            have hfz47_2 := blk_frozen BK147.out 2
            have hfz47_3 := blk_frozen BK147.out 3
            have hfz47_4 := blk_frozen BK147.out 4
            have hfz47_5 := blk_frozen BK147.out 5
            have hfz47_6 := blk_frozen BK147.out 6
            have hfz47_7 := blk_frozen BK147.out 7
            have hfz47_8 := blk_frozen BK147.out 8
            have hfz47_9 := blk_frozen BK147.out 9
            have hfz47_10 := blk_frozen BK147.out 10
            have hfz47_11 := blk_frozen BK147.out 11
            have hfz47_12 := blk_frozen BK147.out 12
            have hfz47_13 := blk_frozen BK147.out 13
            have hfz47_14 := blk_frozen BK147.out 14
            have hfz47_15 := blk_frozen BK147.out 15
            have hfz47_16 := blk_frozen BK147.out 16
            go_wp2
            repeat (go_quiet (fail); try go_wp2)
            go_meet
            case rel => exact ⟨_, (true), (by first | rfl | (simp; done) | (simp [*]; done) | exact congrArg Value.bool (ne_empty _) | exact congrArg Value.bool (eq_empty _)), H', ⟨by first | omega | exact Nat.le_refl _⟩, ⟨by (with_reducible repeat (first | refine blk_drewN ?_ _ | refine blk_drew ?_ | refine blk_alloc ?_ _)); exact BK146.out⟩, ⟨by (with_reducible repeat (first | refine blk_drewN ?_ _ | refine blk_drew ?_ | refine blk_alloc ?_ _)); exact BK147.out⟩, ⟨by repeat (first | (with_reducible first | exact HB.out | apply below_alloc | apply pw_below_drewN | apply below_drew1 | refine below_set ?_ GE146.out | refine below_set ?_ GE147.out) | exact HB.out)⟩⟩
        · rw [if_neg c8] at H
          have c8b0 : (a0_2.toList == a1_2.toList) = false := beq_eq_false_iff_ne.mpr c8
          have c8b1 : (a0_2.toList != a1_2.toList) = true := bne_iff_ne.mpr c8
          have H' := Aside0.mk H
          clear H
          have hnb48 := NB146_147.out
          have hnc48 := NB147_146.out
          have hcz49_0 : w5.cell? ⟨gb146, 0, none⟩ = some (.int .i64 a0_0) := (blk_cell BK146.out 0).trans rfl
          have hcz49_1 : w5.cell? ⟨gb146, 1, none⟩ = some (.int .i64 a0_1) := (blk_cell BK146.out 1).trans rfl
          have hcz49_2 : w5.cell? ⟨gb146, 2, none⟩ = some (.string a0_2) := (blk_cell BK146.out 2).trans rfl
          have hcz49_3 : w5.cell? ⟨gb146, 3, none⟩ = some (.int .i64 a0_3) := (blk_cell BK146.out 3).trans rfl
          have hcz49_4 : w5.cell? ⟨gb146, 4, none⟩ = some (.int .i64 a0_4) := (blk_cell BK146.out 4).trans rfl
          have hcz49_5 : w5.cell? ⟨gb146, 5, none⟩ = some (.int .i64 a0_5) := (blk_cell BK146.out 5).trans rfl
          have hcz49_6 : w5.cell? ⟨gb146, 6, none⟩ = some (.int .i64 a0_6) := (blk_cell BK146.out 6).trans rfl
          have hcz49_7 : w5.cell? ⟨gb146, 7, none⟩ = some (.int .i64 a0_7) := (blk_cell BK146.out 7).trans rfl
          have hcz49_8 : w5.cell? ⟨gb146, 8, none⟩ = some (.bool a0_8) := (blk_cell BK146.out 8).trans rfl
          have hcz49_9 : w5.cell? ⟨gb146, 9, none⟩ = some (.int .i64 a0_9) := (blk_cell BK146.out 9).trans rfl
          have hcz49_10 : w5.cell? ⟨gb146, 10, none⟩ = some (.int .i64 a0_10) := (blk_cell BK146.out 10).trans rfl
          have hcz49_11 : w5.cell? ⟨gb146, 11, none⟩ = some (.int .i64 a0_11) := (blk_cell BK146.out 11).trans rfl
          have hcz49_12 : w5.cell? ⟨gb146, 12, none⟩ = some (.slice A0_12 l0_12.length c0_12) := (blk_cell BK146.out 12).trans rfl
          have hcz49_13 : w5.cell? ⟨gb146, 13, none⟩ = some (.int .i64 a0_13) := (blk_cell BK146.out 13).trans rfl
          have hcz49_14 : w5.cell? ⟨gb146, 14, none⟩ = some (.int .i64 a0_14) := (blk_cell BK146.out 14).trans rfl
          have hcz49_15 : w5.cell? ⟨gb146, 15, none⟩ = some (.int .i64 a0_15) := (blk_cell BK146.out 15).trans rfl
          have hcz49_16 : w5.cell? ⟨gb146, 16, none⟩ = some (.string a0_16) := (blk_cell BK146.out 16).trans rfl
          have hfz49_0 := blk_frozen BK146.out 0
          have hfz49_1 := blk_frozen BK146.out 1
          have hfz49_2 := blk_frozen BK146.out 2
          have hfz49_3 := blk_frozen BK146.out 3
          have hfz49_4 := blk_frozen BK146.out 4
          have hfz49_5 := blk_frozen BK146.out 5
          have hfz49_6 := blk_frozen BK146.out 6
          have hfz49_7 := blk_frozen BK146.out 7
          have hfz49_8 := blk_frozen BK146.out 8
          have hfz49_9 := blk_frozen BK146.out 9
          have hfz49_10 := blk_frozen BK146.out 10
          have hfz49_11 := blk_frozen BK146.out 11
          have hfz49_12 := blk_frozen BK146.out 12
          have hfz49_13 := blk_frozen BK146.out 13
          have hfz49_14 := blk_frozen BK146.out 14
          have hfz49_15 := blk_frozen BK146.out 15
          have hfz49_16 := blk_frozen BK146.out 16
          have hcz50_0 : w5.cell? ⟨gb147, 0, none⟩ = some (.int .i64 a1_0) := (blk_cell BK147.out 0).trans rfl
          have hcz50_1 : w5.cell? ⟨gb147, 1, none⟩ = some (.int .i64 a1_1) := (blk_cell BK147.out 1).trans rfl
          have hcz50_2 : w5.cell? ⟨gb147, 2, none⟩ = some (.string a1_2) := (blk_cell BK147.out 2).trans rfl
          have hcz50_3 : w5.cell? ⟨gb147, 3, none⟩ = some (.int .i64 a1_3) := (blk_cell BK147.out 3).trans rfl
          have hcz50_4 : w5.cell? ⟨gb147, 4, none⟩ = some (.int .i64 a1_4) := (blk_cell BK147.out 4).trans rfl
          have hcz50_5 : w5.cell? ⟨gb147, 5, none⟩ = some (.int .i64 a1_5) := (blk_cell BK147.out 5).trans rfl
          have hcz50_6 : w5.cell? ⟨gb147, 6, none⟩ = some (.int .i64 a1_6) := (blk_cell BK147.out 6).trans rfl
          have hcz50_7 : w5.cell? ⟨gb147, 7, none⟩ = some (.int .i64 a1_7) := (blk_cell BK147.out 7).trans rfl
          have hcz50_8 : w5.cell? ⟨gb147, 8, none⟩ = some (.bool a1_8) := (blk_cell BK147.out 8).trans rfl
          have hcz50_9 : w5.cell? ⟨gb147, 9, none⟩ = some (.int .i64 a1_9) := (blk_cell BK147.out 9).trans rfl
          have hcz50_10 : w5.cell? ⟨gb147, 10, none⟩ = some (.int .i64 a1_10) := (blk_cell BK147.out 10).trans rfl
          have hcz50_11 : w5.cell? ⟨gb147, 11, none⟩ = some (.int .i64 a1_11) := (blk_cell BK147.out 11).trans rfl
          have hcz50_12 : w5.cell? ⟨gb147, 12, none⟩ = some (.slice A1_12 l1_12.length c1_12) := (blk_cell BK147.out 12).trans rfl
          have hcz50_13 : w5.cell? ⟨gb147, 13, none⟩ = some (.int .i64 a1_13) := (blk_cell BK147.out 13).trans rfl
          have hcz50_14 : w5.cell? ⟨gb147, 14, none⟩ = some (.int .i64 a1_14) := (blk_cell BK147.out 14).trans rfl
          have hcz50_15 : w5.cell? ⟨gb147, 15, none⟩ = some (.int .i64 a1_15) := (blk_cell BK147.out 15).trans rfl
          have hcz50_16 : w5.cell? ⟨gb147, 16, none⟩ = some (.string a1_16) := (blk_cell BK147.out 16).trans rfl
          have hfz50_0 := blk_frozen BK147.out 0
          have hfz50_1 := blk_frozen BK147.out 1
          have hfz50_2 := blk_frozen BK147.out 2
          have hfz50_3 := blk_frozen BK147.out 3
          have hfz50_4 := blk_frozen BK147.out 4
          have hfz50_5 := blk_frozen BK147.out 5
          have hfz50_6 := blk_frozen BK147.out 6
          have hfz50_7 := blk_frozen BK147.out 7
          have hfz50_8 := blk_frozen BK147.out 8
          have hfz50_9 := blk_frozen BK147.out 9
          have hfz50_10 := blk_frozen BK147.out 10
          have hfz50_11 := blk_frozen BK147.out 11
          have hfz50_12 := blk_frozen BK147.out 12
          have hfz50_13 := blk_frozen BK147.out 13
          have hfz50_14 := blk_frozen BK147.out 14
          have hfz50_15 := blk_frozen BK147.out 15
          have hfz50_16 := blk_frozen BK147.out 16
          go_wp2
          repeat (go_quiet (fail); try go_wp2)
          go_meet
          case rel => exact ⟨_, (true), (by first | rfl | (simp; done) | (simp [*]; done) | exact congrArg Value.bool (ne_empty _) | exact congrArg Value.bool (eq_empty _)), H', ⟨by first | omega | exact Nat.le_refl _⟩, ⟨by (with_reducible repeat (first | refine blk_drewN ?_ _ | refine blk_drew ?_ | refine blk_alloc ?_ _)); exact BK146.out⟩, ⟨by (with_reducible repeat (first | refine blk_drewN ?_ _ | refine blk_drew ?_ | refine blk_alloc ?_ _)); exact BK147.out⟩, ⟨by repeat (first | (with_reducible first | exact HB.out | apply below_alloc | apply pw_below_drewN | apply below_drew1 | refine below_set ?_ GE146.out | refine below_set ?_ GE147.out) | exact HB.out)⟩⟩
      · rw [if_neg c7] at H
        have c7b0 : (a0_1 == a1_1) = false := beq_eq_false_iff_ne.mpr c7
        have c7b1 : (a0_1 != a1_1) = true := bne_iff_ne.mpr c7
        have H' := Aside0.mk H
        clear H
        have hnb51 := NB146_147.out
        have hnc51 := NB147_146.out
        have hcz52_0 : w5.cell? ⟨gb146, 0, none⟩ = some (.int .i64 a0_0) := (blk_cell BK146.out 0).trans rfl
        have hcz52_1 : w5.cell? ⟨gb146, 1, none⟩ = some (.int .i64 a0_1) := (blk_cell BK146.out 1).trans rfl
        have hcz52_2 : w5.cell? ⟨gb146, 2, none⟩ = some (.string a0_2) := (blk_cell BK146.out 2).trans rfl
        have hcz52_3 : w5.cell? ⟨gb146, 3, none⟩ = some (.int .i64 a0_3) := (blk_cell BK146.out 3).trans rfl
        have hcz52_4 : w5.cell? ⟨gb146, 4, none⟩ = some (.int .i64 a0_4) := (blk_cell BK146.out 4).trans rfl
        have hcz52_5 : w5.cell? ⟨gb146, 5, none⟩ = some (.int .i64 a0_5) := (blk_cell BK146.out 5).trans rfl
        have hcz52_6 : w5.cell? ⟨gb146, 6, none⟩ = some (.int .i64 a0_6) := (blk_cell BK146.out 6).trans rfl
        have hcz52_7 : w5.cell? ⟨gb146, 7, none⟩ = some (.int .i64 a0_7) := (blk_cell BK146.out 7).trans rfl
        have hcz52_8 : w5.cell? ⟨gb146, 8, none⟩ = some (.bool a0_8) := (blk_cell BK146.out 8).trans rfl
        have hcz52_9 : w5.cell? ⟨gb146, 9, none⟩ = some (.int .i64 a0_9) := (blk_cell BK146.out 9).trans rfl
        have hcz52_10 : w5.cell? ⟨gb146, 10, none⟩ = some (.int .i64 a0_10) := (blk_cell BK146.out 10).trans rfl
        have hcz52_11 : w5.cell? ⟨gb146, 11, none⟩ = some (.int .i64 a0_11) := (blk_cell BK146.out 11).trans rfl
        have hcz52_12 : w5.cell? ⟨gb146, 12, none⟩ = some (.slice A0_12 l0_12.length c0_12) := (blk_cell BK146.out 12).trans rfl
        have hcz52_13 : w5.cell? ⟨gb146, 13, none⟩ = some (.int .i64 a0_13) := (blk_cell BK146.out 13).trans rfl
        have hcz52_14 : w5.cell? ⟨gb146, 14, none⟩ = some (.int .i64 a0_14) := (blk_cell BK146.out 14).trans rfl
        have hcz52_15 : w5.cell? ⟨gb146, 15, none⟩ = some (.int .i64 a0_15) := (blk_cell BK146.out 15).trans rfl
        have hcz52_16 : w5.cell? ⟨gb146, 16, none⟩ = some (.string a0_16) := (blk_cell BK146.out 16).trans rfl
        have hfz52_0 := blk_frozen BK146.out 0
        have hfz52_1 := blk_frozen BK146.out 1
        have hfz52_2 := blk_frozen BK146.out 2
        have hfz52_3 := blk_frozen BK146.out 3
        have hfz52_4 := blk_frozen BK146.out 4
        have hfz52_5 := blk_frozen BK146.out 5
        have hfz52_6 := blk_frozen BK146.out 6
        have hfz52_7 := blk_frozen BK146.out 7
        have hfz52_8 := blk_frozen BK146.out 8
        have hfz52_9 := blk_frozen BK146.out 9
        have hfz52_10 := blk_frozen BK146.out 10
        have hfz52_11 := blk_frozen BK146.out 11
        have hfz52_12 := blk_frozen BK146.out 12
        have hfz52_13 := blk_frozen BK146.out 13
        have hfz52_14 := blk_frozen BK146.out 14
        have hfz52_15 := blk_frozen BK146.out 15
        have hfz52_16 := blk_frozen BK146.out 16
        have hcz53_0 : w5.cell? ⟨gb147, 0, none⟩ = some (.int .i64 a1_0) := (blk_cell BK147.out 0).trans rfl
        have hcz53_1 : w5.cell? ⟨gb147, 1, none⟩ = some (.int .i64 a1_1) := (blk_cell BK147.out 1).trans rfl
        have hcz53_2 : w5.cell? ⟨gb147, 2, none⟩ = some (.string a1_2) := (blk_cell BK147.out 2).trans rfl
        have hcz53_3 : w5.cell? ⟨gb147, 3, none⟩ = some (.int .i64 a1_3) := (blk_cell BK147.out 3).trans rfl
        have hcz53_4 : w5.cell? ⟨gb147, 4, none⟩ = some (.int .i64 a1_4) := (blk_cell BK147.out 4).trans rfl
        have hcz53_5 : w5.cell? ⟨gb147, 5, none⟩ = some (.int .i64 a1_5) := (blk_cell BK147.out 5).trans rfl
        have hcz53_6 : w5.cell? ⟨gb147, 6, none⟩ = some (.int .i64 a1_6) := (blk_cell BK147.out 6).trans rfl
        have hcz53_7 : w5.cell? ⟨gb147, 7, none⟩ = some (.int .i64 a1_7) := (blk_cell BK147.out 7).trans rfl
        have hcz53_8 : w5.cell? ⟨gb147, 8, none⟩ = some (.bool a1_8) := (blk_cell BK147.out 8).trans rfl
        have hcz53_9 : w5.cell? ⟨gb147, 9, none⟩ = some (.int .i64 a1_9) := (blk_cell BK147.out 9).trans rfl
        have hcz53_10 : w5.cell? ⟨gb147, 10, none⟩ = some (.int .i64 a1_10) := (blk_cell BK147.out 10).trans rfl
        have hcz53_11 : w5.cell? ⟨gb147, 11, none⟩ = some (.int .i64 a1_11) := (blk_cell BK147.out 11).trans rfl
        have hcz53_12 : w5.cell? ⟨gb147, 12, none⟩ = some (.slice A1_12 l1_12.length c1_12) := (blk_cell BK147.out 12).trans rfl
        have hcz53_13 : w5.cell? ⟨gb147, 13, none⟩ = some (.int .i64 a1_13) := (blk_cell BK147.out 13).trans rfl
        have hcz53_14 : w5.cell? ⟨gb147, 14, none⟩ = some (.int .i64 a1_14) := (blk_cell BK147.out 14).trans rfl
        have hcz53_15 : w5.cell? ⟨gb147, 15, none⟩ = some (.int .i64 a1_15) := (blk_cell BK147.out 15).trans rfl
        have hcz53_16 : w5.cell? ⟨gb147, 16, none⟩ = some (.string a1_16) := (blk_cell BK147.out 16).trans rfl
        have hfz53_0 := blk_frozen BK147.out 0
        have hfz53_1 := blk_frozen BK147.out 1
        have hfz53_2 := blk_frozen BK147.out 2
        have hfz53_3 := blk_frozen BK147.out 3
        have hfz53_4 := blk_frozen BK147.out 4
        have hfz53_5 := blk_frozen BK147.out 5
        have hfz53_6 := blk_frozen BK147.out 6
        have hfz53_7 := blk_frozen BK147.out 7
        have hfz53_8 := blk_frozen BK147.out 8
        have hfz53_9 := blk_frozen BK147.out 9
        have hfz53_10 := blk_frozen BK147.out 10
        have hfz53_11 := blk_frozen BK147.out 11
        have hfz53_12 := blk_frozen BK147.out 12
        have hfz53_13 := blk_frozen BK147.out 13
        have hfz53_14 := blk_frozen BK147.out 14
        have hfz53_15 := blk_frozen BK147.out 15
        have hfz53_16 := blk_frozen BK147.out 16
        go_wp2
        repeat (go_quiet (fail); try go_wp2)
        go_meet
        case rel => exact ⟨_, (true), (by first | rfl | (simp; done) | (simp [*]; done) | exact congrArg Value.bool (ne_empty _) | exact congrArg Value.bool (eq_empty _)), H', ⟨by first | omega | exact Nat.le_refl _⟩, ⟨by (with_reducible repeat (first | refine blk_drewN ?_ _ | refine blk_drew ?_ | refine blk_alloc ?_ _)); exact BK146.out⟩, ⟨by (with_reducible repeat (first | refine blk_drewN ?_ _ | refine blk_drew ?_ | refine blk_alloc ?_ _)); exact BK147.out⟩, ⟨by repeat (first | (with_reducible first | exact HB.out | apply below_alloc | apply pw_below_drewN | apply below_drew1 | refine below_set ?_ GE146.out | refine below_set ?_ GE147.out) | exact HB.out)⟩⟩
    · rw [if_neg c6] at H
      have c6b0 : (a0_0 == a1_0) = false := beq_eq_false_iff_ne.mpr c6
      have c6b1 : (a0_0 != a1_0) = true := bne_iff_ne.mpr c6
      (first | rw [c6b0] | (simp only [i64_w, i32_w]; rw [c6b0]) | skip)
      have H' := Aside0.mk H
      clear H
      have hnb54 := NB146_147.out
      have hnc54 := NB147_146.out
      have hcz55_0 : w5.cell? ⟨gb146, 0, none⟩ = some (.int .i64 a0_0) := (blk_cell BK146.out 0).trans rfl
      have hcz55_1 : w5.cell? ⟨gb146, 1, none⟩ = some (.int .i64 a0_1) := (blk_cell BK146.out 1).trans rfl
      have hcz55_2 : w5.cell? ⟨gb146, 2, none⟩ = some (.string a0_2) := (blk_cell BK146.out 2).trans rfl
      have hcz55_3 : w5.cell? ⟨gb146, 3, none⟩ = some (.int .i64 a0_3) := (blk_cell BK146.out 3).trans rfl
      have hcz55_4 : w5.cell? ⟨gb146, 4, none⟩ = some (.int .i64 a0_4) := (blk_cell BK146.out 4).trans rfl
      have hcz55_5 : w5.cell? ⟨gb146, 5, none⟩ = some (.int .i64 a0_5) := (blk_cell BK146.out 5).trans rfl
      have hcz55_6 : w5.cell? ⟨gb146, 6, none⟩ = some (.int .i64 a0_6) := (blk_cell BK146.out 6).trans rfl
      have hcz55_7 : w5.cell? ⟨gb146, 7, none⟩ = some (.int .i64 a0_7) := (blk_cell BK146.out 7).trans rfl
      have hcz55_8 : w5.cell? ⟨gb146, 8, none⟩ = some (.bool a0_8) := (blk_cell BK146.out 8).trans rfl
      have hcz55_9 : w5.cell? ⟨gb146, 9, none⟩ = some (.int .i64 a0_9) := (blk_cell BK146.out 9).trans rfl
      have hcz55_10 : w5.cell? ⟨gb146, 10, none⟩ = some (.int .i64 a0_10) := (blk_cell BK146.out 10).trans rfl
      have hcz55_11 : w5.cell? ⟨gb146, 11, none⟩ = some (.int .i64 a0_11) := (blk_cell BK146.out 11).trans rfl
      have hcz55_12 : w5.cell? ⟨gb146, 12, none⟩ = some (.slice A0_12 l0_12.length c0_12) := (blk_cell BK146.out 12).trans rfl
      have hcz55_13 : w5.cell? ⟨gb146, 13, none⟩ = some (.int .i64 a0_13) := (blk_cell BK146.out 13).trans rfl
      have hcz55_14 : w5.cell? ⟨gb146, 14, none⟩ = some (.int .i64 a0_14) := (blk_cell BK146.out 14).trans rfl
      have hcz55_15 : w5.cell? ⟨gb146, 15, none⟩ = some (.int .i64 a0_15) := (blk_cell BK146.out 15).trans rfl
      have hcz55_16 : w5.cell? ⟨gb146, 16, none⟩ = some (.string a0_16) := (blk_cell BK146.out 16).trans rfl
      have hfz55_0 := blk_frozen BK146.out 0
      have hfz55_1 := blk_frozen BK146.out 1
      have hfz55_2 := blk_frozen BK146.out 2
      have hfz55_3 := blk_frozen BK146.out 3
      have hfz55_4 := blk_frozen BK146.out 4
      have hfz55_5 := blk_frozen BK146.out 5
      have hfz55_6 := blk_frozen BK146.out 6
      have hfz55_7 := blk_frozen BK146.out 7
      have hfz55_8 := blk_frozen BK146.out 8
      have hfz55_9 := blk_frozen BK146.out 9
      have hfz55_10 := blk_frozen BK146.out 10
      have hfz55_11 := blk_frozen BK146.out 11
      have hfz55_12 := blk_frozen BK146.out 12
      have hfz55_13 := blk_frozen BK146.out 13
      have hfz55_14 := blk_frozen BK146.out 14
      have hfz55_15 := blk_frozen BK146.out 15
      have hfz55_16 := blk_frozen BK146.out 16
      have hcz56_0 : w5.cell? ⟨gb147, 0, none⟩ = some (.int .i64 a1_0) := (blk_cell BK147.out 0).trans rfl
      have hcz56_1 : w5.cell? ⟨gb147, 1, none⟩ = some (.int .i64 a1_1) := (blk_cell BK147.out 1).trans rfl
      have hcz56_2 : w5.cell? ⟨gb147, 2, none⟩ = some (.string a1_2) := (blk_cell BK147.out 2).trans rfl
      have hcz56_3 : w5.cell? ⟨gb147, 3, none⟩ = some (.int .i64 a1_3) := (blk_cell BK147.out 3).trans rfl
      have hcz56_4 : w5.cell? ⟨gb147, 4, none⟩ = some (.int .i64 a1_4) := (blk_cell BK147.out 4).trans rfl
      have hcz56_5 : w5.cell? ⟨gb147, 5, none⟩ = some (.int .i64 a1_5) := (blk_cell BK147.out 5).trans rfl
      have hcz56_6 : w5.cell? ⟨gb147, 6, none⟩ = some (.int .i64 a1_6) := (blk_cell BK147.out 6).trans rfl
      have hcz56_7 : w5.cell? ⟨gb147, 7, none⟩ = some (.int .i64 a1_7) := (blk_cell BK147.out 7).trans rfl
      have hcz56_8 : w5.cell? ⟨gb147, 8, none⟩ = some (.bool a1_8) := (blk_cell BK147.out 8).trans rfl
      have hcz56_9 : w5.cell? ⟨gb147, 9, none⟩ = some (.int .i64 a1_9) := (blk_cell BK147.out 9).trans rfl
      have hcz56_10 : w5.cell? ⟨gb147, 10, none⟩ = some (.int .i64 a1_10) := (blk_cell BK147.out 10).trans rfl
      have hcz56_11 : w5.cell? ⟨gb147, 11, none⟩ = some (.int .i64 a1_11) := (blk_cell BK147.out 11).trans rfl
      have hcz56_12 : w5.cell? ⟨gb147, 12, none⟩ = some (.slice A1_12 l1_12.length c1_12) := (blk_cell BK147.out 12).trans rfl
      have hcz56_13 : w5.cell? ⟨gb147, 13, none⟩ = some (.int .i64 a1_13) := (blk_cell BK147.out 13).trans rfl
      have hcz56_14 : w5.cell? ⟨gb147, 14, none⟩ = some (.int .i64 a1_14) := (blk_cell BK147.out 14).trans rfl
      have hcz56_15 : w5.cell? ⟨gb147, 15, none⟩ = some (.int .i64 a1_15) := (blk_cell BK147.out 15).trans rfl
      have hcz56_16 : w5.cell? ⟨gb147, 16, none⟩ = some (.string a1_16) := (blk_cell BK147.out 16).trans rfl
      have hfz56_0 := blk_frozen BK147.out 0
      have hfz56_1 := blk_frozen BK147.out 1
      have hfz56_2 := blk_frozen BK147.out 2
      have hfz56_3 := blk_frozen BK147.out 3
      have hfz56_4 := blk_frozen BK147.out 4
      have hfz56_5 := blk_frozen BK147.out 5
      have hfz56_6 := blk_frozen BK147.out 6
      have hfz56_7 := blk_frozen BK147.out 7
      have hfz56_8 := blk_frozen BK147.out 8
      have hfz56_9 := blk_frozen BK147.out 9
      have hfz56_10 := blk_frozen BK147.out 10
      have hfz56_11 := blk_frozen BK147.out 11
      have hfz56_12 := blk_frozen BK147.out 12
      have hfz56_13 := blk_frozen BK147.out 13
      have hfz56_14 := blk_frozen BK147.out 14
      have hfz56_15 := blk_frozen BK147.out 15
      have hfz56_16 := blk_frozen BK147.out 16
      go_wp2
      repeat (go_quiet (fail); try go_wp2)
      go_meet
      case rel => exact ⟨_, (true), (by first | rfl | (simp; done) | (simp [*]; done) | exact congrArg Value.bool (ne_empty _) | exact congrArg Value.bool (eq_empty _)), H', ⟨by first | omega | exact Nat.le_refl _⟩, ⟨by (with_reducible repeat (first | refine blk_drewN ?_ _ | refine blk_drew ?_ | refine blk_alloc ?_ _)); exact BK146.out⟩, ⟨by (with_reducible repeat (first | refine blk_drewN ?_ _ | refine blk_drew ?_ | refine blk_alloc ?_ _)); exact BK147.out⟩, ⟨by repeat (first | (with_reducible first | exact HB.out | apply below_alloc | apply pw_below_drewN | apply below_drew1 | refine below_set ?_ GE146.out | refine below_set ?_ GE147.out) | exact HB.out)⟩⟩
  case rest =>
    clear HC3
    try clear c1
    try clear p2
    try clear c3
    try clear c4
    try clear c5
    try clear c6
    try clear c6b0
    try clear c6b1
    try clear c7
    try clear c7b0
    try clear c7b1
    try clear c8
    try clear c8b0
    try clear c8b1
    try clear c9
    try clear c9b0
    try clear c9b1
    try clear c10
    try clear c10b0
    try clear c10b1
    try clear c11
    try clear c11b0
    try clear c11b1
    try clear c16
    try clear c16b0
    try clear c16b1
    try clear c36
    try clear c39
    try clear c42
    try clear c45
    try clear c48
    try clear c51
    try clear c54
    try clear hcz35_0
    try clear hcz35_1
    try clear hcz35_10
    try clear hcz35_11
    try clear hcz35_12
    try clear hcz35_13
    try clear hcz35_14
    try clear hcz35_15
    try clear hcz35_16
    try clear hcz35_2
    try clear hcz35_3
    try clear hcz35_4
    try clear hcz35_5
    try clear hcz35_6
    try clear hcz35_7
    try clear hcz35_8
    try clear hcz35_9
    try clear hcz37_0
    try clear hcz37_1
    try clear hcz37_10
    try clear hcz37_11
    try clear hcz37_12
    try clear hcz37_13
    try clear hcz37_14
    try clear hcz37_15
    try clear hcz37_16
    try clear hcz37_2
    try clear hcz37_3
    try clear hcz37_4
    try clear hcz37_5
    try clear hcz37_6
    try clear hcz37_7
    try clear hcz37_8
    try clear hcz37_9
    try clear hcz38_0
    try clear hcz38_1
    try clear hcz38_10
    try clear hcz38_11
    try clear hcz38_12
    try clear hcz38_13
    try clear hcz38_14
    try clear hcz38_15
    try clear hcz38_16
    try clear hcz38_2
    try clear hcz38_3
    try clear hcz38_4
    try clear hcz38_5
    try clear hcz38_6
    try clear hcz38_7
    try clear hcz38_8
    try clear hcz38_9
    try clear hcz40_0
    try clear hcz40_1
    try clear hcz40_10
    try clear hcz40_11
    try clear hcz40_12
    try clear hcz40_13
    try clear hcz40_14
    try clear hcz40_15
    try clear hcz40_16
    try clear hcz40_2
    try clear hcz40_3
    try clear hcz40_4
    try clear hcz40_5
    try clear hcz40_6
    try clear hcz40_7
    try clear hcz40_8
    try clear hcz40_9
    try clear hcz41_0
    try clear hcz41_1
    try clear hcz41_10
    try clear hcz41_11
    try clear hcz41_12
    try clear hcz41_13
    try clear hcz41_14
    try clear hcz41_15
    try clear hcz41_16
    try clear hcz41_2
    try clear hcz41_3
    try clear hcz41_4
    try clear hcz41_5
    try clear hcz41_6
    try clear hcz41_7
    try clear hcz41_8
    try clear hcz41_9
    try clear hcz43_0
    try clear hcz43_1
    try clear hcz43_10
    try clear hcz43_11
    try clear hcz43_12
    try clear hcz43_13
    try clear hcz43_14
    try clear hcz43_15
    try clear hcz43_16
    try clear hcz43_2
    try clear hcz43_3
    try clear hcz43_4
    try clear hcz43_5
    try clear hcz43_6
    try clear hcz43_7
    try clear hcz43_8
    try clear hcz43_9
    try clear hcz44_0
    try clear hcz44_1
    try clear hcz44_10
    try clear hcz44_11
    try clear hcz44_12
    try clear hcz44_13
    try clear hcz44_14
    try clear hcz44_15
    try clear hcz44_16
    try clear hcz44_2
    try clear hcz44_3
    try clear hcz44_4
    try clear hcz44_5
    try clear hcz44_6
    try clear hcz44_7
    try clear hcz44_8
    try clear hcz44_9
    try clear hcz46_0
    try clear hcz46_1
    try clear hcz46_10
    try clear hcz46_11
    try clear hcz46_12
    try clear hcz46_13
    try clear hcz46_14
    try clear hcz46_15
    try clear hcz46_16
    try clear hcz46_2
    try clear hcz46_3
    try clear hcz46_4
    try clear hcz46_5
    try clear hcz46_6
    try clear hcz46_7
    try clear hcz46_8
    try clear hcz46_9
    try clear hcz47_0
    try clear hcz47_1
    try clear hcz47_10
    try clear hcz47_11
    try clear hcz47_12
    try clear hcz47_13
    try clear hcz47_14
    try clear hcz47_15
    try clear hcz47_16
    try clear hcz47_2
    try clear hcz47_3
    try clear hcz47_4
    try clear hcz47_5
    try clear hcz47_6
    try clear hcz47_7
    try clear hcz47_8
    try clear hcz47_9
    try clear hcz49_0
    try clear hcz49_1
    try clear hcz49_10
    try clear hcz49_11
    try clear hcz49_12
    try clear hcz49_13
    try clear hcz49_14
    try clear hcz49_15
    try clear hcz49_16
    try clear hcz49_2
    try clear hcz49_3
    try clear hcz49_4
    try clear hcz49_5
    try clear hcz49_6
    try clear hcz49_7
    try clear hcz49_8
    try clear hcz49_9
    try clear hcz50_0
    try clear hcz50_1
    try clear hcz50_10
    try clear hcz50_11
    try clear hcz50_12
    try clear hcz50_13
    try clear hcz50_14
    try clear hcz50_15
    try clear hcz50_16
    try clear hcz50_2
    try clear hcz50_3
    try clear hcz50_4
    try clear hcz50_5
    try clear hcz50_6
    try clear hcz50_7
    try clear hcz50_8
    try clear hcz50_9
    try clear hcz52_0
    try clear hcz52_1
    try clear hcz52_10
    try clear hcz52_11
    try clear hcz52_12
    try clear hcz52_13
    try clear hcz52_14
    try clear hcz52_15
    try clear hcz52_16
    try clear hcz52_2
    try clear hcz52_3
    try clear hcz52_4
    try clear hcz52_5
    try clear hcz52_6
    try clear hcz52_7
    try clear hcz52_8
    try clear hcz52_9
    try clear hcz53_0
    try clear hcz53_1
    try clear hcz53_10
    try clear hcz53_11
    try clear hcz53_12
    try clear hcz53_13
    try clear hcz53_14
    try clear hcz53_15
    try clear hcz53_16
    try clear hcz53_2
    try clear hcz53_3
    try clear hcz53_4
    try clear hcz53_5
    try clear hcz53_6
    try clear hcz53_7
    try clear hcz53_8
    try clear hcz53_9
    try clear hcz55_0
    try clear hcz55_1
    try clear hcz55_10
    try clear hcz55_11
    try clear hcz55_12
    try clear hcz55_13
    try clear hcz55_14
    try clear hcz55_15
    try clear hcz55_16
    try clear hcz55_2
    try clear hcz55_3
    try clear hcz55_4
    try clear hcz55_5
    try clear hcz55_6
    try clear hcz55_7
    try clear hcz55_8
    try clear hcz55_9
    try clear hcz56_0
    try clear hcz56_1
    try clear hcz56_10
    try clear hcz56_11
    try clear hcz56_12
    try clear hcz56_13
    try clear hcz56_14
    try clear hcz56_15
    try clear hcz56_16
    try clear hcz56_2
    try clear hcz56_3
    try clear hcz56_4
    try clear hcz56_5
    try clear hcz56_6
    try clear hcz56_7
    try clear hcz56_8
    try clear hcz56_9
    try clear hfz34_11
    try clear hfz34_12
    try clear hfz34_13
    try clear hfz34_14
    try clear hfz34_15
    try clear hfz34_16
    try clear hfz35_0
    try clear hfz35_1
    try clear hfz35_10
    try clear hfz35_11
    try clear hfz35_12
    try clear hfz35_13
    try clear hfz35_14
    try clear hfz35_15
    try clear hfz35_16
    try clear hfz35_2
    try clear hfz35_3
    try clear hfz35_4
    try clear hfz35_5
    try clear hfz35_6
    try clear hfz35_7
    try clear hfz35_8
    try clear hfz35_9
    try clear hfz37_0
    try clear hfz37_1
    try clear hfz37_10
    try clear hfz37_11
    try clear hfz37_12
    try clear hfz37_13
    try clear hfz37_14
    try clear hfz37_15
    try clear hfz37_16
    try clear hfz37_2
    try clear hfz37_3
    try clear hfz37_4
    try clear hfz37_5
    try clear hfz37_6
    try clear hfz37_7
    try clear hfz37_8
    try clear hfz37_9
    try clear hfz38_0
    try clear hfz38_1
    try clear hfz38_10
    try clear hfz38_11
    try clear hfz38_12
    try clear hfz38_13
    try clear hfz38_14
    try clear hfz38_15
    try clear hfz38_16
    try clear hfz38_2
    try clear hfz38_3
    try clear hfz38_4
    try clear hfz38_5
    try clear hfz38_6
    try clear hfz38_7
    try clear hfz38_8
    try clear hfz38_9
    try clear hfz40_0
    try clear hfz40_1
    try clear hfz40_10
    try clear hfz40_11
    try clear hfz40_12
    try clear hfz40_13
    try clear hfz40_14
    try clear hfz40_15
    try clear hfz40_16
    try clear hfz40_2
    try clear hfz40_3
    try clear hfz40_4
    try clear hfz40_5
    try clear hfz40_6
    try clear hfz40_7
    try clear hfz40_8
    try clear hfz40_9
    try clear hfz41_0
    try clear hfz41_1
    try clear hfz41_10
    try clear hfz41_11
    try clear hfz41_12
    try clear hfz41_13
    try clear hfz41_14
    try clear hfz41_15
    try clear hfz41_16
    try clear hfz41_2
    try clear hfz41_3
    try clear hfz41_4
    try clear hfz41_5
    try clear hfz41_6
    try clear hfz41_7
    try clear hfz41_8
    try clear hfz41_9
    try clear hfz43_0
    try clear hfz43_1
    try clear hfz43_10
    try clear hfz43_11
    try clear hfz43_12
    try clear hfz43_13
    try clear hfz43_14
    try clear hfz43_15
    try clear hfz43_16
    try clear hfz43_2
    try clear hfz43_3
    try clear hfz43_4
    try clear hfz43_5
    try clear hfz43_6
    try clear hfz43_7
    try clear hfz43_8
    try clear hfz43_9
    try clear hfz44_0
    try clear hfz44_1
    try clear hfz44_10
    try clear hfz44_11
    try clear hfz44_12
    try clear hfz44_13
    try clear hfz44_14
    try clear hfz44_15
    try clear hfz44_16
    try clear hfz44_2
    try clear hfz44_3
    try clear hfz44_4
    try clear hfz44_5
    try clear hfz44_6
    try clear hfz44_7
    try clear hfz44_8
    try clear hfz44_9
    try clear hfz46_0
    try clear hfz46_1
    try clear hfz46_10
    try clear hfz46_11
    try clear hfz46_12
    try clear hfz46_13
    try clear hfz46_14
    try clear hfz46_15
    try clear hfz46_16
    try clear hfz46_2
    try clear hfz46_3
    try clear hfz46_4
    try clear hfz46_5
    try clear hfz46_6
    try clear hfz46_7
    try clear hfz46_8
    try clear hfz46_9
    try clear hfz47_0
    try clear hfz47_1
    try clear hfz47_10
    try clear hfz47_11
    try clear hfz47_12
    try clear hfz47_13
    try clear hfz47_14
    try clear hfz47_15
    try clear hfz47_16
    try clear hfz47_2
    try clear hfz47_3
    try clear hfz47_4
    try clear hfz47_5
    try clear hfz47_6
    try clear hfz47_7
    try clear hfz47_8
    try clear hfz47_9
    try clear hfz49_0
    try clear hfz49_1
    try clear hfz49_10
    try clear hfz49_11
    try clear hfz49_12
    try clear hfz49_13
    try clear hfz49_14
    try clear hfz49_15
    try clear hfz49_16
    try clear hfz49_2
    try clear hfz49_3
    try clear hfz49_4
    try clear hfz49_5
    try clear hfz49_6
    try clear hfz49_7
    try clear hfz49_8
    try clear hfz49_9
    try clear hfz50_0
    try clear hfz50_1
    try clear hfz50_10
    try clear hfz50_11
    try clear hfz50_12
    try clear hfz50_13
    try clear hfz50_14
    try clear hfz50_15
    try clear hfz50_16
    try clear hfz50_2
    try clear hfz50_3
    try clear hfz50_4
    try clear hfz50_5
    try clear hfz50_6
    try clear hfz50_7
    try clear hfz50_8
    try clear hfz50_9
    try clear hfz52_0
    try clear hfz52_1
    try clear hfz52_10
    try clear hfz52_11
    try clear hfz52_12
    try clear hfz52_13
    try clear hfz52_14
    try clear hfz52_15
    try clear hfz52_16
    try clear hfz52_2
    try clear hfz52_3
    try clear hfz52_4
    try clear hfz52_5
    try clear hfz52_6
    try clear hfz52_7
    try clear hfz52_8
    try clear hfz52_9
    try clear hfz53_0
    try clear hfz53_1
    try clear hfz53_10
    try clear hfz53_11
    try clear hfz53_12
    try clear hfz53_13
    try clear hfz53_14
    try clear hfz53_15
    try clear hfz53_16
    try clear hfz53_2
    try clear hfz53_3
    try clear hfz53_4
    try clear hfz53_5
    try clear hfz53_6
    try clear hfz53_7
    try clear hfz53_8
    try clear hfz53_9
    try clear hfz55_0
    try clear hfz55_1
    try clear hfz55_10
    try clear hfz55_11
    try clear hfz55_12
    try clear hfz55_13
    try clear hfz55_14
    try clear hfz55_15
    try clear hfz55_16
    try clear hfz55_2
    try clear hfz55_3
    try clear hfz55_4
    try clear hfz55_5
    try clear hfz55_6
    try clear hfz55_7
    try clear hfz55_8
    try clear hfz55_9
    try clear hfz56_0
    try clear hfz56_1
    try clear hfz56_10
    try clear hfz56_11
    try clear hfz56_12
    try clear hfz56_13
    try clear hfz56_14
    try clear hfz56_15
    try clear hfz56_16
    try clear hfz56_2
    try clear hfz56_3
    try clear hfz56_4
    try clear hfz56_5
    try clear hfz56_6
    try clear hfz56_7
    try clear hfz56_8
    try clear hfz56_9
    obtain ⟨kq, x96_2, rfl, HA, HJ2, BK146, BK147, HB⟩ := hcut
    cases kq with
    | zero => exact absurd HA.out (by first | (intro h_; exact nomatch (show (none : Option _) = some r from h_)) | simp [bollardref20_SameRequest.j0])
    | succ kj2 =>
      have H := HA.out
      clear HA
      simp only [bollardref20_SameRequest.j0] at H
      by_cases c57 : x96_2 = true
      · subst c57
        have H1 : (some false) = some r := by rw [if_pos rfl] at H; exact H
        clear H
        have H := H1
        clear H1
        obtain rfl := Option.some.inj H
        go_wp2
        repeat (go_quiet (fail); try go_wp2)
        go_ret
        exact ⟨by first | rfl | (simp [errW_none, errW_some] <;> rfl) | (simp [*, errW_none, errW_some] <;> rfl), by repeat (first | (with_reducible first | exact HB.out | apply below_alloc | apply pw_below_drewN | apply below_drew1 | refine below_set ?_ GE146.out | refine below_set ?_ GE147.out) | exact HB.out)⟩
      · replace c57 := Bool.eq_false_iff.mpr c57
        subst c57
        have H1 : (bollardref20_SameRequest.l0 kj2 0 a0_0 a0_1 a0_2 a0_3 a0_4 a0_5 a0_6 a0_7 a0_8 a0_9 a0_10 a0_11 l0_12 a0_13 a0_14 a0_15 a0_16 a1_0 a1_1 a1_2 a1_3 a1_4 a1_5 a1_6 a1_7 a1_8 a1_9 a1_10 a1_11 l1_12 a1_13 a1_14 a1_15 a1_16) = some r := by rw [if_neg (show ¬ (false = true) by decide)] at H; exact H
        clear H
        have H := H1
        clear H1
        have H' := Aside0.mk H
        clear H
        go_wp2
        repeat (go_quiet (fail); try go_wp2)
        go_loopg [5] kj2 (fun kq v5 w' => ∃ (x5_2 : Int), v5 = .int .i64 x5_2 ∧ Aside0 (bollardref20_SameRequest.l0 kq x5_2 a0_0 a0_1 a0_2 a0_3 a0_4 a0_5 a0_6 a0_7 a0_8 a0_9 a0_10 a0_11 l0_12 a0_13 a0_14 a0_15 a0_16 a1_0 a1_1 a1_2 a1_3 a1_4 a1_5 a1_6 a1_7 a1_8 a1_9 a1_10 a1_11 l1_12 a1_13 a1_14 a1_15 a1_16 = some r) ∧ Aside0 (kq ≤ kj2) ∧ Aside0 (w'.heap[gb146]? = some (.cells #[.int .i64 a0_0, .int .i64 a0_1, .string a0_2, .int .i64 a0_3, .int .i64 a0_4, .int .i64 a0_5, .int .i64 a0_6, .int .i64 a0_7, .bool a0_8, .int .i64 a0_9, .int .i64 a0_10, .int .i64 a0_11, (.slice A0_12 l0_12.length c0_12), .int .i64 a0_13, .int .i64 a0_14, .int .i64 a0_15, .string a0_16] 26 (0, 0))) ∧ Aside0 (w'.heap[gb147]? = some (.cells #[.int .i64 a1_0, .int .i64 a1_1, .string a1_2, .int .i64 a1_3, .int .i64 a1_4, .int .i64 a1_5, .int .i64 a1_6, .int .i64 a1_7, .bool a1_8, .int .i64 a1_9, .int .i64 a1_10, .int .i64 a1_11, (.slice A1_12 l1_12.length c1_12), .int .i64 a1_13, .int .i64 a1_14, .int .i64 a1_15, .string a1_16] 26 (0, 0))) ∧ Aside0 (Below w.heap.size w w'))
        case atStart => exact ⟨(0), (by first | rfl | (simp; done) | (simp [*]; done) | exact congrArg Value.bool (ne_empty _) | exact congrArg Value.bool (eq_empty _)), H', ⟨Nat.le_refl _⟩, ⟨by (with_reducible repeat (first | refine blk_drewN ?_ _ | refine blk_drew ?_ | refine blk_alloc ?_ _)); exact BK146.out⟩, ⟨by (with_reducible repeat (first | refine blk_drewN ?_ _ | refine blk_drew ?_ | refine blk_alloc ?_ _)); exact BK147.out⟩, ⟨by repeat (first | (with_reducible first | exact HB.out | apply below_alloc | apply pw_below_drewN | apply below_drew1 | refine below_set ?_ GE146.out | refine below_set ?_ GE147.out) | exact HB.out)⟩⟩
        case round =>
          clear H'
          try clear c1
          try clear p2
          try clear c3
          try clear c4
          try clear c5
          try clear c6
          try clear c6b0
          try clear c6b1
          try clear c7
          try clear c7b0
          try clear c7b1
          try clear c8
          try clear c8b0
          try clear c8b1
          try clear c9
          try clear c9b0
          try clear c9b1
          try clear c10
          try clear c10b0
          try clear c10b1
          try clear c11
          try clear c11b0
          try clear c11b1
          try clear c16
          try clear c16b0
          try clear c16b1
          try clear c36
          try clear c39
          try clear c42
          try clear c45
          try clear c48
          try clear c51
          try clear c54
          try clear c57
          try clear hcz35_0
          try clear hcz35_1
          try clear hcz35_10
          try clear hcz35_11
          try clear hcz35_12
          try clear hcz35_13
          try clear hcz35_14
          try clear hcz35_15
          try clear hcz35_16
          try clear hcz35_2
          try clear hcz35_3
          try clear hcz35_4
          try clear hcz35_5
          try clear hcz35_6
          try clear hcz35_7
          try clear hcz35_8
          try clear hcz35_9
          try clear hcz37_0
          try clear hcz37_1
          try clear hcz37_10
          try clear hcz37_11
          try clear hcz37_12
          try clear hcz37_13
          try clear hcz37_14
          try clear hcz37_15
          try clear hcz37_16
          try clear hcz37_2
          try clear hcz37_3
          try clear hcz37_4
          try clear hcz37_5
          try clear hcz37_6
          try clear hcz37_7
          try clear hcz37_8
          try clear hcz37_9
          try clear hcz38_0
          try clear hcz38_1
          try clear hcz38_10
          try clear hcz38_11
          try clear hcz38_12
          try clear hcz38_13
          try clear hcz38_14
          try clear hcz38_15
          try clear hcz38_16
          try clear hcz38_2
          try clear hcz38_3
          try clear hcz38_4
          try clear hcz38_5
          try clear hcz38_6
          try clear hcz38_7
          try clear hcz38_8
          try clear hcz38_9
          try clear hcz40_0
          try clear hcz40_1
          try clear hcz40_10
          try clear hcz40_11
          try clear hcz40_12
          try clear hcz40_13
          try clear hcz40_14
          try clear hcz40_15
          try clear hcz40_16
          try clear hcz40_2
          try clear hcz40_3
          try clear hcz40_4
          try clear hcz40_5
          try clear hcz40_6
          try clear hcz40_7
          try clear hcz40_8
          try clear hcz40_9
          try clear hcz41_0
          try clear hcz41_1
          try clear hcz41_10
          try clear hcz41_11
          try clear hcz41_12
          try clear hcz41_13
          try clear hcz41_14
          try clear hcz41_15
          try clear hcz41_16
          try clear hcz41_2
          try clear hcz41_3
          try clear hcz41_4
          try clear hcz41_5
          try clear hcz41_6
          try clear hcz41_7
          try clear hcz41_8
          try clear hcz41_9
          try clear hcz43_0
          try clear hcz43_1
          try clear hcz43_10
          try clear hcz43_11
          try clear hcz43_12
          try clear hcz43_13
          try clear hcz43_14
          try clear hcz43_15
          try clear hcz43_16
          try clear hcz43_2
          try clear hcz43_3
          try clear hcz43_4
          try clear hcz43_5
          try clear hcz43_6
          try clear hcz43_7
          try clear hcz43_8
          try clear hcz43_9
          try clear hcz44_0
          try clear hcz44_1
          try clear hcz44_10
          try clear hcz44_11
          try clear hcz44_12
          try clear hcz44_13
          try clear hcz44_14
          try clear hcz44_15
          try clear hcz44_16
          try clear hcz44_2
          try clear hcz44_3
          try clear hcz44_4
          try clear hcz44_5
          try clear hcz44_6
          try clear hcz44_7
          try clear hcz44_8
          try clear hcz44_9
          try clear hcz46_0
          try clear hcz46_1
          try clear hcz46_10
          try clear hcz46_11
          try clear hcz46_12
          try clear hcz46_13
          try clear hcz46_14
          try clear hcz46_15
          try clear hcz46_16
          try clear hcz46_2
          try clear hcz46_3
          try clear hcz46_4
          try clear hcz46_5
          try clear hcz46_6
          try clear hcz46_7
          try clear hcz46_8
          try clear hcz46_9
          try clear hcz47_0
          try clear hcz47_1
          try clear hcz47_10
          try clear hcz47_11
          try clear hcz47_12
          try clear hcz47_13
          try clear hcz47_14
          try clear hcz47_15
          try clear hcz47_16
          try clear hcz47_2
          try clear hcz47_3
          try clear hcz47_4
          try clear hcz47_5
          try clear hcz47_6
          try clear hcz47_7
          try clear hcz47_8
          try clear hcz47_9
          try clear hcz49_0
          try clear hcz49_1
          try clear hcz49_10
          try clear hcz49_11
          try clear hcz49_12
          try clear hcz49_13
          try clear hcz49_14
          try clear hcz49_15
          try clear hcz49_16
          try clear hcz49_2
          try clear hcz49_3
          try clear hcz49_4
          try clear hcz49_5
          try clear hcz49_6
          try clear hcz49_7
          try clear hcz49_8
          try clear hcz49_9
          try clear hcz50_0
          try clear hcz50_1
          try clear hcz50_10
          try clear hcz50_11
          try clear hcz50_12
          try clear hcz50_13
          try clear hcz50_14
          try clear hcz50_15
          try clear hcz50_16
          try clear hcz50_2
          try clear hcz50_3
          try clear hcz50_4
          try clear hcz50_5
          try clear hcz50_6
          try clear hcz50_7
          try clear hcz50_8
          try clear hcz50_9
          try clear hcz52_0
          try clear hcz52_1
          try clear hcz52_10
          try clear hcz52_11
          try clear hcz52_12
          try clear hcz52_13
          try clear hcz52_14
          try clear hcz52_15
          try clear hcz52_16
          try clear hcz52_2
          try clear hcz52_3
          try clear hcz52_4
          try clear hcz52_5
          try clear hcz52_6
          try clear hcz52_7
          try clear hcz52_8
          try clear hcz52_9
          try clear hcz53_0
          try clear hcz53_1
          try clear hcz53_10
          try clear hcz53_11
          try clear hcz53_12
          try clear hcz53_13
          try clear hcz53_14
          try clear hcz53_15
          try clear hcz53_16
          try clear hcz53_2
          try clear hcz53_3
          try clear hcz53_4
          try clear hcz53_5
          try clear hcz53_6
          try clear hcz53_7
          try clear hcz53_8
          try clear hcz53_9
          try clear hcz55_0
          try clear hcz55_1
          try clear hcz55_10
          try clear hcz55_11
          try clear hcz55_12
          try clear hcz55_13
          try clear hcz55_14
          try clear hcz55_15
          try clear hcz55_16
          try clear hcz55_2
          try clear hcz55_3
          try clear hcz55_4
          try clear hcz55_5
          try clear hcz55_6
          try clear hcz55_7
          try clear hcz55_8
          try clear hcz55_9
          try clear hcz56_0
          try clear hcz56_1
          try clear hcz56_10
          try clear hcz56_11
          try clear hcz56_12
          try clear hcz56_13
          try clear hcz56_14
          try clear hcz56_15
          try clear hcz56_16
          try clear hcz56_2
          try clear hcz56_3
          try clear hcz56_4
          try clear hcz56_5
          try clear hcz56_6
          try clear hcz56_7
          try clear hcz56_8
          try clear hcz56_9
          try clear hfz34_11
          try clear hfz34_12
          try clear hfz34_13
          try clear hfz34_14
          try clear hfz34_15
          try clear hfz34_16
          try clear hfz35_0
          try clear hfz35_1
          try clear hfz35_10
          try clear hfz35_11
          try clear hfz35_12
          try clear hfz35_13
          try clear hfz35_14
          try clear hfz35_15
          try clear hfz35_16
          try clear hfz35_2
          try clear hfz35_3
          try clear hfz35_4
          try clear hfz35_5
          try clear hfz35_6
          try clear hfz35_7
          try clear hfz35_8
          try clear hfz35_9
          try clear hfz37_0
          try clear hfz37_1
          try clear hfz37_10
          try clear hfz37_11
          try clear hfz37_12
          try clear hfz37_13
          try clear hfz37_14
          try clear hfz37_15
          try clear hfz37_16
          try clear hfz37_2
          try clear hfz37_3
          try clear hfz37_4
          try clear hfz37_5
          try clear hfz37_6
          try clear hfz37_7
          try clear hfz37_8
          try clear hfz37_9
          try clear hfz38_0
          try clear hfz38_1
          try clear hfz38_10
          try clear hfz38_11
          try clear hfz38_12
          try clear hfz38_13
          try clear hfz38_14
          try clear hfz38_15
          try clear hfz38_16
          try clear hfz38_2
          try clear hfz38_3
          try clear hfz38_4
          try clear hfz38_5
          try clear hfz38_6
          try clear hfz38_7
          try clear hfz38_8
          try clear hfz38_9
          try clear hfz40_0
          try clear hfz40_1
          try clear hfz40_10
          try clear hfz40_11
          try clear hfz40_12
          try clear hfz40_13
          try clear hfz40_14
          try clear hfz40_15
          try clear hfz40_16
          try clear hfz40_2
          try clear hfz40_3
          try clear hfz40_4
          try clear hfz40_5
          try clear hfz40_6
          try clear hfz40_7
          try clear hfz40_8
          try clear hfz40_9
          try clear hfz41_0
          try clear hfz41_1
          try clear hfz41_10
          try clear hfz41_11
          try clear hfz41_12
          try clear hfz41_13
          try clear hfz41_14
          try clear hfz41_15
          try clear hfz41_16
          try clear hfz41_2
          try clear hfz41_3
          try clear hfz41_4
          try clear hfz41_5
          try clear hfz41_6
          try clear hfz41_7
          try clear hfz41_8
          try clear hfz41_9
          try clear hfz43_0
          try clear hfz43_1
          try clear hfz43_10
          try clear hfz43_11
          try clear hfz43_12
          try clear hfz43_13
          try clear hfz43_14
          try clear hfz43_15
          try clear hfz43_16
          try clear hfz43_2
          try clear hfz43_3
          try clear hfz43_4
          try clear hfz43_5
          try clear hfz43_6
          try clear hfz43_7
          try clear hfz43_8
          try clear hfz43_9
          try clear hfz44_0
          try clear hfz44_1
          try clear hfz44_10
          try clear hfz44_11
          try clear hfz44_12
          try clear hfz44_13
          try clear hfz44_14
          try clear hfz44_15
          try clear hfz44_16
          try clear hfz44_2
          try clear hfz44_3
          try clear hfz44_4
          try clear hfz44_5
          try clear hfz44_6
          try clear hfz44_7
          try clear hfz44_8
          try clear hfz44_9
          try clear hfz46_0
          try clear hfz46_1
          try clear hfz46_10
          try clear hfz46_11
          try clear hfz46_12
          try clear hfz46_13
          try clear hfz46_14
          try clear hfz46_15
          try clear hfz46_16
          try clear hfz46_2
          try clear hfz46_3
          try clear hfz46_4
          try clear hfz46_5
          try clear hfz46_6
          try clear hfz46_7
          try clear hfz46_8
          try clear hfz46_9
          try clear hfz47_0
          try clear hfz47_1
          try clear hfz47_10
          try clear hfz47_11
          try clear hfz47_12
          try clear hfz47_13
          try clear hfz47_14
          try clear hfz47_15
          try clear hfz47_16
          try clear hfz47_2
          try clear hfz47_3
          try clear hfz47_4
          try clear hfz47_5
          try clear hfz47_6
          try clear hfz47_7
          try clear hfz47_8
          try clear hfz47_9
          try clear hfz49_0
          try clear hfz49_1
          try clear hfz49_10
          try clear hfz49_11
          try clear hfz49_12
          try clear hfz49_13
          try clear hfz49_14
          try clear hfz49_15
          try clear hfz49_16
          try clear hfz49_2
          try clear hfz49_3
          try clear hfz49_4
          try clear hfz49_5
          try clear hfz49_6
          try clear hfz49_7
          try clear hfz49_8
          try clear hfz49_9
          try clear hfz50_0
          try clear hfz50_1
          try clear hfz50_10
          try clear hfz50_11
          try clear hfz50_12
          try clear hfz50_13
          try clear hfz50_14
          try clear hfz50_15
          try clear hfz50_16
          try clear hfz50_2
          try clear hfz50_3
          try clear hfz50_4
          try clear hfz50_5
          try clear hfz50_6
          try clear hfz50_7
          try clear hfz50_8
          try clear hfz50_9
          try clear hfz52_0
          try clear hfz52_1
          try clear hfz52_10
          try clear hfz52_11
          try clear hfz52_12
          try clear hfz52_13
          try clear hfz52_14
          try clear hfz52_15
          try clear hfz52_16
          try clear hfz52_2
          try clear hfz52_3
          try clear hfz52_4
          try clear hfz52_5
          try clear hfz52_6
          try clear hfz52_7
          try clear hfz52_8
          try clear hfz52_9
          try clear hfz53_0
          try clear hfz53_1
          try clear hfz53_10
          try clear hfz53_11
          try clear hfz53_12
          try clear hfz53_13
          try clear hfz53_14
          try clear hfz53_15
          try clear hfz53_16
          try clear hfz53_2
          try clear hfz53_3
          try clear hfz53_4
          try clear hfz53_5
          try clear hfz53_6
          try clear hfz53_7
          try clear hfz53_8
          try clear hfz53_9
          try clear hfz55_0
          try clear hfz55_1
          try clear hfz55_10
          try clear hfz55_11
          try clear hfz55_12
          try clear hfz55_13
          try clear hfz55_14
          try clear hfz55_15
          try clear hfz55_16
          try clear hfz55_2
          try clear hfz55_3
          try clear hfz55_4
          try clear hfz55_5
          try clear hfz55_6
          try clear hfz55_7
          try clear hfz55_8
          try clear hfz55_9
          try clear hfz56_0
          try clear hfz56_1
          try clear hfz56_10
          try clear hfz56_11
          try clear hfz56_12
          try clear hfz56_13
          try clear hfz56_14
          try clear hfz56_15
          try clear hfz56_16
          try clear hfz56_2
          try clear hfz56_3
          try clear hfz56_4
          try clear hfz56_5
          try clear hfz56_6
          try clear hfz56_7
          try clear hfz56_8
          try clear hfz56_9
          try clear p2
          obtain ⟨x5_2, rfl, HA, HK2, BK146, BK147, HB⟩ := hrel
          cases gk with
          | zero => exact absurd HA.out (by first | (intro h_; exact nomatch (show (none : Option _) = some r from h_)) | simp [bollardref20_SameRequest.l0])
          | succ k2 =>
            have H := HA.out
            clear HA
            simp only [bollardref20_SameRequest.l0] at H
            by_cases c58 : x5_2 < (l0_12.length : Int)
            · rw [if_pos c58] at H
              have c58b0 : decide (x5_2 < (l0_12.length : Int)) = true := decide_eq_true c58
              clear c58
              by_cases c59 : 0 ≤ x5_2
              · rw [if_pos c59] at H
                have c59b0 : decide (0 ≤ x5_2) = true := decide_eq_true c59
                clear c59
                by_cases c60 : x5_2 < (l1_12.length : Int)
                · rw [if_pos c60] at H
                  have c60b0 : decide (x5_2 < (l1_12.length : Int)) = true := decide_eq_true c60
                  clear c60
                  by_cases c61 : (!(((rd_T98 l0_12 x5_2).f0) == ((rd_T98 l1_12 x5_2).f0)) || (!((((rd_T98 l0_12 x5_2).f1).toList) == (((rd_T98 l1_12 x5_2).f1).toList)) || (!(((rd_T98 l0_12 x5_2).f2) == ((rd_T98 l1_12 x5_2).f2)) || (!((((rd_T98 l0_12 x5_2).f3).toList) == (((rd_T98 l1_12 x5_2).f3).toList)) || (!(((rd_T98 l0_12 x5_2).f4) == ((rd_T98 l1_12 x5_2).f4)) || (!(((rd_T98 l0_12 x5_2).f5) == ((rd_T98 l1_12 x5_2).f5)))))))) = true
                  · rw [if_pos c61] at H
                    have c61b0 : (!(((rd_T98 l0_12 x5_2).f0) == ((rd_T98 l1_12 x5_2).f0)) || (!((((rd_T98 l0_12 x5_2).f1).toList) == (((rd_T98 l1_12 x5_2).f1).toList)) || (!(((rd_T98 l0_12 x5_2).f2) == ((rd_T98 l1_12 x5_2).f2)) || (!((((rd_T98 l0_12 x5_2).f3).toList) == (((rd_T98 l1_12 x5_2).f3).toList)) || (!(((rd_T98 l0_12 x5_2).f4) == ((rd_T98 l1_12 x5_2).f4)) || (!(((rd_T98 l0_12 x5_2).f5) == ((rd_T98 l1_12 x5_2).f5)))))))) = true := c61
                    clear c61
                    obtain rfl := Option.some.inj H
                    have hnb62 := NB146_147.out
                    have hnc62 := NB147_146.out
                    have hcz63_0 : wr.cell? ⟨gb146, 0, none⟩ = some (.int .i64 a0_0) := (blk_cell BK146.out 0).trans rfl
                    have hcz63_1 : wr.cell? ⟨gb146, 1, none⟩ = some (.int .i64 a0_1) := (blk_cell BK146.out 1).trans rfl
                    have hcz63_2 : wr.cell? ⟨gb146, 2, none⟩ = some (.string a0_2) := (blk_cell BK146.out 2).trans rfl
                    have hcz63_3 : wr.cell? ⟨gb146, 3, none⟩ = some (.int .i64 a0_3) := (blk_cell BK146.out 3).trans rfl
                    have hcz63_4 : wr.cell? ⟨gb146, 4, none⟩ = some (.int .i64 a0_4) := (blk_cell BK146.out 4).trans rfl
                    have hcz63_5 : wr.cell? ⟨gb146, 5, none⟩ = some (.int .i64 a0_5) := (blk_cell BK146.out 5).trans rfl
                    have hcz63_6 : wr.cell? ⟨gb146, 6, none⟩ = some (.int .i64 a0_6) := (blk_cell BK146.out 6).trans rfl
                    have hcz63_7 : wr.cell? ⟨gb146, 7, none⟩ = some (.int .i64 a0_7) := (blk_cell BK146.out 7).trans rfl
                    have hcz63_8 : wr.cell? ⟨gb146, 8, none⟩ = some (.bool a0_8) := (blk_cell BK146.out 8).trans rfl
                    have hcz63_9 : wr.cell? ⟨gb146, 9, none⟩ = some (.int .i64 a0_9) := (blk_cell BK146.out 9).trans rfl
                    have hcz63_10 : wr.cell? ⟨gb146, 10, none⟩ = some (.int .i64 a0_10) := (blk_cell BK146.out 10).trans rfl
                    have hcz63_11 : wr.cell? ⟨gb146, 11, none⟩ = some (.int .i64 a0_11) := (blk_cell BK146.out 11).trans rfl
                    have hcz63_12 : wr.cell? ⟨gb146, 12, none⟩ = some (.slice A0_12 l0_12.length c0_12) := (blk_cell BK146.out 12).trans rfl
                    have hcz63_13 : wr.cell? ⟨gb146, 13, none⟩ = some (.int .i64 a0_13) := (blk_cell BK146.out 13).trans rfl
                    have hcz63_14 : wr.cell? ⟨gb146, 14, none⟩ = some (.int .i64 a0_14) := (blk_cell BK146.out 14).trans rfl
                    have hcz63_15 : wr.cell? ⟨gb146, 15, none⟩ = some (.int .i64 a0_15) := (blk_cell BK146.out 15).trans rfl
                    have hcz63_16 : wr.cell? ⟨gb146, 16, none⟩ = some (.string a0_16) := (blk_cell BK146.out 16).trans rfl
                    have hfz63_0 := blk_frozen BK146.out 0
                    have hfz63_1 := blk_frozen BK146.out 1
                    have hfz63_2 := blk_frozen BK146.out 2
                    have hfz63_3 := blk_frozen BK146.out 3
                    have hfz63_4 := blk_frozen BK146.out 4
                    have hfz63_5 := blk_frozen BK146.out 5
                    have hfz63_6 := blk_frozen BK146.out 6
                    have hfz63_7 := blk_frozen BK146.out 7
                    have hfz63_8 := blk_frozen BK146.out 8
                    have hfz63_9 := blk_frozen BK146.out 9
                    have hfz63_10 := blk_frozen BK146.out 10
                    have hfz63_11 := blk_frozen BK146.out 11
                    have hfz63_12 := blk_frozen BK146.out 12
                    have hfz63_13 := blk_frozen BK146.out 13
                    have hfz63_14 := blk_frozen BK146.out 14
                    have hfz63_15 := blk_frozen BK146.out 15
                    have hfz63_16 := blk_frozen BK146.out 16
                    have p148 : 0 ≤ (x5_2 : Int) := of_decide_eq_true (by first | (with_reducible assumption) | assumption)
                    have q148 : x5_2 < (l0_12.length : Int) := of_decide_eq_true (by first | (with_reducible assumption) | assumption)
                    obtain ⟨ad148, e148, hx148_0, hx148_1, hx148_2, hx148_3, hx148_4, hx148_5⟩ := at_T98 HR0_12.out x5_2 p148 q148
                    cases e148
                    replace hx148_0 := (HB.out.cell (World.block_lt_of_cell? w _ hx148_0)).trans hx148_0
                    replace hx148_1 := (HB.out.cell (World.block_lt_of_cell? w _ hx148_1)).trans hx148_1
                    replace hx148_2 := (HB.out.cell (World.block_lt_of_cell? w _ hx148_2)).trans hx148_2
                    replace hx148_3 := (HB.out.cell (World.block_lt_of_cell? w _ hx148_3)).trans hx148_3
                    replace hx148_4 := (HB.out.cell (World.block_lt_of_cell? w _ hx148_4)).trans hx148_4
                    replace hx148_5 := (HB.out.cell (World.block_lt_of_cell? w _ hx148_5)).trans hx148_5
                    replace p148 := eq_true p148
                    replace q148 := eq_true q148
                    have hcz64_0 : wr.cell? ⟨gb147, 0, none⟩ = some (.int .i64 a1_0) := (blk_cell BK147.out 0).trans rfl
                    have hcz64_1 : wr.cell? ⟨gb147, 1, none⟩ = some (.int .i64 a1_1) := (blk_cell BK147.out 1).trans rfl
                    have hcz64_2 : wr.cell? ⟨gb147, 2, none⟩ = some (.string a1_2) := (blk_cell BK147.out 2).trans rfl
                    have hcz64_3 : wr.cell? ⟨gb147, 3, none⟩ = some (.int .i64 a1_3) := (blk_cell BK147.out 3).trans rfl
                    have hcz64_4 : wr.cell? ⟨gb147, 4, none⟩ = some (.int .i64 a1_4) := (blk_cell BK147.out 4).trans rfl
                    have hcz64_5 : wr.cell? ⟨gb147, 5, none⟩ = some (.int .i64 a1_5) := (blk_cell BK147.out 5).trans rfl
                    have hcz64_6 : wr.cell? ⟨gb147, 6, none⟩ = some (.int .i64 a1_6) := (blk_cell BK147.out 6).trans rfl
                    have hcz64_7 : wr.cell? ⟨gb147, 7, none⟩ = some (.int .i64 a1_7) := (blk_cell BK147.out 7).trans rfl
                    have hcz64_8 : wr.cell? ⟨gb147, 8, none⟩ = some (.bool a1_8) := (blk_cell BK147.out 8).trans rfl
                    have hcz64_9 : wr.cell? ⟨gb147, 9, none⟩ = some (.int .i64 a1_9) := (blk_cell BK147.out 9).trans rfl
                    have hcz64_10 : wr.cell? ⟨gb147, 10, none⟩ = some (.int .i64 a1_10) := (blk_cell BK147.out 10).trans rfl
                    have hcz64_11 : wr.cell? ⟨gb147, 11, none⟩ = some (.int .i64 a1_11) := (blk_cell BK147.out 11).trans rfl
                    have hcz64_12 : wr.cell? ⟨gb147, 12, none⟩ = some (.slice A1_12 l1_12.length c1_12) := (blk_cell BK147.out 12).trans rfl
                    have hcz64_13 : wr.cell? ⟨gb147, 13, none⟩ = some (.int .i64 a1_13) := (blk_cell BK147.out 13).trans rfl
                    have hcz64_14 : wr.cell? ⟨gb147, 14, none⟩ = some (.int .i64 a1_14) := (blk_cell BK147.out 14).trans rfl
                    have hcz64_15 : wr.cell? ⟨gb147, 15, none⟩ = some (.int .i64 a1_15) := (blk_cell BK147.out 15).trans rfl
                    have hcz64_16 : wr.cell? ⟨gb147, 16, none⟩ = some (.string a1_16) := (blk_cell BK147.out 16).trans rfl
                    have hfz64_0 := blk_frozen BK147.out 0
                    have hfz64_1 := blk_frozen BK147.out 1
                    have hfz64_2 := blk_frozen BK147.out 2
                    have hfz64_3 := blk_frozen BK147.out 3
                    have hfz64_4 := blk_frozen BK147.out 4
                    have hfz64_5 := blk_frozen BK147.out 5
                    have hfz64_6 := blk_frozen BK147.out 6
                    have hfz64_7 := blk_frozen BK147.out 7
                    have hfz64_8 := blk_frozen BK147.out 8
                    have hfz64_9 := blk_frozen BK147.out 9
                    have hfz64_10 := blk_frozen BK147.out 10
                    have hfz64_11 := blk_frozen BK147.out 11
                    have hfz64_12 := blk_frozen BK147.out 12
                    have hfz64_13 := blk_frozen BK147.out 13
                    have hfz64_14 := blk_frozen BK147.out 14
                    have hfz64_15 := blk_frozen BK147.out 15
                    have hfz64_16 := blk_frozen BK147.out 16
                    have p149 : 0 ≤ (x5_2 : Int) := of_decide_eq_true (by first | (with_reducible assumption) | assumption)
                    have q149 : x5_2 < (l1_12.length : Int) := of_decide_eq_true (by first | (with_reducible assumption) | assumption)
                    obtain ⟨ad149, e149, hx149_0, hx149_1, hx149_2, hx149_3, hx149_4, hx149_5⟩ := at_T98 HR1_12.out x5_2 p149 q149
                    cases e149
                    replace hx149_0 := (HB.out.cell (World.block_lt_of_cell? w _ hx149_0)).trans hx149_0
                    replace hx149_1 := (HB.out.cell (World.block_lt_of_cell? w _ hx149_1)).trans hx149_1
                    replace hx149_2 := (HB.out.cell (World.block_lt_of_cell? w _ hx149_2)).trans hx149_2
                    replace hx149_3 := (HB.out.cell (World.block_lt_of_cell? w _ hx149_3)).trans hx149_3
                    replace hx149_4 := (HB.out.cell (World.block_lt_of_cell? w _ hx149_4)).trans hx149_4
                    replace hx149_5 := (HB.out.cell (World.block_lt_of_cell? w _ hx149_5)).trans hx149_5
                    replace p149 := eq_true p149
                    replace q149 := eq_true q149
                    go_wp2
                    repeat (go_quiet (fail); try go_wp2)
                    go_ret
                    exact ⟨by first | rfl | (simp [errW_none, errW_some] <;> rfl) | (simp [*, errW_none, errW_some] <;> rfl), by repeat (first | (with_reducible first | exact HB.out | apply below_alloc | apply pw_below_drewN | apply below_drew1 | refine below_set ?_ GE146.out | refine below_set ?_ GE147.out) | exact HB.out)⟩
                  · rw [if_neg c61] at H
                    have c61b0 : (!(((rd_T98 l0_12 x5_2).f0) == ((rd_T98 l1_12 x5_2).f0)) || (!((((rd_T98 l0_12 x5_2).f1).toList) == (((rd_T98 l1_12 x5_2).f1).toList)) || (!(((rd_T98 l0_12 x5_2).f2) == ((rd_T98 l1_12 x5_2).f2)) || (!((((rd_T98 l0_12 x5_2).f3).toList) == (((rd_T98 l1_12 x5_2).f3).toList)) || (!(((rd_T98 l0_12 x5_2).f4) == ((rd_T98 l1_12 x5_2).f4)) || (!(((rd_T98 l0_12 x5_2).f5) == ((rd_T98 l1_12 x5_2).f5)))))))) = false := by simpa using c61
                    clear c61
                    have H' := Aside0.mk H
                    clear H
                    have hnb65 := NB146_147.out
                    have hnc65 := NB147_146.out
                    have hcz66_0 : wr.cell? ⟨gb146, 0, none⟩ = some (.int .i64 a0_0) := (blk_cell BK146.out 0).trans rfl
                    have hcz66_1 : wr.cell? ⟨gb146, 1, none⟩ = some (.int .i64 a0_1) := (blk_cell BK146.out 1).trans rfl
                    have hcz66_2 : wr.cell? ⟨gb146, 2, none⟩ = some (.string a0_2) := (blk_cell BK146.out 2).trans rfl
                    have hcz66_3 : wr.cell? ⟨gb146, 3, none⟩ = some (.int .i64 a0_3) := (blk_cell BK146.out 3).trans rfl
                    have hcz66_4 : wr.cell? ⟨gb146, 4, none⟩ = some (.int .i64 a0_4) := (blk_cell BK146.out 4).trans rfl
                    have hcz66_5 : wr.cell? ⟨gb146, 5, none⟩ = some (.int .i64 a0_5) := (blk_cell BK146.out 5).trans rfl
                    have hcz66_6 : wr.cell? ⟨gb146, 6, none⟩ = some (.int .i64 a0_6) := (blk_cell BK146.out 6).trans rfl
                    have hcz66_7 : wr.cell? ⟨gb146, 7, none⟩ = some (.int .i64 a0_7) := (blk_cell BK146.out 7).trans rfl
                    have hcz66_8 : wr.cell? ⟨gb146, 8, none⟩ = some (.bool a0_8) := (blk_cell BK146.out 8).trans rfl
                    have hcz66_9 : wr.cell? ⟨gb146, 9, none⟩ = some (.int .i64 a0_9) := (blk_cell BK146.out 9).trans rfl
                    have hcz66_10 : wr.cell? ⟨gb146, 10, none⟩ = some (.int .i64 a0_10) := (blk_cell BK146.out 10).trans rfl
                    have hcz66_11 : wr.cell? ⟨gb146, 11, none⟩ = some (.int .i64 a0_11) := (blk_cell BK146.out 11).trans rfl
                    have hcz66_12 : wr.cell? ⟨gb146, 12, none⟩ = some (.slice A0_12 l0_12.length c0_12) := (blk_cell BK146.out 12).trans rfl
                    have hcz66_13 : wr.cell? ⟨gb146, 13, none⟩ = some (.int .i64 a0_13) := (blk_cell BK146.out 13).trans rfl
                    have hcz66_14 : wr.cell? ⟨gb146, 14, none⟩ = some (.int .i64 a0_14) := (blk_cell BK146.out 14).trans rfl
                    have hcz66_15 : wr.cell? ⟨gb146, 15, none⟩ = some (.int .i64 a0_15) := (blk_cell BK146.out 15).trans rfl
                    have hcz66_16 : wr.cell? ⟨gb146, 16, none⟩ = some (.string a0_16) := (blk_cell BK146.out 16).trans rfl
                    have hfz66_0 := blk_frozen BK146.out 0
                    have hfz66_1 := blk_frozen BK146.out 1
                    have hfz66_2 := blk_frozen BK146.out 2
                    have hfz66_3 := blk_frozen BK146.out 3
                    have hfz66_4 := blk_frozen BK146.out 4
                    have hfz66_5 := blk_frozen BK146.out 5
                    have hfz66_6 := blk_frozen BK146.out 6
                    have hfz66_7 := blk_frozen BK146.out 7
                    have hfz66_8 := blk_frozen BK146.out 8
                    have hfz66_9 := blk_frozen BK146.out 9
                    have hfz66_10 := blk_frozen BK146.out 10
                    have hfz66_11 := blk_frozen BK146.out 11
                    have hfz66_12 := blk_frozen BK146.out 12
                    have hfz66_13 := blk_frozen BK146.out 13
                    have hfz66_14 := blk_frozen BK146.out 14
                    have hfz66_15 := blk_frozen BK146.out 15
                    have hfz66_16 := blk_frozen BK146.out 16
                    have p148 : 0 ≤ (x5_2 : Int) := of_decide_eq_true (by first | (with_reducible assumption) | assumption)
                    have q148 : x5_2 < (l0_12.length : Int) := of_decide_eq_true (by first | (with_reducible assumption) | assumption)
                    obtain ⟨ad148, e148, hx148_0, hx148_1, hx148_2, hx148_3, hx148_4, hx148_5⟩ := at_T98 HR0_12.out x5_2 p148 q148
                    cases e148
                    replace hx148_0 := (HB.out.cell (World.block_lt_of_cell? w _ hx148_0)).trans hx148_0
                    replace hx148_1 := (HB.out.cell (World.block_lt_of_cell? w _ hx148_1)).trans hx148_1
                    replace hx148_2 := (HB.out.cell (World.block_lt_of_cell? w _ hx148_2)).trans hx148_2
                    replace hx148_3 := (HB.out.cell (World.block_lt_of_cell? w _ hx148_3)).trans hx148_3
                    replace hx148_4 := (HB.out.cell (World.block_lt_of_cell? w _ hx148_4)).trans hx148_4
                    replace hx148_5 := (HB.out.cell (World.block_lt_of_cell? w _ hx148_5)).trans hx148_5
                    replace p148 := eq_true p148
                    replace q148 := eq_true q148
                    have hcz67_0 : wr.cell? ⟨gb147, 0, none⟩ = some (.int .i64 a1_0) := (blk_cell BK147.out 0).trans rfl
                    have hcz67_1 : wr.cell? ⟨gb147, 1, none⟩ = some (.int .i64 a1_1) := (blk_cell BK147.out 1).trans rfl
                    have hcz67_2 : wr.cell? ⟨gb147, 2, none⟩ = some (.string a1_2) := (blk_cell BK147.out 2).trans rfl
                    have hcz67_3 : wr.cell? ⟨gb147, 3, none⟩ = some (.int .i64 a1_3) := (blk_cell BK147.out 3).trans rfl
                    have hcz67_4 : wr.cell? ⟨gb147, 4, none⟩ = some (.int .i64 a1_4) := (blk_cell BK147.out 4).trans rfl
                    have hcz67_5 : wr.cell? ⟨gb147, 5, none⟩ = some (.int .i64 a1_5) := (blk_cell BK147.out 5).trans rfl
                    have hcz67_6 : wr.cell? ⟨gb147, 6, none⟩ = some (.int .i64 a1_6) := (blk_cell BK147.out 6).trans rfl
                    have hcz67_7 : wr.cell? ⟨gb147, 7, none⟩ = some (.int .i64 a1_7) := (blk_cell BK147.out 7).trans rfl
                    have hcz67_8 : wr.cell? ⟨gb147, 8, none⟩ = some (.bool a1_8) := (blk_cell BK147.out 8).trans rfl
                    have hcz67_9 : wr.cell? ⟨gb147, 9, none⟩ = some (.int .i64 a1_9) := (blk_cell BK147.out 9).trans rfl
                    have hcz67_10 : wr.cell? ⟨gb147, 10, none⟩ = some (.int .i64 a1_10) := (blk_cell BK147.out 10).trans rfl
                    have hcz67_11 : wr.cell? ⟨gb147, 11, none⟩ = some (.int .i64 a1_11) := (blk_cell BK147.out 11).trans rfl
                    have hcz67_12 : wr.cell? ⟨gb147, 12, none⟩ = some (.slice A1_12 l1_12.length c1_12) := (blk_cell BK147.out 12).trans rfl
                    have hcz67_13 : wr.cell? ⟨gb147, 13, none⟩ = some (.int .i64 a1_13) := (blk_cell BK147.out 13).trans rfl
                    have hcz67_14 : wr.cell? ⟨gb147, 14, none⟩ = some (.int .i64 a1_14) := (blk_cell BK147.out 14).trans rfl
                    have hcz67_15 : wr.cell? ⟨gb147, 15, none⟩ = some (.int .i64 a1_15) := (blk_cell BK147.out 15).trans rfl
                    have hcz67_16 : wr.cell? ⟨gb147, 16, none⟩ = some (.string a1_16) := (blk_cell BK147.out 16).trans rfl
                    have hfz67_0 := blk_frozen BK147.out 0
                    have hfz67_1 := blk_frozen BK147.out 1
                    have hfz67_2 := blk_frozen BK147.out 2
                    have hfz67_3 := blk_frozen BK147.out 3
                    have hfz67_4 := blk_frozen BK147.out 4
                    have hfz67_5 := blk_frozen BK147.out 5
                    have hfz67_6 := blk_frozen BK147.out 6
                    have hfz67_7 := blk_frozen BK147.out 7
                    have hfz67_8 := blk_frozen BK147.out 8
                    have hfz67_9 := blk_frozen BK147.out 9
                    have hfz67_10 := blk_frozen BK147.out 10
                    have hfz67_11 := blk_frozen BK147.out 11
                    have hfz67_12 := blk_frozen BK147.out 12
                    have hfz67_13 := blk_frozen BK147.out 13
                    have hfz67_14 := blk_frozen BK147.out 14
                    have hfz67_15 := blk_frozen BK147.out 15
                    have hfz67_16 := blk_frozen BK147.out 16
                    have p149 : 0 ≤ (x5_2 : Int) := of_decide_eq_true (by first | (with_reducible assumption) | assumption)
                    have q149 : x5_2 < (l1_12.length : Int) := of_decide_eq_true (by first | (with_reducible assumption) | assumption)
                    obtain ⟨ad149, e149, hx149_0, hx149_1, hx149_2, hx149_3, hx149_4, hx149_5⟩ := at_T98 HR1_12.out x5_2 p149 q149
                    cases e149
                    replace hx149_0 := (HB.out.cell (World.block_lt_of_cell? w _ hx149_0)).trans hx149_0
                    replace hx149_1 := (HB.out.cell (World.block_lt_of_cell? w _ hx149_1)).trans hx149_1
                    replace hx149_2 := (HB.out.cell (World.block_lt_of_cell? w _ hx149_2)).trans hx149_2
                    replace hx149_3 := (HB.out.cell (World.block_lt_of_cell? w _ hx149_3)).trans hx149_3
                    replace hx149_4 := (HB.out.cell (World.block_lt_of_cell? w _ hx149_4)).trans hx149_4
                    replace hx149_5 := (HB.out.cell (World.block_lt_of_cell? w _ hx149_5)).trans hx149_5
                    replace p149 := eq_true p149
                    replace q149 := eq_true q149
                    go_wp2
                    repeat (go_quiet (fail); try go_wp2)
                    go_roundg k2
                    case measure => have := HJ2.out; have := HK2.out; omega
                    case rel => exact ⟨(wrap64 (x5_2 + 1)), (by first | rfl | (simp; done) | (simp [*]; done) | exact congrArg Value.bool (ne_empty _) | exact congrArg Value.bool (eq_empty _)), H', ⟨by have := HJ2.out; have := HK2.out; omega⟩, ⟨by (with_reducible repeat (first | refine blk_drewN ?_ _ | refine blk_drew ?_ | refine blk_alloc ?_ _)); exact BK146.out⟩, ⟨by (with_reducible repeat (first | refine blk_drewN ?_ _ | refine blk_drew ?_ | refine blk_alloc ?_ _)); exact BK147.out⟩, ⟨by repeat (first | (with_reducible first | exact HB.out | apply below_alloc | apply pw_below_drewN | apply below_drew1 | refine below_set ?_ GE146.out | refine below_set ?_ GE147.out) | exact HB.out)⟩⟩
                · rw [if_neg c60] at H
                  exact absurd H (by simp)
              · rw [if_neg c59] at H
                exact absurd H (by simp)
            · rw [if_neg c58] at H
              have c58b0 : decide (x5_2 < (l0_12.length : Int)) = false := decide_eq_false c58
              clear c58
              obtain rfl := Option.some.inj H
              have hnb68 := NB146_147.out
              have hnc68 := NB147_146.out
              have hcz69_0 : wr.cell? ⟨gb146, 0, none⟩ = some (.int .i64 a0_0) := (blk_cell BK146.out 0).trans rfl
              have hcz69_1 : wr.cell? ⟨gb146, 1, none⟩ = some (.int .i64 a0_1) := (blk_cell BK146.out 1).trans rfl
              have hcz69_2 : wr.cell? ⟨gb146, 2, none⟩ = some (.string a0_2) := (blk_cell BK146.out 2).trans rfl
              have hcz69_3 : wr.cell? ⟨gb146, 3, none⟩ = some (.int .i64 a0_3) := (blk_cell BK146.out 3).trans rfl
              have hcz69_4 : wr.cell? ⟨gb146, 4, none⟩ = some (.int .i64 a0_4) := (blk_cell BK146.out 4).trans rfl
              have hcz69_5 : wr.cell? ⟨gb146, 5, none⟩ = some (.int .i64 a0_5) := (blk_cell BK146.out 5).trans rfl
              have hcz69_6 : wr.cell? ⟨gb146, 6, none⟩ = some (.int .i64 a0_6) := (blk_cell BK146.out 6).trans rfl
              have hcz69_7 : wr.cell? ⟨gb146, 7, none⟩ = some (.int .i64 a0_7) := (blk_cell BK146.out 7).trans rfl
              have hcz69_8 : wr.cell? ⟨gb146, 8, none⟩ = some (.bool a0_8) := (blk_cell BK146.out 8).trans rfl
              have hcz69_9 : wr.cell? ⟨gb146, 9, none⟩ = some (.int .i64 a0_9) := (blk_cell BK146.out 9).trans rfl
              have hcz69_10 : wr.cell? ⟨gb146, 10, none⟩ = some (.int .i64 a0_10) := (blk_cell BK146.out 10).trans rfl
              have hcz69_11 : wr.cell? ⟨gb146, 11, none⟩ = some (.int .i64 a0_11) := (blk_cell BK146.out 11).trans rfl
              have hcz69_12 : wr.cell? ⟨gb146, 12, none⟩ = some (.slice A0_12 l0_12.length c0_12) := (blk_cell BK146.out 12).trans rfl
              have hcz69_13 : wr.cell? ⟨gb146, 13, none⟩ = some (.int .i64 a0_13) := (blk_cell BK146.out 13).trans rfl
              have hcz69_14 : wr.cell? ⟨gb146, 14, none⟩ = some (.int .i64 a0_14) := (blk_cell BK146.out 14).trans rfl
              have hcz69_15 : wr.cell? ⟨gb146, 15, none⟩ = some (.int .i64 a0_15) := (blk_cell BK146.out 15).trans rfl
              have hcz69_16 : wr.cell? ⟨gb146, 16, none⟩ = some (.string a0_16) := (blk_cell BK146.out 16).trans rfl
              have hfz69_0 := blk_frozen BK146.out 0
              have hfz69_1 := blk_frozen BK146.out 1
              have hfz69_2 := blk_frozen BK146.out 2
              have hfz69_3 := blk_frozen BK146.out 3
              have hfz69_4 := blk_frozen BK146.out 4
              have hfz69_5 := blk_frozen BK146.out 5
              have hfz69_6 := blk_frozen BK146.out 6
              have hfz69_7 := blk_frozen BK146.out 7
              have hfz69_8 := blk_frozen BK146.out 8
              have hfz69_9 := blk_frozen BK146.out 9
              have hfz69_10 := blk_frozen BK146.out 10
              have hfz69_11 := blk_frozen BK146.out 11
              have hfz69_12 := blk_frozen BK146.out 12
              have hfz69_13 := blk_frozen BK146.out 13
              have hfz69_14 := blk_frozen BK146.out 14
              have hfz69_15 := blk_frozen BK146.out 15
              have hfz69_16 := blk_frozen BK146.out 16
              go_wp2
              repeat (go_quiet (fail); try go_wp2)
              go_ret
              exact ⟨by first | rfl | (simp [errW_none, errW_some] <;> rfl) | (simp [*, errW_none, errW_some] <;> rfl), by repeat (first | (with_reducible first | exact HB.out | apply below_alloc | apply pw_below_drewN | apply below_drew1 | refine below_set ?_ GE146.out | refine below_set ?_ GE147.out) | exact HB.out)⟩

end Go.Proofs.Ytncfofnikmfjbaa.PCi
