-- written by a program of this session (wip/tools/pr.py, over the kit's printer): not by hand
import Derived.Test.YtncfofnikmfjbaaProg
import Derived.Below
import Derived.Deep.Draws
import Derived.Deep.AppendLies
import Derived.Maps.AppendAt
import Derived.OwnWalk
import Derived.Laws.BytesArg
import Derived.Laws.MakeOwn
import Derived.Laws.OwnMore
import Derived.Deep.OwnRows
import Derived.Tactics
import Derived.Lib.ConvBytes
import Derived.Laws.Slices
import Derived.WalkKit
import Derived.KernelRfl
import Derived.RowKit3
import Derived.Deep.LoopGhost
import Derived.Deep.QuietTactic
import Derived.BigQuiet
import Derived.WideLaws
import Derived.Deep.DeepCutAuto
import Derived.Deep.CutBlock
import Derived.Deep.RegionHeld3
import Derived.Laws.Rows
import Derived.Lib.AppendStr
import Derived.ArgAppend
import Derived.Laws.IdiomCopy
import Derived.OrdersHeld
import Derived.Laws.BitsLemmas
import Derived.RowKit
import Derived.Lib.SlBytesConst
import Derived.Lib.LazyBuf
import Derived.LoopN
import Derived.StillTailTactics
import Derived.RegionTactic
import Derived.BigRegion
import Derived.Lib.BufferWrite
import Derived.Test.YtncfofnikmfjbaaQWLast
import Derived.Test.YtncfofnikmfjbaaQWMore
namespace Go.Proofs.Ytncfofnikmfjbaa.PCi
open Go.RowKit Go.Proofs.YtncfofnikmfjbaaW.PrintWords Go.Proofs.YtncfofnikmfjbaaW.PrintLast Go.Proofs.YtncfofnikmfjbaaW.PrintMore
attribute [local go_sem] max2_int min2_int max_two min_two max_three min_three max_four min_four   -- for this text's walks alone
set_option linter.unusedVariables false
set_option linter.unusedSimpArgs false



def errW : Option Int → Value
  | none => .nilIface
  | some c => .iface 0 (.int .i64 c)
theorem errW_none : errW none = .nilIface := rfl
theorem errW_some (c : Int) : errW (some c) = .iface 0 (.int .i64 c) := rfl

/-- append(b, s...), s a string, b a row of the call's own: as the kit's law, and where the new row lies. -/
theorem run_append_own_string_at {P : Program} (w : World) (base : Nat) (t u ty e : TypeId) (i : TypeInfo) (ht : P.underlying t = some (.slice e)) (hu : P.underlying u = some .string) (hi : P.info? e = some i) (hz : i.zero = some (.int .u8 0))
    (hsize : i.size = 1) (hby : i.bytes = 1)
    (v : Value) (n : Nat) (xs : List Value) (hown : w.ownsRow base e 1 v n xs) (s : ByteArray)
    (h63 : n + s.size ≤ maxLen) (hbytes : n + s.size ≤ 140737488355328) (hbase : base ≤ w.heap.size) :
    ∃ v' w', (Builtin.append_ #[t, u] ty #[v, .string s]).run P w = .ok v' w' ∧ w'.ownsRow base e 1 v' (n + s.size) (xs ++ Lib.strCells s) ∧ w.grownBy w' v.ownBlock ∧
      (v'.ownBlock = v.ownBlock ∨ ∃ b, v'.ownBlock = some b ∧ w.heap.size ≤ b) := by
  have hsmall : n + s.size ≤ 9223372036854775807 := by simp only [maxLen] at h63; omega
  have hxl : xs.length = n := by simpa using hown.1
  have hlen : (xs ++ Lib.strCells s).length = (n + s.size) * 1 := by rw [List.length_append, hxl, Lib.strCells_length, Nat.mul_one]
  have grown : ∀ (old : Nat), old < n + s.size → ∀ (row : Option Nat),
      (w.drew.alloc (.cells (xs.toArray ++ (Lib.strCells s).toArray ++ Builtin.zeroCells (Value.int .u8 0).cells (grownCap w (n + s.size) old e - (n + s.size))) e)).ownsRow base e 1
        (.slice (some ⟨w.heap.size, 0, none⟩) (n + s.size) (grownCap w (n + s.size) old e)) (n + s.size) (xs ++ Lib.strCells s) ∧
      w.grownBy (w.drew.alloc (.cells (xs.toArray ++ (Lib.strCells s).toArray ++ Builtin.zeroCells (Value.int .u8 0).cells (grownCap w (n + s.size) old e - (n + s.size))) e)) row := by
    intro old ho row
    have hge := grownCap_ge w (n + s.size) old e
    have hcm : grownCap w (n + s.size) old e ≤ maxLen := grownCap_le_maxLen w (n + s.size) old e h63
    refine ⟨⟨hlen, .inr ⟨w.heap.size, _, _, rfl, hbase, heap_alloc_new w.drew _, hge, hcm, ?_, ?_⟩⟩, ⟨rfl, rfl, rfl, by simp, fun k hk _ => Below.heap_alloc w.drew _ k hk⟩⟩
    · have hz1 : (Value.int IntKind.u8 0).cells.size = 1 := rfl
      simp only [Array.size_append, List.size_toArray, size_zeroCells, hz1, hxl, Lib.strCells_length]
      omega
    · simp only [Array.toList_append, List.append_assoc]
      rw [← List.append_assoc, ← hlen]
      exact List.take_left
  rcases hown.2 with ⟨rfl, rfl⟩ | ⟨g, cap, cur, rfl, hbg, hg, hnc, hcm, hcs, htake⟩
  · have hx : xs = [] := List.eq_nil_of_length_eq_zero hxl
    subst hx
    by_cases hm : s.size = 0
    · have hn : Lib.strCells s = [] := List.eq_nil_of_length_eq_zero (by rw [Lib.strCells_length]; exact hm)
      refine ⟨.slice none 0 0, w, ?_, by rw [hm, hn]; exact World.ownsRow_nil w base e 1, ⟨rfl, rfl, rfl, Nat.le_refl _, fun _ _ _ => rfl⟩, .inl rfl⟩
      have hf := Lib.run_firstCells_string (P := P) w 1 s
      rw [hm] at hf
      simp [Builtin.append_, run_underlying ht, run_underlying hu, sizeOf, typeInfo, hi, hsize, Builtin.lenOf, hm, hf]
    · have hr := run_append_nil_string (P := P) w t u ty e i (.int .u8 0) ht hu hi hz s (by omega) (by omega) (by rw [hby]; omega)
      have hgr := grown 0 (by omega) (Value.ownBlock (.slice none 0 0))
      simp only [Nat.zero_add, List.nil_append, Array.empty_append] at hgr ⊢
      have e1 : (s.data.map fun b => Value.int .u8 b.toNat) = (Lib.strCells s).toArray := by
        apply Array.ext'
        simp [Lib.strCells]
      rw [e1] at hr
      exact ⟨_, _, hr, hgr.1, hgr.2, .inr ⟨w.heap.size, rfl, Nat.le_refl _⟩⟩
  · by_cases hroom : n + s.size ≤ cap
    · have hcs' : cur.size = cap := by simpa using hcs
      have hr := Lib.run_append_room_string (P := P) w t u ty e i ht hu hi hsize g n cap cur hg s hroom (by omega)
      refine ⟨_, _, hr, ⟨hlen, .inr ⟨g, cap, _, rfl, hbg, setRow_heap w g cur _ e _ hg, hroom, hcm, ?_, ?_⟩⟩, ⟨rfl, rfl, rfl, by simp, fun k _ hk => setRow_other w g k _ (fun e => hk (by simp [Value.ownBlock, e]))⟩, .inl rfl⟩
      · simp only [List.size_toArray, List.length_append, List.length_take, List.length_drop, Array.length_toList, Lib.strCells_length]
        omega
      · have ht' : cur.toList.take n = xs := by simpa using htake
        rw [ht', ← hlen]
        exact List.take_left
    · have holds : ∀ j u, xs[j]? = some u → w.cell? ((⟨g, 0, none⟩ : Addr).add j) = some u := hown.cells (g := g) rfl
      have hr := Lib.run_append_grow_string (P := P) w t u ty e i (.int .u8 0) ht hu hi hz ⟨g, 0, none⟩ n cap xs (by rw [hsize]; simpa using hxl) holds s (by omega) (by omega) (by rw [hby]; exact growslice_fits (by omega) (by omega))
      have hgr := grown cap (by omega) (Value.ownBlock (.slice (some ⟨g, 0, none⟩) n cap))
      exact ⟨_, _, hr, hgr.1, hgr.2, .inr ⟨w.heap.size, rfl, Nat.le_refl _⟩⟩
section
variable {P : Program} {ops : Array Oper} {rest : List Oper} {o : Oper} {a : Act} {Q : Exit → Act → World → Prop} {Kc : Act → World → Prop}
theorem Kd.run_append_str {w0 W : World} (base : Nat) (t u e ty : TypeId) (ht : P.underlying t = some (.slice e)) (hu : P.underlying u = some .string) (hinfo : (P.info? e).map (fun i => (i.zero, i.size, i.bytes)) = some (some (.int .u8 0), 1, 1))
    (v : Value) (xs : List Int) (y : ByteArray) (ok : Nat → Prop) (hfresh : ∀ k, W.heap.size ≤ k → ok k)
    (HO : Kd.R (Kd.int .u8) e W base ok v xs) (HB : Below base w0 W) (hbase : base ≤ W.heap.size) (hl : xs.length + y.size ≤ 140737488355328) :
    ∃ v1 w1, (Builtin.append_ #[t, u] ty #[v, .string y]).run P W = .ok v1 w1 ∧ Kd.R (Kd.int .u8) e w1 base ok v1 (xs ++ bytesOf y) ∧ Below base w0 w1 ∧ W.grownBy w1 v.ownBlock ∧ (v1.ownBlock = v.ownBlock ∨ ∃ b, v1.ownBlock = some b ∧ W.heap.size ≤ b) := by
  obtain ⟨i0, hi, hzz⟩ := Option.map_eq_some_iff.1 hinfo
  simp only [Prod.mk.injEq] at hzz
  obtain ⟨hz0, hz1, hz2⟩ := hzz
  have h0 := HO.1
  have hown := Kd.own_of_R HO
  obtain ⟨v1, w1, hr, ho, hg, hat⟩ := run_append_own_string_at (P := P) W base t u ty e i0 ht hu hi hz0 hz1 hz2 v xs.length _ hown y (by simp only [maxLen]; omega) hl hbase
  have hl2 : (xs ++ bytesOf y).length = xs.length + y.size := by rw [List.length_append, bytesOf_length]
  have hc : encs (Value.int .u8) (xs ++ bytesOf y) = encs (Value.int .u8) xs ++ Lib.strCells y := by
    rw [encs_append]
    congr 1
    simp [encs, bytesOf, Lib.strCells]
  refine ⟨v1, w1, hr, Kd.R_of_own (h1 := fun _ => rfl) (by rw [hl2, hc]; exact ho) (fun k hk => ?_), HB.grown hg hbase (own_base hown), hg, hat⟩
  rcases hat with hat | ⟨b, hb, hlt⟩
  · exact h0 k (hat ▸ hk)
  · rw [hb] at hk
    obtain rfl := Option.some.inj hk
    exact hfresh _ hlt
theorem Kd.R_append_str {w0 W : World} (base : Nat) (hgd : o.guard = none) (s x : Operand) (t u e : TypeId)
    (ho : o.op = .call { callee := .builtin .append, args := #[s, x], argTypes := #[t, u] })
    (ht : P.underlying t = some (.slice e)) (hu : P.underlying u = some .string) (hinfo : (P.info? e).map (fun i => (i.zero, i.size, i.bytes)) = some (some (.int .u8 0), 1, 1))
    (v : Value) (xs : List Int) (y : ByteArray) (ok : Nat → Prop) (hs : a.eval s = v) (hx : a.eval x = .string y) (hfresh : ∀ k, W.heap.size ≤ k → ok k)
    (HO : Kd.R (Kd.int .u8) e W base ok v xs) (HB : Below base w0 W) (hbase : base ≤ W.heap.size) (hl : xs.length + y.size ≤ 140737488355328)
    (h : ∀ v1 w1, Kd.R (Kd.int .u8) e w1 base ok v1 (xs ++ bytesOf y) → Below base w0 w1 → W.grownBy w1 v.ownBlock → (v1.ownBlock = v.ownBlock ∨ ∃ b, v1.ownBlock = some b ∧ W.heap.size ≤ b) → wpList P ops Q rest (a.put o.dst v1) w1) :
    wpList P ops Q (o :: rest) a W := by
  refine wpList_plain hgd fun K hK => ?_
  obtain ⟨v1, w1, hr, h1, h2, h3, h4⟩ := Kd.run_append_str (P := P) (w0 := w0) base t u e o.type ht hu hinfo v xs y ok hfresh HO HB hbase hl
  unfold Oper.wp execOp
  simp only [ho, resolve, invoke, builtin, Sem.run_bind, Sem.run_pure, Result.andThen_ok, List.map_toArray, List.map_cons, List.map_nil, hs, hx, hr]
  exact hK _ _ (h v1 w1 h1 h2 h3 h4)
theorem Kd.R_append_str_step {w0 W : World} (base : Nat) (hw : Region.wanted o (yielded ops a.tmps) = true) (s x : Operand) (t u e : TypeId)
    (ho : o.op = .call { callee := .builtin .append, args := #[s, x], argTypes := #[t, u] })
    (ht : P.underlying t = some (.slice e)) (hu : P.underlying u = some .string) (hinfo : (P.info? e).map (fun i => (i.zero, i.size, i.bytes)) = some (some (.int .u8 0), 1, 1))
    (v : Value) (xs : List Int) (y : ByteArray) (ok : Nat → Prop) (hs : a.eval s = v) (hx : a.eval x = .string y) (hfresh : ∀ k, W.heap.size ≤ k → ok k)
    (HO : Kd.R (Kd.int .u8) e W base ok v xs) (HB : Below base w0 W) (hbase : base ≤ W.heap.size) (hl : xs.length + y.size ≤ 140737488355328)
    (h : ∀ v1 w1, Kd.R (Kd.int .u8) e w1 base ok v1 (xs ++ bytesOf y) → Below base w0 w1 → W.grownBy w1 v.ownBlock → (v1.ownBlock = v.ownBlock ∨ ∃ b, v1.ownBlock = some b ∧ W.heap.size ≤ b) → Kc (a.put o.dst v1) w1) :
    if Region.wanted o (yielded ops a.tmps) = true then Oper.wp P o a W Kc Q else Kc (a.put o.dst undef) W := by
  rw [if_pos hw]
  obtain ⟨v1, w1, hr, h1, h2, h3, h4⟩ := Kd.run_append_str (P := P) (w0 := w0) base t u e o.type ht hu hinfo v xs y ok hfresh HO HB hbase hl
  unfold Oper.wp execOp
  simp only [ho, resolve, invoke, builtin, Sem.run_bind, Sem.run_pure, Result.andThen_ok, List.map_toArray, List.map_cons, List.map_nil, hs, hx, hr]
  exact h v1 w1 h1 h2 h3 h4
end

theorem ne_empty {α : Type} [BEq α] (l : List α) : (!l.isEmpty) = (l != []) := by cases l <;> rfl
theorem eq_empty {α : Type} [BEq α] (l : List α) : l.isEmpty = (l == []) := by cases l <;> rfl
theorem info5 : (Try.prog.info? 5).map (fun i => (i.zero, i.size, i.bytes)) = some (some (.int .u8 0), 1, 1) := by kernel_rfl
theorem info85 : (Try.prog.info? 85).map (fun i => (i.zero, i.size, i.bytes)) = some (some (.agg #[(.int .i64 0), (.int .i64 0)]), 2, 16) := by kernel_rfl
-- the values' own types
/-! #### struct type 98 -/
structure S98 where
  f0 : Bool
  f1 : ByteArray
  f2 : Bool
  f3 : ByteArray
  f4 : Int
  f5 : Int
def z98 : S98 := ⟨false, (⟨#[]⟩ : ByteArray), false, (⟨#[]⟩ : ByteArray), (0 : Int), (0 : Int)⟩
def k98 : Kd S98 := Kd.iso (Kd.pair Kd.bool (Kd.pair Kd.string (Kd.pair Kd.bool (Kd.pair Kd.string (Kd.pair (Kd.int .i64) (Kd.int .i64)))))) (fun x : S98 => (x.f0, x.f1, x.f2, x.f3, x.f4, x.f5))
theorem k98_open {w : World} {x : S98} {cs : List Value} (h : k98.K w x cs) : cs = [.bool x.f0, .string x.f1, .bool x.f2, .string x.f3, .int .i64 x.f4, .int .i64 x.f5] := by
  obtain ⟨_, _, rfl, rfl, ⟨_, _, rfl, rfl, ⟨_, _, rfl, rfl, ⟨_, _, rfl, rfl, ⟨_, _, rfl, rfl, rfl⟩⟩⟩⟩⟩ := h
  exact rfl
theorem k98_openM {w : World} {base : Nat} {ok : Nat → Prop} {x : S98} {cs : List Value} (h : k98.M w base ok x cs) : cs = [.bool x.f0, .string x.f1, .bool x.f2, .string x.f3, .int .i64 x.f4, .int .i64 x.f5] := by
  obtain ⟨_, _, rfl, rfl, ⟨_, _, rfl, rfl, ⟨_, _, rfl, rfl, ⟨_, _, rfl, rfl, ⟨_, _, rfl, rfl, rfl⟩⟩⟩⟩⟩ := h
  exact rfl
theorem k98_mk (w : World) (x : S98)  : k98.K w x [.bool x.f0, .string x.f1, .bool x.f2, .string x.f3, .int .i64 x.f4, .int .i64 x.f5] := ⟨[.bool x.f0], [.string x.f1, .bool x.f2, .string x.f3, .int .i64 x.f4, .int .i64 x.f5], rfl, rfl, ⟨[.string x.f1], [.bool x.f2, .string x.f3, .int .i64 x.f4, .int .i64 x.f5], rfl, rfl, ⟨[.bool x.f2], [.string x.f3, .int .i64 x.f4, .int .i64 x.f5], rfl, rfl, ⟨[.string x.f3], [.int .i64 x.f4, .int .i64 x.f5], rfl, rfl, ⟨[.int .i64 x.f4], [.int .i64 x.f5], rfl, rfl, rfl⟩⟩⟩⟩⟩
theorem k98_mkM (w : World) (base : Nat) (ok : Nat → Prop) (x : S98)  : k98.M w base ok x [.bool x.f0, .string x.f1, .bool x.f2, .string x.f3, .int .i64 x.f4, .int .i64 x.f5] := ⟨[.bool x.f0], [.string x.f1, .bool x.f2, .string x.f3, .int .i64 x.f4, .int .i64 x.f5], rfl, rfl, ⟨[.string x.f1], [.bool x.f2, .string x.f3, .int .i64 x.f4, .int .i64 x.f5], rfl, rfl, ⟨[.bool x.f2], [.string x.f3, .int .i64 x.f4, .int .i64 x.f5], rfl, rfl, ⟨[.string x.f3], [.int .i64 x.f4, .int .i64 x.f5], rfl, rfl, ⟨[.int .i64 x.f4], [.int .i64 x.f5], rfl, rfl, rfl⟩⟩⟩⟩⟩
def rd_T98 (xs : List S98) (i : Int) : S98 := xs.getD i.toNat z98
theorem at_T98 {w : World} {A : Option Addr} {n : Nat} {xs : List S98} (h : Kd.C k98 w A n xs) (i : Int) (h0 : 0 ≤ i) (h1 : i < n) : ∃ ad , A = some ad ∧ w.cell? (ad.add (i.toNat * 6)) = some (.bool (rd_T98 xs i).f0) ∧ w.cell? ⟨(ad.add (i.toNat * 6)).block, (ad.add (i.toNat * 6)).off + 1, none⟩ = some (.string (rd_T98 xs i).f1) ∧ w.cell? ⟨(ad.add (i.toNat * 6)).block, (ad.add (i.toNat * 6)).off + 2, none⟩ = some (.bool (rd_T98 xs i).f2) ∧ w.cell? ⟨(ad.add (i.toNat * 6)).block, (ad.add (i.toNat * 6)).off + 3, none⟩ = some (.string (rd_T98 xs i).f3) ∧ w.cell? ⟨(ad.add (i.toNat * 6)).block, (ad.add (i.toNat * 6)).off + 4, none⟩ = some (.int .i64 (rd_T98 xs i).f4) ∧ w.cell? ⟨(ad.add (i.toNat * 6)).block, (ad.add (i.toNat * 6)).off + 5, none⟩ = some (.int .i64 (rd_T98 xs i).f5) := by
  obtain ⟨ad, c, e, _, hK, hc0⟩ := Kd.C_get h z98 i h0 h1
  have hc : ∀ j u, c[j]? = some u → w.cell? (ad.add (i.toNat * 6 + j)) = some u := hc0
  obtain rfl := k98_open hK
  exact ⟨ad, e, hc 0 _ rfl, by rw [← add_field _ _ 1 (by omega)]; exact hc 1 _ rfl, by rw [← add_field _ _ 2 (by omega)]; exact hc 2 _ rfl, by rw [← add_field _ _ 3 (by omega)]; exact hc 3 _ rfl, by rw [← add_field _ _ 4 (by omega)]; exact hc 4 _ rfl, by rw [← add_field _ _ 5 (by omega)]; exact hc 5 _ rfl⟩

/-! #### struct type 85 -/
structure S85 where
  f0 : Int
  f1 : Int
def z85 : S85 := ⟨(0 : Int), (0 : Int)⟩
def k85 : Kd S85 := Kd.iso (Kd.pair (Kd.int .i64) (Kd.int .i64)) (fun x : S85 => (x.f0, x.f1))
theorem k85_open {w : World} {x : S85} {cs : List Value} (h : k85.K w x cs) : cs = [.int .i64 x.f0, .int .i64 x.f1] := by
  obtain ⟨_, _, rfl, rfl, rfl⟩ := h
  exact rfl
theorem k85_openM {w : World} {base : Nat} {ok : Nat → Prop} {x : S85} {cs : List Value} (h : k85.M w base ok x cs) : cs = [.int .i64 x.f0, .int .i64 x.f1] := by
  obtain ⟨_, _, rfl, rfl, rfl⟩ := h
  exact rfl
theorem k85_mk (w : World) (x : S85)  : k85.K w x [.int .i64 x.f0, .int .i64 x.f1] := ⟨[.int .i64 x.f0], [.int .i64 x.f1], rfl, rfl, rfl⟩
theorem k85_mkM (w : World) (base : Nat) (ok : Nat → Prop) (x : S85)  : k85.M w base ok x [.int .i64 x.f0, .int .i64 x.f1] := ⟨[.int .i64 x.f0], [.int .i64 x.f1], rfl, rfl, rfl⟩
def rd_T85 (xs : List S85) (i : Int) : S85 := xs.getD i.toNat z85
theorem at_T85 {w : World} {A : Option Addr} {n : Nat} {xs : List S85} (h : Kd.C k85 w A n xs) (i : Int) (h0 : 0 ≤ i) (h1 : i < n) : ∃ ad , A = some ad ∧ w.cell? (ad.add (i.toNat * 2)) = some (.int .i64 (rd_T85 xs i).f0) ∧ w.cell? ⟨(ad.add (i.toNat * 2)).block, (ad.add (i.toNat * 2)).off + 1, none⟩ = some (.int .i64 (rd_T85 xs i).f1) := by
  obtain ⟨ad, c, e, _, hK, hc0⟩ := Kd.C_get h z85 i h0 h1
  have hc : ∀ j u, c[j]? = some u → w.cell? (ad.add (i.toNat * 2 + j)) = some u := hc0
  obtain rfl := k85_open hK
  exact ⟨ad, e, hc 0 _ rfl, by rw [← add_field _ _ 1 (by omega)]; exact hc 1 _ rfl⟩

end Go.Proofs.Ytncfofnikmfjbaa.PCi

-- written by a program of this session (wip/tools/pr.py, over the kit's printer): not by hand
namespace Go.Proofs.Ytncfofnikmfjbaa.PCi
open Go.RowKit Go.Proofs.YtncfofnikmfjbaaW.PrintWords Go.Proofs.YtncfofnikmfjbaaW.PrintLast Go.Proofs.YtncfofnikmfjbaaW.PrintMore
attribute [local go_sem] max2_int min2_int max_two min_two max_three min_three max_four min_four   -- for this text's walks alone
set_option linter.unusedVariables false
set_option linter.unusedSimpArgs false

-- NOT PRINTED: function 31 (bollardref20_bag)

/-! ### bollardref20_rows: function 32 -/
def bollardref20_rows.j0 : Nat → Int → Bool → Option ((List (S85)))
  | 0, _, _ => none
  | k + 1, x6, x12 => if x12 = true then (some (([(⟨2, 12⟩ : S85), (⟨2, 15⟩ : S85), (⟨2, 16⟩ : S85)] : List (S85)))) else (if x6 = 5 then (some (([(⟨2, 15⟩ : S85), (⟨2, 16⟩ : S85), (⟨5, 19⟩ : S85)] : List (S85)))) else (if x6 = 8 then (some (([(⟨2, 12⟩ : S85)] : List (S85)))) else (some ([] : List (S85)))))
def bollardref20_rows.f (k : Nat) (a0 : Int) (a1 : Bool) : Option ((List (S85))) := if a1 = true then (if a0 = 3 then (some (([(⟨6, 17⟩ : S85), (⟨7, 18⟩ : S85)] : List (S85)))) else (if a0 = 4 then (bollardref20_rows.j0 k a0 (a0 == 4)) else (bollardref20_rows.j0 k a0 (a0 == 6)))) else (if a0 = 1 then (some (([(⟨1, 0⟩ : S85), (⟨2, 3⟩ : S85), (⟨2, 4⟩ : S85), (⟨2, 5⟩ : S85), (⟨2, 6⟩ : S85), (⟨3, 7⟩ : S85), (⟨2, 8⟩ : S85)] : List (S85)))) else (if a0 = 2 then (some (([(⟨1, 0⟩ : S85)] : List (S85)))) else (if a0 = 4 then (some (([(⟨1, 0⟩ : S85), (⟨2, 2⟩ : S85), (⟨2, 9⟩ : S85), (⟨2, 10⟩ : S85), (⟨4, 11⟩ : S85)] : List (S85)))) else (if a0 = 5 then (some (([(⟨1, 0⟩ : S85), (⟨2, 2⟩ : S85), (⟨2, 12⟩ : S85), (⟨2, 13⟩ : S85)] : List (S85)))) else (if a0 = 6 then (some (([(⟨1, 0⟩ : S85), (⟨2, 2⟩ : S85), (⟨2, 14⟩ : S85)] : List (S85)))) else (if a0 = 7 then (some (([(⟨1, 1⟩ : S85), (⟨1, 0⟩ : S85), (⟨2, 2⟩ : S85), (⟨2, 12⟩ : S85)] : List (S85)))) else (if a0 = 8 then (some (([(⟨1, 1⟩ : S85), (⟨1, 0⟩ : S85), (⟨2, 2⟩ : S85)] : List (S85)))) else (some ([] : List (S85))))))))))
set_option maxRecDepth 100000 in
theorem bollardref20_rows.mono_l : ∀ k, (∀ y0 y1, LeO (bollardref20_rows.j0 k y0 y1) (bollardref20_rows.j0 (k + 1) y0 y1))
  | 0 => fun _ _ r h => by first | exact nomatch (show (none : Option _) = some r from h) | (rw [bollardref20_rows.j0] at h; cases h; done) | (simp [bollardref20_rows.j0] at h; done)
  | k + 1 => by
    have ih0 := bollardref20_rows.mono_l k
    · intro y0 y1
      unfold bollardref20_rows.j0
      repeat' first
      | (with_reducible exact ih0 _ _)
      | (with_reducible exact LeO.refl _)
      | (with_reducible exact LeO.none _)
      | (with_reducible refine LeO.ite ?_ ?_)
      | (with_reducible refine LeO.bind ?_ (fun _ => ?_))
      | exact ih0 _ _
      | exact LeO.none _
      | refine LeO.ite ?_ ?_
      | refine LeO.bind ?_ (fun _ => ?_)
theorem bollardref20_rows.mono : ∀ a0 a1 k, LeO (bollardref20_rows.f k a0 a1) (bollardref20_rows.f (k + 1) a0 a1) := by
  intro a0 a1 k
  have ih0 := bollardref20_rows.mono_l k
  unfold bollardref20_rows.f
  repeat' first
      | (with_reducible exact ih0 _ _)
      | (with_reducible exact LeO.refl _)
      | (with_reducible exact LeO.none _)
      | (with_reducible refine LeO.ite ?_ ?_)
      | (with_reducible refine LeO.bind ?_ (fun _ => ?_))
      | exact ih0 _ _
      | exact LeO.none _
      | refine LeO.ite ?_ ?_
      | refine LeO.bind ?_ (fun _ => ?_)
set_option maxHeartbeats 8000000 in
set_option maxRecDepth 100000 in
theorem bollardref20_rows.calls (k : Nat) (a0 : Int) (a1 : Bool) (r : List (S85)) (w : World) (h : bollardref20_rows.f k a0 a1 = some r) :
    Calls Try.prog 32 #[.int .i64 a0, .bool a1] w fun e w' => ∃ v0_ : Value, e = .returned (v0_) ∧ Kd.R k85 85 w' w.heap.size (fun _ => True) v0_ r ∧ Below w.heap.size w w' := by
  have hu85 := Try.underlying85
  have HB := Aside0.mk (Below.refl w.heap.size w)
  have H : (if a1 = true then (if a0 = 3 then (some (([(⟨6, 17⟩ : S85), (⟨7, 18⟩ : S85)] : List (S85)))) else (if a0 = 4 then (bollardref20_rows.j0 k a0 (a0 == 4)) else (bollardref20_rows.j0 k a0 (a0 == 6)))) else (if a0 = 1 then (some (([(⟨1, 0⟩ : S85), (⟨2, 3⟩ : S85), (⟨2, 4⟩ : S85), (⟨2, 5⟩ : S85), (⟨2, 6⟩ : S85), (⟨3, 7⟩ : S85), (⟨2, 8⟩ : S85)] : List (S85)))) else (if a0 = 2 then (some (([(⟨1, 0⟩ : S85)] : List (S85)))) else (if a0 = 4 then (some (([(⟨1, 0⟩ : S85), (⟨2, 2⟩ : S85), (⟨2, 9⟩ : S85), (⟨2, 10⟩ : S85), (⟨4, 11⟩ : S85)] : List (S85)))) else (if a0 = 5 then (some (([(⟨1, 0⟩ : S85), (⟨2, 2⟩ : S85), (⟨2, 12⟩ : S85), (⟨2, 13⟩ : S85)] : List (S85)))) else (if a0 = 6 then (some (([(⟨1, 0⟩ : S85), (⟨2, 2⟩ : S85), (⟨2, 14⟩ : S85)] : List (S85)))) else (if a0 = 7 then (some (([(⟨1, 1⟩ : S85), (⟨1, 0⟩ : S85), (⟨2, 2⟩ : S85), (⟨2, 12⟩ : S85)] : List (S85)))) else (if a0 = 8 then (some (([(⟨1, 1⟩ : S85), (⟨1, 0⟩ : S85), (⟨2, 2⟩ : S85)] : List (S85)))) else (some ([] : List (S85))))))))))) = some r := h
  clear h
  by_cases c3 : a1 = true
  · subst c3
    have H1 : (if a0 = 3 then (some (([(⟨6, 17⟩ : S85), (⟨7, 18⟩ : S85)] : List (S85)))) else (if a0 = 4 then (bollardref20_rows.j0 k a0 (a0 == 4)) else (bollardref20_rows.j0 k a0 (a0 == 6)))) = some r := by rw [if_pos rfl] at H; exact H
    clear H
    have H := H1
    clear H1
    by_cases c4 : a0 = 3
    · rw [if_pos c4] at H
      have c4b0 : (a0 == 3) = true := beq_iff_eq.mpr c4
      have c4b1 : (a0 != 3) = false := bne_eq_false_iff_eq.mpr c4
      clear c4
      obtain ⟨y150, hy150⟩ : ∃ y_ : List (S85), y_ = (([(⟨6, 17⟩ : S85), (⟨7, 18⟩ : S85)] : List (S85))) := ⟨_, rfl⟩
      replace H : (some y150) = some r := by first | (rw [hy150]; with_reducible exact H) | (have H2_ := (Option.bind_some _ _).symm.trans H; rw [hy150]; with_reducible exact H2_) | (have H2_ := (Option.bind_some _ _).symm.trans H; with_reducible exact H2_) | with_reducible exact H | (rw [hy150]; exact H) | exact H
      have Ny150 := Aside0.mk hy150
      clear hy150
      obtain rfl := Option.some.inj H
      go_enter Try.func32, Try.ntmps32
      go_wp2_with (first | ((with_reducible refine gate_dst (N := 11) rfl ?_); refine Kd.R_lit k85 _ 85 ?hg (N := 11) ?hd (xs := ([(⟨6, 17⟩ : S85), (⟨7, 18⟩ : S85)] : List (S85))) (inner := [.int .i64 6, .int .i64 17, .int .i64 7, .int .i64 18]) (ok := fun _ => True) (okp := fun _ => True) ?hr ?hp (fun _ hk => hk) trivial (Below.refl _ _) (Nat.le_refl _) (by simp) ?_; (case hd => rfl); (case hg => rfl); (case hr => first | (go_simp; done) | (go_simp; rfl)); (case hp => exact (Reps.c2 (show Kd.M k85 _ _ _ (⟨6, 17⟩ : S85) [.int .i64 6, .int .i64 17] from (k85_mkM _ _ _ (⟨6, 17⟩ : S85) )) (Reps.c2 (show Kd.M k85 _ _ _ (⟨7, 18⟩ : S85) [.int .i64 7, .int .i64 18] from (k85_mkM _ _ _ (⟨7, 18⟩ : S85) )) (Reps.none _ _)))); intro v151 w5 ho6 hb hg_ hnew_; clear hg_ hnew_; (first | rw [← Ny150.out] at ho6 | (simp only [Int.reduceToNat] at ho6; rw [← Ny150.out] at ho6)); have n0_ := Aside0.mk (Kd.R_lower ho6 (below_size (by repeat (first | (with_reducible first | exact HB.out | apply below_alloc | apply pw_below_drewN | apply below_drew1) | exact HB.out)))); have n1_ := Aside0.mk (below_step (by repeat (first | (with_reducible first | exact HB.out | apply below_alloc | apply pw_below_drewN | apply below_drew1) | exact HB.out)) hb); clear HB; have HO152 := n0_; have HB := n1_; clear n0_ n1_; clear hb ho6))
      go_ret
      exact ⟨_, by first | rfl | (simp [errW_none, errW_some] <;> rfl) | (simp [*, errW_none, errW_some] <;> rfl), by (with_reducible repeat (first | apply Kd.R_alloc | apply Kd.R_drewN | apply Kd.R_drew)); exact HO152.out, by repeat (first | (with_reducible first | exact HB.out | apply below_alloc | apply pw_below_drewN | apply below_drew1) | exact HB.out)⟩
    · rw [if_neg c4] at H
      have c4b0 : (a0 == 3) = false := beq_eq_false_iff_ne.mpr c4
      have c4b1 : (a0 != 3) = true := bne_iff_ne.mpr c4
      have HC7 := Aside0.mk H
      clear H
      go_enter Try.func32, Try.ntmps32
      go_upto_if 12 with (fail)
      go_cut [12] (fun v12 wc => ∃ (kq : Nat) (x12_6 : Bool), v12 = .bool x12_6 ∧ Aside0 (bollardref20_rows.j0 kq a0 x12_6 = some r) ∧ Aside0 (kq ≤ k) ∧ Aside0 (Below w.heap.size w wc))
      case first =>
        have H := HC7.out
        clear HC7
        by_cases c8 : a0 = 4
        · rw [if_pos c8] at H
          have c8b0 : (a0 == 4) = true := beq_iff_eq.mpr c8
          have c8b1 : (a0 != 4) = false := bne_eq_false_iff_eq.mpr c8
          clear c8
          (first | rw [c8b0] | (simp only [i64_w, i32_w]; rw [c8b0]) | skip)
          have H' := Aside0.mk H
          clear H
          go_wp2
          go_meet
          case rel => exact ⟨_, ((a0 == 4)), (by first | rfl | (simp; done) | (simp [*]; done) | exact congrArg Value.bool (ne_empty _) | exact congrArg Value.bool (eq_empty _)), H', ⟨by first | omega | exact Nat.le_refl _⟩, ⟨by repeat (first | (with_reducible first | exact HB.out | apply below_alloc | apply pw_below_drewN | apply below_drew1) | exact HB.out)⟩⟩
        · rw [if_neg c8] at H
          have c8b0 : (a0 == 4) = false := beq_eq_false_iff_ne.mpr c8
          have c8b1 : (a0 != 4) = true := bne_iff_ne.mpr c8
          (first | rw [c8b0] | (simp only [i64_w, i32_w]; rw [c8b0]) | skip)
          have H' := Aside0.mk H
          clear H
          go_wp2
          go_meet
          case rel => exact ⟨_, ((a0 == 6)), (by first | rfl | (simp; done) | (simp [*]; done) | exact congrArg Value.bool (ne_empty _) | exact congrArg Value.bool (eq_empty _)), H', ⟨by first | omega | exact Nat.le_refl _⟩, ⟨by repeat (first | (with_reducible first | exact HB.out | apply below_alloc | apply pw_below_drewN | apply below_drew1) | exact HB.out)⟩⟩
      case rest =>
        clear HC7
        try clear c2
        try clear p2
        try clear c3
        try clear c4
        try clear c4b0
        try clear c4b1
        try clear c8
        try clear c8b0
        try clear c8b1
        obtain ⟨kq, x12_6, rfl, HA, HJ6, HB⟩ := hcut
        cases kq with
        | zero => exact absurd HA.out (by first | (intro h_; exact nomatch (show (none : Option _) = some r from h_)) | simp [bollardref20_rows.j0])
        | succ kj6 =>
          have H := HA.out
          clear HA
          simp only [bollardref20_rows.j0] at H
          by_cases c9 : x12_6 = true
          · subst c9
            have H1 : (some (([(⟨2, 12⟩ : S85), (⟨2, 15⟩ : S85), (⟨2, 16⟩ : S85)] : List (S85)))) = some r := by rw [if_pos rfl] at H; exact H
            clear H
            have H := H1
            clear H1
            obtain ⟨y153, hy153⟩ : ∃ y_ : List (S85), y_ = (([(⟨2, 12⟩ : S85), (⟨2, 15⟩ : S85), (⟨2, 16⟩ : S85)] : List (S85))) := ⟨_, rfl⟩
            replace H : (some y153) = some r := by first | (rw [hy153]; with_reducible exact H) | (have H2_ := (Option.bind_some _ _).symm.trans H; rw [hy153]; with_reducible exact H2_) | (have H2_ := (Option.bind_some _ _).symm.trans H; with_reducible exact H2_) | with_reducible exact H | (rw [hy153]; exact H) | exact H
            have Ny153 := Aside0.mk hy153
            clear hy153
            obtain rfl := Option.some.inj H
            go_wp2_with (first | ((with_reducible refine gate_dst (N := 18) rfl ?_); refine Kd.R_lit k85 _ 85 ?hg (N := 18) ?hd (xs := ([(⟨2, 12⟩ : S85), (⟨2, 15⟩ : S85), (⟨2, 16⟩ : S85)] : List (S85))) (inner := [.int .i64 2, .int .i64 12, .int .i64 2, .int .i64 15, .int .i64 2, .int .i64 16]) (ok := fun _ => True) (okp := fun _ => True) ?hr ?hp (fun _ hk => hk) trivial (Below.refl _ _) (Nat.le_refl _) (by simp) ?_; (case hd => rfl); (case hg => rfl); (case hr => first | (go_simp; done) | (go_simp; rfl)); (case hp => exact (Reps.c2 (show Kd.M k85 _ _ _ (⟨2, 12⟩ : S85) [.int .i64 2, .int .i64 12] from (k85_mkM _ _ _ (⟨2, 12⟩ : S85) )) (Reps.c2 (show Kd.M k85 _ _ _ (⟨2, 15⟩ : S85) [.int .i64 2, .int .i64 15] from (k85_mkM _ _ _ (⟨2, 15⟩ : S85) )) (Reps.c2 (show Kd.M k85 _ _ _ (⟨2, 16⟩ : S85) [.int .i64 2, .int .i64 16] from (k85_mkM _ _ _ (⟨2, 16⟩ : S85) )) (Reps.none _ _))))); intro v154 w10 ho11 hb hg_ hnew_; clear hg_ hnew_; (first | rw [← Ny153.out] at ho11 | (simp only [Int.reduceToNat] at ho11; rw [← Ny153.out] at ho11)); have n0_ := Aside0.mk (Kd.R_lower ho11 (below_size (by repeat (first | (with_reducible first | exact HB.out | apply below_alloc | apply pw_below_drewN | apply below_drew1) | exact HB.out)))); have n1_ := Aside0.mk (below_step (by repeat (first | (with_reducible first | exact HB.out | apply below_alloc | apply pw_below_drewN | apply below_drew1) | exact HB.out)) hb); clear HB; have HO155 := n0_; have HB := n1_; clear n0_ n1_; clear hb ho11))
            go_ret
            exact ⟨_, by first | rfl | (simp [errW_none, errW_some] <;> rfl) | (simp [*, errW_none, errW_some] <;> rfl), by (with_reducible repeat (first | apply Kd.R_alloc | apply Kd.R_drewN | apply Kd.R_drew)); exact HO155.out, by repeat (first | (with_reducible first | exact HB.out | apply below_alloc | apply pw_below_drewN | apply below_drew1) | exact HB.out)⟩
          · replace c9 := Bool.eq_false_iff.mpr c9
            subst c9
            have H1 : (if a0 = 5 then (some (([(⟨2, 15⟩ : S85), (⟨2, 16⟩ : S85), (⟨5, 19⟩ : S85)] : List (S85)))) else (if a0 = 8 then (some (([(⟨2, 12⟩ : S85)] : List (S85)))) else (some ([] : List (S85))))) = some r := by rw [if_neg (show ¬ (false = true) by decide)] at H; exact H
            clear H
            have H := H1
            clear H1
            by_cases c12 : a0 = 5
            · rw [if_pos c12] at H
              have c12b0 : (a0 == 5) = true := beq_iff_eq.mpr c12
              have c12b1 : (a0 != 5) = false := bne_eq_false_iff_eq.mpr c12
              clear c12
              obtain ⟨y156, hy156⟩ : ∃ y_ : List (S85), y_ = (([(⟨2, 15⟩ : S85), (⟨2, 16⟩ : S85), (⟨5, 19⟩ : S85)] : List (S85))) := ⟨_, rfl⟩
              replace H : (some y156) = some r := by first | (rw [hy156]; with_reducible exact H) | (have H2_ := (Option.bind_some _ _).symm.trans H; rw [hy156]; with_reducible exact H2_) | (have H2_ := (Option.bind_some _ _).symm.trans H; with_reducible exact H2_) | with_reducible exact H | (rw [hy156]; exact H) | exact H
              have Ny156 := Aside0.mk hy156
              clear hy156
              obtain rfl := Option.some.inj H
              go_wp2_with (first | ((with_reducible refine gate_dst (N := 24) rfl ?_); refine Kd.R_lit k85 _ 85 ?hg (N := 24) ?hd (xs := ([(⟨2, 15⟩ : S85), (⟨2, 16⟩ : S85), (⟨5, 19⟩ : S85)] : List (S85))) (inner := [.int .i64 2, .int .i64 15, .int .i64 2, .int .i64 16, .int .i64 5, .int .i64 19]) (ok := fun _ => True) (okp := fun _ => True) ?hr ?hp (fun _ hk => hk) trivial (Below.refl _ _) (Nat.le_refl _) (by simp) ?_; (case hd => rfl); (case hg => rfl); (case hr => first | (go_simp; done) | (go_simp; rfl)); (case hp => exact (Reps.c2 (show Kd.M k85 _ _ _ (⟨2, 15⟩ : S85) [.int .i64 2, .int .i64 15] from (k85_mkM _ _ _ (⟨2, 15⟩ : S85) )) (Reps.c2 (show Kd.M k85 _ _ _ (⟨2, 16⟩ : S85) [.int .i64 2, .int .i64 16] from (k85_mkM _ _ _ (⟨2, 16⟩ : S85) )) (Reps.c2 (show Kd.M k85 _ _ _ (⟨5, 19⟩ : S85) [.int .i64 5, .int .i64 19] from (k85_mkM _ _ _ (⟨5, 19⟩ : S85) )) (Reps.none _ _))))); intro v157 w13 ho14 hb hg_ hnew_; clear hg_ hnew_; (first | rw [← Ny156.out] at ho14 | (simp only [Int.reduceToNat] at ho14; rw [← Ny156.out] at ho14)); have n0_ := Aside0.mk (Kd.R_lower ho14 (below_size (by repeat (first | (with_reducible first | exact HB.out | apply below_alloc | apply pw_below_drewN | apply below_drew1) | exact HB.out)))); have n1_ := Aside0.mk (below_step (by repeat (first | (with_reducible first | exact HB.out | apply below_alloc | apply pw_below_drewN | apply below_drew1) | exact HB.out)) hb); clear HB; have HO158 := n0_; have HB := n1_; clear n0_ n1_; clear hb ho14))
              go_ret
              exact ⟨_, by first | rfl | (simp [errW_none, errW_some] <;> rfl) | (simp [*, errW_none, errW_some] <;> rfl), by (with_reducible repeat (first | apply Kd.R_alloc | apply Kd.R_drewN | apply Kd.R_drew)); exact HO158.out, by repeat (first | (with_reducible first | exact HB.out | apply below_alloc | apply pw_below_drewN | apply below_drew1) | exact HB.out)⟩
            · rw [if_neg c12] at H
              have c12b0 : (a0 == 5) = false := beq_eq_false_iff_ne.mpr c12
              have c12b1 : (a0 != 5) = true := bne_iff_ne.mpr c12
              by_cases c15 : a0 = 8
              · rw [if_pos c15] at H
                have c15b0 : (a0 == 8) = true := beq_iff_eq.mpr c15
                have c15b1 : (a0 != 8) = false := bne_eq_false_iff_eq.mpr c15
                clear c15
                obtain ⟨y159, hy159⟩ : ∃ y_ : List (S85), y_ = (([(⟨2, 12⟩ : S85)] : List (S85))) := ⟨_, rfl⟩
                replace H : (some y159) = some r := by first | (rw [hy159]; with_reducible exact H) | (have H2_ := (Option.bind_some _ _).symm.trans H; rw [hy159]; with_reducible exact H2_) | (have H2_ := (Option.bind_some _ _).symm.trans H; with_reducible exact H2_) | with_reducible exact H | (rw [hy159]; exact H) | exact H
                have Ny159 := Aside0.mk hy159
                clear hy159
                obtain rfl := Option.some.inj H
                go_wp2_with (first | ((with_reducible refine gate_dst (N := 28) rfl ?_); refine Kd.R_lit k85 _ 85 ?hg (N := 28) ?hd (xs := ([(⟨2, 12⟩ : S85)] : List (S85))) (inner := [.int .i64 2, .int .i64 12]) (ok := fun _ => True) (okp := fun _ => True) ?hr ?hp (fun _ hk => hk) trivial (Below.refl _ _) (Nat.le_refl _) (by simp) ?_; (case hd => rfl); (case hg => rfl); (case hr => first | (go_simp; done) | (go_simp; rfl)); (case hp => exact (Reps.c2 (show Kd.M k85 _ _ _ (⟨2, 12⟩ : S85) [.int .i64 2, .int .i64 12] from (k85_mkM _ _ _ (⟨2, 12⟩ : S85) )) (Reps.none _ _))); intro v160 w16 ho17 hb hg_ hnew_; clear hg_ hnew_; (first | rw [← Ny159.out] at ho17 | (simp only [Int.reduceToNat] at ho17; rw [← Ny159.out] at ho17)); have n0_ := Aside0.mk (Kd.R_lower ho17 (below_size (by repeat (first | (with_reducible first | exact HB.out | apply below_alloc | apply pw_below_drewN | apply below_drew1) | exact HB.out)))); have n1_ := Aside0.mk (below_step (by repeat (first | (with_reducible first | exact HB.out | apply below_alloc | apply pw_below_drewN | apply below_drew1) | exact HB.out)) hb); clear HB; have HO161 := n0_; have HB := n1_; clear n0_ n1_; clear hb ho17))
                go_ret
                exact ⟨_, by first | rfl | (simp [errW_none, errW_some] <;> rfl) | (simp [*, errW_none, errW_some] <;> rfl), by (with_reducible repeat (first | apply Kd.R_alloc | apply Kd.R_drewN | apply Kd.R_drew)); exact HO161.out, by repeat (first | (with_reducible first | exact HB.out | apply below_alloc | apply pw_below_drewN | apply below_drew1) | exact HB.out)⟩
              · rw [if_neg c15] at H
                have c15b0 : (a0 == 8) = false := beq_eq_false_iff_ne.mpr c15
                have c15b1 : (a0 != 8) = true := bne_iff_ne.mpr c15
                obtain rfl := Option.some.inj H
                go_wp2
                go_ret
                exact ⟨_, by first | rfl | (simp [errW_none, errW_some] <;> rfl) | (simp [*, errW_none, errW_some] <;> rfl), by first | exact Kd.R_nil _ _ _ _ _ | exact Kd.N_nil _ _ _ _ _ | exact Kd.V_nil _ _ _ _ _ | exact Kd.Q_nil _ _ _ _ _ | exact Kd.S_nil _ _ _ _ _, by repeat (first | (with_reducible first | exact HB.out | apply below_alloc | apply pw_below_drewN | apply below_drew1) | exact HB.out)⟩
  · replace c3 := Bool.eq_false_iff.mpr c3
    subst c3
    have H1 : (if a0 = 1 then (some (([(⟨1, 0⟩ : S85), (⟨2, 3⟩ : S85), (⟨2, 4⟩ : S85), (⟨2, 5⟩ : S85), (⟨2, 6⟩ : S85), (⟨3, 7⟩ : S85), (⟨2, 8⟩ : S85)] : List (S85)))) else (if a0 = 2 then (some (([(⟨1, 0⟩ : S85)] : List (S85)))) else (if a0 = 4 then (some (([(⟨1, 0⟩ : S85), (⟨2, 2⟩ : S85), (⟨2, 9⟩ : S85), (⟨2, 10⟩ : S85), (⟨4, 11⟩ : S85)] : List (S85)))) else (if a0 = 5 then (some (([(⟨1, 0⟩ : S85), (⟨2, 2⟩ : S85), (⟨2, 12⟩ : S85), (⟨2, 13⟩ : S85)] : List (S85)))) else (if a0 = 6 then (some (([(⟨1, 0⟩ : S85), (⟨2, 2⟩ : S85), (⟨2, 14⟩ : S85)] : List (S85)))) else (if a0 = 7 then (some (([(⟨1, 1⟩ : S85), (⟨1, 0⟩ : S85), (⟨2, 2⟩ : S85), (⟨2, 12⟩ : S85)] : List (S85)))) else (if a0 = 8 then (some (([(⟨1, 1⟩ : S85), (⟨1, 0⟩ : S85), (⟨2, 2⟩ : S85)] : List (S85)))) else (some ([] : List (S85)))))))))) = some r := by rw [if_neg (show ¬ (false = true) by decide)] at H; exact H
    clear H
    have H := H1
    clear H1
    by_cases c18 : a0 = 1
    · rw [if_pos c18] at H
      have c18b0 : (a0 == 1) = true := beq_iff_eq.mpr c18
      have c18b1 : (a0 != 1) = false := bne_eq_false_iff_eq.mpr c18
      clear c18
      obtain ⟨y162, hy162⟩ : ∃ y_ : List (S85), y_ = (([(⟨1, 0⟩ : S85), (⟨2, 3⟩ : S85), (⟨2, 4⟩ : S85), (⟨2, 5⟩ : S85), (⟨2, 6⟩ : S85), (⟨3, 7⟩ : S85), (⟨2, 8⟩ : S85)] : List (S85))) := ⟨_, rfl⟩
      replace H : (some y162) = some r := by first | (rw [hy162]; with_reducible exact H) | (have H2_ := (Option.bind_some _ _).symm.trans H; rw [hy162]; with_reducible exact H2_) | (have H2_ := (Option.bind_some _ _).symm.trans H; with_reducible exact H2_) | with_reducible exact H | (rw [hy162]; exact H) | exact H
      have Ny162 := Aside0.mk hy162
      clear hy162
      obtain rfl := Option.some.inj H
      go_enter Try.func32, Try.ntmps32
      go_wp2_with (first | ((with_reducible refine gate_dst (N := 39) rfl ?_); refine Kd.R_lit k85 _ 85 ?hg (N := 39) ?hd (xs := ([(⟨1, 0⟩ : S85), (⟨2, 3⟩ : S85), (⟨2, 4⟩ : S85), (⟨2, 5⟩ : S85), (⟨2, 6⟩ : S85), (⟨3, 7⟩ : S85), (⟨2, 8⟩ : S85)] : List (S85))) (inner := [.int .i64 1, .int .i64 0, .int .i64 2, .int .i64 3, .int .i64 2, .int .i64 4, .int .i64 2, .int .i64 5, .int .i64 2, .int .i64 6, .int .i64 3, .int .i64 7, .int .i64 2, .int .i64 8]) (ok := fun _ => True) (okp := fun _ => True) ?hr ?hp (fun _ hk => hk) trivial (Below.refl _ _) (Nat.le_refl _) (by simp) ?_; (case hd => rfl); (case hg => rfl); (case hr => first | (go_simp; done) | (go_simp; rfl)); (case hp => exact (Reps.c2 (show Kd.M k85 _ _ _ (⟨1, 0⟩ : S85) [.int .i64 1, .int .i64 0] from (k85_mkM _ _ _ (⟨1, 0⟩ : S85) )) (Reps.c2 (show Kd.M k85 _ _ _ (⟨2, 3⟩ : S85) [.int .i64 2, .int .i64 3] from (k85_mkM _ _ _ (⟨2, 3⟩ : S85) )) (Reps.c2 (show Kd.M k85 _ _ _ (⟨2, 4⟩ : S85) [.int .i64 2, .int .i64 4] from (k85_mkM _ _ _ (⟨2, 4⟩ : S85) )) (Reps.c2 (show Kd.M k85 _ _ _ (⟨2, 5⟩ : S85) [.int .i64 2, .int .i64 5] from (k85_mkM _ _ _ (⟨2, 5⟩ : S85) )) (Reps.c2 (show Kd.M k85 _ _ _ (⟨2, 6⟩ : S85) [.int .i64 2, .int .i64 6] from (k85_mkM _ _ _ (⟨2, 6⟩ : S85) )) (Reps.c2 (show Kd.M k85 _ _ _ (⟨3, 7⟩ : S85) [.int .i64 3, .int .i64 7] from (k85_mkM _ _ _ (⟨3, 7⟩ : S85) )) (Reps.c2 (show Kd.M k85 _ _ _ (⟨2, 8⟩ : S85) [.int .i64 2, .int .i64 8] from (k85_mkM _ _ _ (⟨2, 8⟩ : S85) )) (Reps.none _ _))))))))); intro v163 w19 ho20 hb hg_ hnew_; clear hg_ hnew_; (first | rw [← Ny162.out] at ho20 | (simp only [Int.reduceToNat] at ho20; rw [← Ny162.out] at ho20)); have n0_ := Aside0.mk (Kd.R_lower ho20 (below_size (by repeat (first | (with_reducible first | exact HB.out | apply below_alloc | apply pw_below_drewN | apply below_drew1) | exact HB.out)))); have n1_ := Aside0.mk (below_step (by repeat (first | (with_reducible first | exact HB.out | apply below_alloc | apply pw_below_drewN | apply below_drew1) | exact HB.out)) hb); clear HB; have HO164 := n0_; have HB := n1_; clear n0_ n1_; clear hb ho20))
      go_ret
      exact ⟨_, by first | rfl | (simp [errW_none, errW_some] <;> rfl) | (simp [*, errW_none, errW_some] <;> rfl), by (with_reducible repeat (first | apply Kd.R_alloc | apply Kd.R_drewN | apply Kd.R_drew)); exact HO164.out, by repeat (first | (with_reducible first | exact HB.out | apply below_alloc | apply pw_below_drewN | apply below_drew1) | exact HB.out)⟩
    · rw [if_neg c18] at H
      have c18b0 : (a0 == 1) = false := beq_eq_false_iff_ne.mpr c18
      have c18b1 : (a0 != 1) = true := bne_iff_ne.mpr c18
      by_cases c21 : a0 = 2
      · rw [if_pos c21] at H
        have c21b0 : (a0 == 2) = true := beq_iff_eq.mpr c21
        have c21b1 : (a0 != 2) = false := bne_eq_false_iff_eq.mpr c21
        clear c21
        obtain ⟨y165, hy165⟩ : ∃ y_ : List (S85), y_ = (([(⟨1, 0⟩ : S85)] : List (S85))) := ⟨_, rfl⟩
        replace H : (some y165) = some r := by first | (rw [hy165]; with_reducible exact H) | (have H2_ := (Option.bind_some _ _).symm.trans H; rw [hy165]; with_reducible exact H2_) | (have H2_ := (Option.bind_some _ _).symm.trans H; with_reducible exact H2_) | with_reducible exact H | (rw [hy165]; exact H) | exact H
        have Ny165 := Aside0.mk hy165
        clear hy165
        obtain rfl := Option.some.inj H
        go_enter Try.func32, Try.ntmps32
        go_wp2_with (first | ((with_reducible refine gate_dst (N := 43) rfl ?_); refine Kd.R_lit k85 _ 85 ?hg (N := 43) ?hd (xs := ([(⟨1, 0⟩ : S85)] : List (S85))) (inner := [.int .i64 1, .int .i64 0]) (ok := fun _ => True) (okp := fun _ => True) ?hr ?hp (fun _ hk => hk) trivial (Below.refl _ _) (Nat.le_refl _) (by simp) ?_; (case hd => rfl); (case hg => rfl); (case hr => first | (go_simp; done) | (go_simp; rfl)); (case hp => exact (Reps.c2 (show Kd.M k85 _ _ _ (⟨1, 0⟩ : S85) [.int .i64 1, .int .i64 0] from (k85_mkM _ _ _ (⟨1, 0⟩ : S85) )) (Reps.none _ _))); intro v166 w22 ho23 hb hg_ hnew_; clear hg_ hnew_; (first | rw [← Ny165.out] at ho23 | (simp only [Int.reduceToNat] at ho23; rw [← Ny165.out] at ho23)); have n0_ := Aside0.mk (Kd.R_lower ho23 (below_size (by repeat (first | (with_reducible first | exact HB.out | apply below_alloc | apply pw_below_drewN | apply below_drew1) | exact HB.out)))); have n1_ := Aside0.mk (below_step (by repeat (first | (with_reducible first | exact HB.out | apply below_alloc | apply pw_below_drewN | apply below_drew1) | exact HB.out)) hb); clear HB; have HO167 := n0_; have HB := n1_; clear n0_ n1_; clear hb ho23))
        go_ret
        exact ⟨_, by first | rfl | (simp [errW_none, errW_some] <;> rfl) | (simp [*, errW_none, errW_some] <;> rfl), by (with_reducible repeat (first | apply Kd.R_alloc | apply Kd.R_drewN | apply Kd.R_drew)); exact HO167.out, by repeat (first | (with_reducible first | exact HB.out | apply below_alloc | apply pw_below_drewN | apply below_drew1) | exact HB.out)⟩
      · rw [if_neg c21] at H
        have c21b0 : (a0 == 2) = false := beq_eq_false_iff_ne.mpr c21
        have c21b1 : (a0 != 2) = true := bne_iff_ne.mpr c21
        by_cases c24 : a0 = 4
        · rw [if_pos c24] at H
          have c24b0 : (a0 == 4) = true := beq_iff_eq.mpr c24
          have c24b1 : (a0 != 4) = false := bne_eq_false_iff_eq.mpr c24
          clear c24
          obtain ⟨y168, hy168⟩ : ∃ y_ : List (S85), y_ = (([(⟨1, 0⟩ : S85), (⟨2, 2⟩ : S85), (⟨2, 9⟩ : S85), (⟨2, 10⟩ : S85), (⟨4, 11⟩ : S85)] : List (S85))) := ⟨_, rfl⟩
          replace H : (some y168) = some r := by first | (rw [hy168]; with_reducible exact H) | (have H2_ := (Option.bind_some _ _).symm.trans H; rw [hy168]; with_reducible exact H2_) | (have H2_ := (Option.bind_some _ _).symm.trans H; with_reducible exact H2_) | with_reducible exact H | (rw [hy168]; exact H) | exact H
          have Ny168 := Aside0.mk hy168
          clear hy168
          obtain rfl := Option.some.inj H
          go_enter Try.func32, Try.ntmps32
          go_wp2_with (first | ((with_reducible refine gate_dst (N := 51) rfl ?_); refine Kd.R_lit k85 _ 85 ?hg (N := 51) ?hd (xs := ([(⟨1, 0⟩ : S85), (⟨2, 2⟩ : S85), (⟨2, 9⟩ : S85), (⟨2, 10⟩ : S85), (⟨4, 11⟩ : S85)] : List (S85))) (inner := [.int .i64 1, .int .i64 0, .int .i64 2, .int .i64 2, .int .i64 2, .int .i64 9, .int .i64 2, .int .i64 10, .int .i64 4, .int .i64 11]) (ok := fun _ => True) (okp := fun _ => True) ?hr ?hp (fun _ hk => hk) trivial (Below.refl _ _) (Nat.le_refl _) (by simp) ?_; (case hd => rfl); (case hg => rfl); (case hr => first | (go_simp; done) | (go_simp; rfl)); (case hp => exact (Reps.c2 (show Kd.M k85 _ _ _ (⟨1, 0⟩ : S85) [.int .i64 1, .int .i64 0] from (k85_mkM _ _ _ (⟨1, 0⟩ : S85) )) (Reps.c2 (show Kd.M k85 _ _ _ (⟨2, 2⟩ : S85) [.int .i64 2, .int .i64 2] from (k85_mkM _ _ _ (⟨2, 2⟩ : S85) )) (Reps.c2 (show Kd.M k85 _ _ _ (⟨2, 9⟩ : S85) [.int .i64 2, .int .i64 9] from (k85_mkM _ _ _ (⟨2, 9⟩ : S85) )) (Reps.c2 (show Kd.M k85 _ _ _ (⟨2, 10⟩ : S85) [.int .i64 2, .int .i64 10] from (k85_mkM _ _ _ (⟨2, 10⟩ : S85) )) (Reps.c2 (show Kd.M k85 _ _ _ (⟨4, 11⟩ : S85) [.int .i64 4, .int .i64 11] from (k85_mkM _ _ _ (⟨4, 11⟩ : S85) )) (Reps.none _ _))))))); intro v169 w25 ho26 hb hg_ hnew_; clear hg_ hnew_; (first | rw [← Ny168.out] at ho26 | (simp only [Int.reduceToNat] at ho26; rw [← Ny168.out] at ho26)); have n0_ := Aside0.mk (Kd.R_lower ho26 (below_size (by repeat (first | (with_reducible first | exact HB.out | apply below_alloc | apply pw_below_drewN | apply below_drew1) | exact HB.out)))); have n1_ := Aside0.mk (below_step (by repeat (first | (with_reducible first | exact HB.out | apply below_alloc | apply pw_below_drewN | apply below_drew1) | exact HB.out)) hb); clear HB; have HO170 := n0_; have HB := n1_; clear n0_ n1_; clear hb ho26))
          go_ret
          exact ⟨_, by first | rfl | (simp [errW_none, errW_some] <;> rfl) | (simp [*, errW_none, errW_some] <;> rfl), by (with_reducible repeat (first | apply Kd.R_alloc | apply Kd.R_drewN | apply Kd.R_drew)); exact HO170.out, by repeat (first | (with_reducible first | exact HB.out | apply below_alloc | apply pw_below_drewN | apply below_drew1) | exact HB.out)⟩
        · rw [if_neg c24] at H
          have c24b0 : (a0 == 4) = false := beq_eq_false_iff_ne.mpr c24
          have c24b1 : (a0 != 4) = true := bne_iff_ne.mpr c24
          by_cases c27 : a0 = 5
          · rw [if_pos c27] at H
            have c27b0 : (a0 == 5) = true := beq_iff_eq.mpr c27
            have c27b1 : (a0 != 5) = false := bne_eq_false_iff_eq.mpr c27
            clear c27
            obtain ⟨y171, hy171⟩ : ∃ y_ : List (S85), y_ = (([(⟨1, 0⟩ : S85), (⟨2, 2⟩ : S85), (⟨2, 12⟩ : S85), (⟨2, 13⟩ : S85)] : List (S85))) := ⟨_, rfl⟩
            replace H : (some y171) = some r := by first | (rw [hy171]; with_reducible exact H) | (have H2_ := (Option.bind_some _ _).symm.trans H; rw [hy171]; with_reducible exact H2_) | (have H2_ := (Option.bind_some _ _).symm.trans H; with_reducible exact H2_) | with_reducible exact H | (rw [hy171]; exact H) | exact H
            have Ny171 := Aside0.mk hy171
            clear hy171
            obtain rfl := Option.some.inj H
            go_enter Try.func32, Try.ntmps32
            go_wp2_with (first | ((with_reducible refine gate_dst (N := 58) rfl ?_); refine Kd.R_lit k85 _ 85 ?hg (N := 58) ?hd (xs := ([(⟨1, 0⟩ : S85), (⟨2, 2⟩ : S85), (⟨2, 12⟩ : S85), (⟨2, 13⟩ : S85)] : List (S85))) (inner := [.int .i64 1, .int .i64 0, .int .i64 2, .int .i64 2, .int .i64 2, .int .i64 12, .int .i64 2, .int .i64 13]) (ok := fun _ => True) (okp := fun _ => True) ?hr ?hp (fun _ hk => hk) trivial (Below.refl _ _) (Nat.le_refl _) (by simp) ?_; (case hd => rfl); (case hg => rfl); (case hr => first | (go_simp; done) | (go_simp; rfl)); (case hp => exact (Reps.c2 (show Kd.M k85 _ _ _ (⟨1, 0⟩ : S85) [.int .i64 1, .int .i64 0] from (k85_mkM _ _ _ (⟨1, 0⟩ : S85) )) (Reps.c2 (show Kd.M k85 _ _ _ (⟨2, 2⟩ : S85) [.int .i64 2, .int .i64 2] from (k85_mkM _ _ _ (⟨2, 2⟩ : S85) )) (Reps.c2 (show Kd.M k85 _ _ _ (⟨2, 12⟩ : S85) [.int .i64 2, .int .i64 12] from (k85_mkM _ _ _ (⟨2, 12⟩ : S85) )) (Reps.c2 (show Kd.M k85 _ _ _ (⟨2, 13⟩ : S85) [.int .i64 2, .int .i64 13] from (k85_mkM _ _ _ (⟨2, 13⟩ : S85) )) (Reps.none _ _)))))); intro v172 w28 ho29 hb hg_ hnew_; clear hg_ hnew_; (first | rw [← Ny171.out] at ho29 | (simp only [Int.reduceToNat] at ho29; rw [← Ny171.out] at ho29)); have n0_ := Aside0.mk (Kd.R_lower ho29 (below_size (by repeat (first | (with_reducible first | exact HB.out | apply below_alloc | apply pw_below_drewN | apply below_drew1) | exact HB.out)))); have n1_ := Aside0.mk (below_step (by repeat (first | (with_reducible first | exact HB.out | apply below_alloc | apply pw_below_drewN | apply below_drew1) | exact HB.out)) hb); clear HB; have HO173 := n0_; have HB := n1_; clear n0_ n1_; clear hb ho29))
            go_ret
            exact ⟨_, by first | rfl | (simp [errW_none, errW_some] <;> rfl) | (simp [*, errW_none, errW_some] <;> rfl), by (with_reducible repeat (first | apply Kd.R_alloc | apply Kd.R_drewN | apply Kd.R_drew)); exact HO173.out, by repeat (first | (with_reducible first | exact HB.out | apply below_alloc | apply pw_below_drewN | apply below_drew1) | exact HB.out)⟩
          · rw [if_neg c27] at H
            have c27b0 : (a0 == 5) = false := beq_eq_false_iff_ne.mpr c27
            have c27b1 : (a0 != 5) = true := bne_iff_ne.mpr c27
            by_cases c30 : a0 = 6
            · rw [if_pos c30] at H
              have c30b0 : (a0 == 6) = true := beq_iff_eq.mpr c30
              have c30b1 : (a0 != 6) = false := bne_eq_false_iff_eq.mpr c30
              clear c30
              obtain ⟨y174, hy174⟩ : ∃ y_ : List (S85), y_ = (([(⟨1, 0⟩ : S85), (⟨2, 2⟩ : S85), (⟨2, 14⟩ : S85)] : List (S85))) := ⟨_, rfl⟩
              replace H : (some y174) = some r := by first | (rw [hy174]; with_reducible exact H) | (have H2_ := (Option.bind_some _ _).symm.trans H; rw [hy174]; with_reducible exact H2_) | (have H2_ := (Option.bind_some _ _).symm.trans H; with_reducible exact H2_) | with_reducible exact H | (rw [hy174]; exact H) | exact H
              have Ny174 := Aside0.mk hy174
              clear hy174
              obtain rfl := Option.some.inj H
              go_enter Try.func32, Try.ntmps32
              go_wp2_with (first | ((with_reducible refine gate_dst (N := 64) rfl ?_); refine Kd.R_lit k85 _ 85 ?hg (N := 64) ?hd (xs := ([(⟨1, 0⟩ : S85), (⟨2, 2⟩ : S85), (⟨2, 14⟩ : S85)] : List (S85))) (inner := [.int .i64 1, .int .i64 0, .int .i64 2, .int .i64 2, .int .i64 2, .int .i64 14]) (ok := fun _ => True) (okp := fun _ => True) ?hr ?hp (fun _ hk => hk) trivial (Below.refl _ _) (Nat.le_refl _) (by simp) ?_; (case hd => rfl); (case hg => rfl); (case hr => first | (go_simp; done) | (go_simp; rfl)); (case hp => exact (Reps.c2 (show Kd.M k85 _ _ _ (⟨1, 0⟩ : S85) [.int .i64 1, .int .i64 0] from (k85_mkM _ _ _ (⟨1, 0⟩ : S85) )) (Reps.c2 (show Kd.M k85 _ _ _ (⟨2, 2⟩ : S85) [.int .i64 2, .int .i64 2] from (k85_mkM _ _ _ (⟨2, 2⟩ : S85) )) (Reps.c2 (show Kd.M k85 _ _ _ (⟨2, 14⟩ : S85) [.int .i64 2, .int .i64 14] from (k85_mkM _ _ _ (⟨2, 14⟩ : S85) )) (Reps.none _ _))))); intro v175 w31 ho32 hb hg_ hnew_; clear hg_ hnew_; (first | rw [← Ny174.out] at ho32 | (simp only [Int.reduceToNat] at ho32; rw [← Ny174.out] at ho32)); have n0_ := Aside0.mk (Kd.R_lower ho32 (below_size (by repeat (first | (with_reducible first | exact HB.out | apply below_alloc | apply pw_below_drewN | apply below_drew1) | exact HB.out)))); have n1_ := Aside0.mk (below_step (by repeat (first | (with_reducible first | exact HB.out | apply below_alloc | apply pw_below_drewN | apply below_drew1) | exact HB.out)) hb); clear HB; have HO176 := n0_; have HB := n1_; clear n0_ n1_; clear hb ho32))
              go_ret
              exact ⟨_, by first | rfl | (simp [errW_none, errW_some] <;> rfl) | (simp [*, errW_none, errW_some] <;> rfl), by (with_reducible repeat (first | apply Kd.R_alloc | apply Kd.R_drewN | apply Kd.R_drew)); exact HO176.out, by repeat (first | (with_reducible first | exact HB.out | apply below_alloc | apply pw_below_drewN | apply below_drew1) | exact HB.out)⟩
            · rw [if_neg c30] at H
              have c30b0 : (a0 == 6) = false := beq_eq_false_iff_ne.mpr c30
              have c30b1 : (a0 != 6) = true := bne_iff_ne.mpr c30
              by_cases c33 : a0 = 7
              · rw [if_pos c33] at H
                have c33b0 : (a0 == 7) = true := beq_iff_eq.mpr c33
                have c33b1 : (a0 != 7) = false := bne_eq_false_iff_eq.mpr c33
                clear c33
                obtain ⟨y177, hy177⟩ : ∃ y_ : List (S85), y_ = (([(⟨1, 1⟩ : S85), (⟨1, 0⟩ : S85), (⟨2, 2⟩ : S85), (⟨2, 12⟩ : S85)] : List (S85))) := ⟨_, rfl⟩
                replace H : (some y177) = some r := by first | (rw [hy177]; with_reducible exact H) | (have H2_ := (Option.bind_some _ _).symm.trans H; rw [hy177]; with_reducible exact H2_) | (have H2_ := (Option.bind_some _ _).symm.trans H; with_reducible exact H2_) | with_reducible exact H | (rw [hy177]; exact H) | exact H
                have Ny177 := Aside0.mk hy177
                clear hy177
                obtain rfl := Option.some.inj H
                go_enter Try.func32, Try.ntmps32
                go_wp2_with (first | ((with_reducible refine gate_dst (N := 71) rfl ?_); refine Kd.R_lit k85 _ 85 ?hg (N := 71) ?hd (xs := ([(⟨1, 1⟩ : S85), (⟨1, 0⟩ : S85), (⟨2, 2⟩ : S85), (⟨2, 12⟩ : S85)] : List (S85))) (inner := [.int .i64 1, .int .i64 1, .int .i64 1, .int .i64 0, .int .i64 2, .int .i64 2, .int .i64 2, .int .i64 12]) (ok := fun _ => True) (okp := fun _ => True) ?hr ?hp (fun _ hk => hk) trivial (Below.refl _ _) (Nat.le_refl _) (by simp) ?_; (case hd => rfl); (case hg => rfl); (case hr => first | (go_simp; done) | (go_simp; rfl)); (case hp => exact (Reps.c2 (show Kd.M k85 _ _ _ (⟨1, 1⟩ : S85) [.int .i64 1, .int .i64 1] from (k85_mkM _ _ _ (⟨1, 1⟩ : S85) )) (Reps.c2 (show Kd.M k85 _ _ _ (⟨1, 0⟩ : S85) [.int .i64 1, .int .i64 0] from (k85_mkM _ _ _ (⟨1, 0⟩ : S85) )) (Reps.c2 (show Kd.M k85 _ _ _ (⟨2, 2⟩ : S85) [.int .i64 2, .int .i64 2] from (k85_mkM _ _ _ (⟨2, 2⟩ : S85) )) (Reps.c2 (show Kd.M k85 _ _ _ (⟨2, 12⟩ : S85) [.int .i64 2, .int .i64 12] from (k85_mkM _ _ _ (⟨2, 12⟩ : S85) )) (Reps.none _ _)))))); intro v178 w34 ho35 hb hg_ hnew_; clear hg_ hnew_; (first | rw [← Ny177.out] at ho35 | (simp only [Int.reduceToNat] at ho35; rw [← Ny177.out] at ho35)); have n0_ := Aside0.mk (Kd.R_lower ho35 (below_size (by repeat (first | (with_reducible first | exact HB.out | apply below_alloc | apply pw_below_drewN | apply below_drew1) | exact HB.out)))); have n1_ := Aside0.mk (below_step (by repeat (first | (with_reducible first | exact HB.out | apply below_alloc | apply pw_below_drewN | apply below_drew1) | exact HB.out)) hb); clear HB; have HO179 := n0_; have HB := n1_; clear n0_ n1_; clear hb ho35))
                go_ret
                exact ⟨_, by first | rfl | (simp [errW_none, errW_some] <;> rfl) | (simp [*, errW_none, errW_some] <;> rfl), by (with_reducible repeat (first | apply Kd.R_alloc | apply Kd.R_drewN | apply Kd.R_drew)); exact HO179.out, by repeat (first | (with_reducible first | exact HB.out | apply below_alloc | apply pw_below_drewN | apply below_drew1) | exact HB.out)⟩
              · rw [if_neg c33] at H
                have c33b0 : (a0 == 7) = false := beq_eq_false_iff_ne.mpr c33
                have c33b1 : (a0 != 7) = true := bne_iff_ne.mpr c33
                by_cases c36 : a0 = 8
                · rw [if_pos c36] at H
                  have c36b0 : (a0 == 8) = true := beq_iff_eq.mpr c36
                  have c36b1 : (a0 != 8) = false := bne_eq_false_iff_eq.mpr c36
                  clear c36
                  obtain ⟨y180, hy180⟩ : ∃ y_ : List (S85), y_ = (([(⟨1, 1⟩ : S85), (⟨1, 0⟩ : S85), (⟨2, 2⟩ : S85)] : List (S85))) := ⟨_, rfl⟩
                  replace H : (some y180) = some r := by first | (rw [hy180]; with_reducible exact H) | (have H2_ := (Option.bind_some _ _).symm.trans H; rw [hy180]; with_reducible exact H2_) | (have H2_ := (Option.bind_some _ _).symm.trans H; with_reducible exact H2_) | with_reducible exact H | (rw [hy180]; exact H) | exact H
                  have Ny180 := Aside0.mk hy180
                  clear hy180
                  obtain rfl := Option.some.inj H
                  go_enter Try.func32, Try.ntmps32
                  go_wp2_with (first | ((with_reducible refine gate_dst (N := 77) rfl ?_); refine Kd.R_lit k85 _ 85 ?hg (N := 77) ?hd (xs := ([(⟨1, 1⟩ : S85), (⟨1, 0⟩ : S85), (⟨2, 2⟩ : S85)] : List (S85))) (inner := [.int .i64 1, .int .i64 1, .int .i64 1, .int .i64 0, .int .i64 2, .int .i64 2]) (ok := fun _ => True) (okp := fun _ => True) ?hr ?hp (fun _ hk => hk) trivial (Below.refl _ _) (Nat.le_refl _) (by simp) ?_; (case hd => rfl); (case hg => rfl); (case hr => first | (go_simp; done) | (go_simp; rfl)); (case hp => exact (Reps.c2 (show Kd.M k85 _ _ _ (⟨1, 1⟩ : S85) [.int .i64 1, .int .i64 1] from (k85_mkM _ _ _ (⟨1, 1⟩ : S85) )) (Reps.c2 (show Kd.M k85 _ _ _ (⟨1, 0⟩ : S85) [.int .i64 1, .int .i64 0] from (k85_mkM _ _ _ (⟨1, 0⟩ : S85) )) (Reps.c2 (show Kd.M k85 _ _ _ (⟨2, 2⟩ : S85) [.int .i64 2, .int .i64 2] from (k85_mkM _ _ _ (⟨2, 2⟩ : S85) )) (Reps.none _ _))))); intro v181 w37 ho38 hb hg_ hnew_; clear hg_ hnew_; (first | rw [← Ny180.out] at ho38 | (simp only [Int.reduceToNat] at ho38; rw [← Ny180.out] at ho38)); have n0_ := Aside0.mk (Kd.R_lower ho38 (below_size (by repeat (first | (with_reducible first | exact HB.out | apply below_alloc | apply pw_below_drewN | apply below_drew1) | exact HB.out)))); have n1_ := Aside0.mk (below_step (by repeat (first | (with_reducible first | exact HB.out | apply below_alloc | apply pw_below_drewN | apply below_drew1) | exact HB.out)) hb); clear HB; have HO182 := n0_; have HB := n1_; clear n0_ n1_; clear hb ho38))
                  go_ret
                  exact ⟨_, by first | rfl | (simp [errW_none, errW_some] <;> rfl) | (simp [*, errW_none, errW_some] <;> rfl), by (with_reducible repeat (first | apply Kd.R_alloc | apply Kd.R_drewN | apply Kd.R_drew)); exact HO182.out, by repeat (first | (with_reducible first | exact HB.out | apply below_alloc | apply pw_below_drewN | apply below_drew1) | exact HB.out)⟩
                · rw [if_neg c36] at H
                  have c36b0 : (a0 == 8) = false := beq_eq_false_iff_ne.mpr c36
                  have c36b1 : (a0 != 8) = true := bne_iff_ne.mpr c36
                  obtain rfl := Option.some.inj H
                  go_enter Try.func32, Try.ntmps32
                  go_wp2
                  go_ret
                  exact ⟨_, by first | rfl | (simp [errW_none, errW_some] <;> rfl) | (simp [*, errW_none, errW_some] <;> rfl), by first | exact Kd.R_nil _ _ _ _ _ | exact Kd.N_nil _ _ _ _ _ | exact Kd.V_nil _ _ _ _ _ | exact Kd.Q_nil _ _ _ _ _ | exact Kd.S_nil _ _ _ _ _, by repeat (first | (with_reducible first | exact HB.out | apply below_alloc | apply pw_below_drewN | apply below_drew1) | exact HB.out)⟩

/-! ### bollardref1_Lay: function 33 -/
def bollardref1_Lay.l0 : Nat → List Int → Int → Int → Option (List Int)
  | 0, _, _, _ => none
  | k + 1, x0, x2, x7 => if x7 ≥ 0 then (if 0 ≤ (wrap64 (8 * x7)) then (if x0.length < 140737488355328 then (bollardref1_Lay.l0 k (x0 ++ [(shr .u64 x2 (wrap64 (8 * x7))) % 256]) x2 (wrap64 (x7 - 1))) else (none)) else (none)) else (some x0)
def bollardref1_Lay.f (k : Nat) (l0 : List Int) (a1 : Int) (a2 : Int) : Option (List Int) := bollardref1_Lay.l0 k l0 a2 (wrap64 (a1 - 1))
set_option maxRecDepth 100000 in
theorem bollardref1_Lay.mono_l : ∀ k, (∀ y0 y1 y2, LeO (bollardref1_Lay.l0 k y0 y1 y2) (bollardref1_Lay.l0 (k + 1) y0 y1 y2))
  | 0 => fun _ _ _ r h => by first | exact nomatch (show (none : Option _) = some r from h) | (rw [bollardref1_Lay.l0] at h; cases h; done) | (simp [bollardref1_Lay.l0] at h; done)
  | k + 1 => by
    have ih0 := bollardref1_Lay.mono_l k
    · intro y0 y1 y2
      unfold bollardref1_Lay.l0
      repeat' first
      | (with_reducible exact ih0 _ _ _)
      | (with_reducible exact LeO.refl _)
      | (with_reducible exact LeO.none _)
      | (with_reducible refine LeO.ite ?_ ?_)
      | (with_reducible refine LeO.bind ?_ (fun _ => ?_))
      | exact ih0 _ _ _
      | exact LeO.none _
      | refine LeO.ite ?_ ?_
      | refine LeO.bind ?_ (fun _ => ?_)
theorem bollardref1_Lay.mono : ∀ a0 a1 a2 k, LeO (bollardref1_Lay.f k a0 a1 a2) (bollardref1_Lay.f (k + 1) a0 a1 a2) := by
  intro a0 a1 a2 k
  have ih0 := bollardref1_Lay.mono_l k
  unfold bollardref1_Lay.f
  repeat' first
      | (with_reducible exact ih0 _ _ _)
      | (with_reducible exact LeO.refl _)
      | (with_reducible exact LeO.none _)
      | (with_reducible refine LeO.ite ?_ ?_)
      | (with_reducible refine LeO.bind ?_ (fun _ => ?_))
      | exact ih0 _ _ _
      | exact LeO.none _
      | refine LeO.ite ?_ ?_
      | refine LeO.bind ?_ (fun _ => ?_)
set_option maxHeartbeats 8000000 in
set_option maxRecDepth 100000 in
theorem bollardref1_Lay.calls (k : Nat) (P0_ : Nat → Prop) (u9000_ : Value) (l0 : List Int) (a1 : Int) (a2 : Int) (r : List Int) (w0 w : World) (hB : Below w0.heap.size w0 w) (ho0 : Kd.R (Kd.int .u8) 5 w w0.heap.size P0_ u9000_ l0) (h : bollardref1_Lay.f k l0 a1 a2 = some r) :
    Calls Try.prog 33 #[u9000_, .int .i64 a1, .int .u64 a2] w fun e w' => ∃ v0_ : Value, e = .returned (v0_) ∧ Kd.R (Kd.int .u8) 5 w' w0.heap.size (fun k_ => (P0_ k_ ∨ w.heap.size ≤ k_)) v0_ r ∧ Below w0.heap.size w0 w' ∧ Kept w w' (fun k_ => P0_ k_) := by
  have HO0 := Aside0.mk (show Kd.R (Kd.int .u8) 5 w w0.heap.size (fun k_ => (P0_ k_ ∨ w.heap.size ≤ k_)) u9000_ l0 from Kd.R_mono ho0 (fun k_ hk => (.inl hk)))
  have HK := Aside0.mk (Kept.refl w (fun k_ => P0_ k_))
  have HW0 := Aside0.mk hB.size
  have HB := Aside0.mk hB
  clear hB
  have H : (bollardref1_Lay.l0 k l0 a2 (wrap64 (a1 - 1))) = some r := h
  clear h
  have H' := Aside0.mk H
  clear H
  go_enter Try.func33, Try.ntmps33
  go_wp2
  go_loopg [0, 7] k (fun kq v0 v7 w' => ∃ (x0_1 : List Int) (x7_1 : Int), v7 = .int .i64 x7_1 ∧ Aside0 (bollardref1_Lay.l0 kq x0_1 a2 x7_1 = some r) ∧ Aside0 (kq ≤ k) ∧ Aside0 (Kd.R (Kd.int .u8) 5 w' w0.heap.size (fun k_ => (P0_ k_ ∨ w.heap.size ≤ k_)) v0 x0_1) ∧ Aside0 (Kept w w' (fun k_ => P0_ k_)) ∧ Aside0 (Below w0.heap.size w0 w'))
  case atStart => exact ⟨(l0), (wrap64 (a1 - 1)), (by first | rfl | (simp; done) | (simp [*]; done) | exact congrArg Value.bool (ne_empty _) | exact congrArg Value.bool (eq_empty _)), H', ⟨Nat.le_refl _⟩, ⟨by (with_reducible repeat (first | apply Kd.R_alloc | apply Kd.R_drewN | apply Kd.R_drew)); exact HO0.out⟩, ⟨by repeat (first | (with_reducible first | exact HK.out | apply Kept.alloc | apply Kept.drewN | apply Kept.drew) | exact HK.out)⟩, ⟨by repeat (first | (with_reducible first | exact HB.out | apply below_alloc | apply pw_below_drewN | apply below_drew1) | exact HB.out)⟩⟩
  case round =>
    clear H'
    try clear p2
    try clear c3
    obtain ⟨x0_1, x7_1, rfl, HA, HK1, HO_0, HK, HB⟩ := hrel
    cases gk with
    | zero => exact absurd HA.out (by first | (intro h_; exact nomatch (show (none : Option _) = some r from h_)) | simp [bollardref1_Lay.l0])
    | succ k1 =>
      have H := HA.out
      clear HA
      simp only [bollardref1_Lay.l0] at H
      by_cases c4 : x7_1 ≥ 0
      · rw [if_pos c4] at H
        have c4b0 : decide (0 ≤ x7_1) = true := decide_eq_true c4
        clear c4
        obtain ⟨ji5, hji5⟩ : ∃ j_ : Int, (wrap64 (8 * x7_1)) = j_ := ⟨_, rfl⟩
        replace H : (if 0 ≤ (ji5) then (if x0_1.length < 140737488355328 then (bollardref1_Lay.l0 k1 (x0_1 ++ [(shr .u64 a2 (ji5)) % 256]) a2 (wrap64 (x7_1 - 1))) else (none)) else (none)) = some r := by first | (rw [hji5] at H; exact H) | (simp only [hji5] at H ⊢; exact H)
        have hji5w : (IntKind.i64.wrap (8 * x7_1)) = ji5 := (i64_w _).trans hji5
        by_cases c6 : 0 ≤ (ji5)
        · rw [if_pos c6] at H
          have c6b0 := eq_true c6
          have c6b1 : decide (0 ≤ (ji5)) = true := decide_eq_true c6
          clear c6
          obtain ⟨ji7, hji7⟩ : ∃ j_ : Int, (shr .u64 a2 (ji5)) = j_ := ⟨_, rfl⟩
          replace H : (if x0_1.length < 140737488355328 then (bollardref1_Lay.l0 k1 (x0_1 ++ [(ji7) % 256]) a2 (wrap64 (x7_1 - 1))) else (none)) = some r := by first | (rw [hji7] at H; exact H) | (simp only [hji7] at H ⊢; exact H)
          have hji7_ : (a2 / 2 ^ min (ji5).toNat 64) = ji7 := hji7
          have hji7z : (ji5) ≤ 64 → (a2 / 2 ^ (ji5).toNat) = ji7 := shr_small hji7
          by_cases c8 : x0_1.length < 140737488355328
          · rw [if_pos c8] at H
            have LMc8 := Aside0.mk c8
            clear c8
            obtain ⟨y183, hy183⟩ : ∃ y_ : List Int, y_ = (x0_1 ++ [(ji7) % 256]) := ⟨_, rfl⟩
            replace H : (bollardref1_Lay.l0 k1 y183 a2 (wrap64 (x7_1 - 1))) = some r := by first | (rw [hy183]; with_reducible exact H) | (have H2_ := (Option.bind_some _ _).symm.trans H; rw [hy183]; with_reducible exact H2_) | (have H2_ := (Option.bind_some _ _).symm.trans H; with_reducible exact H2_) | with_reducible exact H | (rw [hy183]; exact H) | exact H
            have Ny183 := Aside0.mk hy183
            clear hy183
            have H' := Aside0.mk H
            clear H
            go_wp2_with (first | ((with_reducible refine gate_builtin (b := .append) (xs := #[.tmp 14, .tmp 20]) rfl ?_); at_builtin; refine Kd.R_append (Kd.int .u8) (w0 := w0) w0.heap.size rfl (.tmp 14) (.tmp 20) 29 5 (.int .u8 0) 1 rfl Try.underlying29 info5 rfl (by decide) (by omega) u0 x0_1 ((ji7) % 256) [.int .u8 ((ji7) % 256)] (fun k_ => (P0_ k_ ∨ w.heap.size ≤ k_)) (fun _ => False) rfl rfl ?aP (fun _ hk => hk.elim) ?aF ?aO ?aB ?aS ?aL ?_; (case aP => exact rfl); (case aB => exact (by repeat (first | (with_reducible first | exact HB.out | apply below_alloc | apply pw_below_drewN | apply below_drew1) | exact HB.out))); (case aF => exact (fun k_ hk => (.inr (Nat.le_trans (by first | exact HK.out.1 | exact (show Kept w _ (fun k_ => P0_ k_) from by repeat (first | (with_reducible first | exact HK.out | apply Kept.alloc | apply Kept.drewN | apply Kept.drew) | exact HK.out)).1) hk)))); (case aO => exact (by (with_reducible repeat (first | apply Kd.R_alloc | apply Kd.R_drewN | apply Kd.R_drew)); exact HO_0.out)); (case aS => exact (below_size (by repeat (first | (with_reducible first | exact HB.out | apply below_alloc | apply pw_below_drewN | apply below_drew1) | exact HB.out)))); (case aL => have := LMc8.out; omega); intro v184 w9 ho hb hg hat; rw [← Ny183.out] at ho; have n0_ := Aside0.mk (hb); have n1_ := Aside0.mk (Kept.of_grown (S := (fun k_ => P0_ k_)) hg (by repeat (first | (with_reducible first | exact HK.out | apply Kept.alloc | apply Kept.drewN | apply Kept.drew) | exact HK.out)) (fun k_ e_ => (HO_0.out.1 k_ e_))); have n2_ := Aside0.mk (ho); clear HB; clear HK; clear HO_0; have HB := n0_; have HK := n1_; have HO185 := n2_; clear n0_ n1_ n2_; clear ho hb hg hat))
            go_roundg k1
            case measure => have := HK1.out; omega
            case rel => exact ⟨(y183), (wrap64 (x7_1 - 1)), (by first | rfl | (simp; done) | (simp [*]; done) | exact congrArg Value.bool (ne_empty _) | exact congrArg Value.bool (eq_empty _)), H', ⟨by have := HK1.out; omega⟩, ⟨by (with_reducible repeat (first | apply Kd.R_alloc | apply Kd.R_drewN | apply Kd.R_drew)); exact HO185.out⟩, ⟨by repeat (first | (with_reducible first | exact HK.out | apply Kept.alloc | apply Kept.drewN | apply Kept.drew) | exact HK.out)⟩, ⟨by repeat (first | (with_reducible first | exact HB.out | apply below_alloc | apply pw_below_drewN | apply below_drew1) | exact HB.out)⟩⟩
          · rw [if_neg c8] at H
            exact absurd H (by simp)
        · rw [if_neg c6] at H
          exact absurd H (by simp)
      · rw [if_neg c4] at H
        have c4b0 : decide (0 ≤ x7_1) = false := decide_eq_false c4
        clear c4
        obtain rfl := Option.some.inj H
        go_wp2
        go_ret
        exact ⟨_, by first | rfl | (simp [errW_none, errW_some] <;> rfl) | (simp [*, errW_none, errW_some] <;> rfl), by (with_reducible repeat (first | apply Kd.R_alloc | apply Kd.R_drewN | apply Kd.R_drew)); exact HO_0.out, by repeat (first | (with_reducible first | exact HB.out | apply below_alloc | apply pw_below_drewN | apply below_drew1) | exact HB.out), by repeat (first | (with_reducible first | exact HK.out | apply Kept.alloc | apply Kept.drewN | apply Kept.drew) | exact HK.out)⟩

-- NOT PRINTED: function 60 (bollardref20_Pen_short)

-- NOT PRINTED: function 58 (bollardref20_Pen_text)

-- NOT PRINTED: function 59 (bollardref20_Pen_records)

/-! ### bollardref12_odd -/
def oddB (hk : Bool) (key : ByteArray) (hv : Bool) (val : ByteArray) (t o : Int) : Bool := (!hk && !key.toList.isEmpty) || ((!hv && !val.toList.isEmpty) || (decide (t < 0) || (decide (1125899906842624 < t) || (decide (o < 0) || decide (99 < o)))))
def bollardref12_odd.f (hk : Bool) (key : ByteArray) (hv : Bool) (val : ByteArray) (t o : Int) : Option Bool := some (oddB hk key hv val t o)
set_option maxHeartbeats 4000000 in
set_option maxRecDepth 100000 in
theorem bollardref12_odd.calls (hk : Bool) (key : ByteArray) (hv : Bool) (val : ByteArray) (t o : Int) (r : Bool) (w : World) (h : bollardref12_odd.f hk key hv val t o = some r) : Calls Try.prog 103 #[.agg #[.bool hk, .string key, .bool hv, .string val, .int .i64 t, .int .i64 o]] w fun e w' => e = .returned (.bool r) ∧ Below w.heap.size w w' := by
  obtain rfl := Option.some.inj h
  clear h
  go_enter Try.func103, Try.ntmps103
  go_wp2
  all_goals
    go_ret
    exact ⟨congrArg (fun b => Ending.returned (.bool b)) (by unfold oddB; first | (simp [*]; done) | (simp [*, Bool.or_assoc]; done)), below_alloc (Below.refl _ _) _⟩
/-! ### bollardref12_Check -/
def chkC (hk : Bool) (key : ByteArray) (hv : Bool) (val : ByteArray) (t o : Int) : Int := if oddB hk key hv val t o = true then 1 else if 2000 < (key.size : Int) ∨ 2000 < (val.size : Int) then 2 else 0
def bollardref12_Check.f (hk : Bool) (key : ByteArray) (hv : Bool) (val : ByteArray) (t o : Int) : Option Int := some (chkC hk key hv val t o)
set_option maxHeartbeats 4000000 in
set_option maxRecDepth 100000 in
theorem bollardref12_Check.calls (hk : Bool) (key : ByteArray) (hv : Bool) (val : ByteArray) (t o : Int) (r : Int) (w : World) (h : bollardref12_Check.f hk key hv val t o = some r) : Calls Try.prog 87 #[.agg #[.bool hk, .string key, .bool hv, .string val, .int .i64 t, .int .i64 o]] w fun e w' => e = .returned (.int .i64 r) ∧ Below w.heap.size w w' := by
  obtain rfl := Option.some.inj h
  clear h
  obtain ⟨b, hb_⟩ : ∃ b, b = oddB hk key hv val t o := ⟨_, rfl⟩
  have HB_ := Aside0.mk hb_
  clear hb_
  go_enter Try.func87, Try.ntmps87
  go_wp2_with fail
  refine (bollardref12_odd.calls hk key hv val t o b _ (congrArg some HB_.out.symm)).mono ?_
  rintro e w1 ⟨rfl, hb⟩
  have E1 := Aside0.mk (And.intro (below_step (below_alloc (Below.refl w.heap.size w) (.cells #[.bool hk, .string key, .bool hv, .string val, .int .i64 t, .int .i64 o] 98)) hb) (blk_below (heap_alloc_new w (.cells #[.bool hk, .string key, .bool hv, .string val, .int .i64 t, .int .i64 o] 98)) hb))
  clear hb
  have y1 : w1.cell? ⟨w.heap.size, 1, none⟩ = some (.string key) := (blk_cell E1.out.2 1).trans rfl
  have y3 : w1.cell? ⟨w.heap.size, 3, none⟩ = some (.string val) := (blk_cell E1.out.2 3).trans rfl
  cases b with
  | true =>
    go_wp2
    go_ret
    exact ⟨congrArg (fun b => Ending.returned (.int .i64 b)) (by unfold chkC; rw [← HB_.out, if_pos rfl]), E1.out.1⟩
  | false =>
    by_cases c1 : 2000 < (key.size : Int)
    · have f1 : decide (2000 < (key.size : Int)) = true := decide_eq_true c1
      go_wp2
      go_ret
      exact ⟨congrArg (fun b => Ending.returned (.int .i64 b)) (by unfold chkC; rw [← HB_.out, if_neg (by simp), if_pos (.inl c1)]), E1.out.1⟩
    · have f1 : decide (2000 < (key.size : Int)) = false := decide_eq_false c1
      by_cases c2 : 2000 < (val.size : Int)
      · have f2 : decide (2000 < (val.size : Int)) = true := decide_eq_true c2
        go_wp2
        go_ret
        exact ⟨congrArg (fun b => Ending.returned (.int .i64 b)) (by unfold chkC; rw [← HB_.out, if_neg (by simp), if_pos (.inr c2)]), E1.out.1⟩
      · have f2 : decide (2000 < (val.size : Int)) = false := decide_eq_false c2
        go_wp2
        go_ret
        exact ⟨congrArg (fun b => Ending.returned (.int .i64 b)) (by unfold chkC; rw [← HB_.out, if_neg (by simp), if_neg (by omega)]), E1.out.1⟩


/-! ### bollardref1_Varint: function 104 -/
def bollardref1_Varint.l0 : Nat → Int → List Int → Option (List Int)
  | 0, _, _ => none
  | k + 1, x0, x3 => if x0 ≥ 128 then (if x3.length < 140737488355328 then (bollardref1_Varint.l0 k (x0 / 128) (x3 ++ [(Go.bits .or .u64 (Go.bits .and .u64 x0 127) 128) % 256])) else (none)) else (if x3.length < 140737488355328 then (some (x3 ++ [(x0) % 256])) else (none))
def bollardref1_Varint.f (k : Nat) (a0 : Int) : Option (List Int) := bollardref1_Varint.l0 k a0 ([] : List Int)
set_option maxRecDepth 100000 in
theorem bollardref1_Varint.mono_l : ∀ k, (∀ y0 y1, LeO (bollardref1_Varint.l0 k y0 y1) (bollardref1_Varint.l0 (k + 1) y0 y1))
  | 0 => fun _ _ r h => by first | exact nomatch (show (none : Option _) = some r from h) | (rw [bollardref1_Varint.l0] at h; cases h; done) | (simp [bollardref1_Varint.l0] at h; done)
  | k + 1 => by
    have ih0 := bollardref1_Varint.mono_l k
    · intro y0 y1
      unfold bollardref1_Varint.l0
      repeat' first
      | (with_reducible exact ih0 _ _)
      | (with_reducible exact LeO.refl _)
      | (with_reducible exact LeO.none _)
      | (with_reducible refine LeO.ite ?_ ?_)
      | (with_reducible refine LeO.bind ?_ (fun _ => ?_))
      | exact ih0 _ _
      | exact LeO.none _
      | refine LeO.ite ?_ ?_
      | refine LeO.bind ?_ (fun _ => ?_)
theorem bollardref1_Varint.mono : ∀ a0 k, LeO (bollardref1_Varint.f k a0) (bollardref1_Varint.f (k + 1) a0) := by
  intro a0 k
  have ih0 := bollardref1_Varint.mono_l k
  unfold bollardref1_Varint.f
  repeat' first
      | (with_reducible exact ih0 _ _)
      | (with_reducible exact LeO.refl _)
      | (with_reducible exact LeO.none _)
      | (with_reducible refine LeO.ite ?_ ?_)
      | (with_reducible refine LeO.bind ?_ (fun _ => ?_))
      | exact ih0 _ _
      | exact LeO.none _
      | refine LeO.ite ?_ ?_
      | refine LeO.bind ?_ (fun _ => ?_)
set_option maxHeartbeats 8000000 in
set_option maxRecDepth 100000 in
theorem bollardref1_Varint.calls (k : Nat) (a0 : Int) (r : List Int) (w : World) (h : bollardref1_Varint.f k a0 = some r) :
    Calls Try.prog 104 #[.int .u64 a0] w fun e w' => ∃ v0_ : Value, e = .returned (v0_) ∧ Kd.R (Kd.int .u8) 5 w' w.heap.size (fun _ => True) v0_ r ∧ Below w.heap.size w w' := by
  have HB := Aside0.mk (Below.refl w.heap.size w)
  have H : (bollardref1_Varint.l0 k a0 ([] : List Int)) = some r := h
  clear h
  have H' := Aside0.mk H
  clear H
  go_enter Try.func104, Try.ntmps104
  go_wp2
  go_loopg [0, 3] k (fun kq v0 v3 w' => ∃ (x0_1 : Int) (x3_1 : List Int), v0 = .int .u64 x0_1 ∧ Aside0 (bollardref1_Varint.l0 kq x0_1 x3_1 = some r) ∧ Aside0 (kq ≤ k) ∧ Aside0 (Kd.R (Kd.int .u8) 5 w' w.heap.size (fun _ => True) v3 x3_1) ∧ Aside0 (Below w.heap.size w w'))
  case atStart => exact ⟨(a0), (([] : List Int)), (by first | rfl | (simp; done) | (simp [*]; done) | exact congrArg Value.bool (ne_empty _) | exact congrArg Value.bool (eq_empty _)), H', ⟨Nat.le_refl _⟩, ⟨by first | exact Kd.R_nil _ _ _ _ _ | exact Kd.N_nil _ _ _ _ _ | exact Kd.V_nil _ _ _ _ _ | exact Kd.Q_nil _ _ _ _ _ | exact Kd.S_nil _ _ _ _ _⟩, ⟨by repeat (first | (with_reducible first | exact HB.out | apply below_alloc | apply pw_below_drewN | apply below_drew1) | exact HB.out)⟩⟩
  case round =>
    clear H'
    try clear c1
    obtain ⟨x0_1, x3_1, rfl, HA, HK1, HO_3, HB⟩ := hrel
    cases gk with
    | zero => exact absurd HA.out (by first | (intro h_; exact nomatch (show (none : Option _) = some r from h_)) | simp [bollardref1_Varint.l0])
    | succ k1 =>
      have H := HA.out
      clear HA
      simp only [bollardref1_Varint.l0] at H
      by_cases c2 : x0_1 ≥ 128
      · rw [if_pos c2] at H
        have c2b0 : decide (128 ≤ x0_1) = true := decide_eq_true c2
        clear c2
        by_cases c3 : x3_1.length < 140737488355328
        · rw [if_pos c3] at H
          have LMc3 := Aside0.mk c3
          clear c3
          obtain ⟨y186, hy186⟩ : ∃ y_ : List Int, y_ = (x3_1 ++ [(Go.bits .or .u64 (Go.bits .and .u64 x0_1 127) 128) % 256]) := ⟨_, rfl⟩
          replace H : (bollardref1_Varint.l0 k1 (x0_1 / 128) y186) = some r := by first | (rw [hy186]; with_reducible exact H) | (have H2_ := (Option.bind_some _ _).symm.trans H; rw [hy186]; with_reducible exact H2_) | (have H2_ := (Option.bind_some _ _).symm.trans H; with_reducible exact H2_) | with_reducible exact H | (rw [hy186]; exact H) | exact H
          have Ny186 := Aside0.mk hy186
          clear hy186
          have H' := Aside0.mk H
          clear H
          go_wp2_with (first | ((with_reducible refine gate_builtin (b := .append) (xs := #[.tmp 6, .tmp 11]) rfl ?_); at_builtin; refine Kd.R_append (Kd.int .u8) (w0 := w) w.heap.size rfl (.tmp 6) (.tmp 11) 29 5 (.int .u8 0) 1 rfl Try.underlying29 info5 rfl (by decide) (by omega) u3 x3_1 ((Go.bits .or .u64 (Go.bits .and .u64 x0_1 127) 128) % 256) [.int .u8 ((Go.bits .or .u64 (Go.bits .and .u64 x0_1 127) 128) % 256)] (fun _ => True) (fun _ => False) rfl rfl ?aP (fun _ hk => hk.elim) ?aF ?aO ?aB ?aS ?aL ?_; (case aP => exact rfl); (case aB => exact (by repeat (first | (with_reducible first | exact HB.out | apply below_alloc | apply pw_below_drewN | apply below_drew1) | exact HB.out))); (case aF => exact (fun _ _ => trivial)); (case aO => exact (by (with_reducible repeat (first | apply Kd.R_alloc | apply Kd.R_drewN | apply Kd.R_drew)); exact HO_3.out)); (case aS => exact (below_size (by repeat (first | (with_reducible first | exact HB.out | apply below_alloc | apply pw_below_drewN | apply below_drew1) | exact HB.out)))); (case aL => have := LMc3.out; omega); intro v187 w4 ho hb hg hat; rw [← Ny186.out] at ho; have n0_ := Aside0.mk (hb); have n1_ := Aside0.mk (ho); clear HB; clear HO_3; have HB := n0_; have HO188 := n1_; clear n0_ n1_; clear ho hb hg hat))
          go_roundg k1
          case measure => have := HK1.out; omega
          case rel => exact ⟨(x0_1 / 128), (y186), (by first | rfl | (simp; done) | (simp [*]; done) | exact congrArg Value.bool (ne_empty _) | exact congrArg Value.bool (eq_empty _)), H', ⟨by have := HK1.out; omega⟩, ⟨by (with_reducible repeat (first | apply Kd.R_alloc | apply Kd.R_drewN | apply Kd.R_drew)); exact HO188.out⟩, ⟨by repeat (first | (with_reducible first | exact HB.out | apply below_alloc | apply pw_below_drewN | apply below_drew1) | exact HB.out)⟩⟩
        · rw [if_neg c3] at H
          exact absurd H (by simp)
      · rw [if_neg c2] at H
        have c2b0 : decide (128 ≤ x0_1) = false := decide_eq_false c2
        clear c2
        by_cases c5 : x3_1.length < 140737488355328
        · rw [if_pos c5] at H
          have LMc5 := Aside0.mk c5
          clear c5
          obtain ⟨y189, hy189⟩ : ∃ y_ : List Int, y_ = (x3_1 ++ [(x0_1) % 256]) := ⟨_, rfl⟩
          replace H : (some y189) = some r := by first | (rw [hy189]; with_reducible exact H) | (have H2_ := (Option.bind_some _ _).symm.trans H; rw [hy189]; with_reducible exact H2_) | (have H2_ := (Option.bind_some _ _).symm.trans H; with_reducible exact H2_) | with_reducible exact H | (rw [hy189]; exact H) | exact H
          have Ny189 := Aside0.mk hy189
          clear hy189
          obtain rfl := Option.some.inj H
          go_wp2_with (first | ((with_reducible refine gate_builtin (b := .append) (xs := #[.tmp 15, .tmp 18]) rfl ?_); at_builtin; refine Kd.R_append (Kd.int .u8) (w0 := w) w.heap.size rfl (.tmp 15) (.tmp 18) 29 5 (.int .u8 0) 1 rfl Try.underlying29 info5 rfl (by decide) (by omega) u3 x3_1 ((x0_1) % 256) [.int .u8 ((x0_1) % 256)] (fun _ => True) (fun _ => False) rfl rfl ?aP (fun _ hk => hk.elim) ?aF ?aO ?aB ?aS ?aL ?_; (case aP => exact rfl); (case aB => exact (by repeat (first | (with_reducible first | exact HB.out | apply below_alloc | apply pw_below_drewN | apply below_drew1) | exact HB.out))); (case aF => exact (fun _ _ => trivial)); (case aO => exact (by (with_reducible repeat (first | apply Kd.R_alloc | apply Kd.R_drewN | apply Kd.R_drew)); exact HO_3.out)); (case aS => exact (below_size (by repeat (first | (with_reducible first | exact HB.out | apply below_alloc | apply pw_below_drewN | apply below_drew1) | exact HB.out)))); (case aL => have := LMc5.out; omega); intro v190 w6 ho hb hg hat; rw [← Ny189.out] at ho; have n0_ := Aside0.mk (hb); have n1_ := Aside0.mk (ho); clear HB; clear HO_3; have HB := n0_; have HO191 := n1_; clear n0_ n1_; clear ho hb hg hat))
          go_ret
          exact ⟨_, by first | rfl | (simp [errW_none, errW_some] <;> rfl) | (simp [*, errW_none, errW_some] <;> rfl), by (with_reducible repeat (first | apply Kd.R_alloc | apply Kd.R_drewN | apply Kd.R_drew)); exact HO191.out, by repeat (first | (with_reducible first | exact HB.out | apply below_alloc | apply pw_below_drewN | apply below_drew1) | exact HB.out)⟩
        · rw [if_neg c5] at H
          exact absurd H (by simp)

/-! ### bollardref1_Zig: function 105 -/
def bollardref1_Zig.f (a0 : Int) : Option (Int) := some (Go.bits .xor .u64 (IntKind.u64.wrap ((IntKind.u64.wrap (a0)) * 2)) (IntKind.u64.wrap (a0 / 9223372036854775808)))
set_option maxHeartbeats 8000000 in
set_option maxRecDepth 100000 in
theorem bollardref1_Zig.calls (a0 : Int) (r : Int) (w : World) (h : bollardref1_Zig.f a0 = some r) :
    Calls Try.prog 105 #[.int .i64 a0] w fun e w' => e = .returned (.int .u64 r) ∧ Drawn0 w w' := by
  have H : (some (Go.bits .xor .u64 (IntKind.u64.wrap ((IntKind.u64.wrap (a0)) * 2)) (IntKind.u64.wrap (a0 / 9223372036854775808)))) = some r := h
  clear h
  obtain rfl := Option.some.inj H
  go_enter Try.func105, Try.ntmps105
  go_wp2
  go_ret
  exact ⟨by first | rfl | (simp; done) | (simp [*]; done) | exact congrArg Value.bool (ne_empty _) | exact congrArg Value.bool (eq_empty _), by repeat (first | exact Drawn0.refl _ | apply Drawn0.step)⟩

end Go.Proofs.Ytncfofnikmfjbaa.PCi

-- written by a program of this session (wip/tools/pr.py, over the kit's printer): not by hand
namespace Go.Proofs.Ytncfofnikmfjbaa.PCi
open Go.RowKit Go.Proofs.YtncfofnikmfjbaaW.PrintWords Go.Proofs.YtncfofnikmfjbaaW.PrintLast Go.Proofs.YtncfofnikmfjbaaW.PrintMore
attribute [local go_sem] max2_int min2_int max_two min_two max_three min_three max_four min_four   -- for this text's walks alone
set_option linter.unusedVariables false
set_option linter.unusedSimpArgs false

/-! ### bollardref12_Encode -/
def encTx (k : Nat) (is : Bool) (s : ByteArray) : Option (List Int) := if is = true then (bollardref1_Varint.f k (s.size : Int)).bind fun v => if v.length ≤ 100 then some (v ++ bytesOf s) else none else some []
def flC (hk hv : Bool) : Int := (if hk = true then 1 else 0) + (if hv = true then 2 else 0)
def bollardref12_Encode.f (k : Nat) (hk : Bool) (key : ByteArray) (hv : Bool) (val : ByteArray) (t o : Int) (first : Int) : Option (List Int × Int) := (bollardref12_Check.f hk key hv val t o).bind fun c => if c = 0 then (if first < 0 then some ([], 1) else if 1125899906842624 < first then some ([], 1) else if key.size ≤ 2000 ∧ val.size ≤ 2000 ∧ 0 ≤ o ∧ o ≤ 1000 then (bollardref1_Varint.f k o).bind fun v1 => (bollardref1_Zig.f (wrap64 (t - first))).bind fun z => (bollardref1_Varint.f k z).bind fun v2 => if v1.length ≤ 100 ∧ v2.length ≤ 100 then (encTx k hk key).bind fun a => (encTx k hv val).bind fun b => some (flC hk hv :: (v1 ++ (v2 ++ (a ++ b))), 0) else none else none) else some ([], c)
theorem encTx.mono (k : Nat) (is : Bool) (s : ByteArray) : LeO (encTx k is s) (encTx (k + 1) is s) := by
  unfold encTx
  exact LeO.ite (LeO.bind (bollardref1_Varint.mono _ _) (fun _ => LeO.refl _)) (LeO.refl _)
theorem bollardref12_Encode.mono : ∀ a0 a1 a2 a3 a4 a5 a6 k, LeO (bollardref12_Encode.f k a0 a1 a2 a3 a4 a5 a6) (bollardref12_Encode.f (k + 1) a0 a1 a2 a3 a4 a5 a6) := by
  intro hk key hv val t o first k
  unfold bollardref12_Encode.f
  repeat' first | (with_reducible exact LeO.refl _) | (with_reducible exact encTx.mono _ _ _) | (with_reducible exact bollardref1_Varint.mono _ _) | (with_reducible refine LeO.ite ?_ ?_) | (with_reducible refine LeO.bind ?_ (fun _ => ?_))
theorem encTx_len {k : Nat} {is : Bool} {s : ByteArray} {r : List Int} (hs : s.size ≤ 2000) (h : encTx k is s = some r) : r.length ≤ 2100 := by
  unfold encTx at h
  split at h
  · obtain ⟨v, _, h⟩ := Option.bind_eq_some_iff.mp h
    split at h
    · obtain rfl := Option.some.inj h
      rw [List.length_append, bytesOf_length]
      omega
    · cases h
  · obtain rfl := Option.some.inj h
    simp
def EnSt (w W : World) (hk : Bool) (key : ByteArray) (hv : Bool) (val : ByteArray) (t o : Int) : Prop := Below w.heap.size w W ∧ W.heap[w.heap.size]? = some (.cells #[.bool hk, .string key, .bool hv, .string val, .int .i64 t, .int .i64 o] 98 (0, 0))
section
variable {w W W2 : World} {hk : Bool} {key : ByteArray} {hv : Bool} {val : ByteArray} {t o : Int}
theorem EnSt.below (h : EnSt w W hk key hv val t o) (hb : Below W.heap.size W W2) : EnSt w W2 hk key hv val t o := ⟨below_step h.1 hb, blk_below h.2 hb⟩
theorem EnSt.grown (h : EnSt w W hk key hv val t o) (hb : Below w.heap.size w W2) {row : Option Nat} (hg : W.grownBy W2 row) (hne : some w.heap.size ≠ row) : EnSt w W2 hk key hv val t o := ⟨hb, blk_grown h.2 hg hne⟩
theorem EnSt.c (h : EnSt w W hk key hv val t o) : W.cell? ⟨w.heap.size, 0, none⟩ = some (.bool hk) ∧ W.cell? ⟨w.heap.size, 1, none⟩ = some (.string key) ∧ W.cell? ⟨w.heap.size, 2, none⟩ = some (.bool hv) ∧ W.cell? ⟨w.heap.size, 3, none⟩ = some (.string val) ∧ W.cell? ⟨w.heap.size, 4, none⟩ = some (.int .i64 t) ∧ W.cell? ⟨w.heap.size, 5, none⟩ = some (.int .i64 o) :=
  ⟨(blk_cell h.2 0).trans rfl, (blk_cell h.2 1).trans rfl, (blk_cell h.2 2).trans rfl, (blk_cell h.2 3).trans rfl, (blk_cell h.2 4).trans rfl, (blk_cell h.2 5).trans rfl⟩
end
set_option maxHeartbeats 4000000 in
set_option maxRecDepth 100000 in
theorem bollardref12_Encode.calls (k : Nat) (hk : Bool) (key : ByteArray) (hv : Bool) (val : ByteArray) (t o : Int) (first : Int) (r1 : List Int) (r2 : Int) (w : World) (h : bollardref12_Encode.f k hk key hv val t o first = some (r1, r2)) :
    Calls Try.prog 88 #[.agg #[.bool hk, .string key, .bool hv, .string val, .int .i64 t, .int .i64 o], .int .i64 first] w fun e w' => ∃ v0_ : Value, e = .returned (.tuple #[v0_, .int .i64 r2]) ∧ Kd.R (Kd.int .u8) 5 w' w.heap.size (fun _ => True) v0_ r1 ∧ Below w.heap.size w w' := by
  unfold bollardref12_Encode.f at h
  obtain ⟨c, hc, h⟩ := Option.bind_eq_some_iff.mp h
  have HC := Aside0.mk hc
  have HH := Aside0.mk h
  clear hc h
  go_enter Try.func88, Try.ntmps88
  go_wp2_with fail
  refine (bollardref12_Check.calls hk key hv val t o c _ HC.out).mono ?_
  rintro e w1 ⟨rfl, hb⟩
  have E1 := Aside0.mk (show EnSt w w1 hk key hv val t o from ⟨below_step (below_alloc (Below.refl w.heap.size w) (.cells #[.bool hk, .string key, .bool hv, .string val, .int .i64 t, .int .i64 o] 98)) hb, blk_below (heap_alloc_new w (.cells #[.bool hk, .string key, .bool hv, .string val, .int .i64 t, .int .i64 o] 98)) hb⟩)
  clear hb
  by_cases c0 : c = 0
  case neg =>
    have H := HH.out
    rw [if_neg c0] at H
    simp only [Option.some.injEq, Prod.mk.injEq] at H
    obtain ⟨rfl, rfl⟩ := H
    have f0 : (c != 0) = true := bne_iff_ne.mpr c0
    go_wp2
    go_ret2
    exact ⟨_, rfl, Kd.R_nil _ _ _ _ _, E1.out.1⟩
  have f0 : (c != 0) = false := bne_eq_false_iff_eq.mpr c0
  have H := HH.out
  rw [if_pos c0] at H
  by_cases c1 : first < 0
  · rw [if_pos c1] at H
    simp only [Option.some.injEq, Prod.mk.injEq] at H
    obtain ⟨rfl, rfl⟩ := H
    have f1 : decide (first < 0) = true := decide_eq_true c1
    go_wp2
    go_ret2
    exact ⟨_, rfl, Kd.R_nil _ _ _ _ _, E1.out.1⟩
  rw [if_neg c1] at H
  have f1 : decide (first < 0) = false := decide_eq_false c1
  by_cases c2 : 1125899906842624 < first
  · rw [if_pos c2] at H
    simp only [Option.some.injEq, Prod.mk.injEq] at H
    obtain ⟨rfl, rfl⟩ := H
    have f2 : decide (1125899906842624 < first) = true := decide_eq_true c2
    go_wp2
    go_ret2
    exact ⟨_, rfl, Kd.R_nil _ _ _ _ _, E1.out.1⟩
  rw [if_neg c2] at H
  have f2 : decide (1125899906842624 < first) = false := decide_eq_false c2
  by_cases c3 : key.size ≤ 2000 ∧ val.size ≤ 2000 ∧ 0 ≤ o ∧ o ≤ 1000
  case neg => rw [if_neg c3] at H; cases H
  rw [if_pos c3] at H
  obtain ⟨kz, vz, o0, o1⟩ := c3
  obtain ⟨v1, A1_, H⟩ := Option.bind_eq_some_iff.mp H
  obtain ⟨z, A2_, H⟩ := Option.bind_eq_some_iff.mp H
  obtain ⟨v2, A3_, H⟩ := Option.bind_eq_some_iff.mp H
  by_cases c4 : v1.length ≤ 100 ∧ v2.length ≤ 100
  case neg => rw [if_neg c4] at H; cases H
  rw [if_pos c4] at H
  obtain ⟨ta, A4_, H⟩ := Option.bind_eq_some_iff.mp H
  obtain ⟨tb, A5_, H⟩ := Option.bind_eq_some_iff.mp H
  simp only [Option.some.injEq, Prod.mk.injEq] at H
  obtain ⟨rfl, rfl⟩ := H
  have A1 := Aside0.mk A1_
  have A2 := Aside0.mk A2_
  have A3 := Aside0.mk A3_
  have A4 := Aside0.mk A4_
  have A5 := Aside0.mk A5_
  have L4 := Aside0.mk c4
  have KZ := Aside0.mk (And.intro kz vz)
  clear A1_ A2_ A3_ A4_ A5_ c4 HH HC c1 c2 kz vz c0
  obtain ⟨y0, y1, y2, y3, y4, y5⟩ := E1.out.c
  go_upto_if 21 with (fail)
  (try simp only [Act.put, List.setIfInBounds_toArray, List.set_cons_zero, List.set_cons_succ])
  go_cut [7] (fun v7 wc => v7 = .int .u8 (if hk = true then 1 else 0) ∧ Aside0 (EnSt w wc hk key hv val t o))
  case first =>
    cases hk
    all_goals
      go_wp2
      go_meet
      case rel => exact ⟨rfl, E1⟩
  clear E1 y0 y1 y2 y3 y4 y5
  obtain ⟨rfl, E1⟩ := hcut
  obtain ⟨y0, y1, y2, y3, y4, y5⟩ := E1.out.c
  go_upto_if 23 with (fail)
  (try simp only [Act.put, List.setIfInBounds_toArray, List.set_cons_zero, List.set_cons_succ])
  go_cut [7] (fun v7 wc => v7 = .int .u8 (flC hk hv) ∧ Aside0 (EnSt w wc hk key hv val t o))
  case first =>
    cases hk <;> cases hv
    all_goals
      go_wp2
      go_meet
      case rel => exact ⟨rfl, E1⟩
  clear E1 y0 y1 y2 y3 y4 y5
  obtain ⟨rfl, E1⟩ := hcut
  obtain ⟨y0, y1, y2, y3, y4, y5⟩ := E1.out.c
  obtain ⟨fl, hfl⟩ : ∃ fl, fl = flC hk hv := ⟨_, rfl⟩
  rw [← hfl]
  have FL := Aside0.mk hfl
  clear hfl
  go_wp2_with ((with_reducible refine gate_dst (N := 27) rfl ?_); refine Kd.R_lit (Kd.int .u8) _ 5 ?hg (N := 27) ?hd (xs := ([fl] : List Int)) (inner := [.int .u8 fl]) (ok := fun _ => True) (okp := fun _ => True) ?hr ?hp (fun _ hk => hk) trivial (Below.refl _ _) (Nat.le_refl _) (by simp) ?_; (case hd => rfl); (case hg => rfl); (case hr => first | (go_simp; done) | (go_simp; rfl)); (case hp => exact (Reps.one (show Kd.M (Kd.int .u8) _ _ _ fl [.int .u8 fl] from rfl) (Reps.none _ _))); intro x2 w2 ho hb hg_ hnew_; have E2 := Aside0.mk (E1.out.below hb); have O2 := Aside0.mk (Kd.R_lower ho E1.out.1.size); clear y0 y1 y2 y3 y4 y5; clear E1; obtain ⟨y0, y1, y2, y3, y4, y5⟩ := E2.out.c; clear ho hb hg_ hnew_)
  refine (bollardref1_Varint.calls k o v1 _ A1.out).mono ?_
  rintro e w3 ⟨va, rfl, ho, hb⟩
  have E3 := Aside0.mk (E2.out.below hb)
  have O3 := Aside0.mk (Kd.R_below O2.out hb)
  obtain ⟨Aa, ca, ea⟩ := Kd.R_slice ho
  subst ea
  have RA := Aside0.mk (Kd.R_reads' ho).2.2
  clear y0 y1 y2 y3 y4 y5
  clear E2 O2 ho hb
  obtain ⟨y0, y1, y2, y3, y4, y5⟩ := E3.out.c
  go_wp2_with (at_builtin; refine Kd.R_append_rows (Kd.int .u8) (w0 := w) w.heap.size rfl (.tmp 27) (.tmp 31) 29 5 (.int .u8 0) 1 rfl Try.underlying29 info5 rfl (by decide) (by decide) x2 [fl] v1 Aa v1.length ca (fun _ => True) (fun _ => False) rfl rfl O3.out RA.out (fun _ _ h => h) (fun _ h => h.elim) (fun _ _ => trivial) E3.out.1 E3.out.1.size ?aL ?_; (case aL => have := L4.out; simp only [List.length_cons, List.length_nil]; omega); intro x4 w4 ho hb hg hat; have E4 := Aside0.mk (E3.out.grown hb hg (Kd.R_ne O3.out E3.out.2 (by decide))); have O4 := Aside0.mk ho; clear y0 y1 y2 y3 y4 y5; clear E3 O3 RA; obtain ⟨y0, y1, y2, y3, y4, y5⟩ := E4.out.c; clear ho hb hg hat)
  refine (bollardref1_Zig.calls (wrap64 (t - first)) z _ A2.out).mono ?_
  rintro e w' ⟨rfl, ⟨nd, rfl⟩⟩
  have E5 := Aside0.mk (E4.out.below (pw_below_drewN (Below.refl _ _) nd))
  have O5 := Aside0.mk (Kd.R_drewN O4.out nd)
  clear E4 O4
  go_wp2_with fail
  refine (bollardref1_Varint.calls k z v2 _ A3.out).mono ?_
  rintro e w6 ⟨vb, rfl, ho, hb⟩
  have E6 := Aside0.mk (E5.out.below hb)
  have O6 := Aside0.mk (Kd.R_below O5.out hb)
  obtain ⟨Ab, cb, eb⟩ := Kd.R_slice ho
  subst eb
  have RB := Aside0.mk (Kd.R_reads' ho).2.2
  clear y0 y1 y2 y3 y4 y5
  clear E5 O5 ho hb
  obtain ⟨y0, y1, y2, y3, y4, y5⟩ := E6.out.c
  go_upto_if 42 with (at_builtin; refine Kd.R_append_rows (Kd.int .u8) (w0 := w) w.heap.size rfl (.tmp 33) (.tmp 39) 29 5 (.int .u8 0) 1 rfl Try.underlying29 info5 rfl (by decide) (by decide) x4 ([fl] ++ v1) v2 Ab v2.length cb (fun _ => True) (fun _ => False) rfl rfl O6.out RB.out (fun _ _ h => h) (fun _ h => h.elim) (fun _ _ => trivial) E6.out.1 E6.out.1.size ?aL ?_; (case aL => have := L4.out; simp only [List.length_append, List.length_cons, List.length_nil]; omega); intro x7 w7 ho hb hg hat; have E7 := Aside0.mk (E6.out.grown hb hg (Kd.R_ne O6.out E6.out.2 (by decide))); have O7 := Aside0.mk (show Kd.R (Kd.int .u8) 5 w7 w.heap.size (fun _ => True) x7 (fl :: (v1 ++ v2)) from by simpa using ho); clear y0 y1 y2 y3 y4 y5; clear E6 O6 RB; obtain ⟨y0, y1, y2, y3, y4, y5⟩ := E7.out.c; clear ho hb hg hat)
  (try simp only [Act.put, List.setIfInBounds_toArray, List.set_cons_zero, List.set_cons_succ])
  go_cut [8] (fun v8 wc => Aside0 (Kd.R (Kd.int .u8) 5 wc w.heap.size (fun _ => True) v8 (fl :: (v1 ++ (v2 ++ ta)))) ∧ Aside0 (EnSt w wc hk key hv val t o))
  case first =>
    cases hk with
    | false =>
      obtain rfl : ta = [] := (Option.some.inj (show some ([] : List Int) = some ta from A4.out)).symm
      go_wp2
      go_meet
      case rel => exact ⟨⟨by simpa using O7.out⟩, E7⟩
    | true =>
      have H4 := A4.out
      unfold encTx at H4
      rw [if_pos rfl] at H4
      obtain ⟨vv, B1_, B2⟩ := Option.bind_eq_some_iff.mp H4
      by_cases c5 : vv.length ≤ 100
      case neg => rw [if_neg c5] at B2; cases B2
      rw [if_pos c5] at B2
      obtain rfl := Option.some.inj B2
      have B1 := Aside0.mk B1_
      have L5 := Aside0.mk c5
      have kz : IntKind.u64.wrap (key.size : Int) = (key.size : Int) := by have := KZ.out; rw [IntKind.wrap_u64]; omega
      clear B1_ B2 H4 c5
      go_wp2_with fail
      refine start_ (n := 11) (S := fun w' => w'.cell? ⟨w.heap.size, 1, none⟩ = some (.string key)) (ds := []) #[false, false, false, false, false, false, false, false, false, false, false] (by kernel_rfl) rfl rfl (show EnSt w _ _ _ _ _ _ _ from E7.out.below (below_drew1 (Below.refl _ _))).c.2.1 (fun hHeld => ?_)
      have E8 := Aside0.mk (E7.out.below (below_drew1 (Below.refl _ _)))
      have O8 := Aside0.mk (Kd.R_drew O7.out)
      clear y0 y1 y2 y3 y4 y5
      generalize World.drew _ = y8 at E8 O8 hHeld ⊢
      refine pure_ (i := 0) (N := (some 43)) (v := ?_) (a' := ?_) #[true, false, false, false, false, false, false, false, false, false, false] rfl rfl (by kernel_rfl) (fun _ _ _ h => h) (Or.inl ⟨by rfl, ?_⟩) ?_ ?_
      rotate_left
      · intro w'
        go_simp
        with_reducible rfl
      rotate_left
      · simp only [Act.put, List.setIfInBounds_toArray, List.set_cons_zero, List.set_cons_succ, i64_w, i32_w]
        rfl
      refine pure_ (i := 1) (N := (some 44)) (v := ?_) (a' := ?_) #[true, true, false, false, false, false, false, false, false, false, false] rfl rfl (by kernel_rfl) (fun _ _ _ h => h) (Or.inl ⟨by rfl, ?_⟩) ?_ ?_
      rotate_left
      · intro w'
        go_simp
        with_reducible rfl
      rotate_left
      · simp only [Act.put, List.setIfInBounds_toArray, List.set_cons_zero, List.set_cons_succ, i64_w, i32_w]
        rfl
      refine pure_ (i := 7) (N := (some 50)) (v := ?_) (a' := ?_) #[true, true, false, false, false, false, false, true, false, false, false] rfl rfl (by kernel_rfl) (fun _ _ _ h => h) (Or.inl ⟨by rfl, ?_⟩) ?_ ?_
      rotate_left
      · intro w'
        go_simp
        with_reducible rfl
      rotate_left
      · simp only [Act.put, List.setIfInBounds_toArray, List.set_cons_zero, List.set_cons_succ, i64_w, i32_w]
        rfl
      refine take_ (i := 2) (N := (some 45)) (v := ?_) (a' := ?_) #[true, true, true, false, false, false, false, true, false, false, false] rfl rfl (by kernel_rfl) (fun _ _ _ h => h) (Or.inl ⟨by rfl, ?_⟩) hHeld ?_ ?_
      rotate_left
      · rintro w' sA
        go_simp
        with_reducible rfl
      rotate_left
      · simp only [Act.put, List.setIfInBounds_toArray, List.set_cons_zero, List.set_cons_succ, i64_w, i32_w]
        rfl
      refine take_ (i := 8) (N := (some 51)) (v := ?_) (a' := ?_) #[true, true, true, false, false, false, false, true, true, false, false] rfl rfl (by kernel_rfl) (fun _ _ _ h => h) (Or.inl ⟨by rfl, ?_⟩) hHeld ?_ ?_
      rotate_left
      · rintro w' sA
        go_simp
        with_reducible rfl
      rotate_left
      · simp only [Act.put, List.setIfInBounds_toArray, List.set_cons_zero, List.set_cons_succ, i64_w, i32_w]
        rfl
      refine pure_ (i := 3) (N := (some 46)) (v := ?_) (a' := ?_) #[true, true, true, true, false, false, false, true, true, false, false] rfl rfl (by kernel_rfl) (fun _ _ _ h => h) (Or.inl ⟨by rfl, ?_⟩) ?_ ?_
      rotate_left
      · intro w'
        go_simp
        with_reducible rfl
      rotate_left
      · simp only [Act.put, List.setIfInBounds_toArray, List.set_cons_zero, List.set_cons_succ, i64_w, i32_w]
        rfl
      refine pure_ (i := 4) (N := (some 47)) (v := ?_) (a' := ?_) #[true, true, true, true, true, false, false, true, true, false, false] rfl rfl (by kernel_rfl) (fun _ _ _ h => h) (Or.inl ⟨by rfl, ?_⟩) ?_ ?_
      rotate_left
      · intro w'
        go_simp
        with_reducible rfl
      rotate_left
      · simp only [Act.put, List.setIfInBounds_toArray, List.set_cons_zero, List.set_cons_succ, i64_w, i32_w]
        rfl
      refine one_ (i := 5) (N := (some 48)) #[true, true, true, true, true, true, false, true, true, false, false] rfl rfl (by kernel_rfl) (by decide) (fun K hK => ?_)
      refine goes_ Try.func104 (by kernel_rfl) rfl #[.int .u64 (key.size : Int)] (by rfl) rfl rfl (by (try simp only [List.map_toArray, List.map_cons, List.map_nil]); first | done | rfl) ?_
      refine (bollardref1_Varint.calls k (key.size : Int) vv _ B1.out).mono ?_
      rintro e w9 ⟨va, rfl, ho, hb⟩
      refine ⟨_, rfl, ?_⟩
      have E9 := Aside0.mk (E8.out.below hb)
      have O9 := Aside0.mk (Kd.R_below O8.out hb)
      obtain ⟨Aa, ca, ea⟩ := Kd.R_slice ho
      subst ea
      have RA := Aside0.mk (Kd.R_reads' ho).2.2
      clear E8 O8 ho hb
      refine hK.out _ _ E9.out.c.2.1 (fun hHeld => ?_)
      clear hK K
      refine norm_ (a' := ?_) ?_ ?_
      rotate_left
      · show Act.put _ (some 48) _ = _
        simp only [Act.put, List.setIfInBounds_toArray, List.set_cons_zero, List.set_cons_succ, i64_w, i32_w]
        rfl
      refine one_ (i := 6) (N := (some 49)) #[true, true, true, true, true, true, true, true, true, false, false] rfl rfl (by kernel_rfl) (by decide) (fun K hK => ?_)
      refine Kd.R_append_rows_step (Kd.int .u8) (w0 := w) w.heap.size (by rfl) (.tmp 43) (.tmp 48) 29 5 (.int .u8 0) 1 rfl Try.underlying29 info5 rfl (by decide) (by decide) x7 (fl :: (v1 ++ v2)) vv Aa vv.length ca (fun _ => True) (fun _ => False) rfl rfl O9.out RA.out (fun _ _ h => h) (fun _ h => h.elim) (fun _ _ => trivial) E9.out.1 E9.out.1.size ?aL ?_; (case aL => have := L4.out; have := L5.out; simp only [List.length_append, List.length_cons, List.length_nil]; omega); intro x10 w10 ho hb hg hat; have E10 := Aside0.mk (E9.out.grown hb hg (Kd.R_ne O9.out E9.out.2 (by decide))); have O10 := Aside0.mk ho; clear E9 O9 RA; clear ho hb hg hat
      refine hK.out _ _ E10.out.c.2.1 (fun hHeld => ?_)
      clear hK K
      refine norm_ (a' := ?_) ?_ ?_
      rotate_left
      · show Act.put _ (some 49) _ = _
        simp only [Act.put, List.setIfInBounds_toArray, List.set_cons_zero, List.set_cons_succ, i64_w, i32_w]
        rfl
      refine one_ (i := 9) (N := (some 52)) #[true, true, true, true, true, true, true, true, true, true, false] rfl rfl (by kernel_rfl) (by decide) (fun K hK => ?_)
      refine Kd.R_append_str_step (w0 := w) w.heap.size (by rfl) (.tmp 49) _ 29 9 5 rfl Try.underlying29 Try.underlying9 info5 x10 ((fl :: (v1 ++ v2)) ++ vv) key (fun _ => True) rfl rfl (fun _ _ => trivial) O10.out E10.out.1 E10.out.1.size ?aL ?_; (case aL => have := L4.out; have := L5.out; have := KZ.out; simp only [List.length_append, List.length_cons, List.length_nil]; omega); intro x11 w11 ho hb hg hat; have E11 := Aside0.mk (E10.out.grown hb hg (Kd.R_ne O10.out E10.out.2 (by decide))); have O11 := Aside0.mk ho; clear E10 O10; clear ho hb hg hat
      refine hK.out _ _ E11.out.c.2.1 (fun hHeld => ?_)
      clear hK K
      refine norm_ (a' := ?_) ?_ ?_
      rotate_left
      · show Act.put _ (some 52) _ = _
        simp only [Act.put, List.setIfInBounds_toArray, List.set_cons_zero, List.set_cons_succ, i64_w, i32_w]
        rfl
      refine pure_ (i := 10) (N := (some 8)) (v := ?_) (a' := ?_) #[true, true, true, true, true, true, true, true, true, true, true] rfl rfl (by kernel_rfl) (fun _ _ _ h => h) (Or.inl ⟨by rfl, ?_⟩) ?_ ?_
      rotate_left
      · intro w'
        go_simp
        with_reducible rfl
      rotate_left
      · simp only [Act.put, List.setIfInBounds_toArray, List.set_cons_zero, List.set_cons_succ, i64_w, i32_w]
        rfl
      refine done_ (by kernel_rfl) ?_
      clear hHeld
      go_wp2
      go_meet
      case rel => exact ⟨⟨by simpa using O11.out⟩, E11⟩
  clear E7 O7 y0 y1 y2 y3 y4 y5
  obtain ⟨O7, E7⟩ := hcut
  obtain ⟨y0, y1, y2, y3, y4, y5⟩ := E7.out.c
  have LA := Aside0.mk (show ta.length ≤ 2100 from encTx_len KZ.out.1 A4.out)
  go_upto_if 54 with (fail)
  (try simp only [Act.put, List.setIfInBounds_toArray, List.set_cons_zero, List.set_cons_succ])
  go_cut [8] (fun v8 wc => Aside0 (Kd.R (Kd.int .u8) 5 wc w.heap.size (fun _ => True) v8 (fl :: (v1 ++ (v2 ++ (ta ++ tb))))) ∧ Aside0 (EnSt w wc hk key hv val t o))
  case first =>
    cases hv with
    | false =>
      obtain rfl : tb = [] := (Option.some.inj (show some ([] : List Int) = some tb from A5.out)).symm
      go_wp2
      go_meet
      case rel => exact ⟨⟨by simpa using O7.out⟩, E7⟩
    | true =>
      have H4 := A5.out
      unfold encTx at H4
      rw [if_pos rfl] at H4
      obtain ⟨vv, B1_, B2⟩ := Option.bind_eq_some_iff.mp H4
      by_cases c5 : vv.length ≤ 100
      case neg => rw [if_neg c5] at B2; cases B2
      rw [if_pos c5] at B2
      obtain rfl := Option.some.inj B2
      have B1 := Aside0.mk B1_
      have L5 := Aside0.mk c5
      have vz : IntKind.u64.wrap (val.size : Int) = (val.size : Int) := by have := KZ.out; rw [IntKind.wrap_u64]; omega
      clear B1_ B2 H4 c5
      go_wp2_with fail
      refine start_ (n := 11) (S := fun w' => w'.cell? ⟨w.heap.size, 3, none⟩ = some (.string val)) (ds := []) #[false, false, false, false, false, false, false, false, false, false, false] (by kernel_rfl) rfl rfl (show EnSt w _ _ _ _ _ _ _ from E7.out.below (below_drew1 (Below.refl _ _))).c.2.2.2.1 (fun hHeld => ?_)
      have E8 := Aside0.mk (E7.out.below (below_drew1 (Below.refl _ _)))
      have O8 := Aside0.mk (Kd.R_drew O7.out)
      clear y0 y1 y2 y3 y4 y5
      generalize World.drew _ = y8 at E8 O8 hHeld ⊢
      refine pure_ (i := 0) (N := (some 55)) (v := ?_) (a' := ?_) #[true, false, false, false, false, false, false, false, false, false, false] rfl rfl (by kernel_rfl) (fun _ _ _ h => h) (Or.inl ⟨by rfl, ?_⟩) ?_ ?_
      rotate_left
      · intro w'
        go_simp
        with_reducible rfl
      rotate_left
      · simp only [Act.put, List.setIfInBounds_toArray, List.set_cons_zero, List.set_cons_succ, i64_w, i32_w]
        rfl
      refine pure_ (i := 1) (N := (some 56)) (v := ?_) (a' := ?_) #[true, true, false, false, false, false, false, false, false, false, false] rfl rfl (by kernel_rfl) (fun _ _ _ h => h) (Or.inl ⟨by rfl, ?_⟩) ?_ ?_
      rotate_left
      · intro w'
        go_simp
        with_reducible rfl
      rotate_left
      · simp only [Act.put, List.setIfInBounds_toArray, List.set_cons_zero, List.set_cons_succ, i64_w, i32_w]
        rfl
      refine pure_ (i := 7) (N := (some 62)) (v := ?_) (a' := ?_) #[true, true, false, false, false, false, false, true, false, false, false] rfl rfl (by kernel_rfl) (fun _ _ _ h => h) (Or.inl ⟨by rfl, ?_⟩) ?_ ?_
      rotate_left
      · intro w'
        go_simp
        with_reducible rfl
      rotate_left
      · simp only [Act.put, List.setIfInBounds_toArray, List.set_cons_zero, List.set_cons_succ, i64_w, i32_w]
        rfl
      refine take_ (i := 2) (N := (some 57)) (v := ?_) (a' := ?_) #[true, true, true, false, false, false, false, true, false, false, false] rfl rfl (by kernel_rfl) (fun _ _ _ h => h) (Or.inl ⟨by rfl, ?_⟩) hHeld ?_ ?_
      rotate_left
      · rintro w' sA
        go_simp
        with_reducible rfl
      rotate_left
      · simp only [Act.put, List.setIfInBounds_toArray, List.set_cons_zero, List.set_cons_succ, i64_w, i32_w]
        rfl
      refine take_ (i := 8) (N := (some 63)) (v := ?_) (a' := ?_) #[true, true, true, false, false, false, false, true, true, false, false] rfl rfl (by kernel_rfl) (fun _ _ _ h => h) (Or.inl ⟨by rfl, ?_⟩) hHeld ?_ ?_
      rotate_left
      · rintro w' sA
        go_simp
        with_reducible rfl
      rotate_left
      · simp only [Act.put, List.setIfInBounds_toArray, List.set_cons_zero, List.set_cons_succ, i64_w, i32_w]
        rfl
      refine pure_ (i := 3) (N := (some 58)) (v := ?_) (a' := ?_) #[true, true, true, true, false, false, false, true, true, false, false] rfl rfl (by kernel_rfl) (fun _ _ _ h => h) (Or.inl ⟨by rfl, ?_⟩) ?_ ?_
      rotate_left
      · intro w'
        go_simp
        with_reducible rfl
      rotate_left
      · simp only [Act.put, List.setIfInBounds_toArray, List.set_cons_zero, List.set_cons_succ, i64_w, i32_w]
        rfl
      refine pure_ (i := 4) (N := (some 59)) (v := ?_) (a' := ?_) #[true, true, true, true, true, false, false, true, true, false, false] rfl rfl (by kernel_rfl) (fun _ _ _ h => h) (Or.inl ⟨by rfl, ?_⟩) ?_ ?_
      rotate_left
      · intro w'
        go_simp
        with_reducible rfl
      rotate_left
      · simp only [Act.put, List.setIfInBounds_toArray, List.set_cons_zero, List.set_cons_succ, i64_w, i32_w]
        rfl
      refine one_ (i := 5) (N := (some 60)) #[true, true, true, true, true, true, false, true, true, false, false] rfl rfl (by kernel_rfl) (by decide) (fun K hK => ?_)
      refine goes_ Try.func104 (by kernel_rfl) rfl #[.int .u64 (val.size : Int)] (by rfl) rfl rfl (by (try simp only [List.map_toArray, List.map_cons, List.map_nil]); first | done | rfl) ?_
      refine (bollardref1_Varint.calls k (val.size : Int) vv _ B1.out).mono ?_
      rintro e w9 ⟨va, rfl, ho, hb⟩
      refine ⟨_, rfl, ?_⟩
      have E9 := Aside0.mk (E8.out.below hb)
      have O9 := Aside0.mk (Kd.R_below O8.out hb)
      obtain ⟨Aa, ca, ea⟩ := Kd.R_slice ho
      subst ea
      have RA := Aside0.mk (Kd.R_reads' ho).2.2
      clear E8 O8 ho hb
      refine hK.out _ _ E9.out.c.2.2.2.1 (fun hHeld => ?_)
      clear hK K
      refine norm_ (a' := ?_) ?_ ?_
      rotate_left
      · show Act.put _ (some 60) _ = _
        simp only [Act.put, List.setIfInBounds_toArray, List.set_cons_zero, List.set_cons_succ, i64_w, i32_w]
        rfl
      refine one_ (i := 6) (N := (some 61)) #[true, true, true, true, true, true, true, true, true, false, false] rfl rfl (by kernel_rfl) (by decide) (fun K hK => ?_)
      refine Kd.R_append_rows_step (Kd.int .u8) (w0 := w) w.heap.size (by rfl) (.tmp 55) (.tmp 60) 29 5 (.int .u8 0) 1 rfl Try.underlying29 info5 rfl (by decide) (by decide) _ (fl :: (v1 ++ (v2 ++ ta))) vv Aa vv.length ca (fun _ => True) (fun _ => False) rfl rfl O9.out RA.out (fun _ _ h => h) (fun _ h => h.elim) (fun _ _ => trivial) E9.out.1 E9.out.1.size ?aL ?_; (case aL => have := L4.out; have := L5.out; have := LA.out; simp only [List.length_append, List.length_cons, List.length_nil]; omega); intro x10 w10 ho hb hg hat; have E10 := Aside0.mk (E9.out.grown hb hg (Kd.R_ne O9.out E9.out.2 (by decide))); have O10 := Aside0.mk ho; clear E9 O9 RA; clear ho hb hg hat
      refine hK.out _ _ E10.out.c.2.2.2.1 (fun hHeld => ?_)
      clear hK K
      refine norm_ (a' := ?_) ?_ ?_
      rotate_left
      · show Act.put _ (some 61) _ = _
        simp only [Act.put, List.setIfInBounds_toArray, List.set_cons_zero, List.set_cons_succ, i64_w, i32_w]
        rfl
      refine one_ (i := 9) (N := (some 64)) #[true, true, true, true, true, true, true, true, true, true, false] rfl rfl (by kernel_rfl) (by decide) (fun K hK => ?_)
      refine Kd.R_append_str_step (w0 := w) w.heap.size (by rfl) (.tmp 61) _ 29 9 5 rfl Try.underlying29 Try.underlying9 info5 x10 ((fl :: (v1 ++ (v2 ++ ta))) ++ vv) val (fun _ => True) rfl rfl (fun _ _ => trivial) O10.out E10.out.1 E10.out.1.size ?aL ?_; (case aL => have := L4.out; have := L5.out; have := LA.out; have := KZ.out; simp only [List.length_append, List.length_cons, List.length_nil]; omega); intro x11 w11 ho hb hg hat; have E11 := Aside0.mk (E10.out.grown hb hg (Kd.R_ne O10.out E10.out.2 (by decide))); have O11 := Aside0.mk ho; clear E10 O10; clear ho hb hg hat
      refine hK.out _ _ E11.out.c.2.2.2.1 (fun hHeld => ?_)
      clear hK K
      refine norm_ (a' := ?_) ?_ ?_
      rotate_left
      · show Act.put _ (some 64) _ = _
        simp only [Act.put, List.setIfInBounds_toArray, List.set_cons_zero, List.set_cons_succ, i64_w, i32_w]
        rfl
      refine pure_ (i := 10) (N := (some 8)) (v := ?_) (a' := ?_) #[true, true, true, true, true, true, true, true, true, true, true] rfl rfl (by kernel_rfl) (fun _ _ _ h => h) (Or.inl ⟨by rfl, ?_⟩) ?_ ?_
      rotate_left
      · intro w'
        go_simp
        with_reducible rfl
      rotate_left
      · simp only [Act.put, List.setIfInBounds_toArray, List.set_cons_zero, List.set_cons_succ, i64_w, i32_w]
        rfl
      refine done_ (by kernel_rfl) ?_
      clear hHeld
      go_wp2
      go_meet
      case rel => exact ⟨⟨by simpa using O11.out⟩, E11⟩
  obtain ⟨O9, E9⟩ := hcut
  go_wp2
  go_ret2
  exact ⟨_, rfl, by rw [← FL.out]; exact O9.out, E9.out.1⟩

end Go.Proofs.Ytncfofnikmfjbaa.PCi
