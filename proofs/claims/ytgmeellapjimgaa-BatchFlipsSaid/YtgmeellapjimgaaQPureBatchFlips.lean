/- A change of one byte changes the sum. -/
import Derived.Test.YtgmeellapjimgaaQRecBack
import Derived.Test.YtgmeellapjimgaaQPBbx10
import Derived.Test.YtgmeellapjimgaaQPBbx1
import Derived.Test.YtgmeellapjimgaaQOpens
namespace Go.Proofs.Ytgmeellapjimgaa.Crc
open Go Go.RowKit Go.Proofs.YtgmeellapjimgaaW.PrintWords Go.Proofs.YtgmeellapjimgaaW.PrintLast Go.Proofs.YtgmeellapjimgaaW.PrintMore
set_option linter.unusedVariables false
set_option linter.unusedSimpArgs false

theorem one_range {a b : Int} (ha : 0 ≤ a ∧ a < 256) (hb : 0 ≤ b ∧ b < 256) : 0 ≤ Go.bits .xor .u8 a b ∧ Go.bits .xor .u8 a b < 256 := by
  rw [u8_xor a b ha.1 ha.2 hb.1 hb.2]
  have : a.toNat ^^^ b.toNat < 2 ^ 8 := Nat.xor_lt_two_pow (by omega) (by omega)
  omega
theorem one_ofInt {a b : Int} (ha : 0 ≤ a ∧ a < 256) (hb : 0 ≤ b ∧ b < 256) : BitVec.ofInt 32 (Go.bits .xor .u8 a b) = BitVec.ofInt 32 a ^^^ BitVec.ofInt 32 b := by
  rw [u8_xor a b ha.1 ha.2 hb.1 hb.2]
  obtain ⟨x, rfl⟩ : ∃ x : Nat, a = (x : Int) := ⟨a.toNat, by omega⟩
  obtain ⟨y, rfl⟩ : ∃ y : Nat, b = (y : Int) := ⟨b.toNat, by omega⟩
  rw [BitVec.ofInt_natCast, BitVec.ofInt_natCast, BitVec.ofInt_natCast, Int.toNat_natCast, Int.toNat_natCast]
  apply BitVec.eq_of_toNat_eq
  rw [BitVec.toNat_xor, BitVec.toNat_ofNat, BitVec.toNat_ofNat, BitVec.toNat_ofNat]
  have : x ^^^ y < 2 ^ 8 := Nat.xor_lt_two_pow (by omega) (by omega)
  rw [Nat.mod_eq_of_lt (by omega), Nat.mod_eq_of_lt (by omega), Nat.mod_eq_of_lt (by omega)]
theorem ofInt_zero {t : Int} (ht : 0 ≤ t ∧ t < 256) (h : BitVec.ofInt 32 t = 0#32) : t = 0 := by
  obtain ⟨x, rfl⟩ : ∃ x : Nat, t = (x : Int) := ⟨t.toNat, by omega⟩
  rw [BitVec.ofInt_natCast] at h
  have := congrArg BitVec.toNat h
  rw [BitVec.toNat_ofNat] at this
  simp at this
  omega
theorem one_byte (y : Int) (h : 0 ≤ y ∧ y < 256) : isByte (BitVec.ofInt 32 y) := by
  obtain ⟨n, rfl⟩ : ∃ n : Nat, y = (n : Int) := ⟨y.toNat, by omega⟩
  intro j hj
  rw [BitVec.ofInt_natCast, BitVec.getLsbD_ofNat]
  have : n.testBit j = false := Nat.testBit_lt_two_pow (Nat.lt_of_lt_of_le (by omega : n < 2 ^ 8) (Nat.pow_le_pow_right (by omega) hj))
  rw [this, Bool.and_false]
/-- A byte that is turned is another one. -/
theorem one_ne {a t : Int} (ha : 0 ≤ a ∧ a < 256) (ht : 0 < t ∧ t < 256) : Go.bits .xor .u8 a t ≠ a := by
  intro h
  have e := one_ofInt ha ⟨by omega, ht.2⟩
  rw [h] at e
  have e2 : BitVec.ofInt 32 t = 0#32 := by
    have := congrArg (fun v => BitVec.ofInt 32 a ^^^ v) e
    simp only [← BitVec.xor_assoc, BitVec.xor_self, BitVec.zero_xor] at this
    exact this.symm
  have := ofInt_zero ⟨by omega, ht.2⟩ e2
  omega
theorem crc_turn (l : List Int) (b : ∀ y ∈ l, 0 ≤ y ∧ y < 256) (a : Nat) (h : a < l.length) (t : Int) (ht : 0 < t ∧ t < 256) : crc (l.set a (Go.bits .xor .u8 l[a] t)) ≠ crc l := by
  have hd : List.zipWith (· ^^^ ·) (vals (l.set a (Go.bits .xor .u8 l[a] t))) (vals l) = List.replicate a 0#32 ++ ([BitVec.ofInt 32 t] ++ List.replicate (l.length - a - 1) 0#32) := by
    apply List.ext_getElem
    · simp [vals]; omega
    · intro p hp _
      have hpl : p < l.length := by simpa [vals] using hp
      simp only [vals, List.getElem_zipWith, List.getElem_map, List.getElem_set]
      have q := b _ (List.getElem_mem hpl)
      by_cases c1 : p < a
      · rw [if_neg (by omega), List.getElem_append_left (by simpa using c1)]
        simp
      · rw [List.getElem_append_right (by simpa using c1)]
        simp only [List.length_replicate]
        by_cases c2 : p = a
        · subst c2
          rw [if_pos rfl, one_ofInt q ⟨by omega, ht.2⟩]
          simp only [Nat.sub_self, List.singleton_append, List.getElem_cons_zero]
          rw [BitVec.xor_comm, ← BitVec.xor_assoc, BitVec.xor_self, BitVec.zero_xor]
        · rw [if_neg (by omega), List.getElem_append_right (by simp; omega)]
          simp
  have key : run 0#32 (List.zipWith (· ^^^ ·) (vals (l.set a (Go.bits .xor .u8 l[a] t))) (vals l)) = run (~~~0#32) (vals (l.set a (Go.bits .xor .u8 l[a] t))) ^^^ run (~~~0#32) (vals l) := by
    rw [← run_xor _ _ _ _ (by simp [vals]), BitVec.xor_self]
  rw [hd, run_append, run_zeros_zero] at key
  intro e
  unfold crc more at e
  have e2 : (~~~(run (~~~0#32) (vals (l.set a (Go.bits .xor .u8 l[a] t))))) = ~~~(run (~~~0#32) (vals l)) := BitVec.eq_of_toNat_eq (by omega)
  have e3 := congrArg (fun v => ~~~v) e2
  simp only [BitVec.not_not] at e3
  rw [e3, BitVec.xor_self] at key
  have all := run_change (l := [BitVec.ofInt 32 t]) (fun d hdm => by
    rw [List.mem_singleton.1 hdm]
    exact one_byte t ⟨by omega, ht.2⟩) (by simp) key
  have := ofInt_zero ⟨by omega, ht.2⟩ (all _ List.mem_cons_self)
  omega

end Go.Proofs.Ytgmeellapjimgaa.Crc

/- Bytes of a batch of which one behind the Sum is changed are none; nor are those that are cut off. -/
namespace Go.Proofs.Ytgmeellapjimgaa.Pure
open Go Go.RowKit Go.Proofs.Ytgmeellapjimgaa.PBb Go.Proofs.YtgmeellapjimgaaW.PrintWords Go.Proofs.YtgmeellapjimgaaW.PrintLast Go.Proofs.YtgmeellapjimgaaW.PrintMore Go.Proofs.Ytgmeellapjimgaa.Bp
set_option linter.unusedVariables false
set_option linter.unusedSimpArgs false

theorem round_f (a n : Int) (ha : -9223372036854775808 ≤ a ∧ a ≤ 9223372036854775807) (hn : 0 < n ∧ n ≤ 4000000000000000000) : ∃ r, bollardalike_Round.f a n = some r ∧ 0 ≤ r ∧ r < n := by
  unfold bollardalike_Round.f
  have h1 := Int.tmod_lt_of_pos a hn.1
  have h2 : -n < Int.tmod a n := by
    rcases Int.le_total 0 a with h | h
    · have := Int.tmod_nonneg n h; omega
    · have h3 := Int.tmod_lt_of_pos (-a) hn.1
      rw [Int.neg_tmod] at h3
      omega
  rw [if_neg (by omega)]
  by_cases c : Int.tmod a n < 0
  · rw [if_pos c, w64 (by omega) (by omega)]
    exact ⟨_, rfl, by omega, by omega⟩
  · rw [if_neg c]
    exact ⟨_, rfl, by omega, by omega⟩
theorem seg12 (l : List Int) : (l.drop 8).take 4 = (l.take 12).drop 8 := by rw [List.drop_take]
/-- Bytes that are cut off are none. -/
theorem cut_bad {b s p q : Int} {x : List S45} (h : chkB b s p q x = 0) (hp : p ≤ 9223372036854775807) (hq : q ≤ 9223372036854775807) (c : Nat) (hc : c < (bytesB b s p q x).length) (k : Nat) (hk : 20040000 ≤ k) : batch_Decode.f k ((bytesB b s p q x).take c) = some badB := by
  have hs := isB_self h hp hq ([] : List Int)
  rw [List.append_nil] at hs
  have hn := isB_len hs
  obtain ⟨r, hr, hg⟩ := dec_good (take_bytes (bytesB_bytes b s p q x) c) (by rw [List.length_take]; omega) k (by omega)
  rcases hg with hg | ⟨he, hi⟩
  · rw [hr, hg]
  · exfalso
    have h2 := isB_len hi
    have hle := hi.le
    rw [List.length_take] at hle
    have g1 := (isB_gets hs).2.1
    have g2 := (isB_gets hi).2.1
    have e : get ((bytesB b s p q x).take c) 8 4 true = get (bytesB b s p q x) 8 4 true := by
      unfold Bp.get
      rw [if_pos rfl, if_pos rfl, seg12, seg12, List.take_take, Nat.min_eq_left (by omega)]
    omega
/-- Bytes of which one behind the Sum is changed are none. -/
theorem flip_bad {b s p q : Int} {x : List S45} (h : chkB b s p q x = 0) (hp : p ≤ 9223372036854775807) (hq : q ≤ 9223372036854775807) (a : Nat) (h16 : 16 ≤ a) (ha : a < (bytesB b s p q x).length) (t : Int) (ht : 0 < t ∧ t < 256) (k : Nat) (hk : 20040000 ≤ k) :
    batch_Decode.f k ((bytesB b s p q x).set a (Go.bits .xor .u8 (bytesB b s p q x)[a] t)) = some badB := by
  have hs := isB_self h hp hq ([] : List Int)
  rw [List.append_nil] at hs
  have hn := isB_len hs
  have hB := bytesB_bytes b s p q x
  obtain ⟨H, hH⟩ : ∃ H, H = beL (U b) 8 ++ beL (U (((bodyB s p q x).length : Int) + 4)) 4 := ⟨_, rfl⟩
  have hHl : H.length = 12 := by rw [hH, List.length_append, beL_length, beL_length]
  have e : bytesB b s p q x = H ++ (beL (U (Crc.crc (bodyB s p q x))) 4 ++ bodyB s p q x) := by unfold bytesB; rw [hH, List.append_assoc]
  have hbb : Bytes (bodyB s p q x) := fun y hy => hB y (by rw [e]; simp [hy])
  have hva : (bytesB b s p q x)[a] = (bodyB s p q x)[a - 16]'(by omega) := by
    have h1 : (bytesB b s p q x)[a]? = (bodyB s p q x)[a - 16]? := by
      rw [e, List.getElem?_append_right (by omega), List.getElem?_append_right (by rw [beL_length]; omega), beL_length, hHl, show a - 12 - 4 = a - 16 by omega]
    rw [List.getElem?_eq_getElem ha, List.getElem?_eq_getElem (show a - 16 < (bodyB s p q x).length by omega)] at h1
    exact Option.some.inj h1
  have hset : (bytesB b s p q x).set a (Go.bits .xor .u8 (bytesB b s p q x)[a] t) = H ++ (beL (U (Crc.crc (bodyB s p q x))) 4 ++ (bodyB s p q x).set (a - 16) (Go.bits .xor .u8 ((bodyB s p q x)[a - 16]'(by omega)) t)) := by
    rw [hva]
    conv => lhs; rw [e]
    rw [List.set_append_right _ _ (by omega), List.set_append_right _ _ (by rw [beL_length]; omega), beL_length, hHl, show a - 12 - 4 = a - 16 by omega]
  obtain ⟨Y, hY⟩ : ∃ Y, Y = (bodyB s p q x).set (a - 16) (Go.bits .xor .u8 ((bodyB s p q x)[a - 16]'(by omega)) t) := ⟨_, rfl⟩
  have hYl : Y.length = (bodyB s p q x).length := by rw [hY, List.length_set]
  have hYb : Bytes Y := by
    intro y hy
    rw [hY] at hy
    rcases List.mem_or_eq_of_mem_set hy with hy | hy
    · exact hbb y hy
    · rw [hy]; exact Crc.one_range (hbb _ (List.getElem_mem _)) (by omega)
  rw [hset, ← hY]
  have hbytes : Bytes (H ++ (beL (U (Crc.crc (bodyB s p q x))) 4 ++ Y)) := app_bytes (fun y hy => hB y (by rw [e]; simp [hy])) (app_bytes (beL_bytes _ _) hYb)
  have hlen : (H ++ (beL (U (Crc.crc (bodyB s p q x))) 4 ++ Y)).length = 16 + Y.length := by simp only [List.length_append, beL_length, hHl]; omega
  obtain ⟨r, hr, hg⟩ := dec_good hbytes (by omega) k (by omega)
  rcases hg with hg | ⟨he, hi⟩
  · rw [hr, hg]
  · exfalso
    have h2 := isB_len hi
    have g1 := (isB_gets hs).2.1
    have g2 := (isB_gets hi).2.1
    have ge : get (H ++ (beL (U (Crc.crc (bodyB s p q x))) 4 ++ Y)) 8 4 true = get (bytesB b s p q x) 8 4 true := by
      rw [e]
      unfold Bp.get
      rw [if_pos rfl, if_pos rfl, seg12, seg12, List.take_append_of_le_length (by omega), List.take_append_of_le_length (by omega)]
    have heq := hi.eq
    rw [List.take_of_length_le (by omega)] at heq
    obtain ⟨b2, s2, p2, q2, x2, n2, e2⟩ := r
    dsimp only at *
    have hb2 : bytesB b2 s2 p2 q2 x2 = (beL (U b2) 8 ++ beL (U (((bodyB s2 p2 q2 x2).length : Int) + 4)) 4) ++ (beL (U (Crc.crc (bodyB s2 p2 q2 x2))) 4 ++ bodyB s2 p2 q2 x2) := by unfold bytesB; rw [List.append_assoc]
    rw [hb2] at heq
    have hp1 := List.append_inj heq (by rw [hHl, List.length_append, beL_length, beL_length])
    have hp2 := List.append_inj hp1.2 (by rw [beL_length, beL_length])
    have c1 := crc_rng (bodyB s p q x)
    have c2 := crc_rng (bodyB s2 p2 q2 x2)
    have hc := congrArg be hp2.1
    rw [be_beL, be_beL, U_small 4 c1.1 (by omega) (by omega), U_small 4 c2.1 (by omega) (by omega)] at hc
    have hturn := Crc.crc_turn (bodyB s p q x) hbb (a - 16) (by omega) t ht
    rw [← hY, hp2.2] at hturn
    exact hturn hc.symm
theorem BatchFlips : bollardlaw13_BatchFlips.Pure := by
  intro b s p q l at_ x cut hb hs hp hq hl hat hx hcut
  have hlen : l.length ≤ 140737488351232 := by omega
  have hp := wfi hp
  have hq := wfi hq
  obtain ⟨r, hr, hr2⟩ := small_l0 l (by omega) l.length (l.length + 40000002) 0 (l.length : Int) (by omega) (by omega)
  refine ⟨l.length + 40000002, ?_⟩
  unfold bollardlaw13_BatchFlips.f bollardalike_Small.f
  rw [show bollardalike_Small.l0 (l.length + 40000002) l (l.length : Int) 0 = some r from hr, Option.bind_some]
  cases r
  · rw [if_neg (by simp), awake_f _ (by omega), Option.bind_some]
  · have h300 := hr2 rfl
    rw [if_pos rfl, encode_f2 b s p q l (by omega) _ (by omega), Option.bind_some]
    unfold encB
    by_cases hc : chkB b s p q l = 0
    · have hself := isB_self hc (by omega) (by omega) ([] : List Int)
      have hn := isB_len hself
      have hn2 := bytesB_len b s p q l
      rw [if_pos hc]
      dsimp only
      rw [if_pos rfl, decide_eq_false (by omega), show l.length + 40000002 = (l.length + 40000001) + 1 from rfl, bollardlaw13_BatchFlips.j0, if_neg (by simp)]
      obtain ⟨rc, hrc, rc0, rc1⟩ := round_f cut ((bytesB b s p q l).length : Int) (wfi hcut) (by omega)
      obtain ⟨ra, hra, ra0, ra1⟩ := round_f at_ (((bytesB b s p q l).length : Int) - 16) (wfi hat) (by omega)
      obtain ⟨rx, hrx, rx0, rx1⟩ := round_f x 255 (wfi hx) (by omega)
      have hlt : (16 + ra).toNat < (bytesB b s p q l).length := by omega
      have hget : rd (bytesB b s p q l) (16 + ra) = (bytesB b s p q l)[(16 + ra).toNat] := by
        have := rd_at hlt
        rwa [Int.toNat_of_nonneg (by omega)] at this
      have hcb := cut_bad hc (by omega) (by omega) rc.toNat (by omega) (l.length + 40000001) (by omega)
      have hfb := flip_bad hc (by omega) (by omega) (16 + ra).toNat (by omega) hlt (rx + 1) (by omega) (l.length + 40000001) (by omega)
      rw [hrc, Option.bind_some, if_pos rc0, if_pos (by omega), hcb, Option.bind_some, w64 (x := ((bytesB b s p q l).length : Int) - 16) (by omega) (by omega), hra, Option.bind_some, w64 (x := 16 + ra) (by omega) (by omega), if_pos (by omega), if_pos (by omega), hrx, Option.bind_some, w64 (x := rx + 1) (by omega) (by omega), show (rx + 1) % 256 = rx + 1 by omega, hget, hfb, Option.bind_some]
      unfold badB
      dsimp only
      rw [if_pos rfl, if_pos rfl, if_pos rfl, awake_f _ (by omega), Option.bind_some]
    · rw [if_neg hc]
      dsimp only
      rw [if_neg hc, show l.length + 40000002 = (l.length + 40000001) + 1 from rfl, bollardlaw13_BatchFlips.j0, if_pos rfl, if_neg hc, awake_f _ (by omega), Option.bind_some]
end Go.Proofs.Ytgmeellapjimgaa.Pure
