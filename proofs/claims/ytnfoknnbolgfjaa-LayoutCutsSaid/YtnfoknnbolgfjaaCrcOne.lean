/- A change of one byte changes the sum. -/
import Derived.Test.YtnfoknnbolgfjaaCrcPlain
import Derived.Test.YtnfoknnbolgfjaaBitsPlain
namespace Go.Proofs.Ytnfoknnbolgfjaa.Crc
open Go Go.RowKit Go.Proofs.YtnfoknnbolgfjaaW.PrintWords Go.Proofs.YtnfoknnbolgfjaaW.PrintLast Go.Proofs.YtnfoknnbolgfjaaW.PrintMore
set_option linter.unusedVariables false
set_option linter.unusedSimpArgs false

theorem one_range {a b : Int} (ha : 0 ≤ a ∧ a < 256) (hb : 0 ≤ b ∧ b < 256) : 0 ≤ Go.bits .xor .u8 a b ∧ Go.bits .xor .u8 a b < 256 := by
  rw [u8_xor a b ha.1 ha.2 hb.1 hb.2]
  have : a.toNat ^^^ b.toNat < 2 ^ 8 := Nat.xor_lt_two_pow (by omega) (by omega)
  omega
theorem one_ofInt {a b : Int} (ha : 0 ≤ a ∧ a < 256) (hb : 0 ≤ b ∧ b < 256) : BitVec.ofInt 32 (Go.bits .xor .u8 a b) = BitVec.ofInt 32 a ^^^ BitVec.ofInt 32 b := by
  rw [u8_xor a b ha.1 ha.2 hb.1 hb.2]
  obtain ⟨x, rfl⟩ : ∃ x : Nat, a = (x : Int) := ⟨a.toNat, by omega⟩
  obtain ⟨y, rfl⟩ : ∃ y : Nat, b = (y : Int) := ⟨b.toNat, by omega⟩
  rw [BitVec.ofInt_natCast, BitVec.ofInt_natCast, BitVec.ofInt_natCast, Int.toNat_natCast, Int.toNat_natCast]
  apply BitVec.eq_of_toNat_eq
  rw [BitVec.toNat_xor, BitVec.toNat_ofNat, BitVec.toNat_ofNat, BitVec.toNat_ofNat]
  have : x ^^^ y < 2 ^ 8 := Nat.xor_lt_two_pow (by omega) (by omega)
  rw [Nat.mod_eq_of_lt (by omega), Nat.mod_eq_of_lt (by omega), Nat.mod_eq_of_lt (by omega)]
theorem ofInt_zero {t : Int} (ht : 0 ≤ t ∧ t < 256) (h : BitVec.ofInt 32 t = 0#32) : t = 0 := by
  obtain ⟨x, rfl⟩ : ∃ x : Nat, t = (x : Int) := ⟨t.toNat, by omega⟩
  rw [BitVec.ofInt_natCast] at h
  have := congrArg BitVec.toNat h
  rw [BitVec.toNat_ofNat] at this
  simp at this
  omega
theorem one_byte (y : Int) (h : 0 ≤ y ∧ y < 256) : isByte (BitVec.ofInt 32 y) := by
  obtain ⟨n, rfl⟩ : ∃ n : Nat, y = (n : Int) := ⟨y.toNat, by omega⟩
  intro j hj
  rw [BitVec.ofInt_natCast, BitVec.getLsbD_ofNat]
  have : n.testBit j = false := Nat.testBit_lt_two_pow (Nat.lt_of_lt_of_le (by omega : n < 2 ^ 8) (Nat.pow_le_pow_right (by omega) hj))
  rw [this, Bool.and_false]
/-- A byte that is turned is another one. -/
theorem one_ne {a t : Int} (ha : 0 ≤ a ∧ a < 256) (ht : 0 < t ∧ t < 256) : Go.bits .xor .u8 a t ≠ a := by
  intro h
  have e := one_ofInt ha ⟨by omega, ht.2⟩
  rw [h] at e
  have e2 : BitVec.ofInt 32 t = 0#32 := by
    have := congrArg (fun v => BitVec.ofInt 32 a ^^^ v) e
    simp only [← BitVec.xor_assoc, BitVec.xor_self, BitVec.zero_xor] at this
    exact this.symm
  have := ofInt_zero ⟨by omega, ht.2⟩ e2
  omega
theorem crc_turn (l : List Int) (b : ∀ y ∈ l, 0 ≤ y ∧ y < 256) (a : Nat) (h : a < l.length) (t : Int) (ht : 0 < t ∧ t < 256) : crc (l.set a (Go.bits .xor .u8 l[a] t)) ≠ crc l := by
  have hd : List.zipWith (· ^^^ ·) (vals (l.set a (Go.bits .xor .u8 l[a] t))) (vals l) = List.replicate a 0#32 ++ ([BitVec.ofInt 32 t] ++ List.replicate (l.length - a - 1) 0#32) := by
    apply List.ext_getElem
    · simp [vals]; omega
    · intro p hp _
      have hpl : p < l.length := by simpa [vals] using hp
      simp only [vals, List.getElem_zipWith, List.getElem_map, List.getElem_set]
      have q := b _ (List.getElem_mem hpl)
      by_cases c1 : p < a
      · rw [if_neg (by omega), List.getElem_append_left (by simpa using c1)]
        simp
      · rw [List.getElem_append_right (by simpa using c1)]
        simp only [List.length_replicate]
        by_cases c2 : p = a
        · subst c2
          rw [if_pos rfl, one_ofInt q ⟨by omega, ht.2⟩]
          simp only [Nat.sub_self, List.singleton_append, List.getElem_cons_zero]
          rw [BitVec.xor_comm, ← BitVec.xor_assoc, BitVec.xor_self, BitVec.zero_xor]
        · rw [if_neg (by omega), List.getElem_append_right (by simp; omega)]
          simp
  have key : run 0#32 (List.zipWith (· ^^^ ·) (vals (l.set a (Go.bits .xor .u8 l[a] t))) (vals l)) = run (~~~0#32) (vals (l.set a (Go.bits .xor .u8 l[a] t))) ^^^ run (~~~0#32) (vals l) := by
    rw [← run_xor _ _ _ _ (by simp [vals]), BitVec.xor_self]
  rw [hd, run_append, run_zeros_zero] at key
  intro e
  unfold crc more at e
  have e2 : (~~~(run (~~~0#32) (vals (l.set a (Go.bits .xor .u8 l[a] t))))) = ~~~(run (~~~0#32) (vals l)) := BitVec.eq_of_toNat_eq (by omega)
  have e3 := congrArg (fun v => ~~~v) e2
  simp only [BitVec.not_not] at e3
  rw [e3, BitVec.xor_self] at key
  have all := run_change (l := [BitVec.ofInt 32 t]) (fun d hdm => by
    rw [List.mem_singleton.1 hdm]
    exact one_byte t ⟨by omega, ht.2⟩) (by simp) key
  have := ofInt_zero ⟨by omega, ht.2⟩ (all _ List.mem_cons_self)
  omega

end Go.Proofs.Ytnfoknnbolgfjaa.Crc
