/- Strings of bytes: two rows of bytes are the same where their strings are. -/
import Derived.Test.YtgmeellapjimgaaQBitsPlain
namespace Go.Proofs.Ytgmeellapjimgaa.Bp
open Go Go.RowKit Go.Proofs.YtgmeellapjimgaaW.PrintWords Go.Proofs.YtgmeellapjimgaaW.PrintLast Go.Proofs.YtgmeellapjimgaaW.PrintMore
set_option linter.unusedVariables false
set_option linter.unusedSimpArgs false

theorem toList_loop_ (bs : ByteArray) : ∀ (n i : Nat) (r : List UInt8), bs.size - i = n → ByteArray.toList.loop bs i r = r.reverse ++ bs.data.toList.drop i
  | 0, i, r, h => by
    rw [ByteArray.toList.loop, if_neg (by omega)]
    have : bs.data.toList.drop i = [] := List.drop_eq_nil_of_le (by rw [Array.length_toList]; show bs.size ≤ i; omega)
    rw [this, List.append_nil]
  | n + 1, i, r, h => by
    have hi : i < bs.data.size := by show i < bs.size; omega
    have e : bs.data.toList.drop i = bs.data[i] :: bs.data.toList.drop (i + 1) := List.drop_eq_getElem_cons (by rw [Array.length_toList]; exact hi)
    rw [ByteArray.toList.loop, if_pos (by omega), toList_loop_ bs n (i + 1) _ (by omega), List.reverse_cons, List.append_assoc, e]
    have e2 : bs.get! i = bs.data[i] := by unfold ByteArray.get!; exact getElem!_pos bs.data i hi
    rw [e2]
    rfl
theorem toList_data_ (bs : ByteArray) : bs.toList = bs.data.toList := by
  have := toList_loop_ bs _ 0 [] rfl
  simpa [ByteArray.toList] using this
theorem strs_eq {l m : List Int} (hl : Bytes l) (hm : Bytes m) : (strOfNums l).toList = (strOfNums m).toList ↔ l = m := by
  constructor
  · intro h
    rw [toList_data_, toList_data_, strOfNums_data, strOfNums_data] at h
    have h2 := congrArg (List.map fun b : UInt8 => (b.toNat : Int)) h
    rw [List.map_map, List.map_map] at h2
    have e : ∀ {x : List Int}, Bytes x → x.map ((fun b : UInt8 => (b.toNat : Int)) ∘ fun n : Int => UInt8.ofNat n.toNat) = x := by
      intro x hx
      conv => rhs; rw [← List.map_id x]
      refine List.map_congr_left fun b hb => ?_
      have := hx b hb
      simp only [Function.comp, id, UInt8.toNat_ofNat']
      omega
    rwa [e hl, e hm] at h2
  · rintro rfl
    rfl
theorem strs_beq {l m : List Int} (hl : Bytes l) (hm : Bytes m) : ((strOfNums l).toList == (strOfNums m).toList) = decide (l = m) := by
  by_cases c : l = m
  · rw [decide_eq_true c, beq_iff_eq]; exact (strs_eq hl hm).2 c
  · rw [decide_eq_false c, beq_eq_false_iff_ne]; exact fun h => c ((strs_eq hl hm).1 h)

end Go.Proofs.Ytgmeellapjimgaa.Bp
