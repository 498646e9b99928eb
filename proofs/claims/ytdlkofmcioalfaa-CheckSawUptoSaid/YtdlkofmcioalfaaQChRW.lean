import Derived.Test.YtdlkofmcioalfaaQPCkx1
import Derived.Outline
import Derived.StillTailTactics
import Derived.RegionTactic
import Derived.BigRegion
import Derived.Lib.BufferWrite
namespace Go.Proofs.Ytdlkofmcioalfaa.PCk
open Go.RowKit Go.Proofs.YtdlkofmcioalfaaW.PrintWords Go.Proofs.YtdlkofmcioalfaaW.PrintLast Go.Proofs.YtdlkofmcioalfaaW.PrintMore
attribute [local go_sem] max2_int min2_int max_two min_two max_three min_three max_four min_four
set_option linter.unusedVariables false
set_option linter.unusedSimpArgs false

/-! ### the document's Check.Saw -/
def zSnt : Snt := ⟨⟨#[]⟩, 0, 0, 0, 0⟩
def zFct : Fct := ⟨⟨#[]⟩, 0, 0, ⟨false, ⟨#[]⟩, false, ⟨#[]⟩, 0, 0⟩⟩
structure Box_ (p : Prop) : Type where
  down : p
structure Hid_ (p : Prop) : Prop where
  out : p
noncomputable def Box_.app {p g : Prop} (a : Box_ p) (k : Hid_ p → Box_ g) : Box_ g := k ⟨a.down⟩
theorem info_fact : (Try.prog.info? 88).map (·.size) = some 9 := by kernel_rfl
set_option maxHeartbeats 80000000 in
set_option maxRecDepth 100000 in
noncomputable def ref_Saw.box : Box_ (∀ (m : Nat) (FA : List Fct) (SA : List Snt) (PA : List Spn) (t : ByteArray) (p st nx fr : Int) (A : Option Addr) (c : Nat) (l : List SB) (w0 w : World) (hM : ChkP w0.heap.size w m FA SA PA) (hb : Below w0.heap.size w0 w) (hm : w0.heap.size ≤ m) (hr : Kd.C k61 w0 A l.length l) (hc : l.length ≤ c) (ha : SawArg t p st nx fr l) (hn : FA.length + recs l ≤ 1000000000 ∧ SA.length + l.length ≤ 1000000000 ∧ PA.length ≤ 1000000000),
    Calls Try.prog 12 #[.pointer (some ⟨m, 0, none⟩), .string t, .int .i64 p, .int .i64 st, .int .i64 nx, .int .i64 fr, .slice A l.length c] w fun e w' => e = .returned (.int .i64 (refF t p st nx fr l FA SA PA).1) ∧ ChkP w0.heap.size w' m (refF t p st nx fr l FA SA PA).2.1 (refF t p st nx fr l FA SA PA).2.2.1 (refF t p st nx fr l FA SA PA).2.2.2 ∧ Keep w0.heap.size m w w') := by
  apply Box_.app (a := ?b14)
  intro lem_14
  apply Box_.app (a := ?b11)
  intro lem_11
  apply Box_.app (a := ?b4)
  intro lem_4
  apply Box_.app (a := ?b2)
  intro lem_2
  · refine Box_.mk ?_
    intro m FA SA PA t p st nx fr A c l w0 w hM hb hm hr hc ha hn
    have HMM := Aside0.mk hM
    obtain ⟨vF, vS, vP, hg, hF, hS, hP⟩ := hM
    obtain ⟨Af, cf, ef⟩ := hF.slice
    obtain ⟨As, cs_, es⟩ := hS.slice
    obtain ⟨Ap, cp, ep⟩ := hP.slice
    subst ef
    subst es
    subst ep
    have HG := Aside0.mk hg
    have HF := Aside0.mk hF
    have HS := Aside0.mk hS
    have HP := Aside0.mk hP
    have HB := Aside0.mk hb
    have HM := Aside0.mk hm
    have HR := Aside0.mk (And.intro hr hc)
    have HA := Aside0.mk ha
    have HN := Aside0.mk hn
    clear hg hF hS hP hb hm hr hc ha hn
    have q0 := (blk_cell HG.out 0).trans rfl
    have q1 := (blk_cell HG.out 1).trans rfl
    have q2 := (blk_cell HG.out 2).trans rfl
    go_enter Try.func12, Try.ntmps12
    go_wp2_with fail
    go_loopg [15, 16] (PA.length + 1) (fun kq v15 v16 wr => ∃ (i k : Int), v15 = .int .i64 k ∧ v16 = .int .i64 i ∧ Aside0 (kq + i.toNat = PA.length + 1 ∧ 0 ≤ i ∧ i ≤ (PA.length : Int) ∧ -1 ≤ k ∧ k < i) ∧ Aside0 (spnK t p (PA.drop i.toNat) i k = spnK t p PA 0 (-1)) ∧ wr = w)
    case atStart => exact ⟨0, -1, rfl, rfl, ⟨by simp, by omega, by omega, by omega, by omega⟩, ⟨rfl⟩, rfl⟩
    case round =>
      obtain ⟨i, k, rfl, rfl, HI, HK, rfl⟩ := hrel
      by_cases hi : i < (PA.length : Int)
      case pos =>
        have d1 : decide (i < (PA.length : Int)) = true := decide_eq_true hi
        have h0 := HI.out.2.1
        obtain ⟨ad, ea, x0, x1⟩ := HP.out.at2 spn_len zSpn i h0 hi
        have HD := Aside0.mk (drop_get zSpn h0 hi)
        have p1 := eq_true h0
        have p2 := eq_true hi
        have HI2 := Aside0.mk hi
        clear h0 hi
        cases ea
        obtain ⟨y, hy⟩ : ∃ y, y = PA.getD i.toNat zSpn := ⟨_, rfl⟩
        rw [← hy] at x0 x1 HD
        have c0 := x0 (.string y.t) rfl
        have c1 := x1 1 (.int .i64 y.p) rfl
        clear x0 x1 hy
        have e1 : IntKind.i64.wrap (i + 1) = i + 1 := (i64_w _).trans (by have := HI.out; have := HN.out; unfold wrap64; omega)
        by_cases ct : y.t = t
        case pos =>
          by_cases cp_ : y.p = p
          case pos =>
            have b0 : (y.t.toList == t.toList) = true := str_t ct
            have b1 : (y.p == p) = true := beq_iff_eq.mpr cp_
            have CT := Aside0.mk ct
            have CP := Aside0.mk cp_
            clear ct cp_
            go_wp2_with fail
            go_roundg (PA.length + 1 - (i + 1).toNat)
            case measure => have := HI.out; have := HI2.out; omega
            case rel => exact ⟨i + 1, i, rfl, by first | rfl | rw [e1], ⟨by have := HI.out; have := HI2.out; omega, by have := HI.out; omega, by have := HI2.out; omega, by have := HI.out; omega, by have := HI.out; omega⟩, ⟨by rw [← HK.out, HD.out, spnK, if_pos ⟨CT.out, CP.out⟩]⟩, rfl⟩
          case neg =>
            have b0 : (y.t.toList == t.toList) = true := str_t ct
            have b1 : (y.p == p) = false := beq_eq_false_iff_ne.mpr cp_
            have CP := Aside0.mk cp_
            clear ct cp_
            go_wp2_with fail
            go_roundg (PA.length + 1 - (i + 1).toNat)
            case measure => have := HI.out; have := HI2.out; omega
            case rel => exact ⟨i + 1, k, rfl, by first | rfl | rw [e1], ⟨by have := HI.out; have := HI2.out; omega, by have := HI.out; omega, by have := HI2.out; omega, by have := HI.out; omega, by have := HI.out; omega⟩, ⟨by rw [← HK.out, HD.out, spnK, if_neg (fun h => CP.out h.2)]⟩, rfl⟩
        case neg =>
          have b0 : (y.t.toList == t.toList) = false := str_f ct
          have CT := Aside0.mk ct
          clear ct
          go_wp2_with fail
          go_roundg (PA.length + 1 - (i + 1).toNat)
          case measure => have := HI.out; have := HI2.out; omega
          case rel => exact ⟨i + 1, k, rfl, by first | rfl | rw [e1], ⟨by have := HI.out; have := HI2.out; omega, by have := HI.out; omega, by have := HI2.out; omega, by have := HI.out; omega, by have := HI.out; omega⟩, ⟨by rw [← HK.out, HD.out, spnK, if_neg (fun h => CT.out h.1)]⟩, rfl⟩
      case neg =>
        have d1 : decide (i < (PA.length : Int)) = false := decide_eq_false hi
        have he : i = (PA.length : Int) := by have := HI.out; omega
        have HKK := Aside0.mk (show k = spnK t p PA 0 (-1) ∧ -1 ≤ k ∧ k < (PA.length : Int) from by have h_ := HK.out; have h2_ := HI.out; rw [he, Int.toNat_natCast, List.drop_length] at h_; exact ⟨h_, by omega, by omega⟩)
        clear he hi HK
        go_upto_region 7 with fail
        (try simp only [Act.put, List.setIfInBounds_toArray, List.set_cons_zero, List.set_cons_succ])
        obtain ⟨b1, hb1⟩ : ∃ b1, b1 = ref1 k st nx PA := ⟨_, rfl⟩
        have HB1 := Aside0.mk hb1
        clear hb1 HI
        go_cut [91] (fun v91 wc => v91 = .bool b1 ∧ wc = wr)
        case first =>
          by_cases c1 : nx < st
          case pos =>
            have f1 : decide (nx < st) = true := decide_eq_true c1
            go_wp2_with fail
            go_meet
            case rel => exact ⟨congrArg Value.bool (by rw [HB1.out]; unfold ref1; rw [f1]; rfl), rfl⟩
          case neg =>
            have f1 : decide (nx < st) = false := decide_eq_false c1
            by_cases c2 : 0 ≤ k
            case neg =>
              have f2 : decide (0 ≤ k) = false := decide_eq_false c2
              go_wp2_with fail
              go_meet
              case rel => exact ⟨congrArg Value.bool (by rw [HB1.out]; unfold ref1; rw [f1, f2]; rfl), rfl⟩
            case pos =>
              have f2 : decide (0 ≤ k) = true := decide_eq_true c2
              obtain ⟨ad, ea, x0, x1⟩ := HP.out.at2 spn_len zSpn k c2 HKK.out.2.2
              have p1 := eq_true c2
              have p2 := eq_true HKK.out.2.2
              cases ea
              obtain ⟨y, hy⟩ : ∃ y, spnAt PA k = y := ⟨_, rfl⟩
              have hspn : PA.getD k.toNat zSpn = y := hy
              rw [hspn] at x0 x1
              have HY := Aside0.mk hy
              clear hy hspn
              have z2 := x1 2 _ rfl
              have z3 := x1 3 _ rfl
              clear x0 x1
              by_cases c3 : st < y.st
              case pos =>
                have f3 : decide (st < y.st) = true := decide_eq_true c3
                go_wp2_with fail
                go_meet
                case rel => exact ⟨congrArg Value.bool (by rw [HB1.out]; unfold ref1; rw [HY.out, f1, f2, f3]; rfl), rfl⟩
              case neg =>
                have f3 : decide (st < y.st) = false := decide_eq_false c3
                by_cases c4 : nx < y.nx
                case pos =>
                  have f4 : decide (nx < y.nx) = true := decide_eq_true c4
                  go_wp2_with fail
                  go_meet
                  case rel => exact ⟨congrArg Value.bool (by rw [HB1.out]; unfold ref1; rw [HY.out, f1, f2, f3, f4]; rfl), rfl⟩
                case neg =>
                  have f4 : decide (nx < y.nx) = false := decide_eq_false c4
                  go_wp2_with fail
                  go_meet
                  case rel => exact ⟨congrArg Value.bool (by rw [HB1.out]; unfold ref1; rw [HY.out, f1, f2, f3, f4]; rfl), rfl⟩
        obtain ⟨rfl, rfl⟩ := hcut
        cases b1 with
        | true =>
          have HF := Aside0.mk (show refF t p st nx fr l FA SA PA = (1, FA, SA, PA) from by unfold refF; rw [← HKK.out.1, if_pos HB1.out.symm])
          go_wp2_with fail
          go_ret
          exact ⟨by rw [HF.out]; rfl, by rw [HF.out]; exact HMM.out, Keep.refl _ _ _⟩
        | false =>
          have HFF := Aside0.mk (rows_f st nx fr l HA.out.hl)
          go_wp2_with fail
          refine (bollardref21_rows.calls (l.length + 1) st nx fr A c l _ _ (Kd.C_below HR.out.1 HB.out) HR.out.2 HFF.out).mono ?_
          rintro e w5 ⟨rfl, hd5⟩
          have HST := Aside0.mk (show RSt w0.heap.size m wc w5 (.slice Af FA.length cf) FA (.slice As SA.length cs_) SA (.slice Ap PA.length cp) PA (.slice Af FA.length cf) FA (.slice As SA.length cs_) SA from RSt.below ⟨HG.out, HF.out, HS.out, HP.out, HF.out, HS.out, Nat.le_refl _, Nat.le_refl _, Keep.refl _ _ _, HB.out.size⟩ hd5.below)
          clear q0 q1 q2 HFF hd5
          obtain ⟨b2, hb2⟩ : ∃ b2, rwL st nx fr none l = b2 := ⟨_, rfl⟩
          rw [hb2]
          have HB2 := Aside0.mk hb2
          clear hb2
          cases b2 with
          | true =>
            have HF_ := Aside0.mk (show refF t p st nx fr l FA SA PA = (2, FA, SA, PA) from by unfold refF; rw [← HKK.out.1, if_neg (by rw [← HB1.out]; decide), if_pos HB2.out])
            go_wp2_with fail
            go_ret
            exact ⟨by rw [HF_.out]; rfl, by rw [HF_.out]; exact HST.out.old, HST.out.keep⟩
          | false =>
            have HRF := Aside0.mk (show refF t p st nx fr l FA SA PA = match refB t p l FA with | none => (3, FA, SA, PA) | some F' => match refS t p l SA with | none => (4, FA, SA, PA) | some S' => (0, F', S', if k < 0 then PA ++ [⟨t, p, st, nx⟩] else PA.set k.toNat ⟨(spnAt PA k).t, (spnAt PA k).p, st, nx⟩) from by unfold refF; rw [← HKK.out.1, if_neg (by rw [← HB1.out]; decide), if_neg (by rw [HB2.out]; decide)]; first | rfl | (cases refB t p l FA with | none => rfl | some F' => dsimp only; cases refS t p l SA <;> rfl))
            have q0 := (blk_cell HST.out.hg 0).trans rfl
            have q1 := (blk_cell HST.out.hg 1).trans rfl
            go_wp2_with fail
            clear q0 q1 HG HF HS HP
            go_loopg [17, 19] (l.length + 1) (fun kq v17 v19 wr => ∃ (i : Int) (xs : List Fct), v19 = .int .i64 i ∧ Aside0 (kq + i.toNat = l.length + 1 ∧ 0 ≤ i ∧ i ≤ (l.length : Int)) ∧ Aside0 (refB t p (l.drop i.toNat) xs = refB t p l FA) ∧ Aside0 (xs.length + recs (l.drop i.toNat) ≤ FA.length + recs l) ∧ Aside0 (RSt w0.heap.size m wc wr (.slice Af FA.length cf) FA (.slice As SA.length cs_) SA (.slice Ap PA.length cp) PA v17 xs (.slice As SA.length cs_) SA))
            case atStart => exact ⟨0, FA, rfl, ⟨by simp, by omega, by omega⟩, ⟨rfl⟩, ⟨by simp⟩, HST⟩
            case round =>
              obtain ⟨i2, xs, rfl, HI, HK2, HL2, HST2⟩ := hrel
              clear HST
              obtain ⟨Ax, cx, ex⟩ := HST2.out.xF.slice
              subst ex
              by_cases hi : i2 < (l.length : Int)
              case neg =>
                rename_i q1 q2 q3 q4 q5 q6 q7 q8 q9 qa qb qc qd qe qf qg qh qi qj qk ql qm qn qo qp qq qr qs qt qu qv qw qx qy qz q10 q11 q12 q13 q14 q15 q16 q17 q18 q19 q1a q1b q1c q1d q1e q1f q1g q1h q1i q1j q1k q1l q1m q1n q1o q1p q1q q1r q1s q1t q1u q1v q1w q1x q1y q1z q20 q21 q22 q23 q24 q25 q26 q27 q28 q29 q2a q2b q2c q2d q2e q2f q2g q2h q2i q2j q2k q2l q2m q2n q2o q2p q2q q2r q2s q2t q2u q2v q2w q2x q2y q2z q30 q31 q32 q33 q34 q35 q36 q37 q38 q39 q3a q3b q3c q3d q3e q3f q3g q3h q3i q3j q3k q3l q3m q3n
                revert m FA SA PA t p st nx fr A c l w0 Af cf As cs_ Ap cp HM HR HA HN q1 q2 q3 q4 q5 q6 q7 q8 q9 qa qb qc qd qe qf qg qh qi qj qk ql qm qn qo qp qq qr qs qt qu qv qw qx qy qz q10 q11 i k d1 HKK q12 wc u29 u30 u31 u32 u33 u34 u35 u36 u37 u38 u39 u40 u41 u42 u43 u44 u45 u46 u47 u48 u49 u50 u51 u52 u53 u54 u55 u56 u57 u58 u59 u60 u61 u62 u63 u64 u65 u66 u67 u68 u69 u70 u71 u72 u73 u74 u75 u76 u77 u78 u79 u80 u81 u82 u83 u84 u85 u86 u87 u88 u89 u90 u92 u93 u94 u95 u96 u97 u98 u99 u100 u101 u102 u103 u104 u105 q13 q14 q15 q16 q17 q18 q19 q1a q1b q1c q1d q1e q1f q1g q1h q1i q1j q1k q1l q1m q1n q1o q1p q1q q1r q1s q1t q1u q1v q1w q1x q1y q1z q20 q21 q22 q23 q24 q25 q26 q27 q28 q29 q2a q2b q2c q2d q2e q2f q2g q2h q2i q2j q2k q2l q2m q2n q2o q2p q2q q2r q2s q2t q2u q2v q2w q2x q2y q2z q30 q31 q32 q33 q34 q35 q36 q37 q38 q39 q3a q3b q3c q3d q3e u190 u191 u192 u193 u194 u195 u196 u197 u198 u199 u200 u201 u202 u203 u204 u205 u206 u207 u208 u209 u210 u211 u212 u213 u214 u215 u216 u217 u218 u219 u220 u221 u222 u223 u224 u225 u226 u227 u228 u229 u230 u231 u232 u233 u234 u235 u236 u237 u238 u239 u240 u241 u242 u243 u244 u245 u246 u247 u248 u249 u250 u251 u252 u253 u254 u255 u256 u257 u258 u259 u260 u261 u262 u263 u264 u265 u266 u267 u268 u269 u270 u271 u272 u273 u274 u275 u276 u277 u278 u279 u280 u281 u282 u283 u284 u285 u286 u287 u288 u289 u290 u291 u292 u293 u294 u295 u296 u297 u298 u299 u300 u301 u302 u303 u304 u305 u306 u307 u308 u309 u310 u311 u312 HMM HB q3f q3g q3h HB1 w5 HB2 HRF q3i q3j gk wr u14 u20 u21 u22 u23 u24 u106 u107 u108 u109 u110 u111 u112 u113 u114 u115 u116 u117 u118 u119 u120 u121 u122 u123 u124 u125 u126 u127 u128 u129 u130 u131 u132 u133 u134 u135 u136 u137 u138 u139 u140 u141 u142 u143 u144 u145 u146 u147 u148 u149 u150 u151 u152 u153 u154 u155 u156 u157 u158 u159 u160 u161 u162 u163 u164 u165 u166 u167 u168 u169 u170 u171 u172 u173 u174 u175 u176 u177 u178 u179 u180 u181 u182 u183 u184 u185 u186 u187 u188 u189 q3k q3l q3m q3n i2 xs HI HK2 HL2 Ax cx HST2 hi
                exact lem_2.out
              case pos =>
                rename_i q6b q6c q6d q6e q6f q6g q6h q6i q6j q6k q6l q6m q6n q6o q6p q6q q6r q6s q6t q6u q6v q6w q6x q6y q6z q70 q71 q72 q73 q74 q75 q76 q77 q78 q79 q7a q7b q7c q7d q7e q7f q7g q7h q7i q7j q7k q7l q7m q7n q7o q7p q7q q7r q7s q7t q7u q7v q7w q7x q7y q7z q80 q81 q82 q83 q84 q85 q86 q87 q88 q89 q8a q8b q8c q8d q8e q8f q8g q8h q8i q8j q8k q8l q8m q8n q8o q8p q8q q8r q8s q8t q8u q8v q8w q8x q8y q8z q90 q91 q92 q93 q94 q95 q96 q97 q98 q99 q9a q9b q9c q9d q9e q9f q9g q9h q9i q9j q9k q9l q9m q9n q9o q9p q9q q9r q9s q9t q9u q9v q9w q9x
                revert m FA SA PA t p st nx fr A c l w0 Af cf As cs_ Ap cp HM HR HA HN q6b q6c q6d q6e q6f q6g q6h q6i q6j q6k q6l q6m q6n q6o q6p q6q q6r q6s q6t q6u q6v q6w q6x q6y q6z q70 q71 q72 q73 q74 q75 q76 q77 q78 q79 q7a q7b i k d1 HKK q7c wc u29 u30 u31 u32 u33 u34 u35 u36 u37 u38 u39 u40 u41 u42 u43 u44 u45 u46 u47 u48 u49 u50 u51 u52 u53 u54 u55 u56 u57 u58 u59 u60 u61 u62 u63 u64 u65 u66 u67 u68 u69 u70 u71 u72 u73 u74 u75 u76 u77 u78 u79 u80 u81 u82 u83 u84 u85 u86 u87 u88 u89 u90 u92 u93 u94 u95 u96 u97 u98 u99 u100 u101 u102 u103 u104 u105 q7d q7e q7f q7g q7h q7i q7j q7k q7l q7m q7n q7o q7p q7q q7r q7s q7t q7u q7v q7w q7x q7y q7z q80 q81 q82 q83 q84 q85 q86 q87 q88 q89 q8a q8b q8c q8d q8e q8f q8g q8h q8i q8j q8k q8l q8m q8n q8o q8p q8q q8r q8s q8t q8u q8v q8w q8x q8y q8z q90 q91 q92 q93 q94 q95 q96 q97 q98 q99 q9a q9b q9c q9d q9e q9f q9g q9h q9i q9j q9k q9l q9m q9n q9o u190 u191 u192 u193 u194 u195 u196 u197 u198 u199 u200 u201 u202 u203 u204 u205 u206 u207 u208 u209 u210 u211 u212 u213 u214 u215 u216 u217 u218 u219 u220 u221 u222 u223 u224 u225 u226 u227 u228 u229 u230 u231 u232 u233 u234 u235 u236 u237 u238 u239 u240 u241 u242 u243 u244 u245 u246 u247 u248 u249 u250 u251 u252 u253 u254 u255 u256 u257 u258 u259 u260 u261 u262 u263 u264 u265 u266 u267 u268 u269 u270 u271 u272 u273 u274 u275 u276 u277 u278 u279 u280 u281 u282 u283 u284 u285 u286 u287 u288 u289 u290 u291 u292 u293 u294 u295 u296 u297 u298 u299 u300 u301 u302 u303 u304 u305 u306 u307 u308 u309 u310 u311 u312 HMM HB q9p q9q q9r HB1 w5 HB2 HRF q9s q9t gk wr u14 u20 u21 u22 u23 u24 u106 u107 u108 u109 u110 u111 u112 u113 u114 u115 u116 u117 u118 u119 u120 u121 u122 u123 u124 u125 u126 u127 u128 u129 u130 u131 u132 u133 u134 u135 u136 u137 u138 u139 u140 u141 u142 u143 u144 u145 u146 u147 u148 u149 u150 u151 u152 u153 u154 u155 u156 u157 u158 u159 u160 u161 u162 u163 u164 u165 u166 u167 u168 u169 u170 u171 u172 u173 u174 u175 u176 u177 u178 u179 u180 u181 u182 u183 u184 u185 u186 u187 u188 u189 q9u q9v q9w q9x i2 xs HI HK2 HL2 Ax cx HST2 hi
                exact lem_11.out
  case b2 =>
    refine Box_.mk ?_
    intro m FA SA PA t p st nx fr A c l w0 Af cf As cs_ Ap cp HM HR HA HN q1 q2 q3 q4 q5 q6 q7 q8 q9 qa qb qc qd qe qf qg qh qi qj qk ql qm qn qo qp qq qr qs qt qu qv qw qx qy qz q10 q11 i k d1 HKK q12 wc u29 u30 u31 u32 u33 u34 u35 u36 u37 u38 u39 u40 u41 u42 u43 u44 u45 u46 u47 u48 u49 u50 u51 u52 u53 u54 u55 u56 u57 u58 u59 u60 u61 u62 u63 u64 u65 u66 u67 u68 u69 u70 u71 u72 u73 u74 u75 u76 u77 u78 u79 u80 u81 u82 u83 u84 u85 u86 u87 u88 u89 u90 u92 u93 u94 u95 u96 u97 u98 u99 u100 u101 u102 u103 u104 u105 q13 q14 q15 q16 q17 q18 q19 q1a q1b q1c q1d q1e q1f q1g q1h q1i q1j q1k q1l q1m q1n q1o q1p q1q q1r q1s q1t q1u q1v q1w q1x q1y q1z q20 q21 q22 q23 q24 q25 q26 q27 q28 q29 q2a q2b q2c q2d q2e q2f q2g q2h q2i q2j q2k q2l q2m q2n q2o q2p q2q q2r q2s q2t q2u q2v q2w q2x q2y q2z q30 q31 q32 q33 q34 q35 q36 q37 q38 q39 q3a q3b q3c q3d q3e u190 u191 u192 u193 u194 u195 u196 u197 u198 u199 u200 u201 u202 u203 u204 u205 u206 u207 u208 u209 u210 u211 u212 u213 u214 u215 u216 u217 u218 u219 u220 u221 u222 u223 u224 u225 u226 u227 u228 u229 u230 u231 u232 u233 u234 u235 u236 u237 u238 u239 u240 u241 u242 u243 u244 u245 u246 u247 u248 u249 u250 u251 u252 u253 u254 u255 u256 u257 u258 u259 u260 u261 u262 u263 u264 u265 u266 u267 u268 u269 u270 u271 u272 u273 u274 u275 u276 u277 u278 u279 u280 u281 u282 u283 u284 u285 u286 u287 u288 u289 u290 u291 u292 u293 u294 u295 u296 u297 u298 u299 u300 u301 u302 u303 u304 u305 u306 u307 u308 u309 u310 u311 u312 HMM HB q3f q3g q3h HB1 w5 HB2 HRF q3i q3j gk wr u14 u20 u21 u22 u23 u24 u106 u107 u108 u109 u110 u111 u112 u113 u114 u115 u116 u117 u118 u119 u120 u121 u122 u123 u124 u125 u126 u127 u128 u129 u130 u131 u132 u133 u134 u135 u136 u137 u138 u139 u140 u141 u142 u143 u144 u145 u146 u147 u148 u149 u150 u151 u152 u153 u154 u155 u156 u157 u158 u159 u160 u161 u162 u163 u164 u165 u166 u167 u168 u169 u170 u171 u172 u173 u174 u175 u176 u177 u178 u179 u180 u181 u182 u183 u184 u185 u186 u187 u188 u189 q3k q3l q3m q3n i2 xs HI HK2 HL2 Ax cx HST2 hi
    have d1 : decide (i2 < (l.length : Int)) = false := decide_eq_false hi
    have he : i2 = (l.length : Int) := by have := HI.out; omega
    have HFB := Aside0.mk (show refB t p l FA = some xs from by have h_ := HK2.out; rw [he, Int.toNat_natCast, List.drop_length] at h_; exact h_.symm)
    have HXL := Aside0.mk (show xs.length ≤ FA.length + recs l from by have := HL2.out; omega)
    clear he hi HI HK2 HL2
    have HRF2 := Aside0.mk (HRF.out.trans (by rw [HFB.out]))
    clear HRF
    go_wp2_with fail
    go_loopg [18, 25] (l.length + 1) (fun kq v18 v25 wq => ∃ (i3 : Int) (zs : List Snt), v25 = .int .i64 i3 ∧ Aside0 (kq + i3.toNat = l.length + 1 ∧ 0 ≤ i3 ∧ i3 ≤ (l.length : Int)) ∧ Aside0 (refS t p (l.drop i3.toNat) zs = refS t p l SA) ∧ Aside0 (zs.length + (l.length - i3.toNat) ≤ SA.length + l.length) ∧ Aside0 (RSt w0.heap.size m wc wq (.slice Af FA.length cf) FA (.slice As SA.length cs_) SA (.slice Ap PA.length cp) PA (.slice Ax xs.length cx) xs v18 zs))
    case atStart => exact ⟨0, SA, rfl, ⟨by simp, by omega, by omega⟩, ⟨rfl⟩, ⟨by simp⟩, HST2⟩
    case round =>
      obtain ⟨i3, zs, rfl, HI, HK3, HL3, HST3⟩ := hrel
      clear HST2
      obtain ⟨Az, cz, ex⟩ := HST3.out.xS.slice
      subst ex
      by_cases hi : i3 < (l.length : Int)
      case neg =>
        have d1 : decide (i3 < (l.length : Int)) = false := decide_eq_false hi
        have he : i3 = (l.length : Int) := by have := HI.out; omega
        have HF_ := Aside0.mk (show refF t p st nx fr l FA SA PA = (0, xs, zs, if k < 0 then PA ++ [⟨t, p, st, nx⟩] else PA.set k.toNat ⟨(spnAt PA k).t, (spnAt PA k).p, st, nx⟩) from HRF2.out.trans (by rw [show refS t p l SA = some zs from by have h_ := HK3.out; rw [he, Int.toNat_natCast, List.drop_length] at h_; exact h_.symm]))
        clear he hi HI HK3 HL3 HRF2
        have f0 := blk_frozen HST3.out.hg 0
        have f1 := blk_frozen HST3.out.hg 1
        have c0 := (blk_cell HST3.out.hg 0).trans rfl
        have c1 := (blk_cell HST3.out.hg 1).trans rfl
        go_upto_region 49 with fail
        (try simp only [Act.put, List.setIfInBounds_toArray, List.set_cons_zero, List.set_cons_succ])
        have HFN := Aside0.mk HST3.out.fin
        clear f0 f1 c0 c1 HST3
        generalize (wr.setCell ⟨m, 0, none⟩ (.slice Ax xs.length cx)).setCell ⟨m, 1, none⟩ (.slice Az zs.length cz) = we at HFN ⊢
        have c2 := (blk_cell HFN.out.hg 2).trans rfl
        have f2 := blk_frozen HFN.out.hg 2
        by_cases hk : k < 0
        case pos =>
          have d2 : decide (k < 0) = true := decide_eq_true hk
          have HF2 := Aside0.mk (HF_.out.trans (by rw [if_pos hk]))
          clear hk HF_
          go_upto_region 50 with fail
          (try simp only [Act.put, List.setIfInBounds_toArray, List.set_cons_zero, List.set_cons_succ])
          have HLN := Aside0.mk (show (PA.length + 1) * 40 ≤ 140737488355328 from by have := HN.out; omega)
          go_wp2_with (at_builtin; refine wpl_app1 Spn.cs rfl w0.heap.size (.tmp 287) (.tmp 293) 30 86 (.agg #[.string ⟨#[]⟩, .int .i64 0, .int .i64 0, .int .i64 0]) 4 40 rfl rfl Try.underlying30 app_spn rfl (by decide) (by decide) (.slice Ap PA.length cp) PA ⟨t, p, st, nx⟩ rfl rfl rfl (spn_one _) HFN.out.hP HFN.out.bs HLN.out ?_; intro v1 w1 h1 h2 h3 h4; have g1 := blk_apart HFN.out.hg HFN.out.hP (by decide) h3; have f3 := blk_frozen g1 2; have c3 := (blk_cell g1 2).trans rfl; clear g1; obtain ⟨A1, n1, c1_, rfl⟩ : ∃ A n c, v1 = .slice A n c := (let ⟨A, c, e⟩ := h1.slice; ⟨A, _, c, e⟩); go_frame)
          go_ret
          exact ⟨by rw [HF2.out]; rfl, by rw [HF2.out]; exact (HFN.out.papp h1 h3).1, (HFN.out.papp h1 h3).2⟩
        case neg =>
          have d2 : decide (k < 0) = false := decide_eq_false hk
          have h0 : 0 ≤ k := Int.not_lt.1 hk
          have HF2 := Aside0.mk (HF_.out.trans (by rw [if_neg hk]))
          clear hk HF_
          have hx := spnAt_get h0 HKK.out.2.2
          obtain ⟨gP, eP, zc⟩ := HFN.out.hP.at spn_len k.toNat (spnAt PA k) hx
          cases eP
          obtain ⟨_, _, gb⟩ := HFN.out.hP.typed gP rfl
          have HX := Aside0.mk hx
          have p1 := eq_true h0
          have p2 := eq_true HKK.out.2.2
          have z2 := zc 2 (.int .i64 (spnAt PA k).st) rfl
          have f3 := blk_frozen gb (k.toNat * 4 + 2)
          clear hx h0 zc gb
          go_upto_region 52 with fail
          (try simp only [Act.put, List.setIfInBounds_toArray, List.set_cons_zero, List.set_cons_succ])
          have HP1 := Aside0.mk (HFN.out.pset k.toNat (spnAt PA k) ⟨(spnAt PA k).t, (spnAt PA k).p, st, (spnAt PA k).nx⟩ HX.out 2 (.int .i64 st) (by decide) rfl)
          clear c2 f2 f3 z2 HFN
          generalize we.setCell ⟨gP, k.toNat * 4 + 2, none⟩ (.int .i64 st) = wp1 at HP1 ⊢
          have hx2 : (PA.set k.toNat ⟨(spnAt PA k).t, (spnAt PA k).p, st, (spnAt PA k).nx⟩)[k.toNat]? = some ⟨(spnAt PA k).t, (spnAt PA k).p, st, (spnAt PA k).nx⟩ := by rw [List.getElem?_set_self (List.getElem?_eq_some_iff.1 HX.out).1]
          obtain ⟨gQ, eQ, zc⟩ := HP1.out.hP.at2_ k.toNat ⟨(spnAt PA k).t, (spnAt PA k).p, st, (spnAt PA k).nx⟩ hx2
          obtain ⟨_, _, gb⟩ := HP1.out.hP.typed gP rfl
          cases eQ
          have HP2 := Aside0.mk (HP1.out.pset k.toNat ⟨(spnAt PA k).t, (spnAt PA k).p, st, (spnAt PA k).nx⟩ ⟨(spnAt PA k).t, (spnAt PA k).p, st, nx⟩ hx2 3 (.int .i64 nx) (by decide) rfl)
          have z3 := zc 3 (.int .i64 (spnAt PA k).nx) rfl
          have f3 := blk_frozen gb (k.toNat * 4 + 3)
          have c2 := (blk_cell HP1.out.hg 2).trans rfl
          clear hx2 zc gb
          go_wp2_with fail
          go_ret
          have hs2 : (PA.set k.toNat ⟨(spnAt PA k).t, (spnAt PA k).p, st, (spnAt PA k).nx⟩).set k.toNat ⟨(spnAt PA k).t, (spnAt PA k).p, st, nx⟩ = PA.set k.toNat ⟨(spnAt PA k).t, (spnAt PA k).p, st, nx⟩ := by simp
          have HP3 := HP2.out
          rw [hs2] at HP3
          exact ⟨by rw [HF2.out]; rfl, by rw [HF2.out]; exact HP3.chk, HP3.keep⟩
      case pos =>
        rename_i q3o q3p q3q q3r q3s q3t q3u q3v q3w q3x q3y q3z q40 q41 q42 q43 q44 q45 q46 q47 q48 q49 q4a q4b q4c q4d q4e q4f q4g q4h q4i q4j q4k q4l q4m q4n q4o q4p q4q q4r q4s q4t q4u q4v q4w q4x q4y q4z q50 q51 q52 q53 q54 q55 q56 q57 q58 q59 q5a q5b q5c q5d q5e q5f q5g q5h q5i q5j q5k q5l q5m q5n q5o q5p q5q q5r q5s q5t q5u q5v q5w q5x q5y q5z q60 q61 q62 q63 q64 q65 q66 q67 q68 q69 q6a
        revert m FA SA PA t p st nx fr A c l w0 Af cf As cs_ Ap cp HM HR HA HN q1 q2 q3 q4 q5 q6 q7 q8 q9 qa qb qc qd qe qf qg qh qi qj qk ql qm qn qo qp qq qr qs qt qu qv qw qx qy qz q10 q11 i k q3o HKK q12 wc u29 u30 u31 u32 u33 u34 u35 u36 u37 u38 u39 u40 u41 u42 u43 u44 u45 u46 u47 u48 u49 u50 u51 u52 u53 u54 u55 u56 u57 u58 u59 u60 u61 u62 u63 u64 u65 u66 u67 u68 u69 u70 u71 u72 u73 u74 u75 u76 u77 u78 u79 u80 u81 u82 u83 u84 u85 u86 u87 u88 u89 u90 u92 u93 u94 u95 u96 u97 u98 u99 u100 u101 u102 u103 u104 u105 q13 q14 q15 q16 q17 q18 q19 q1a q1b q1c q1d q1e q1f q1g q1h q1i q1j q1k q1l q1m q1n q1o q1p q1q q1r q1s q1t q1u q1v q1w q1x q1y q1z q20 q21 q22 q23 q24 q25 q26 q27 q28 q29 q2a q2b q2c q2d q2e q2f q2g q2h q2i q2j q2k q2l q2m q2n q2o q2p q2q q2r q2s q2t q2u q2v q2w q2x q2y q2z q30 q31 q32 q33 q34 q35 q36 q37 q38 q39 q3a q3b q3c q3d q3e q3p q3q q3r q3s q3t q3u q3v q3w q3x q3y q3z q40 q41 q42 q43 q44 q45 q46 q47 q48 q49 q4a q4b q4c q4d q4e q4f q4g q4h q4i q4j q4k q4l q4m q4n q4o q4p q4q q4r q4s q4t q4u q4v q4w q4x q4y q4z q50 q51 q52 q53 q54 q55 q56 q57 q58 q59 q5a q5b q5c q5d q5e q5f q5g q5h q5i q5j q5k q5l q5m q5n q5o q5p q5q q5r q5s q5t q5u q5v q5w q5x q5y q5z u273 u274 u275 u276 u277 u278 u279 u280 u281 u282 u283 u284 u285 u286 u287 u288 u289 u290 u291 u292 u293 u294 u295 u296 u297 u298 u299 u300 u301 u302 u303 u304 u305 u306 u307 u308 u309 u310 u311 u312 HMM HB q3f q3g q3h HB1 w5 HB2 q3i q60 q61 q62 u20 u21 u22 u23 u24 u106 u107 u108 u109 u110 u111 u112 u113 u114 u115 u116 u117 u118 u119 u120 u121 u122 u123 u124 u125 u126 u127 u128 u129 u130 u131 u132 u133 u134 u135 u136 u137 u138 u139 u140 u141 u142 u143 u144 u145 u146 u147 u148 u149 u150 u151 u152 u153 u154 u155 u156 u157 u158 u159 u160 u161 u162 u163 u164 u165 u166 u167 u168 u169 u170 u171 u172 u173 u174 u175 u176 u177 u178 u179 u180 u181 u182 u183 u184 u185 u186 u187 u188 u189 q3k q3l q3m q3n i2 xs Ax cx d1 HFB HXL HRF2 q63 q64 q65 q66 gk wr u14 u26 u27 u28 u190 u191 u192 u193 u194 u195 u196 u197 u198 u199 u200 u201 u202 u203 u204 u205 u206 u207 u208 u209 u210 u211 u212 u213 u214 u215 u216 u217 u218 u219 u220 u221 u222 u223 u224 u225 u226 u227 u228 u229 u230 u231 u232 u233 u234 u235 u236 u237 u238 u239 u240 u241 u242 u243 u244 u245 u246 u247 u248 u249 u250 u251 u252 u253 u254 u255 u256 u257 u258 u259 u260 u261 u262 u263 u264 u265 u266 u267 u268 u269 u270 u271 u272 q67 q68 q69 q6a i3 zs HI HK3 HL3 Az cz HST3 hi
        exact lem_4.out
  case b4 =>
    refine Box_.mk ?_
    intro m FA SA PA t p st nx fr A c l w0 Af cf As cs_ Ap cp HM HR HA HN q1 q2 q3 q4 q5 q6 q7 q8 q9 qa qb qc qd qe qf qg qh qi qj qk ql qm qn qo qp qq qr qs qt qu qv qw qx qy qz q10 q11 i k q3o HKK q12 wc u29 u30 u31 u32 u33 u34 u35 u36 u37 u38 u39 u40 u41 u42 u43 u44 u45 u46 u47 u48 u49 u50 u51 u52 u53 u54 u55 u56 u57 u58 u59 u60 u61 u62 u63 u64 u65 u66 u67 u68 u69 u70 u71 u72 u73 u74 u75 u76 u77 u78 u79 u80 u81 u82 u83 u84 u85 u86 u87 u88 u89 u90 u92 u93 u94 u95 u96 u97 u98 u99 u100 u101 u102 u103 u104 u105 q13 q14 q15 q16 q17 q18 q19 q1a q1b q1c q1d q1e q1f q1g q1h q1i q1j q1k q1l q1m q1n q1o q1p q1q q1r q1s q1t q1u q1v q1w q1x q1y q1z q20 q21 q22 q23 q24 q25 q26 q27 q28 q29 q2a q2b q2c q2d q2e q2f q2g q2h q2i q2j q2k q2l q2m q2n q2o q2p q2q q2r q2s q2t q2u q2v q2w q2x q2y q2z q30 q31 q32 q33 q34 q35 q36 q37 q38 q39 q3a q3b q3c q3d q3e q3p q3q q3r q3s q3t q3u q3v q3w q3x q3y q3z q40 q41 q42 q43 q44 q45 q46 q47 q48 q49 q4a q4b q4c q4d q4e q4f q4g q4h q4i q4j q4k q4l q4m q4n q4o q4p q4q q4r q4s q4t q4u q4v q4w q4x q4y q4z q50 q51 q52 q53 q54 q55 q56 q57 q58 q59 q5a q5b q5c q5d q5e q5f q5g q5h q5i q5j q5k q5l q5m q5n q5o q5p q5q q5r q5s q5t q5u q5v q5w q5x q5y q5z u273 u274 u275 u276 u277 u278 u279 u280 u281 u282 u283 u284 u285 u286 u287 u288 u289 u290 u291 u292 u293 u294 u295 u296 u297 u298 u299 u300 u301 u302 u303 u304 u305 u306 u307 u308 u309 u310 u311 u312 HMM HB q3f q3g q3h HB1 w5 HB2 q3i q60 q61 q62 u20 u21 u22 u23 u24 u106 u107 u108 u109 u110 u111 u112 u113 u114 u115 u116 u117 u118 u119 u120 u121 u122 u123 u124 u125 u126 u127 u128 u129 u130 u131 u132 u133 u134 u135 u136 u137 u138 u139 u140 u141 u142 u143 u144 u145 u146 u147 u148 u149 u150 u151 u152 u153 u154 u155 u156 u157 u158 u159 u160 u161 u162 u163 u164 u165 u166 u167 u168 u169 u170 u171 u172 u173 u174 u175 u176 u177 u178 u179 u180 u181 u182 u183 u184 u185 u186 u187 u188 u189 q3k q3l q3m q3n i2 xs Ax cx d1 HFB HXL HRF2 q63 q64 q65 q66 gk wr u14 u26 u27 u28 u190 u191 u192 u193 u194 u195 u196 u197 u198 u199 u200 u201 u202 u203 u204 u205 u206 u207 u208 u209 u210 u211 u212 u213 u214 u215 u216 u217 u218 u219 u220 u221 u222 u223 u224 u225 u226 u227 u228 u229 u230 u231 u232 u233 u234 u235 u236 u237 u238 u239 u240 u241 u242 u243 u244 u245 u246 u247 u248 u249 u250 u251 u252 u253 u254 u255 u256 u257 u258 u259 u260 u261 u262 u263 u264 u265 u266 u267 u268 u269 u270 u271 u272 q67 q68 q69 q6a i3 zs HI HK3 HL3 Az cz HST3 hi
    have d1 : decide (i3 < (l.length : Int)) = true := decide_eq_true hi
    have h0 := HI.out.2.1
    obtain ⟨ad, A4, c4, ea, x0, x1, x2, x3, x4, l4, g4⟩ := at_T61 HR.out.1 i3 h0 hi
    have hbw := HST3.out.floor HB.out HM.out (Nat.le_refl _)
    replace x0 := pw_cell_below hbw x0
    replace x2 := pw_cell_below hbw x2
    replace x3 := pw_cell_below hbw x3
    have HD := Aside0.mk (drop_get z61 h0 hi)
    have p1 := eq_true h0
    have p2 := eq_true hi
    have HI2 := Aside0.mk hi
    clear g4 l4 x1 x4 hbw h0 hi
    cases ea
    have e1 : IntKind.i64.wrap (i3 + 1) = i3 + 1 := (i64_w _).trans (by have := HI.out; have := HA.out.hl; unfold wrap64; omega)
    by_cases hq : (rd_T61 l i3).f2 < 1
    case pos =>
      have d2 : decide ((rd_T61 l i3).f2 < 1) = true := decide_eq_true hq
      have HK4 := Aside0.mk (show refS t p (l.drop (i3 + 1).toNat) zs = refS t p l SA from by rw [← HK3.out, HD.out]; exact (refS_skip hq).symm)
      clear hq
      go_wp2_with fail
      go_roundg (l.length + 1 - (i3 + 1).toNat)
      case measure => have := HI.out; have := HI2.out; omega
      case rel => exact ⟨i3 + 1, zs, by first | rfl | rw [e1], ⟨by have := HI.out; have := HI2.out; omega, by have := HI.out; omega, by have := HI2.out; omega⟩, HK4, ⟨by have := HL3.out; have := HI2.out; have := HI.out; omega⟩, HST3⟩
    case neg =>
      have d2 : decide ((rd_T61 l i3).f2 < 1) = false := decide_eq_false hq
      have HQ_ := Aside0.mk (Int.not_lt.1 hq)
      clear hq
      go_upto_region 36 with fail
      go_wp2_with fail
      clear x0 x2 x3
      go_loopg [26, 27] (zs.length + 1) (fun ke v26 v27 wq => ∃ (mm : Int) (met : Bool), v26 = .bool met ∧ v27 = .int .i64 mm ∧ Aside0 (ke + mm.toNat = zs.length + 1 ∧ 0 ≤ mm ∧ mm ≤ (zs.length : Int)) ∧ Aside0 ((sBad zs (⟨t, p, (rd_T61 l i3).f2, (rd_T61 l i3).f3, (rd_T61 l i3).f0⟩ : Snt) ↔ sBad (zs.drop mm.toNat) (⟨t, p, (rd_T61 l i3).f2, (rd_T61 l i3).f3, (rd_T61 l i3).f0⟩ : Snt)) ∧ (sMet zs (⟨t, p, (rd_T61 l i3).f2, (rd_T61 l i3).f3, (rd_T61 l i3).f0⟩ : Snt) ↔ met = true ∨ sMet (zs.drop mm.toNat) (⟨t, p, (rd_T61 l i3).f2, (rd_T61 l i3).f3, (rd_T61 l i3).f0⟩ : Snt))) ∧ Aside0 (RSt w0.heap.size m wc wq (.slice Af FA.length cf) FA (.slice As SA.length cs_) SA (.slice Ap PA.length cp) PA (.slice Ax xs.length cx) xs (.slice Az zs.length cz) zs))
      case atStart => exact ⟨0, false, rfl, rfl, ⟨by simp, by omega, by omega⟩, ⟨by simp⟩, HST3⟩
      case round =>
        obtain ⟨mm, met, rfl, rfl, HMI, HMQ, HMX⟩ := hrel
        clear HST3
        have hbw := HMX.out.floor HB.out HM.out (Nat.le_refl _)
        obtain ⟨ad_, A4, c4, ea, x0, x1, x2, x3, x4, l4, g4⟩ := at_T61 HR.out.1 i3 (of_eq_true p1) HI2.out
        cases ea
        replace x0 := pw_cell_below hbw x0
        replace x2 := pw_cell_below hbw x2
        replace x3 := pw_cell_below hbw x3
        clear x1 x4 l4 g4 hbw
        by_cases hm : mm < (zs.length : Int)
        case neg =>
          have d3 : decide (mm < (zs.length : Int)) = false := decide_eq_false hm
          have he : mm = (zs.length : Int) := by have := HMI.out; omega
          have HNB := Aside0.mk (show ¬ sBad zs (⟨t, p, (rd_T61 l i3).f2, (rd_T61 l i3).f3, (rd_T61 l i3).f0⟩ : Snt) ∧ (sMet zs (⟨t, p, (rd_T61 l i3).f2, (rd_T61 l i3).f3, (rd_T61 l i3).f0⟩ : Snt) ↔ met = true) from by have h_ := HMQ.out; rw [he, Int.toNat_natCast, List.drop_length] at h_; exact ⟨fun h => sBad_nil (h_.1.1 h), by rw [h_.2]; exact or_iff_left sMet_nil⟩)
          clear he hm HMQ
          cases met with
          | true =>
            have HY1 := Aside0.mk (show refS t p (l.drop (i3 + 1).toNat) zs = refS t p l SA from by rw [← HK3.out, HD.out]; exact (refS_step (t := t) (p := p) (b := (rd_T61 l i3)) (Int.not_lt.2 HQ_.out) (sStep_met HNB.out.1 (HNB.out.2.2 rfl))).symm)
            go_wp2_with fail
            go_roundg (l.length + 1 - (i3 + 1).toNat)
            case measure => have := HI.out; have := HI2.out; omega
            case rel => exact ⟨i3 + 1, zs, by first | rfl | rw [e1], ⟨by have := HI.out; have := HI2.out; omega, by have := HI.out; omega, by have := HI2.out; omega⟩, HY1, ⟨by have := HL3.out; have := HI2.out; have := HI.out; omega⟩, ⟨HMX.out⟩⟩
          | false =>
            have HY1 := Aside0.mk (show refS t p (l.drop (i3 + 1).toNat) (zs ++ [(⟨t, p, (rd_T61 l i3).f2, (rd_T61 l i3).f3, (rd_T61 l i3).f0⟩ : Snt)]) = refS t p l SA from by rw [← HK3.out, HD.out]; exact (refS_step (t := t) (p := p) (b := (rd_T61 l i3)) (Int.not_lt.2 HQ_.out) (sStep_new HNB.out.1 (fun h => by have := HNB.out.2.1 h; cases this))).symm)
            have HLN := Aside0.mk (show (zs.length + 1) * 48 ≤ 140737488355328 from by have := HL3.out; have := HN.out; have := HI2.out; have := HI.out; omega)
            go_upto_region 46 with fail
            (try simp only [Act.put, List.setIfInBounds_toArray, List.set_cons_zero, List.set_cons_succ])
            have hdr := below_drew1 (Below.refl wr.heap.size wr)
            have HX1 := Aside0.mk (HMX.out.below hdr)
            have HV0 := Aside0.mk (pw_cell_below hdr x0)
            have HV2 := Aside0.mk (pw_cell_below hdr x2)
            have HV3 := Aside0.mk (pw_cell_below hdr x3)
            refine start_ (n := 22) (S := fun w' => Below wr.drew.heap.size wr.drew w') (ds := [20]) #[false, false, false, false, false, false, false, false, false, false, false, false, false, false, false, false, false, false, false, false, false, false] (by decide +kernel) rfl rfl (Below.refl _ _) (fun hHeld => ?_)
            clear x0 x2 x3 hdr HMX
            generalize wr.drew = wd at HX1 HV0 HV2 HV3 hHeld ⊢
            refine pure_ (i := 0) (N := (some 252)) (v := ?_) (a' := ?_) #[true, false, false, false, false, false, false, false, false, false, false, false, false, false, false, false, false, false, false, false, false, false] rfl rfl (by decide +kernel) (fun _ _ _ h => h) (Or.inl ⟨by rfl, ?_⟩) ?_ ?_
            rotate_left
            · intro w'
              go_simp
              with_reducible rfl
            rotate_left
            · simp only [Act.put, List.setIfInBounds_toArray, List.set_cons_zero, List.set_cons_succ, i64_w, i32_w]
              rfl
            refine pure_ (i := 1) (N := (some 253)) (v := ?_) (a' := ?_) #[true, true, false, false, false, false, false, false, false, false, false, false, false, false, false, false, false, false, false, false, false, false] rfl rfl (by decide +kernel) (fun _ _ _ h => h) (Or.inl ⟨by rfl, ?_⟩) ?_ ?_
            rotate_left
            · intro w'
              go_simp
              with_reducible rfl
            rotate_left
            · simp only [Act.put, List.setIfInBounds_toArray, List.set_cons_zero, List.set_cons_succ, i64_w, i32_w]
              rfl
            refine pure_ (i := 2) (N := (some 254)) (v := ?_) (a' := ?_) #[true, true, true, false, false, false, false, false, false, false, false, false, false, false, false, false, false, false, false, false, false, false] rfl rfl (by decide +kernel) (fun _ _ _ h => h) (Or.inl ⟨by rfl, ?_⟩) ?_ ?_
            rotate_left
            · intro w'
              go_simp
              with_reducible rfl
            rotate_left
            · simp only [Act.put, List.setIfInBounds_toArray, List.set_cons_zero, List.set_cons_succ, i64_w, i32_w]
              rfl
            refine pure_ (i := 3) (N := (some 255)) (v := ?_) (a' := ?_) #[true, true, true, true, false, false, false, false, false, false, false, false, false, false, false, false, false, false, false, false, false, false] rfl rfl (by decide +kernel) (fun _ _ _ h => h) (Or.inl ⟨by rfl, ?_⟩) ?_ ?_
            rotate_left
            · intro w'
              go_simp
              with_reducible rfl
            rotate_left
            · simp only [Act.put, List.setIfInBounds_toArray, List.set_cons_zero, List.set_cons_succ, i64_w, i32_w]
              rfl
            refine pure_ (i := 4) (N := (some 256)) (v := ?_) (a' := ?_) #[true, true, true, true, true, false, false, false, false, false, false, false, false, false, false, false, false, false, false, false, false, false] rfl rfl (by decide +kernel) (fun _ _ _ h => h) (Or.inl ⟨by rfl, ?_⟩) ?_ ?_
            rotate_left
            · intro w'
              go_simp
              with_reducible rfl
            rotate_left
            · simp only [Act.put, List.setIfInBounds_toArray, List.set_cons_zero, List.set_cons_succ, i64_w, i32_w]
              rfl
            refine pure_ (i := 5) (N := (some 257)) (v := ?_) (a' := ?_) #[true, true, true, true, true, true, false, false, false, false, false, false, false, false, false, false, false, false, false, false, false, false] rfl rfl (by decide +kernel) (fun _ _ _ h => h) (Or.inl ⟨by rfl, ?_⟩) ?_ ?_
            rotate_left
            · intro w'
              go_simp
              with_reducible rfl
            rotate_left
            · simp only [Act.put, List.setIfInBounds_toArray, List.set_cons_zero, List.set_cons_succ, i64_w, i32_w]
              rfl
            refine pure_ (i := 6) (N := (some 258)) (v := ?_) (a' := ?_) #[true, true, true, true, true, true, true, false, false, false, false, false, false, false, false, false, false, false, false, false, false, false] rfl rfl (by decide +kernel) (fun _ _ _ h => h) (Or.inl ⟨by rfl, ?_⟩) ?_ ?_
            rotate_left
            · intro w'
              go_simp
              with_reducible rfl
            rotate_left
            · simp only [Act.put, List.setIfInBounds_toArray, List.set_cons_zero, List.set_cons_succ, i64_w, i32_w]
              rfl
            refine take_ (i := 7) (N := (some 259)) (v := ?_) (a' := ?_) #[true, true, true, true, true, true, true, true, false, false, false, false, false, false, false, false, false, false, false, false, false, false] rfl rfl (by decide +kernel) (fun _ _ _ h => h) (Or.inl ⟨by rfl, ?_⟩) hHeld ?_ ?_
            rotate_left
            · rintro w' s0
              have c0_ := pw_cell_below s0 HV2.out
              go_simp
              with_reducible rfl
            rotate_left
            · simp only [Act.put, List.setIfInBounds_toArray, List.set_cons_zero, List.set_cons_succ, i64_w, i32_w]
              rfl
            refine pure_ (i := 8) (N := (some 260)) (v := ?_) (a' := ?_) #[true, true, true, true, true, true, true, true, true, false, false, false, false, false, false, false, false, false, false, false, false, false] rfl rfl (by decide +kernel) (fun _ _ _ h => h) (Or.inl ⟨by rfl, ?_⟩) ?_ ?_
            rotate_left
            · intro w'
              go_simp
              with_reducible rfl
            rotate_left
            · simp only [Act.put, List.setIfInBounds_toArray, List.set_cons_zero, List.set_cons_succ, i64_w, i32_w]
              rfl
            refine pure_ (i := 9) (N := (some 261)) (v := ?_) (a' := ?_) #[true, true, true, true, true, true, true, true, true, true, false, false, false, false, false, false, false, false, false, false, false, false] rfl rfl (by decide +kernel) (fun _ _ _ h => h) (Or.inl ⟨by rfl, ?_⟩) ?_ ?_
            rotate_left
            · intro w'
              go_simp
              with_reducible rfl
            rotate_left
            · simp only [Act.put, List.setIfInBounds_toArray, List.set_cons_zero, List.set_cons_succ, i64_w, i32_w]
              rfl
            refine pure_ (i := 10) (N := (some 262)) (v := ?_) (a' := ?_) #[true, true, true, true, true, true, true, true, true, true, true, false, false, false, false, false, false, false, false, false, false, false] rfl rfl (by decide +kernel) (fun _ _ _ h => h) (Or.inl ⟨by rfl, ?_⟩) ?_ ?_
            rotate_left
            · intro w'
              go_simp
              with_reducible rfl
            rotate_left
            · simp only [Act.put, List.setIfInBounds_toArray, List.set_cons_zero, List.set_cons_succ, i64_w, i32_w]
              rfl
            refine pure_ (i := 11) (N := (some 263)) (v := ?_) (a' := ?_) #[true, true, true, true, true, true, true, true, true, true, true, true, false, false, false, false, false, false, false, false, false, false] rfl rfl (by decide +kernel) (fun _ _ _ h => h) (Or.inl ⟨by rfl, ?_⟩) ?_ ?_
            rotate_left
            · intro w'
              go_simp
              with_reducible rfl
            rotate_left
            · simp only [Act.put, List.setIfInBounds_toArray, List.set_cons_zero, List.set_cons_succ, i64_w, i32_w]
              rfl
            refine take_ (i := 12) (N := (some 264)) (v := ?_) (a' := ?_) #[true, true, true, true, true, true, true, true, true, true, true, true, true, false, false, false, false, false, false, false, false, false] rfl rfl (by decide +kernel) (fun _ _ _ h => h) (Or.inl ⟨by rfl, ?_⟩) hHeld ?_ ?_
            rotate_left
            · rintro w' s0
              have c0_ := pw_cell_below s0 HV3.out
              go_simp
              with_reducible rfl
            rotate_left
            · simp only [Act.put, List.setIfInBounds_toArray, List.set_cons_zero, List.set_cons_succ, i64_w, i32_w]
              rfl
            refine pure_ (i := 13) (N := (some 265)) (v := ?_) (a' := ?_) #[true, true, true, true, true, true, true, true, true, true, true, true, true, true, false, false, false, false, false, false, false, false] rfl rfl (by decide +kernel) (fun _ _ _ h => h) (Or.inl ⟨by rfl, ?_⟩) ?_ ?_
            rotate_left
            · intro w'
              go_simp
              with_reducible rfl
            rotate_left
            · simp only [Act.put, List.setIfInBounds_toArray, List.set_cons_zero, List.set_cons_succ, i64_w, i32_w]
              rfl
            refine pure_ (i := 14) (N := (some 266)) (v := ?_) (a' := ?_) #[true, true, true, true, true, true, true, true, true, true, true, true, true, true, true, false, false, false, false, false, false, false] rfl rfl (by decide +kernel) (fun _ _ _ h => h) (Or.inl ⟨by rfl, ?_⟩) ?_ ?_
            rotate_left
            · intro w'
              go_simp
              with_reducible rfl
            rotate_left
            · simp only [Act.put, List.setIfInBounds_toArray, List.set_cons_zero, List.set_cons_succ, i64_w, i32_w]
              rfl
            refine pure_ (i := 15) (N := (some 267)) (v := ?_) (a' := ?_) #[true, true, true, true, true, true, true, true, true, true, true, true, true, true, true, true, false, false, false, false, false, false] rfl rfl (by decide +kernel) (fun _ _ _ h => h) (Or.inl ⟨by rfl, ?_⟩) ?_ ?_
            rotate_left
            · intro w'
              go_simp
              with_reducible rfl
            rotate_left
            · simp only [Act.put, List.setIfInBounds_toArray, List.set_cons_zero, List.set_cons_succ, i64_w, i32_w]
              rfl
            refine pure_ (i := 16) (N := (some 268)) (v := ?_) (a' := ?_) #[true, true, true, true, true, true, true, true, true, true, true, true, true, true, true, true, true, false, false, false, false, false] rfl rfl (by decide +kernel) (fun _ _ _ h => h) (Or.inl ⟨by rfl, ?_⟩) ?_ ?_
            rotate_left
            · intro w'
              go_simp
              with_reducible rfl
            rotate_left
            · simp only [Act.put, List.setIfInBounds_toArray, List.set_cons_zero, List.set_cons_succ, i64_w, i32_w]
              rfl
            refine take_ (i := 17) (N := (some 269)) (v := ?_) (a' := ?_) #[true, true, true, true, true, true, true, true, true, true, true, true, true, true, true, true, true, true, false, false, false, false] rfl rfl (by decide +kernel) (fun _ _ _ h => h) (Or.inl ⟨by rfl, ?_⟩) hHeld ?_ ?_
            rotate_left
            · rintro w' s0
              have c0_ := pw_cell_below s0 HV0.out
              go_simp
              with_reducible rfl
            rotate_left
            · simp only [Act.put, List.setIfInBounds_toArray, List.set_cons_zero, List.set_cons_succ, i64_w, i32_w]
              rfl
            refine pure_ (i := 18) (N := (some 270)) (v := ?_) (a' := ?_) #[true, true, true, true, true, true, true, true, true, true, true, true, true, true, true, true, true, true, true, false, false, false] rfl rfl (by decide +kernel) (fun _ _ _ h => h) (Or.inl ⟨by rfl, ?_⟩) ?_ ?_
            rotate_left
            · intro w'
              go_simp
              with_reducible rfl
            rotate_left
            · simp only [Act.put, List.setIfInBounds_toArray, List.set_cons_zero, List.set_cons_succ, i64_w, i32_w]
              rfl
            refine one_ (i := 19) (N := (some 271)) #[true, true, true, true, true, true, true, true, true, true, true, true, true, true, true, true, true, true, true, true, false, false] rfl rfl (by decide +kernel) (by decide) (fun K hK => ?_)
            refine value_ (w1 := wd.alloc (.cells #[.string t, .int .i64 p, .int .i64 (rd_T61 l i3).f2, .int .i64 (rd_T61 l i3).f3, .int .i64 (rd_T61 l i3).f0] 90)) (v := .slice (some ⟨wd.heap.size, 0, none⟩) 1 1) (by rfl) rfl ?_ ?_
            · go_simp
              try rfl
            refine hK.out _ _ (below_alloc hHeld _) (fun hHeld => ?_)
            clear hK K
            refine norm_ (a' := ?_) ?_ ?_
            rotate_left
            · show Act.put _ (some 271) _ = _
              simp only [Act.put, List.setIfInBounds_toArray, List.set_cons_zero, List.set_cons_succ, i64_w, i32_w]
              rfl
            refine last_ (i := 20) (N := (some 272)) #[true, true, true, true, true, true, true, true, true, true, true, true, true, true, true, true, true, true, true, true, true, false] rfl rfl (by decide +kernel) (by decide) (fun K hK => ?_)
            rw [if_pos (by rfl)]
            refine wp_app1 Snt.cs w0.heap.size (.tmp 252) (.tmp 271) 29 90 (.agg #[.string ⟨#[]⟩, .int .i64 0, .int .i64 0, .int .i64 0, .int .i64 0]) 5 48 rfl Try.underlying29 app_snt rfl (by decide) (by decide) (.slice Az zs.length cz) zs (⟨t, p, (rd_T61 l i3).f2, (rd_T61 l i3).f3, (rd_T61 l i3).f0⟩ : Snt) rfl rfl rfl (snt_one _) HX1.out.xS HX1.out.bs HLN.out ?_
            intro v1 w1 h1 h2 h3 h4
            refine hK.out _ _ ?_
            clear hK K
            refine norm_ (a' := ?_) ?_ ?_
            rotate_left
            · show Act.put _ (some 272) _ = _
              simp only [Act.put, List.setIfInBounds_toArray, List.set_cons_zero, List.set_cons_succ, i64_w, i32_w]
              rfl
            refine pure_ (i := 21) (N := (some 18)) (v := ?_) (a' := ?_) #[true, true, true, true, true, true, true, true, true, true, true, true, true, true, true, true, true, true, true, true, true, true] rfl rfl (by decide +kernel) (fun _ _ _ h => h) (Or.inl ⟨by rfl, ?_⟩) ?_ ?_
            rotate_left
            · intro w'
              go_simp
              with_reducible rfl
            rotate_left
            · simp only [Act.put, List.setIfInBounds_toArray, List.set_cons_zero, List.set_cons_succ, i64_w, i32_w]
              rfl
            refine done_ (by decide +kernel) ?_
            have HZ := Aside0.mk (HX1.out.sapp h1 h2 h3)
            clear HX1 h1 h2 h3 h4 HV0 HV2 HV3
            go_wp2_with fail
            go_roundg (l.length + 1 - (i3 + 1).toNat)
            case measure => have := HI.out; have := HI2.out; omega
            case rel => exact ⟨i3 + 1, (zs ++ [(⟨t, p, (rd_T61 l i3).f2, (rd_T61 l i3).f3, (rd_T61 l i3).f0⟩ : Snt)]), by first | rfl | rw [e1], ⟨by have := HI.out; have := HI2.out; omega, by have := HI.out; omega, by have := HI2.out; omega⟩, HY1, ⟨by have := HL3.out; have := HI2.out; have := HI.out; rw [List.length_append, List.length_singleton]; omega⟩, HZ⟩
        case pos =>
          have d3 : decide (mm < (zs.length : Int)) = true := decide_eq_true hm
          have h0 := HMI.out.2.1
          obtain ⟨ad3, ea3, z0, z1⟩ := HMX.out.xS.at2 snt_len zSnt mm h0 hm
          have HD3 := Aside0.mk (drop_get zSnt h0 hm)
          have p5 := eq_true h0
          have p6 := eq_true hm
          have HM2 := Aside0.mk hm
          clear h0 hm
          cases ea3
          obtain ⟨y, hy⟩ : ∃ y, y = zs.getD mm.toNat zSnt := ⟨_, rfl⟩
          rw [← hy] at z0 z1 HD3
          clear hy
          have k0 := z0 (.string y.t) rfl
          have k1 := z1 1 (.int .i64 y.p) rfl
          have k2 := z1 2 (.int .i64 y.q) rfl
          have k3 := z1 3 (.int .i64 y.s) rfl
          have k4 := z1 4 (.int .i64 y.b) rfl
          clear z0 z1
          have e2 : IntKind.i64.wrap (mm + 1) = mm + 1 := (i64_w _).trans (by have := HMI.out; have := HL3.out; have := HN.out; unfold wrap64; omega)
          go_upto_region 41 with fail
          (try simp only [Act.put, List.setIfInBounds_toArray, List.set_cons_zero, List.set_cons_succ])
          have hal := bel1 wr (.cells #[.string y.t, .int .i64 y.p, .int .i64 y.q, .int .i64 y.s, .int .i64 y.b] 90)
          have HXA := Aside0.mk (show RSt w0.heap.size m wc (wr.alloc (.cells #[.string y.t, .int .i64 y.p, .int .i64 y.q, .int .i64 y.s, .int .i64 y.b] 90)) (.slice Af FA.length cf) FA (.slice As SA.length cs_) SA (.slice Ap PA.length cp) PA (.slice Ax xs.length cx) xs (.slice (some ad3) zs.length cz) zs ∧ (wr.alloc (.cells #[.string y.t, .int .i64 y.p, .int .i64 y.q, .int .i64 y.s, .int .i64 y.b] 90)).heap[wr.heap.size]? = some (.cells #[.string y.t, .int .i64 y.p, .int .i64 y.q, .int .i64 y.s, .int .i64 y.b] 90 (0, 0)) from ⟨HMX.out.below hal, heap_alloc_new wr _⟩)
          replace x0 := pw_cell_below hal x0
          replace x2 := pw_cell_below hal x2
          replace x3 := pw_cell_below hal x3
          clear hal k0 k1 k2 k3 k4 HMX
          generalize wr.alloc (.cells #[.string y.t, .int .i64 y.p, .int .i64 y.q, .int .i64 y.s, .int .i64 y.b] 90) = wa at x0 x2 x3 HXA ⊢
          obtain ⟨gs, hgs⟩ : ∃ gs, gs = wr.heap.size := ⟨_, rfl⟩
          rw [← hgs] at HXA ⊢
          clear hgs
          have k0 := (blk_cell HXA.out.2 0).trans rfl
          have k1 := (blk_cell HXA.out.2 1).trans rfl
          have k2 := (blk_cell HXA.out.2 2).trans rfl
          have k3 := (blk_cell HXA.out.2 3).trans rfl
          have k4 := (blk_cell HXA.out.2 4).trans rfl
          by_cases ct : y.t = t
          case neg =>
            have b0 : (y.t.toList == t.toList) = false := str_f ct
            have CT := Aside0.mk ct
            clear ct
            have HQ := Aside0.mk (show (sBad zs (⟨t, p, (rd_T61 l i3).f2, (rd_T61 l i3).f3, (rd_T61 l i3).f0⟩ : Snt) ↔ sBad (zs.drop (mm + 1).toNat) (⟨t, p, (rd_T61 l i3).f2, (rd_T61 l i3).f3, (rd_T61 l i3).f0⟩ : Snt)) ∧ (sMet zs (⟨t, p, (rd_T61 l i3).f2, (rd_T61 l i3).f3, (rd_T61 l i3).f0⟩ : Snt) ↔ met = true ∨ sMet (zs.drop (mm + 1).toNat) (⟨t, p, (rd_T61 l i3).f2, (rd_T61 l i3).f3, (rd_T61 l i3).f0⟩ : Snt)) from by have h_ := HMQ.out; rw [HD3.out, sBad_cons, sMet_cons] at h_; have hk : ¬ y.key (⟨t, p, (rd_T61 l i3).f2, (rd_T61 l i3).f3, (rd_T61 l i3).f0⟩ : Snt) := fun h => CT.out h.1; exact ⟨h_.1.trans (or_iff_right fun h => hk h.1), h_.2.trans (or_congr_right (or_iff_right hk))⟩)
            clear HMQ
            go_wp2_with fail
            go_quiet (fail)
            go_wp2_with fail
            go_roundg (zs.length + 1 - (mm + 1).toNat)
            case measure => have := HMI.out; have := HM2.out; omega
            case rel => exact ⟨mm + 1, met, rfl, by first | rfl | rw [e2], ⟨by have := HMI.out; have := HM2.out; omega, by have := HMI.out; omega, by have := HM2.out; omega⟩, HQ, ⟨HXA.out.1.below ((Drawn0.refl wa).step nq).below⟩⟩
          case pos =>
            have b0 : (y.t.toList == t.toList) = true := str_t ct
            have CT := Aside0.mk ct
            clear ct
            by_cases cp_ : y.p = p
            case neg =>
              have b1 : (y.p == p) = false := beq_eq_false_iff_ne.mpr cp_
              have CP := Aside0.mk cp_
              clear cp_
              have HQ := Aside0.mk (show (sBad zs (⟨t, p, (rd_T61 l i3).f2, (rd_T61 l i3).f3, (rd_T61 l i3).f0⟩ : Snt) ↔ sBad (zs.drop (mm + 1).toNat) (⟨t, p, (rd_T61 l i3).f2, (rd_T61 l i3).f3, (rd_T61 l i3).f0⟩ : Snt)) ∧ (sMet zs (⟨t, p, (rd_T61 l i3).f2, (rd_T61 l i3).f3, (rd_T61 l i3).f0⟩ : Snt) ↔ met = true ∨ sMet (zs.drop (mm + 1).toNat) (⟨t, p, (rd_T61 l i3).f2, (rd_T61 l i3).f3, (rd_T61 l i3).f0⟩ : Snt)) from by have h_ := HMQ.out; rw [HD3.out, sBad_cons, sMet_cons] at h_; have hk : ¬ y.key (⟨t, p, (rd_T61 l i3).f2, (rd_T61 l i3).f3, (rd_T61 l i3).f0⟩ : Snt) := fun h => CP.out h.2.1; exact ⟨h_.1.trans (or_iff_right fun h => hk h.1), h_.2.trans (or_congr_right (or_iff_right hk))⟩)
              clear HMQ
              go_wp2_with fail
              go_quiet (fail)
              go_wp2_with fail
              go_roundg (zs.length + 1 - (mm + 1).toNat)
              case measure => have := HMI.out; have := HM2.out; omega
              case rel => exact ⟨mm + 1, met, rfl, by first | rfl | rw [e2], ⟨by have := HMI.out; have := HM2.out; omega, by have := HMI.out; omega, by have := HM2.out; omega⟩, HQ, ⟨HXA.out.1.below ((Drawn0.refl wa).step nq).below⟩⟩
            case pos =>
              have b1 : (y.p == p) = true := beq_iff_eq.mpr cp_
              have CP := Aside0.mk cp_
              clear cp_
              by_cases cq : y.q = (rd_T61 l i3).f2
              case neg =>
                have b2 : (y.q == (rd_T61 l i3).f2) = false := beq_eq_false_iff_ne.mpr cq
                have CQ := Aside0.mk cq
                clear cq
                have HQ := Aside0.mk (show (sBad zs (⟨t, p, (rd_T61 l i3).f2, (rd_T61 l i3).f3, (rd_T61 l i3).f0⟩ : Snt) ↔ sBad (zs.drop (mm + 1).toNat) (⟨t, p, (rd_T61 l i3).f2, (rd_T61 l i3).f3, (rd_T61 l i3).f0⟩ : Snt)) ∧ (sMet zs (⟨t, p, (rd_T61 l i3).f2, (rd_T61 l i3).f3, (rd_T61 l i3).f0⟩ : Snt) ↔ met = true ∨ sMet (zs.drop (mm + 1).toNat) (⟨t, p, (rd_T61 l i3).f2, (rd_T61 l i3).f3, (rd_T61 l i3).f0⟩ : Snt)) from by have h_ := HMQ.out; rw [HD3.out, sBad_cons, sMet_cons] at h_; have hk : ¬ y.key (⟨t, p, (rd_T61 l i3).f2, (rd_T61 l i3).f3, (rd_T61 l i3).f0⟩ : Snt) := fun h => CQ.out h.2.2.1; exact ⟨h_.1.trans (or_iff_right fun h => hk h.1), h_.2.trans (or_congr_right (or_iff_right hk))⟩)
                clear HMQ
                go_wp2_with fail
                go_quiet (fail)
                go_wp2_with fail
                go_roundg (zs.length + 1 - (mm + 1).toNat)
                case measure => have := HMI.out; have := HM2.out; omega
                case rel => exact ⟨mm + 1, met, rfl, by first | rfl | rw [e2], ⟨by have := HMI.out; have := HM2.out; omega, by have := HMI.out; omega, by have := HM2.out; omega⟩, HQ, ⟨HXA.out.1.below ((Drawn0.refl wa).step nq).below⟩⟩
              case pos =>
                have b2 : (y.q == (rd_T61 l i3).f2) = true := beq_iff_eq.mpr cq
                have CQ := Aside0.mk cq
                clear cq
                by_cases cs : y.s = (rd_T61 l i3).f3
                case neg =>
                  have b3 : (y.s == (rd_T61 l i3).f3) = false := beq_eq_false_iff_ne.mpr cs
                  have CS := Aside0.mk cs
                  clear cs
                  have HQ := Aside0.mk (show (sBad zs (⟨t, p, (rd_T61 l i3).f2, (rd_T61 l i3).f3, (rd_T61 l i3).f0⟩ : Snt) ↔ sBad (zs.drop (mm + 1).toNat) (⟨t, p, (rd_T61 l i3).f2, (rd_T61 l i3).f3, (rd_T61 l i3).f0⟩ : Snt)) ∧ (sMet zs (⟨t, p, (rd_T61 l i3).f2, (rd_T61 l i3).f3, (rd_T61 l i3).f0⟩ : Snt) ↔ met = true ∨ sMet (zs.drop (mm + 1).toNat) (⟨t, p, (rd_T61 l i3).f2, (rd_T61 l i3).f3, (rd_T61 l i3).f0⟩ : Snt)) from by have h_ := HMQ.out; rw [HD3.out, sBad_cons, sMet_cons] at h_; have hk : ¬ y.key (⟨t, p, (rd_T61 l i3).f2, (rd_T61 l i3).f3, (rd_T61 l i3).f0⟩ : Snt) := fun h => CS.out h.2.2.2; exact ⟨h_.1.trans (or_iff_right fun h => hk h.1), h_.2.trans (or_congr_right (or_iff_right hk))⟩)
                  clear HMQ
                  go_wp2_with fail
                  go_quiet (fail)
                  go_wp2_with fail
                  go_roundg (zs.length + 1 - (mm + 1).toNat)
                  case measure => have := HMI.out; have := HM2.out; omega
                  case rel => exact ⟨mm + 1, met, rfl, by first | rfl | rw [e2], ⟨by have := HMI.out; have := HM2.out; omega, by have := HMI.out; omega, by have := HM2.out; omega⟩, HQ, ⟨HXA.out.1.below ((Drawn0.refl wa).step nq).below⟩⟩
                case pos =>
                  have b3 : (y.s == (rd_T61 l i3).f3) = true := beq_iff_eq.mpr cs
                  have CS := Aside0.mk cs
                  clear cs
                  have HKE := Aside0.mk (show y.key (⟨t, p, (rd_T61 l i3).f2, (rd_T61 l i3).f3, (rd_T61 l i3).f0⟩ : Snt) from ⟨CT.out, CP.out, CQ.out, CS.out⟩)
                  by_cases cb : y.b = (rd_T61 l i3).f0
                  case pos =>
                    have b4 : (y.b == (rd_T61 l i3).f0) = true := beq_iff_eq.mpr cb
                    have CB := Aside0.mk cb
                    clear cb
                    have HQ := Aside0.mk (show (sBad zs (⟨t, p, (rd_T61 l i3).f2, (rd_T61 l i3).f3, (rd_T61 l i3).f0⟩ : Snt) ↔ sBad (zs.drop (mm + 1).toNat) (⟨t, p, (rd_T61 l i3).f2, (rd_T61 l i3).f3, (rd_T61 l i3).f0⟩ : Snt)) ∧ sMet zs (⟨t, p, (rd_T61 l i3).f2, (rd_T61 l i3).f3, (rd_T61 l i3).f0⟩ : Snt) from by have h_ := HMQ.out; rw [HD3.out, sBad_cons, sMet_cons] at h_; exact ⟨h_.1.trans (or_iff_right fun h => h.2 CB.out), h_.2.2 (.inr (.inl HKE.out))⟩)
                    clear HMQ
                    go_wp2_with fail
                    go_quiet (fail)
                    go_wp2_with fail
                    have HXB := Aside0.mk (HXA.out.1.below ((Drawn0.refl wa).step nq).below)
                    have hdn := ((Drawn0.refl wa).step nq).below
                    have v0 := pw_cell_below hdn x0
                    have v2 := pw_cell_below hdn x2
                    have v3 := pw_cell_below hdn x3
                    have u0_ := pw_cell_below hdn k0
                    have u1_ := pw_cell_below hdn k1
                    have u2_ := pw_cell_below hdn k2
                    have u3_ := pw_cell_below hdn k3
                    have u4_ := pw_cell_below hdn k4
                    clear hdn
                    generalize wa.drewN nq = wn at HXB v0 v2 v3 u0_ u1_ u2_ u3_ u4_ ⊢
                    clear nq
                    go_quiet (fail)
                    go_wp2_with fail
                    go_roundg (zs.length + 1 - (mm + 1).toNat)
                    case measure => have := HMI.out; have := HM2.out; omega
                    case rel => exact ⟨mm + 1, true, rfl, by first | rfl | rw [e2], ⟨by have := HMI.out; have := HM2.out; omega, by have := HMI.out; omega, by have := HM2.out; omega⟩, ⟨HQ.out.1, fun _ => .inl rfl, fun _ => HQ.out.2⟩, ⟨HXB.out.below ((Drawn0.refl wn).step nq).below⟩⟩
                  case neg =>
                    have b4 : (y.b == (rd_T61 l i3).f0) = false := beq_eq_false_iff_ne.mpr cb
                    have CB := Aside0.mk cb
                    clear cb
                    have HBAD := Aside0.mk (show sBad zs (⟨t, p, (rd_T61 l i3).f2, (rd_T61 l i3).f3, (rd_T61 l i3).f0⟩ : Snt) from by rw [HMQ.out.1, HD3.out, sBad_cons]; exact .inl ⟨HKE.out, CB.out⟩)
                    have HF_ := Aside0.mk (show refF t p st nx fr l FA SA PA = (4, FA, SA, PA) from HRF2.out.trans (by rw [show refS t p l SA = none from by rw [← HK3.out, HD.out]; exact refS_none (t := t) (p := p) (b := (rd_T61 l i3)) (Int.not_lt.2 HQ_.out) (sStep_bad HBAD.out)]))
                    clear HMQ
                    go_wp2_with fail
                    go_quiet (fail)
                    go_wp2_with fail
                    have HXB := Aside0.mk (HXA.out.1.below ((Drawn0.refl wa).step nq).below)
                    have hdn := ((Drawn0.refl wa).step nq).below
                    have v0 := pw_cell_below hdn x0
                    have v2 := pw_cell_below hdn x2
                    have v3 := pw_cell_below hdn x3
                    have u0_ := pw_cell_below hdn k0
                    have u1_ := pw_cell_below hdn k1
                    have u2_ := pw_cell_below hdn k2
                    have u3_ := pw_cell_below hdn k3
                    have u4_ := pw_cell_below hdn k4
                    clear hdn
                    generalize wa.drewN nq = wn at HXB v0 v2 v3 u0_ u1_ u2_ u3_ u4_ ⊢
                    clear nq
                    go_quiet (fail)
                    go_wp2_with fail
                    go_ret
                    have HXC := HXB.out.below ((Drawn0.refl wn).step nq).below
                    exact ⟨by rw [HF_.out]; rfl, by rw [HF_.out]; exact HXC.old, HXC.keep⟩
  case b11 =>
    refine Box_.mk ?_
    intro m FA SA PA t p st nx fr A c l w0 Af cf As cs_ Ap cp HM HR HA HN q6b q6c q6d q6e q6f q6g q6h q6i q6j q6k q6l q6m q6n q6o q6p q6q q6r q6s q6t q6u q6v q6w q6x q6y q6z q70 q71 q72 q73 q74 q75 q76 q77 q78 q79 q7a q7b i k d1 HKK q7c wc u29 u30 u31 u32 u33 u34 u35 u36 u37 u38 u39 u40 u41 u42 u43 u44 u45 u46 u47 u48 u49 u50 u51 u52 u53 u54 u55 u56 u57 u58 u59 u60 u61 u62 u63 u64 u65 u66 u67 u68 u69 u70 u71 u72 u73 u74 u75 u76 u77 u78 u79 u80 u81 u82 u83 u84 u85 u86 u87 u88 u89 u90 u92 u93 u94 u95 u96 u97 u98 u99 u100 u101 u102 u103 u104 u105 q7d q7e q7f q7g q7h q7i q7j q7k q7l q7m q7n q7o q7p q7q q7r q7s q7t q7u q7v q7w q7x q7y q7z q80 q81 q82 q83 q84 q85 q86 q87 q88 q89 q8a q8b q8c q8d q8e q8f q8g q8h q8i q8j q8k q8l q8m q8n q8o q8p q8q q8r q8s q8t q8u q8v q8w q8x q8y q8z q90 q91 q92 q93 q94 q95 q96 q97 q98 q99 q9a q9b q9c q9d q9e q9f q9g q9h q9i q9j q9k q9l q9m q9n q9o u190 u191 u192 u193 u194 u195 u196 u197 u198 u199 u200 u201 u202 u203 u204 u205 u206 u207 u208 u209 u210 u211 u212 u213 u214 u215 u216 u217 u218 u219 u220 u221 u222 u223 u224 u225 u226 u227 u228 u229 u230 u231 u232 u233 u234 u235 u236 u237 u238 u239 u240 u241 u242 u243 u244 u245 u246 u247 u248 u249 u250 u251 u252 u253 u254 u255 u256 u257 u258 u259 u260 u261 u262 u263 u264 u265 u266 u267 u268 u269 u270 u271 u272 u273 u274 u275 u276 u277 u278 u279 u280 u281 u282 u283 u284 u285 u286 u287 u288 u289 u290 u291 u292 u293 u294 u295 u296 u297 u298 u299 u300 u301 u302 u303 u304 u305 u306 u307 u308 u309 u310 u311 u312 HMM HB q9p q9q q9r HB1 w5 HB2 HRF q9s q9t gk wr u14 u20 u21 u22 u23 u24 u106 u107 u108 u109 u110 u111 u112 u113 u114 u115 u116 u117 u118 u119 u120 u121 u122 u123 u124 u125 u126 u127 u128 u129 u130 u131 u132 u133 u134 u135 u136 u137 u138 u139 u140 u141 u142 u143 u144 u145 u146 u147 u148 u149 u150 u151 u152 u153 u154 u155 u156 u157 u158 u159 u160 u161 u162 u163 u164 u165 u166 u167 u168 u169 u170 u171 u172 u173 u174 u175 u176 u177 u178 u179 u180 u181 u182 u183 u184 u185 u186 u187 u188 u189 q9u q9v q9w q9x i2 xs HI HK2 HL2 Ax cx HST2 hi
    have d1 : decide (i2 < (l.length : Int)) = true := decide_eq_true hi
    have h0 := HI.out.2.1
    obtain ⟨ad, A4, c4, ea, x0, x1, x2, x3, x4, l4, g4⟩ := at_T61 HR.out.1 i2 h0 hi
    have hbw := HST2.out.floor HB.out HM.out (Nat.le_refl _)
    replace x0 := pw_cell_below hbw x0
    replace x1 := pw_cell_below hbw x1
    replace x2 := pw_cell_below hbw x2
    replace x3 := pw_cell_below hbw x3
    replace x4 := pw_cell_below hbw x4
    have HWB := Aside0.mk (HA.out.hw (rd_T61 l i2) (get_mem z61 h0 hi))
    have HD := Aside0.mk (drop_get z61 h0 hi)
    have HC4 := Aside0.mk g4
    have HC5 := Aside0.mk l4
    have p1 := eq_true h0
    have p2 := eq_true hi
    have HI2 := Aside0.mk hi
    clear g4 l4 hbw h0 hi
    cases ea
    go_upto_region 16 with fail
    go_wp2_with fail
    clear x0 x1 x2 x3 x4
    go_loopg [17, 20] ((rd_T61 l i2).f4.length + 1) (fun kr v17 v20 ws => ∃ (j : Int) (ys : List Fct), v20 = .int .i64 j ∧ Aside0 (kr + j.toNat = (rd_T61 l i2).f4.length + 1 ∧ 0 ≤ j ∧ j ≤ ((rd_T61 l i2).f4.length : Int)) ∧ Aside0 ((refR t p (rd_T61 l i2).f0 ((rd_T61 l i2).f4.drop j.toNat) ys).bind (refB t p (l.drop (i2 + 1).toNat)) = refB t p l FA) ∧ Aside0 (ys.length + ((rd_T61 l i2).f4.length - j.toNat) + recs (l.drop (i2 + 1).toNat) ≤ FA.length + recs l) ∧ Aside0 (RSt w0.heap.size m wc ws (.slice Af FA.length cf) FA (.slice As SA.length cs_) SA (.slice Ap PA.length cp) PA v17 ys (.slice As SA.length cs_) SA))
    case atStart => exact ⟨0, xs, rfl, ⟨by simp, by omega, by omega⟩, ⟨by rw [← HK2.out, HD.out]; rfl⟩, ⟨by have h_ := HL2.out; rw [HD.out, recs_cons] at h_; have hrd : (rd_T61 l i2) = l.getD i2.toNat z61 := rfl; rw [hrd]; simp only [Int.toNat_zero]; omega⟩, HST2⟩
    case round =>
      obtain ⟨j, ys, rfl, HJ, HK3, HL3, HST3⟩ := hrel
      clear HST2 HK2 HL2
      obtain ⟨Ax2, cx2, ex⟩ := HST3.out.xF.slice
      subst ex
      have hbw := HST3.out.floor HB.out HM.out (Nat.le_refl _)
      obtain ⟨ad_, A4, c4, ea, x0, x1, x2, x3, x4, l4, g4⟩ := at_T61 HR.out.1 i2 (of_eq_true p1) HI2.out
      cases ea
      have HC4 := Aside0.mk g4
      replace x0 := pw_cell_below hbw x0
      replace x4 := pw_cell_below hbw x4
      clear x1 x2 x3 l4 g4 hbw
      by_cases hj : j < ((rd_T61 l i2).f4.length : Int)
      case neg =>
        have d2 : decide (j < ((rd_T61 l i2).f4.length : Int)) = false := decide_eq_false hj
        have he : j = ((rd_T61 l i2).f4.length : Int) := by have := HJ.out; omega
        have HX := Aside0.mk (show refB t p (l.drop (i2 + 1).toNat) ys = refB t p l FA from by have h_ := HK3.out; rw [he, Int.toNat_natCast, List.drop_length] at h_; exact h_)
        have HX2 := Aside0.mk (show ys.length + recs (l.drop (i2 + 1).toNat) ≤ FA.length + recs l from by have := HL3.out; omega)
        have e1 : IntKind.i64.wrap (i2 + 1) = i2 + 1 := (i64_w _).trans (by have := HI.out; have := HA.out.hl; unfold wrap64; omega)
        clear he hj
        go_wp2_with fail
        go_roundg (l.length + 1 - (i2 + 1).toNat)
        case measure => have := HI.out; have := HI2.out; omega
        case rel => exact ⟨i2 + 1, ys, by first | rfl | rw [e1], ⟨by have := HI.out; have := HI2.out; omega, by have := HI.out; omega, by have := HI2.out; omega⟩, HX, HX2, HST3⟩
      case pos =>
        have d2 : decide (j < ((rd_T61 l i2).f4.length : Int)) = true := decide_eq_true hj
        have h0 := HJ.out.2.1
        obtain ⟨ad2, ea2, y0, y1, y2, y3, y4, y5⟩ := at_T48 HC4.out j h0 hj
        have hbw := HST3.out.floor HB.out HM.out (Nat.le_refl _)
        replace y0 := pw_cell_below hbw y0
        replace y1 := pw_cell_below hbw y1
        replace y2 := pw_cell_below hbw y2
        replace y3 := pw_cell_below hbw y3
        replace y4 := pw_cell_below hbw y4
        replace y5 := pw_cell_below hbw y5
        have HD2 := Aside0.mk (drop_get z48 h0 hj)
        have p3 := eq_true h0
        have p4 := eq_true hj
        have HJ2 := Aside0.mk hj
        clear hbw h0 hj
        cases ea2
        go_upto_region 20 with fail
        (try simp only [Act.put, List.setIfInBounds_toArray, List.set_cons_zero, List.set_cons_succ])
        have HX1 := Aside0.mk (show RSt w0.heap.size m wc (wr.alloc (.cells #[.bool (rd_T48 (rd_T61 l i2).f4 j).f0, .string (rd_T48 (rd_T61 l i2).f4 j).f1, .bool (rd_T48 (rd_T61 l i2).f4 j).f2, .string (rd_T48 (rd_T61 l i2).f4 j).f3, .int .i64 (rd_T48 (rd_T61 l i2).f4 j).f4, .int .i64 (rd_T48 (rd_T61 l i2).f4 j).f5] 48)).drew (.slice Af FA.length cf) FA (.slice As SA.length cs_) SA (.slice Ap PA.length cp) PA (.slice Ax2 ys.length cx2) ys (.slice As SA.length cs_) SA ∧ (wr.alloc (.cells #[.bool (rd_T48 (rd_T61 l i2).f4 j).f0, .string (rd_T48 (rd_T61 l i2).f4 j).f1, .bool (rd_T48 (rd_T61 l i2).f4 j).f2, .string (rd_T48 (rd_T61 l i2).f4 j).f3, .int .i64 (rd_T48 (rd_T61 l i2).f4 j).f4, .int .i64 (rd_T48 (rd_T61 l i2).f4 j).f5] 48)).drew.heap[wr.heap.size]? = some (.cells #[.bool (rd_T48 (rd_T61 l i2).f4 j).f0, .string (rd_T48 (rd_T61 l i2).f4 j).f1, .bool (rd_T48 (rd_T61 l i2).f4 j).f2, .string (rd_T48 (rd_T61 l i2).f4 j).f3, .int .i64 (rd_T48 (rd_T61 l i2).f4 j).f4, .int .i64 (rd_T48 (rd_T61 l i2).f4 j).f5] 48 (0, 0)) from ⟨(HST3.out.below (bel1 wr _)).below (below_drew1 (Below.refl _ _)), heap_alloc_new wr _⟩)
        have HXB := Aside0.mk (show (wr.alloc (.cells #[.bool (rd_T48 (rd_T61 l i2).f4 j).f0, .string (rd_T48 (rd_T61 l i2).f4 j).f1, .bool (rd_T48 (rd_T61 l i2).f4 j).f2, .string (rd_T48 (rd_T61 l i2).f4 j).f3, .int .i64 (rd_T48 (rd_T61 l i2).f4 j).f4, .int .i64 (rd_T48 (rd_T61 l i2).f4 j).f5] 48)).drew.cell? (ad.add (i2.toNat * 5)) = some (.int .i64 (rd_T61 l i2).f0) from pw_cell_below (below_drew1 (bel1 wr _)) x0)
        refine start_ (n := 14) (S := fun w' => Below (wr.alloc (.cells #[.bool (rd_T48 (rd_T61 l i2).f4 j).f0, .string (rd_T48 (rd_T61 l i2).f4 j).f1, .bool (rd_T48 (rd_T61 l i2).f4 j).f2, .string (rd_T48 (rd_T61 l i2).f4 j).f3, .int .i64 (rd_T48 (rd_T61 l i2).f4 j).f4, .int .i64 (rd_T48 (rd_T61 l i2).f4 j).f5] 48)).drew.heap.size (wr.alloc (.cells #[.bool (rd_T48 (rd_T61 l i2).f4 j).f0, .string (rd_T48 (rd_T61 l i2).f4 j).f1, .bool (rd_T48 (rd_T61 l i2).f4 j).f2, .string (rd_T48 (rd_T61 l i2).f4 j).f3, .int .i64 (rd_T48 (rd_T61 l i2).f4 j).f4, .int .i64 (rd_T48 (rd_T61 l i2).f4 j).f5] 48)).drew w') (ds := []) #[false, false, false, false, false, false, false, false, false, false, false, false, false, false] (by decide +kernel) rfl rfl (Below.refl _ _) (fun hHeld => ?_)
        clear x0 x4 y0 y1 y2 y3 y4 y5 HST3
        generalize (wr.alloc (.cells #[.bool (rd_T48 (rd_T61 l i2).f4 j).f0, .string (rd_T48 (rd_T61 l i2).f4 j).f1, .bool (rd_T48 (rd_T61 l i2).f4 j).f2, .string (rd_T48 (rd_T61 l i2).f4 j).f3, .int .i64 (rd_T48 (rd_T61 l i2).f4 j).f4, .int .i64 (rd_T48 (rd_T61 l i2).f4 j).f5] 48)).drew = wd at HX1 HXB hHeld ⊢
        obtain ⟨gr, hgr⟩ : ∃ gr, gr = wr.heap.size := ⟨_, rfl⟩
        rw [← hgr] at HX1 ⊢
        clear hgr
        refine pure_ (i := 0) (N := (some 130)) (v := ?_) (a' := ?_) #[true, false, false, false, false, false, false, false, false, false, false, false, false, false] rfl rfl (by decide +kernel) (fun _ _ _ h => h) (Or.inl ⟨by rfl, ?_⟩) ?_ ?_
        rotate_left
        · intro w'
          go_simp
          with_reducible rfl
        rotate_left
        · simp only [Act.put, List.setIfInBounds_toArray, List.set_cons_zero, List.set_cons_succ, i64_w, i32_w]
          rfl
        refine pure_ (i := 1) (N := (some 131)) (v := ?_) (a' := ?_) #[true, true, false, false, false, false, false, false, false, false, false, false, false, false] rfl rfl (by decide +kernel) (fun _ _ _ h => h) (Or.inl ⟨by rfl, ?_⟩) ?_ ?_
        rotate_left
        · intro w'
          go_simp
          with_reducible rfl
        rotate_left
        · simp only [Act.put, List.setIfInBounds_toArray, List.set_cons_zero, List.set_cons_succ, i64_w, i32_w]
          rfl
        refine pure_ (i := 2) (N := (some 132)) (v := ?_) (a' := ?_) #[true, true, true, false, false, false, false, false, false, false, false, false, false, false] rfl rfl (by decide +kernel) (fun _ _ _ h => h) (Or.inl ⟨by rfl, ?_⟩) ?_ ?_
        rotate_left
        · intro w'
          go_simp
          with_reducible rfl
        rotate_left
        · simp only [Act.put, List.setIfInBounds_toArray, List.set_cons_zero, List.set_cons_succ, i64_w, i32_w]
          rfl
        refine pure_ (i := 3) (N := (some 133)) (v := ?_) (a' := ?_) #[true, true, true, true, false, false, false, false, false, false, false, false, false, false] rfl rfl (by decide +kernel) (fun _ _ _ h => h) (Or.inl ⟨by rfl, ?_⟩) ?_ ?_
        rotate_left
        · intro w'
          go_simp
          with_reducible rfl
        rotate_left
        · simp only [Act.put, List.setIfInBounds_toArray, List.set_cons_zero, List.set_cons_succ, i64_w, i32_w]
          rfl
        refine pure_ (i := 4) (N := (some 134)) (v := ?_) (a' := ?_) #[true, true, true, true, true, false, false, false, false, false, false, false, false, false] rfl rfl (by decide +kernel) (fun _ _ _ h => h) (Or.inl ⟨by rfl, ?_⟩) ?_ ?_
        rotate_left
        · intro w'
          go_simp
          with_reducible rfl
        rotate_left
        · simp only [Act.put, List.setIfInBounds_toArray, List.set_cons_zero, List.set_cons_succ, i64_w, i32_w]
          rfl
        refine pure_ (i := 5) (N := (some 135)) (v := ?_) (a' := ?_) #[true, true, true, true, true, true, false, false, false, false, false, false, false, false] rfl rfl (by decide +kernel) (fun _ _ _ h => h) (Or.inl ⟨by rfl, ?_⟩) ?_ ?_
        rotate_left
        · intro w'
          go_simp
          with_reducible rfl
        rotate_left
        · simp only [Act.put, List.setIfInBounds_toArray, List.set_cons_zero, List.set_cons_succ, i64_w, i32_w]
          rfl
        refine take_ (i := 6) (N := (some 136)) (v := ?_) (a' := ?_) #[true, true, true, true, true, true, true, false, false, false, false, false, false, false] rfl rfl (by decide +kernel) (fun _ _ _ h => h) (Or.inl ⟨by rfl, ?_⟩) hHeld ?_ ?_
        rotate_left
        · rintro w' s0
          have c0_ := pw_cell_below s0 HXB.out
          go_simp
          with_reducible rfl
        rotate_left
        · simp only [Act.put, List.setIfInBounds_toArray, List.set_cons_zero, List.set_cons_succ, i64_w, i32_w]
          rfl
        refine pure_ (i := 7) (N := (some 137)) (v := ?_) (a' := ?_) #[true, true, true, true, true, true, true, true, false, false, false, false, false, false] rfl rfl (by decide +kernel) (fun _ _ _ h => h) (Or.inl ⟨by rfl, ?_⟩) ?_ ?_
        rotate_left
        · intro w'
          go_simp
          with_reducible rfl
        rotate_left
        · simp only [Act.put, List.setIfInBounds_toArray, List.set_cons_zero, List.set_cons_succ, i64_w, i32_w]
          rfl
        refine take_ (i := 8) (N := (some 138)) (v := ?_) (a' := ?_) #[true, true, true, true, true, true, true, true, true, false, false, false, false, false] rfl rfl (by decide +kernel) (fun _ _ _ h => h) (Or.inl ⟨by rfl, ?_⟩) hHeld ?_ ?_
        rotate_left
        · rintro w' s0
          have c5_ := pw_cell_below s0 (show wd.cell? ⟨gr, 5, none⟩ = some (.int .i64 (rd_T48 (rd_T61 l i2).f4 j).f5) from (blk_cell HX1.out.2 5).trans rfl)
          go_simp
          with_reducible rfl
        rotate_left
        · simp only [Act.put, List.setIfInBounds_toArray, List.set_cons_zero, List.set_cons_succ, i64_w, i32_w]
          rfl
        refine pure_ (i := 9) (N := (some 139)) (v := ?_) (a' := ?_) #[true, true, true, true, true, true, true, true, true, true, false, false, false, false] rfl rfl (by decide +kernel) (fun _ _ _ h => h) (Or.inl ⟨by rfl, ?_⟩) ?_ ?_
        rotate_left
        · intro w'
          go_simp
          with_reducible rfl
        rotate_left
        · simp only [Act.put, List.setIfInBounds_toArray, List.set_cons_zero, List.set_cons_succ, i64_w, i32_w]
          rfl
        refine take_ (i := 10) (N := (some 140)) (v := ?_) (a' := ?_) #[true, true, true, true, true, true, true, true, true, true, true, false, false, false] rfl rfl (by decide +kernel) (fun _ _ _ h => h) (Or.inl ⟨by rfl, ?_⟩) hHeld ?_ ?_
        rotate_left
        · rintro w' s0
          have c0_ := pw_cell_below s0 (show wd.cell? ⟨gr, 0, none⟩ = some (.bool (rd_T48 (rd_T61 l i2).f4 j).f0) from (blk_cell HX1.out.2 0).trans rfl)
          have c1_ := pw_cell_below s0 (show wd.cell? ⟨gr, 1, none⟩ = some (.string (rd_T48 (rd_T61 l i2).f4 j).f1) from (blk_cell HX1.out.2 1).trans rfl)
          have c2_ := pw_cell_below s0 (show wd.cell? ⟨gr, 2, none⟩ = some (.bool (rd_T48 (rd_T61 l i2).f4 j).f2) from (blk_cell HX1.out.2 2).trans rfl)
          have c3_ := pw_cell_below s0 (show wd.cell? ⟨gr, 3, none⟩ = some (.string (rd_T48 (rd_T61 l i2).f4 j).f3) from (blk_cell HX1.out.2 3).trans rfl)
          have c4_ := pw_cell_below s0 (show wd.cell? ⟨gr, 4, none⟩ = some (.int .i64 (rd_T48 (rd_T61 l i2).f4 j).f4) from (blk_cell HX1.out.2 4).trans rfl)
          have c5_ := pw_cell_below s0 (show wd.cell? ⟨gr, 5, none⟩ = some (.int .i64 (rd_T48 (rd_T61 l i2).f4 j).f5) from (blk_cell HX1.out.2 5).trans rfl)
          go_simp
          with_reducible rfl
        rotate_left
        · simp only [Act.put, List.setIfInBounds_toArray, List.set_cons_zero, List.set_cons_succ, i64_w, i32_w]
          rfl
        refine pure_ (i := 11) (N := (some 141)) (v := ?_) (a' := ?_) #[true, true, true, true, true, true, true, true, true, true, true, true, false, false] rfl rfl (by decide +kernel) (fun _ _ _ h => h) (Or.inl ⟨by rfl, ?_⟩) ?_ ?_
        rotate_left
        · intro w'
          go_simp
          with_reducible rfl
        rotate_left
        · simp only [Act.put, List.setIfInBounds_toArray, List.set_cons_zero, List.set_cons_succ, i64_w, i32_w]
          rfl
        refine one_ (i := 12) (N := (some 22)) #[true, true, true, true, true, true, true, true, true, true, true, true, true, false] rfl rfl (by decide +kernel) (by decide) (fun K hK => ?_)
        refine value_ (w1 := wd.alloc (.cells #[.string ⟨#[]⟩, .int .i64 0, .int .i64 0, .bool false, .string ⟨#[]⟩, .bool false, .string ⟨#[]⟩, .int .i64 0, .int .i64 0] 88)) (v := .pointer (some ⟨wd.heap.size, 0, none⟩)) (by rfl) rfl ?_ ?_
        · go_simp
          try rfl
        refine hK.out _ _ (below_alloc hHeld _) (fun hHeld => ?_)
        clear hK K
        refine norm_ (a' := ?_) ?_ ?_
        rotate_left
        · show Act.put _ (some 22) _ = _
          simp only [Act.put, List.setIfInBounds_toArray, List.set_cons_zero, List.set_cons_succ, i64_w, i32_w]
          rfl
        refine one_ (i := 13) (N := none) #[true, true, true, true, true, true, true, true, true, true, true, true, true, true] rfl rfl (by decide +kernel) (by decide) (fun K hK => ?_)
        refine store_step (by rfl) rfl 88 (.tmp 22) (.tmp 141) rfl wd.heap.size #[.string t, .int .i64 p, .int .i64 (wrap64 ((rd_T61 l i2).f0 + (rd_T48 (rd_T61 l i2).f4 j).f5)), .bool (rd_T48 (rd_T61 l i2).f4 j).f0, .string (rd_T48 (rd_T61 l i2).f4 j).f1, .bool (rd_T48 (rd_T61 l i2).f4 j).f2, .string (rd_T48 (rd_T61 l i2).f4 j).f3, .int .i64 (rd_T48 (rd_T61 l i2).f4 j).f4, .int .i64 (rd_T48 (rd_T61 l i2).f4 j).f5] rfl (by rfl) 88 #[.string ⟨#[]⟩, .int .i64 0, .int .i64 0, .bool false, .string ⟨#[]⟩, .bool false, .string ⟨#[]⟩, .int .i64 0, .int .i64 0] (heap_alloc_new wd _) info_fact rfl (by rw [← Array.all_toList]; rfl) ?_
        refine hK.out _ _ (below_row (below_alloc (Below.refl wd.heap.size wd) _) (Nat.le_refl _) _) (fun hHeld => ?_)
        clear hK K
        refine done_ (by decide +kernel) ?_
        clear hHeld
        have HBF := Aside0.mk (show Below wd.heap.size wd ((wd.alloc (.cells #[.string ⟨#[]⟩, .int .i64 0, .int .i64 0, .bool false, .string ⟨#[]⟩, .bool false, .string ⟨#[]⟩, .int .i64 0, .int .i64 0] 88)).setRow wd.heap.size #[.string t, .int .i64 p, .int .i64 (wrap64 ((rd_T61 l i2).f0 + (rd_T48 (rd_T61 l i2).f4 j).f5)), .bool (rd_T48 (rd_T61 l i2).f4 j).f0, .string (rd_T48 (rd_T61 l i2).f4 j).f1, .bool (rd_T48 (rd_T61 l i2).f4 j).f2, .string (rd_T48 (rd_T61 l i2).f4 j).f3, .int .i64 (rd_T48 (rd_T61 l i2).f4 j).f4, .int .i64 (rd_T48 (rd_T61 l i2).f4 j).f5]) from below_row (below_alloc (Below.refl wd.heap.size wd) _) (Nat.le_refl _) _)
        have HG2 := Aside0.mk (show ((wd.alloc (.cells #[.string ⟨#[]⟩, .int .i64 0, .int .i64 0, .bool false, .string ⟨#[]⟩, .bool false, .string ⟨#[]⟩, .int .i64 0, .int .i64 0] 88)).setRow wd.heap.size #[.string t, .int .i64 p, .int .i64 (wrap64 ((rd_T61 l i2).f0 + (rd_T48 (rd_T61 l i2).f4 j).f5)), .bool (rd_T48 (rd_T61 l i2).f4 j).f0, .string (rd_T48 (rd_T61 l i2).f4 j).f1, .bool (rd_T48 (rd_T61 l i2).f4 j).f2, .string (rd_T48 (rd_T61 l i2).f4 j).f3, .int .i64 (rd_T48 (rd_T61 l i2).f4 j).f4, .int .i64 (rd_T48 (rd_T61 l i2).f4 j).f5]).heap[wd.heap.size]? = some (.cells #[.string t, .int .i64 p, .int .i64 (wrap64 ((rd_T61 l i2).f0 + (rd_T48 (rd_T61 l i2).f4 j).f5)), .bool (rd_T48 (rd_T61 l i2).f4 j).f0, .string (rd_T48 (rd_T61 l i2).f4 j).f1, .bool (rd_T48 (rd_T61 l i2).f4 j).f2, .string (rd_T48 (rd_T61 l i2).f4 j).f3, .int .i64 (rd_T48 (rd_T61 l i2).f4 j).f4, .int .i64 (rd_T48 (rd_T61 l i2).f4 j).f5] 88 (0, 0)) from setRow_heap _ _ _ _ _ _ (heap_alloc_new wd _))
        clear HXB
        generalize (wd.alloc (.cells #[.string ⟨#[]⟩, .int .i64 0, .int .i64 0, .bool false, .string ⟨#[]⟩, .bool false, .string ⟨#[]⟩, .int .i64 0, .int .i64 0] 88)).setRow wd.heap.size #[.string t, .int .i64 p, .int .i64 (wrap64 ((rd_T61 l i2).f0 + (rd_T48 (rd_T61 l i2).f4 j).f5)), .bool (rd_T48 (rd_T61 l i2).f4 j).f0, .string (rd_T48 (rd_T61 l i2).f4 j).f1, .bool (rd_T48 (rd_T61 l i2).f4 j).f2, .string (rd_T48 (rd_T61 l i2).f4 j).f3, .int .i64 (rd_T48 (rd_T61 l i2).f4 j).f4, .int .i64 (rd_T48 (rd_T61 l i2).f4 j).f5] = wf at HBF HG2 ⊢
        obtain ⟨gf, hgf⟩ : ∃ gf, gf = wd.heap.size := ⟨_, rfl⟩
        rw [← hgf] at HG2 ⊢
        have HGF := Aside0.mk hgf
        clear hgf
        have f0 := blk_frozen HG2.out 8
        have f1 := (blk_cell HG2.out 8).trans rfl
        go_upto_region 22 with fail
        (try simp only [Act.put, List.setIfInBounds_toArray, List.set_cons_zero, List.set_cons_succ])
        have HX2 := Aside0.mk (show RSt w0.heap.size m wc (wf.setCell ⟨gf, 8, none⟩ (.int .i64 0)) (.slice Af FA.length cf) FA (.slice As SA.length cs_) SA (.slice Ap PA.length cp) PA (.slice Ax2 ys.length cx2) ys (.slice As SA.length cs_) SA ∧ (wf.setCell ⟨gf, 8, none⟩ (.int .i64 0)).heap[gf]? = some (.cells #[.string t, .int .i64 p, .int .i64 (wrap64 ((rd_T61 l i2).f0 + (rd_T48 (rd_T61 l i2).f4 j).f5)), .bool (rd_T48 (rd_T61 l i2).f4 j).f0, .string (rd_T48 (rd_T61 l i2).f4 j).f1, .bool (rd_T48 (rd_T61 l i2).f4 j).f2, .string (rd_T48 (rd_T61 l i2).f4 j).f3, .int .i64 (rd_T48 (rd_T61 l i2).f4 j).f4, .int .i64 0] 88 (0, 0)) from ⟨HX1.out.1.below (below_setc HBF.out (Nat.le_of_eq HGF.out.symm) 8 _), by simpa using blk_set HG2.out 8 (.int .i64 0)⟩)
        clear HX1 HBF HG2 HGF f0 f1
        generalize wf.setCell ⟨gf, 8, none⟩ (.int .i64 0) = wf2 at HX2 ⊢
        go_wp2_with fail
        go_loopg [23, 24] (ys.length + 1) (fun ke v23 v24 wq => ∃ (mm : Int) (met : Bool), v23 = .bool met ∧ v24 = .int .i64 mm ∧ Aside0 (ke + mm.toNat = ys.length + 1 ∧ 0 ≤ mm ∧ mm ≤ (ys.length : Int)) ∧ Aside0 ((fBad ys (⟨t, p, (wrap64 ((rd_T61 l i2).f0 + (rd_T48 (rd_T61 l i2).f4 j).f5)), lk (rd_T48 (rd_T61 l i2).f4 j)⟩ : Fct) ↔ fBad (ys.drop mm.toNat) (⟨t, p, (wrap64 ((rd_T61 l i2).f0 + (rd_T48 (rd_T61 l i2).f4 j).f5)), lk (rd_T48 (rd_T61 l i2).f4 j)⟩ : Fct)) ∧ (fMet ys (⟨t, p, (wrap64 ((rd_T61 l i2).f0 + (rd_T48 (rd_T61 l i2).f4 j).f5)), lk (rd_T48 (rd_T61 l i2).f4 j)⟩ : Fct) ↔ met = true ∨ fMet (ys.drop mm.toNat) (⟨t, p, (wrap64 ((rd_T61 l i2).f0 + (rd_T48 (rd_T61 l i2).f4 j).f5)), lk (rd_T48 (rd_T61 l i2).f4 j)⟩ : Fct))) ∧ Aside0 (RSt w0.heap.size m wc wq (.slice Af FA.length cf) FA (.slice As SA.length cs_) SA (.slice Ap PA.length cp) PA (.slice Ax2 ys.length cx2) ys (.slice As SA.length cs_) SA ∧ wq.heap[gf]? = some (.cells #[.string t, .int .i64 p, .int .i64 (wrap64 ((rd_T61 l i2).f0 + (rd_T48 (rd_T61 l i2).f4 j).f5)), .bool (rd_T48 (rd_T61 l i2).f4 j).f0, .string (rd_T48 (rd_T61 l i2).f4 j).f1, .bool (rd_T48 (rd_T61 l i2).f4 j).f2, .string (rd_T48 (rd_T61 l i2).f4 j).f3, .int .i64 (rd_T48 (rd_T61 l i2).f4 j).f4, .int .i64 0] 88 (0, 0))))
        case atStart => exact ⟨0, false, rfl, rfl, ⟨by simp, by omega, by omega⟩, ⟨by simp⟩, HX2⟩
        case round =>
          obtain ⟨mm, met, rfl, rfl, HMI, HMQ, HMX⟩ := hrel
          clear HX2
          by_cases hm : mm < (ys.length : Int)
          case neg =>
            have d3 : decide (mm < (ys.length : Int)) = false := decide_eq_false hm
            have he : mm = (ys.length : Int) := by have := HMI.out; omega
            have HNB := Aside0.mk (show ¬ fBad ys (⟨t, p, (wrap64 ((rd_T61 l i2).f0 + (rd_T48 (rd_T61 l i2).f4 j).f5)), lk (rd_T48 (rd_T61 l i2).f4 j)⟩ : Fct) ∧ (fMet ys (⟨t, p, (wrap64 ((rd_T61 l i2).f0 + (rd_T48 (rd_T61 l i2).f4 j).f5)), lk (rd_T48 (rd_T61 l i2).f4 j)⟩ : Fct) ↔ met = true) from by have h_ := HMQ.out; rw [he, Int.toNat_natCast, List.drop_length] at h_; exact ⟨fun h => fBad_nil (h_.1.1 h), by rw [h_.2]; exact or_iff_left fMet_nil⟩)
            clear he hm HMQ
            have e1 : IntKind.i64.wrap (j + 1) = j + 1 := (i64_w _).trans (by have := HJ.out; have := HWB.out.2.2.2.2.1; unfold wrap64; omega)
            cases met with
            | true =>
              have HY1 := Aside0.mk (show (refR t p (rd_T61 l i2).f0 ((rd_T61 l i2).f4.drop (j + 1).toNat) ys).bind (refB t p (l.drop (i2 + 1).toNat)) = refB t p l FA from by rw [← HK3.out, HD2.out]; exact congrArg (fun q => Option.bind q (refB t p (l.drop (i2 + 1).toNat))) (refR_step (t := t) (p := p) (base := (rd_T61 l i2).f0) (r := (rd_T48 (rd_T61 l i2).f4 j)) (fStep_met HNB.out.1 (HNB.out.2.2 rfl))).symm)
              have HY2 := Aside0.mk (show List.length ys + ((rd_T61 l i2).f4.length - (j + 1).toNat) + recs (l.drop (i2 + 1).toNat) ≤ FA.length + recs l from by have := HL3.out; have := HJ.out; have := HJ2.out; omega)
              go_wp2_with fail
              go_roundg ((rd_T61 l i2).f4.length + 1 - (j + 1).toNat)
              case measure => have := HJ.out; have := HJ2.out; omega
              case rel => exact ⟨j + 1, ys, by first | rfl | rw [e1], ⟨by have := HJ.out; have := HJ2.out; omega, by have := HJ.out; omega, by have := HJ2.out; omega⟩, HY1, HY2, ⟨HMX.out.1⟩⟩
            | false =>
              have HY1 := Aside0.mk (show (refR t p (rd_T61 l i2).f0 ((rd_T61 l i2).f4.drop (j + 1).toNat) (ys ++ [(⟨t, p, (wrap64 ((rd_T61 l i2).f0 + (rd_T48 (rd_T61 l i2).f4 j).f5)), lk (rd_T48 (rd_T61 l i2).f4 j)⟩ : Fct)])).bind (refB t p (l.drop (i2 + 1).toNat)) = refB t p l FA from by rw [← HK3.out, HD2.out]; exact congrArg (fun q => Option.bind q (refB t p (l.drop (i2 + 1).toNat))) (refR_step (t := t) (p := p) (base := (rd_T61 l i2).f0) (r := (rd_T48 (rd_T61 l i2).f4 j)) (fStep_new HNB.out.1 (fun h => by have := HNB.out.2.1 h; cases this))).symm)
              have HY2 := Aside0.mk (show List.length (ys ++ [(⟨t, p, (wrap64 ((rd_T61 l i2).f0 + (rd_T48 (rd_T61 l i2).f4 j).f5)), lk (rd_T48 (rd_T61 l i2).f4 j)⟩ : Fct)]) + ((rd_T61 l i2).f4.length - (j + 1).toNat) + recs (l.drop (i2 + 1).toNat) ≤ FA.length + recs l from by have := HL3.out; have := HJ.out; have := HJ2.out; rw [List.length_append, List.length_singleton]; omega)
              have k0 := (blk_cell HMX.out.2 0).trans rfl
              have k1 := (blk_cell HMX.out.2 1).trans rfl
              have k2 := (blk_cell HMX.out.2 2).trans rfl
              have k3 := (blk_cell HMX.out.2 3).trans rfl
              have k4 := (blk_cell HMX.out.2 4).trans rfl
              have k5 := (blk_cell HMX.out.2 5).trans rfl
              have k6 := (blk_cell HMX.out.2 6).trans rfl
              have k7 := (blk_cell HMX.out.2 7).trans rfl
              have k8 := (blk_cell HMX.out.2 8).trans rfl
              have HLN := Aside0.mk (show (ys.length + 1) * 96 ≤ 140737488355328 from by have := HL3.out; have := HN.out; omega)
              go_wp2_with (at_builtin; refine wpl_app1 Fct.cs rfl w0.heap.size (.tmp 186) (.tmp 188) 28 88 (.agg #[.string ⟨#[]⟩, .int .i64 0, .int .i64 0, .bool false, .string ⟨#[]⟩, .bool false, .string ⟨#[]⟩, .int .i64 0, .int .i64 0]) 9 96 rfl rfl Try.underlying28 app_fct rfl (by decide) (by decide) (.slice Ax2 ys.length cx2) ys (⟨t, p, (wrap64 ((rd_T61 l i2).f0 + (rd_T48 (rd_T61 l i2).f4 j).f5)), lk (rd_T48 (rd_T61 l i2).f4 j)⟩ : Fct) rfl rfl rfl (fct_one _) HMX.out.1.xF HMX.out.1.bs HLN.out ?_; intro v1 w1 h1 h2 h3 h4; go_frame)
              go_roundg ((rd_T61 l i2).f4.length + 1 - (j + 1).toNat)
              case measure => have := HJ.out; have := HJ2.out; omega
              case rel => exact ⟨j + 1, (ys ++ [(⟨t, p, (wrap64 ((rd_T61 l i2).f0 + (rd_T48 (rd_T61 l i2).f4 j).f5)), lk (rd_T48 (rd_T61 l i2).f4 j)⟩ : Fct)]), by first | rfl | rw [e1], ⟨by have := HJ.out; have := HJ2.out; omega, by have := HJ.out; omega, by have := HJ2.out; omega⟩, HY1, HY2, ⟨HMX.out.1.fapp h1 h2 h3⟩⟩
          case pos =>
            rename_i q9y q9z qa0 qa1 qa2 qa3 qa4 qa5 qa6 qa7 qa8 qa9 qaa qab qac qad qae qaf qag qah qai qaj qak qal qam qan qao qap qaq qar qas qat qau qav qaw qax qay qaz qb0 qb1 qb2 qb3 qb4 qb5 qb6 qb7 qb8 qb9 qba qbb qbc qbd qbe qbf qbg qbh qbi qbj qbk qbl qbm qbn qbo qbp qbq qbr qbs qbt qbu qbv qbw qbx qby qbz qc0 qc1 qc2 qc3 qc4 qc5 qc6 qc7 qc8 qc9 qca qcb qcc qcd qce qcf qcg qch qci qcj qck qcl qcm qcn qco qcp qcq qcr qcs qct qcu qcv qcw qcx qcy qcz qd0 qd1 qd2 qd3 qd4 qd5 qd6 qd7 qd8 qd9 qda qdb qdc qdd qde qdf qdg qdh qdi qdj qdk qdl qdm qdn qdo qdp qdq qdr qds qdt qdu qdv qdw qdx qdy qdz
            revert m FA SA PA t p st nx fr c l w0 Af cf As cs_ Ap cp HM HA HN q6b q6c q6d q6e q6f q6g q6h q6i q6j q6k q6l q6m q6n q6o q6p q6q q6r q6s q6t q6u q6v q6w q6x q6y q6z q70 q71 q72 q73 q74 q75 q76 q77 q78 q79 q7a q7b i k q9y HKK q7c wc u29 u30 u31 u32 u33 u34 u35 u36 u37 u38 u39 u40 u41 u42 u43 u44 u45 u46 u47 u48 u49 u50 u51 u52 u53 u54 u55 u56 u57 u58 u59 u60 u61 u62 u63 u64 u65 u66 u67 u68 u69 u70 u71 u72 u73 u74 u75 u76 u77 u78 u79 u80 u81 u82 u83 u84 u85 u86 u87 u88 u89 u90 u92 u93 u94 u95 u96 u97 u98 u99 u100 u101 u102 u103 u104 u105 q7d q7e q7f q7g q7h q7i q7j q7k q7l q7m q7n q7o q7p q7q q7r q7s q7t q7u q7v q7w q7x q7y q7z q80 q81 q82 q83 q84 q85 q86 q87 q88 q89 q8a q8b q8c q8d q8e q8f q8g q8h q8i q8j q8k q8l q8m q8n q8o q8p q8q q8r q8s q8t q8u q8v q8w q8x q8y q8z q90 q91 q92 q93 q94 q95 q96 q97 q98 q99 q9a q9b q9c q9d q9e q9f q9g q9h q9i q9j q9k q9l q9m q9n q9o u190 u191 u192 u193 u194 u195 u196 u197 u198 u199 u200 u201 u202 u203 u204 u205 u206 u207 u208 u209 u210 u211 u212 u213 u214 u215 u216 u217 u218 u219 u220 u221 u222 u223 u224 u225 u226 u227 u228 u229 u230 u231 u232 u233 u234 u235 u236 u237 u238 u239 u240 u241 u242 u243 u244 u245 u246 u247 u248 u249 u250 u251 u252 u253 u254 u255 u256 u257 u258 u259 u260 u261 u262 u263 u264 u265 u266 u267 u268 u269 u270 u271 u272 u273 u274 u275 u276 u277 u278 u279 u280 u281 u282 u283 u284 u285 u286 u287 u288 u289 u290 u291 u292 u293 u294 u295 u296 u297 u298 u299 u300 u301 u302 u303 u304 u305 u306 u307 u308 u309 u310 u311 u312 HMM HB q9p q9r HB1 w5 HB2 HRF q9s q9t q9z qa0 qa1 u20 qa2 qa3 qa4 qa5 u106 u107 u108 u109 u110 u111 qa6 qa7 qa8 qa9 qaa qab qac qad qae qaf qag qah qai qaj qak qal qam qan qao qap qaq qar qas qat qau qav qaw qax qay qaz qb0 qb1 qb2 qb3 qb4 qb5 qb6 qb7 qb8 qb9 qba qbb qbc qbd qbe qbf qbg qbh qbi qbj qbk qbl qbm qbn qbo qbp qbq qbr qbs qbt qbu qbv qbw qbx qby qbz qc0 qc1 qc2 qc3 qc4 qc5 qc6 qc7 qc8 qc9 qca qcb q9u q9v q9x i2 xs HI Ax cx d1 ad A4 qcc HWB HD qcd HC5 p1 p2 HI2 HR q9q q9w qce qcf qcg qch qci u21 u22 u23 u24 u112 u113 u114 u115 u116 u117 u118 u119 u120 u121 u122 u123 u124 u125 u126 u127 u128 u129 u130 u131 u132 u133 u134 u135 u136 u137 u138 u139 u140 u141 u142 u143 qcj qck qcl qcm qcn qco qcp qcq qcr qcs qct qcu qcv qcw qcx qcy qcz qd0 qd1 qd2 qd3 qd4 qd5 qd6 qd7 qd8 qd9 qda qdb qdc qdd qde qdf qdg qdh qdi qdj qdk qdl qdm u184 u185 u186 u187 u188 u189 qdn qdo qdp qdq j ys HJ HK3 HL3 Ax2 cx2 c4 d2 ad2 HD2 p3 p4 HJ2 HC4 qdr qds wd qdt gr hHeld wf gf wf2 qdu qdv gk wr u14 u144 u145 u146 u147 u148 u149 u150 u151 u152 u153 u154 u155 u156 u157 u158 u159 u160 u161 u162 u163 u164 u165 u166 u167 u168 u169 u170 u171 u172 u173 u174 u175 u176 u177 u178 u179 u180 u181 u182 u183 qdw qdx qdy qdz mm met HMI HMQ HMX hm
            exact lem_14.out
  case b14 =>
    refine Box_.mk ?_
    intro m FA SA PA t p st nx fr c l w0 Af cf As cs_ Ap cp HM HA HN q6b q6c q6d q6e q6f q6g q6h q6i q6j q6k q6l q6m q6n q6o q6p q6q q6r q6s q6t q6u q6v q6w q6x q6y q6z q70 q71 q72 q73 q74 q75 q76 q77 q78 q79 q7a q7b i k q9y HKK q7c wc u29 u30 u31 u32 u33 u34 u35 u36 u37 u38 u39 u40 u41 u42 u43 u44 u45 u46 u47 u48 u49 u50 u51 u52 u53 u54 u55 u56 u57 u58 u59 u60 u61 u62 u63 u64 u65 u66 u67 u68 u69 u70 u71 u72 u73 u74 u75 u76 u77 u78 u79 u80 u81 u82 u83 u84 u85 u86 u87 u88 u89 u90 u92 u93 u94 u95 u96 u97 u98 u99 u100 u101 u102 u103 u104 u105 q7d q7e q7f q7g q7h q7i q7j q7k q7l q7m q7n q7o q7p q7q q7r q7s q7t q7u q7v q7w q7x q7y q7z q80 q81 q82 q83 q84 q85 q86 q87 q88 q89 q8a q8b q8c q8d q8e q8f q8g q8h q8i q8j q8k q8l q8m q8n q8o q8p q8q q8r q8s q8t q8u q8v q8w q8x q8y q8z q90 q91 q92 q93 q94 q95 q96 q97 q98 q99 q9a q9b q9c q9d q9e q9f q9g q9h q9i q9j q9k q9l q9m q9n q9o u190 u191 u192 u193 u194 u195 u196 u197 u198 u199 u200 u201 u202 u203 u204 u205 u206 u207 u208 u209 u210 u211 u212 u213 u214 u215 u216 u217 u218 u219 u220 u221 u222 u223 u224 u225 u226 u227 u228 u229 u230 u231 u232 u233 u234 u235 u236 u237 u238 u239 u240 u241 u242 u243 u244 u245 u246 u247 u248 u249 u250 u251 u252 u253 u254 u255 u256 u257 u258 u259 u260 u261 u262 u263 u264 u265 u266 u267 u268 u269 u270 u271 u272 u273 u274 u275 u276 u277 u278 u279 u280 u281 u282 u283 u284 u285 u286 u287 u288 u289 u290 u291 u292 u293 u294 u295 u296 u297 u298 u299 u300 u301 u302 u303 u304 u305 u306 u307 u308 u309 u310 u311 u312 HMM HB q9p q9r HB1 w5 HB2 HRF q9s q9t q9z qa0 qa1 u20 qa2 qa3 qa4 qa5 u106 u107 u108 u109 u110 u111 qa6 qa7 qa8 qa9 qaa qab qac qad qae qaf qag qah qai qaj qak qal qam qan qao qap qaq qar qas qat qau qav qaw qax qay qaz qb0 qb1 qb2 qb3 qb4 qb5 qb6 qb7 qb8 qb9 qba qbb qbc qbd qbe qbf qbg qbh qbi qbj qbk qbl qbm qbn qbo qbp qbq qbr qbs qbt qbu qbv qbw qbx qby qbz qc0 qc1 qc2 qc3 qc4 qc5 qc6 qc7 qc8 qc9 qca qcb q9u q9v q9x i2 xs HI Ax cx d1 ad A4 qcc HWB HD qcd HC5 p1 p2 HI2 HR q9q q9w qce qcf qcg qch qci u21 u22 u23 u24 u112 u113 u114 u115 u116 u117 u118 u119 u120 u121 u122 u123 u124 u125 u126 u127 u128 u129 u130 u131 u132 u133 u134 u135 u136 u137 u138 u139 u140 u141 u142 u143 qcj qck qcl qcm qcn qco qcp qcq qcr qcs qct qcu qcv qcw qcx qcy qcz qd0 qd1 qd2 qd3 qd4 qd5 qd6 qd7 qd8 qd9 qda qdb qdc qdd qde qdf qdg qdh qdi qdj qdk qdl qdm u184 u185 u186 u187 u188 u189 qdn qdo qdp qdq j ys HJ HK3 HL3 Ax2 cx2 c4 d2 ad2 HD2 p3 p4 HJ2 HC4 qdr qds wd qdt gr hHeld wf gf wf2 qdu qdv gk wr u14 u144 u145 u146 u147 u148 u149 u150 u151 u152 u153 u154 u155 u156 u157 u158 u159 u160 u161 u162 u163 u164 u165 u166 u167 u168 u169 u170 u171 u172 u173 u174 u175 u176 u177 u178 u179 u180 u181 u182 u183 qdw qdx qdy qdz mm met HMI HMQ HMX hm
    have d3 : decide (mm < (ys.length : Int)) = true := decide_eq_true hm
    have h0 := HMI.out.2.1
    obtain ⟨ad3, ea3, z0, z1⟩ := HMX.out.1.xF.at2 fct_len zFct mm h0 hm
    have HD3 := Aside0.mk (drop_get zFct h0 hm)
    have p5 := eq_true h0
    have p6 := eq_true hm
    have HM2 := Aside0.mk hm
    clear h0 hm
    cases ea3
    obtain ⟨y, hy⟩ : ∃ y, y = ys.getD mm.toNat zFct := ⟨_, rfl⟩
    rw [← hy] at z0 z1 HD3
    clear hy
    have k0 := z0 (.string y.t) rfl
    have k1 := z1 1 (.int .i64 y.p) rfl
    have k2 := z1 2 (.int .i64 y.o) rfl
    have Z1 := Aside0.mk z1
    clear z0 z1
    have g2 := (blk_cell HMX.out.2 2).trans rfl
    have e1 : IntKind.i64.wrap (mm + 1) = mm + 1 := (i64_w _).trans (by have := HMI.out; have := HL3.out; have := HN.out; unfold wrap64; omega)
    by_cases ct : y.t = t
    case neg =>
      have b0 : (y.t.toList == t.toList) = false := str_f ct
      have CT := Aside0.mk ct
      clear ct
      have HQ := Aside0.mk (show (fBad ys (⟨t, p, (wrap64 ((rd_T61 l i2).f0 + (rd_T48 (rd_T61 l i2).f4 j).f5)), lk (rd_T48 (rd_T61 l i2).f4 j)⟩ : Fct) ↔ fBad (ys.drop (mm + 1).toNat) (⟨t, p, (wrap64 ((rd_T61 l i2).f0 + (rd_T48 (rd_T61 l i2).f4 j).f5)), lk (rd_T48 (rd_T61 l i2).f4 j)⟩ : Fct)) ∧ (fMet ys (⟨t, p, (wrap64 ((rd_T61 l i2).f0 + (rd_T48 (rd_T61 l i2).f4 j).f5)), lk (rd_T48 (rd_T61 l i2).f4 j)⟩ : Fct) ↔ met = true ∨ fMet (ys.drop (mm + 1).toNat) (⟨t, p, (wrap64 ((rd_T61 l i2).f0 + (rd_T48 (rd_T61 l i2).f4 j).f5)), lk (rd_T48 (rd_T61 l i2).f4 j)⟩ : Fct)) from by have h_ := HMQ.out; rw [HD3.out, fBad_cons, fMet_cons] at h_; have hk : ¬ y.key (⟨t, p, (wrap64 ((rd_T61 l i2).f0 + (rd_T48 (rd_T61 l i2).f4 j).f5)), lk (rd_T48 (rd_T61 l i2).f4 j)⟩ : Fct) := fun h => CT.out h.1; exact ⟨h_.1.trans (or_iff_right fun h => hk h.1), h_.2.trans (or_congr_right (or_iff_right hk))⟩)
      clear HMQ
      go_wp2_with fail
      go_quiet (fail)
      go_wp2_with fail
      go_roundg (ys.length + 1 - (mm + 1).toNat)
      case measure => have := HMI.out; have := HM2.out; omega
      case rel => exact ⟨mm + 1, met, rfl, by first | rfl | rw [e1], ⟨by have := HMI.out; have := HM2.out; omega, by have := HMI.out; omega, by have := HM2.out; omega⟩, HQ, ⟨HMX.out.1.below ((Drawn0.refl wr).step nq).below, blk_below HMX.out.2 ((Drawn0.refl wr).step nq).below⟩⟩
    case pos =>
      have b0 : (y.t.toList == t.toList) = true := str_t ct
      have CT := Aside0.mk ct
      clear ct
      by_cases cp_ : y.p = p
      case neg =>
        have b1 : (y.p == p) = false := beq_eq_false_iff_ne.mpr cp_
        have CP := Aside0.mk cp_
        clear cp_
        have HQ := Aside0.mk (show (fBad ys (⟨t, p, (wrap64 ((rd_T61 l i2).f0 + (rd_T48 (rd_T61 l i2).f4 j).f5)), lk (rd_T48 (rd_T61 l i2).f4 j)⟩ : Fct) ↔ fBad (ys.drop (mm + 1).toNat) (⟨t, p, (wrap64 ((rd_T61 l i2).f0 + (rd_T48 (rd_T61 l i2).f4 j).f5)), lk (rd_T48 (rd_T61 l i2).f4 j)⟩ : Fct)) ∧ (fMet ys (⟨t, p, (wrap64 ((rd_T61 l i2).f0 + (rd_T48 (rd_T61 l i2).f4 j).f5)), lk (rd_T48 (rd_T61 l i2).f4 j)⟩ : Fct) ↔ met = true ∨ fMet (ys.drop (mm + 1).toNat) (⟨t, p, (wrap64 ((rd_T61 l i2).f0 + (rd_T48 (rd_T61 l i2).f4 j).f5)), lk (rd_T48 (rd_T61 l i2).f4 j)⟩ : Fct)) from by have h_ := HMQ.out; rw [HD3.out, fBad_cons, fMet_cons] at h_; have hk : ¬ y.key (⟨t, p, (wrap64 ((rd_T61 l i2).f0 + (rd_T48 (rd_T61 l i2).f4 j).f5)), lk (rd_T48 (rd_T61 l i2).f4 j)⟩ : Fct) := fun h => CP.out h.2.1; exact ⟨h_.1.trans (or_iff_right fun h => hk h.1), h_.2.trans (or_congr_right (or_iff_right hk))⟩)
        clear HMQ
        go_wp2_with fail
        go_quiet (fail)
        go_wp2_with fail
        go_roundg (ys.length + 1 - (mm + 1).toNat)
        case measure => have := HMI.out; have := HM2.out; omega
        case rel => exact ⟨mm + 1, met, rfl, by first | rfl | rw [e1], ⟨by have := HMI.out; have := HM2.out; omega, by have := HMI.out; omega, by have := HM2.out; omega⟩, HQ, ⟨HMX.out.1.below ((Drawn0.refl wr).step nq).below, blk_below HMX.out.2 ((Drawn0.refl wr).step nq).below⟩⟩
      case pos =>
        have b1 : (y.p == p) = true := beq_iff_eq.mpr cp_
        have CP := Aside0.mk cp_
        clear cp_
        by_cases co : y.o = (wrap64 ((rd_T61 l i2).f0 + (rd_T48 (rd_T61 l i2).f4 j).f5))
        case neg =>
          have b2 : (y.o == (wrap64 ((rd_T61 l i2).f0 + (rd_T48 (rd_T61 l i2).f4 j).f5))) = false := beq_eq_false_iff_ne.mpr co
          have CO := Aside0.mk co
          clear co
          have HQ := Aside0.mk (show (fBad ys (⟨t, p, (wrap64 ((rd_T61 l i2).f0 + (rd_T48 (rd_T61 l i2).f4 j).f5)), lk (rd_T48 (rd_T61 l i2).f4 j)⟩ : Fct) ↔ fBad (ys.drop (mm + 1).toNat) (⟨t, p, (wrap64 ((rd_T61 l i2).f0 + (rd_T48 (rd_T61 l i2).f4 j).f5)), lk (rd_T48 (rd_T61 l i2).f4 j)⟩ : Fct)) ∧ (fMet ys (⟨t, p, (wrap64 ((rd_T61 l i2).f0 + (rd_T48 (rd_T61 l i2).f4 j).f5)), lk (rd_T48 (rd_T61 l i2).f4 j)⟩ : Fct) ↔ met = true ∨ fMet (ys.drop (mm + 1).toNat) (⟨t, p, (wrap64 ((rd_T61 l i2).f0 + (rd_T48 (rd_T61 l i2).f4 j).f5)), lk (rd_T48 (rd_T61 l i2).f4 j)⟩ : Fct)) from by have h_ := HMQ.out; rw [HD3.out, fBad_cons, fMet_cons] at h_; have hk : ¬ y.key (⟨t, p, (wrap64 ((rd_T61 l i2).f0 + (rd_T48 (rd_T61 l i2).f4 j).f5)), lk (rd_T48 (rd_T61 l i2).f4 j)⟩ : Fct) := fun h => CO.out h.2.2; exact ⟨h_.1.trans (or_iff_right fun h => hk h.1), h_.2.trans (or_congr_right (or_iff_right hk))⟩)
          clear HMQ
          go_wp2_with fail
          go_quiet (fail)
          go_wp2_with fail
          go_roundg (ys.length + 1 - (mm + 1).toNat)
          case measure => have := HMI.out; have := HM2.out; omega
          case rel => exact ⟨mm + 1, met, rfl, by first | rfl | rw [e1], ⟨by have := HMI.out; have := HM2.out; omega, by have := HMI.out; omega, by have := HM2.out; omega⟩, HQ, ⟨HMX.out.1.below ((Drawn0.refl wr).step nq).below, blk_below HMX.out.2 ((Drawn0.refl wr).step nq).below⟩⟩
        case pos =>
          have b2 : (y.o == (wrap64 ((rd_T61 l i2).f0 + (rd_T48 (rd_T61 l i2).f4 j).f5))) = true := beq_iff_eq.mpr co
          have CO := Aside0.mk co
          clear co
          go_wp2_with fail
          go_quiet (fail)
          go_upto_region 27 with fail
          (try simp only [Act.put, List.setIfInBounds_toArray, List.set_cons_zero, List.set_cons_succ])
          have hdn := below_drew1 ((Drawn0.refl wr).step nq).below
          have HX3 := Aside0.mk (show RSt w0.heap.size m wc (wr.drewN nq).drew (.slice Af FA.length cf) FA (.slice As SA.length cs_) SA (.slice Ap PA.length cp) PA (.slice (some ad3) ys.length cx2) ys (.slice As SA.length cs_) SA ∧ (wr.drewN nq).drew.heap[gf]? = some (.cells #[.string t, .int .i64 p, .int .i64 (wrap64 ((rd_T61 l i2).f0 + (rd_T48 (rd_T61 l i2).f4 j).f5)), .bool (rd_T48 (rd_T61 l i2).f4 j).f0, .string (rd_T48 (rd_T61 l i2).f4 j).f1, .bool (rd_T48 (rd_T61 l i2).f4 j).f2, .string (rd_T48 (rd_T61 l i2).f4 j).f3, .int .i64 (rd_T48 (rd_T61 l i2).f4 j).f4, .int .i64 0] 88 (0, 0)) from ⟨HMX.out.1.below hdn, blk_below HMX.out.2 hdn⟩)
          have HY0_ := Aside0.mk (pw_cell_below hdn (Z1.out 3 (.bool y.r.f0) rfl))
          have HY1_ := Aside0.mk (pw_cell_below hdn (Z1.out 4 (.string y.r.f1) rfl))
          have HY2_ := Aside0.mk (pw_cell_below hdn (Z1.out 5 (.bool y.r.f2) rfl))
          have HY3_ := Aside0.mk (pw_cell_below hdn (Z1.out 6 (.string y.r.f3) rfl))
          have HY4_ := Aside0.mk (pw_cell_below hdn (Z1.out 7 (.int .i64 y.r.f4) rfl))
          have HY5_ := Aside0.mk (pw_cell_below hdn (Z1.out 8 (.int .i64 y.r.f5) rfl))
          have HKE := Aside0.mk (show y.key (⟨t, p, (wrap64 ((rd_T61 l i2).f0 + (rd_T48 (rd_T61 l i2).f4 j).f5)), lk (rd_T48 (rd_T61 l i2).f4 j)⟩ : Fct) from ⟨CT.out, CP.out, CO.out⟩)
          by_cases hv : Value.agg #[.bool y.r.f0, .string y.r.f1, .bool y.r.f2, .string y.r.f3, .int .i64 y.r.f4, .int .i64 y.r.f5] = Value.agg #[.bool (rd_T48 (rd_T61 l i2).f4 j).f0, .string (rd_T48 (rd_T61 l i2).f4 j).f1, .bool (rd_T48 (rd_T61 l i2).f4 j).f2, .string (rd_T48 (rd_T61 l i2).f4 j).f3, .int .i64 (rd_T48 (rd_T61 l i2).f4 j).f4, .int .i64 0]
          case pos =>
            have HE := Aside0.mk (show ∀ w' : World, (Op.equal 48 (.agg #[.bool y.r.f0, .string y.r.f1, .bool y.r.f2, .string y.r.f3, .int .i64 y.r.f4, .int .i64 y.r.f5]) (.agg #[.bool (rd_T48 (rd_T61 l i2).f4 j).f0, .string (rd_T48 (rd_T61 l i2).f4 j).f1, .bool (rd_T48 (rd_T61 l i2).f4 j).f2, .string (rd_T48 (rd_T61 l i2).f4 j).f3, .int .i64 (rd_T48 (rd_T61 l i2).f4 j).f4, .int .i64 0])).run Try.prog w' = .ok true w' from fun w' => rec_same (show  Value.agg #[.bool y.r.f0, .string y.r.f1, .bool y.r.f2, .string y.r.f3, .int .i64 y.r.f4, .int .i64 y.r.f5] = Value.agg #[.bool (rd_T48 (rd_T61 l i2).f4 j).f0, .string (rd_T48 (rd_T61 l i2).f4 j).f1, .bool (rd_T48 (rd_T61 l i2).f4 j).f2, .string (rd_T48 (rd_T61 l i2).f4 j).f3, .int .i64 (rd_T48 (rd_T61 l i2).f4 j).f4, .int .i64 0] from hv) w')
            refine start_ (n := 8) (S := fun w' => Below (wr.drewN nq).drew.heap.size (wr.drewN nq).drew w') (ds := []) #[false, false, false, false, false, false, false, false] (by decide +kernel) rfl rfl (Below.refl _ _) (fun hHeld => ?_)
            have HV := Aside0.mk hv
            clear hv hdn HMX Z1
            generalize (wr.drewN nq).drew = wv at HX3 HY0_ HY1_ HY2_ HY3_ HY4_ HY5_ hHeld ⊢
            refine pure_ (i := 0) (N := (some 176)) (v := ?_) (a' := ?_) #[true, false, false, false, false, false, false, false] rfl rfl (by decide +kernel) (fun _ _ _ h => h) (Or.inl ⟨by rfl, ?_⟩) ?_ ?_
            rotate_left
            · intro w'
              go_simp
              with_reducible rfl
            rotate_left
            · simp only [Act.put, List.setIfInBounds_toArray, List.set_cons_zero, List.set_cons_succ, i64_w, i32_w]
              rfl
            refine pure_ (i := 1) (N := (some 177)) (v := ?_) (a' := ?_) #[true, true, false, false, false, false, false, false] rfl rfl (by decide +kernel) (fun _ _ _ h => h) (Or.inl ⟨by rfl, ?_⟩) ?_ ?_
            rotate_left
            · intro w'
              go_simp
              with_reducible rfl
            rotate_left
            · simp only [Act.put, List.setIfInBounds_toArray, List.set_cons_zero, List.set_cons_succ, i64_w, i32_w]
              rfl
            refine pure_ (i := 2) (N := (some 178)) (v := ?_) (a' := ?_) #[true, true, true, false, false, false, false, false] rfl rfl (by decide +kernel) (fun _ _ _ h => h) (Or.inl ⟨by rfl, ?_⟩) ?_ ?_
            rotate_left
            · intro w'
              go_simp
              with_reducible rfl
            rotate_left
            · simp only [Act.put, List.setIfInBounds_toArray, List.set_cons_zero, List.set_cons_succ, i64_w, i32_w]
              rfl
            refine pure_ (i := 3) (N := (some 179)) (v := ?_) (a' := ?_) #[true, true, true, true, false, false, false, false] rfl rfl (by decide +kernel) (fun _ _ _ h => h) (Or.inl ⟨by rfl, ?_⟩) ?_ ?_
            rotate_left
            · intro w'
              go_simp
              with_reducible rfl
            rotate_left
            · simp only [Act.put, List.setIfInBounds_toArray, List.set_cons_zero, List.set_cons_succ, i64_w, i32_w]
              rfl
            refine take_ (i := 4) (N := (some 180)) (v := ?_) (a' := ?_) #[true, true, true, true, true, false, false, false] rfl rfl (by decide +kernel) (fun _ _ _ h => h) (Or.inl ⟨by rfl, ?_⟩) hHeld ?_ ?_
            rotate_left
            · rintro w' s0
              have c0_ := pw_cell_below s0 HY0_.out
              have c1_ := pw_cell_below s0 HY1_.out
              have c2_ := pw_cell_below s0 HY2_.out
              have c3_ := pw_cell_below s0 HY3_.out
              have c4_ := pw_cell_below s0 HY4_.out
              have c5_ := pw_cell_below s0 HY5_.out
              go_simp
              with_reducible rfl
            rotate_left
            · simp only [Act.put, List.setIfInBounds_toArray, List.set_cons_zero, List.set_cons_succ, i64_w, i32_w]
              rfl
            refine pure_ (i := 5) (N := (some 181)) (v := ?_) (a' := ?_) #[true, true, true, true, true, true, false, false] rfl rfl (by decide +kernel) (fun _ _ _ h => h) (Or.inl ⟨by rfl, ?_⟩) ?_ ?_
            rotate_left
            · intro w'
              go_simp
              with_reducible rfl
            rotate_left
            · simp only [Act.put, List.setIfInBounds_toArray, List.set_cons_zero, List.set_cons_succ, i64_w, i32_w]
              rfl
            refine take_ (i := 6) (N := (some 182)) (v := ?_) (a' := ?_) #[true, true, true, true, true, true, true, false] rfl rfl (by decide +kernel) (fun _ _ _ h => h) (Or.inl ⟨by rfl, ?_⟩) hHeld ?_ ?_
            rotate_left
            · rintro w' s0
              have c0_ := pw_cell_below s0 (show wv.cell? ⟨gf, 3, none⟩ = some (.bool (rd_T48 (rd_T61 l i2).f4 j).f0) from (blk_cell HX3.out.2 3).trans rfl)
              have c1_ := pw_cell_below s0 (show wv.cell? ⟨gf, 4, none⟩ = some (.string (rd_T48 (rd_T61 l i2).f4 j).f1) from (blk_cell HX3.out.2 4).trans rfl)
              have c2_ := pw_cell_below s0 (show wv.cell? ⟨gf, 5, none⟩ = some (.bool (rd_T48 (rd_T61 l i2).f4 j).f2) from (blk_cell HX3.out.2 5).trans rfl)
              have c3_ := pw_cell_below s0 (show wv.cell? ⟨gf, 6, none⟩ = some (.string (rd_T48 (rd_T61 l i2).f4 j).f3) from (blk_cell HX3.out.2 6).trans rfl)
              have c4_ := pw_cell_below s0 (show wv.cell? ⟨gf, 7, none⟩ = some (.int .i64 (rd_T48 (rd_T61 l i2).f4 j).f4) from (blk_cell HX3.out.2 7).trans rfl)
              have c5_ := pw_cell_below s0 (show wv.cell? ⟨gf, 8, none⟩ = some (.int .i64 0) from (blk_cell HX3.out.2 8).trans rfl)
              go_simp
              with_reducible rfl
            rotate_left
            · simp only [Act.put, List.setIfInBounds_toArray, List.set_cons_zero, List.set_cons_succ, i64_w, i32_w]
              rfl
            refine pure_ (i := 7) (N := (some 183)) (v := ?_) (a' := ?_) #[true, true, true, true, true, true, true, true] rfl rfl (by decide +kernel) (fun _ _ _ h => h) (Or.inl ⟨by rfl, ?_⟩) ?_ ?_
            rotate_left
            · intro w'
              refine bin_ne 48 48 (.tmp 180) (.tmp 182) ?_ ?_ ?_ ?_ (HE.out w')
              · rfl
              · rfl
              · rfl
              · kernel_rfl
            rotate_left
            · simp only [Act.put, List.setIfInBounds_toArray, List.set_cons_zero, List.set_cons_succ, i64_w, i32_w]
              rfl
            refine done_ (by decide +kernel) ?_
            clear hHeld
            have HQ := Aside0.mk (show (fBad ys (⟨t, p, (wrap64 ((rd_T61 l i2).f0 + (rd_T48 (rd_T61 l i2).f4 j).f5)), lk (rd_T48 (rd_T61 l i2).f4 j)⟩ : Fct) ↔ fBad (ys.drop (mm + 1).toNat) (⟨t, p, (wrap64 ((rd_T61 l i2).f0 + (rd_T48 (rd_T61 l i2).f4 j).f5)), lk (rd_T48 (rd_T61 l i2).f4 j)⟩ : Fct)) ∧ fMet ys (⟨t, p, (wrap64 ((rd_T61 l i2).f0 + (rd_T48 (rd_T61 l i2).f4 j).f5)), lk (rd_T48 (rd_T61 l i2).f4 j)⟩ : Fct) from by have h_ := HMQ.out; rw [HD3.out, fBad_cons, fMet_cons] at h_; exact ⟨h_.1.trans (or_iff_right fun h => h.2 HV.out), h_.2.2 (.inr (.inl HKE.out))⟩)
            clear HMQ HE
            go_wp2_with fail
            go_roundg (ys.length + 1 - (mm + 1).toNat)
            case measure => have := HMI.out; have := HM2.out; omega
            case rel => exact ⟨mm + 1, true, rfl, by first | rfl | rw [e1], ⟨by have := HMI.out; have := HM2.out; omega, by have := HMI.out; omega, by have := HM2.out; omega⟩, ⟨HQ.out.1, fun _ => .inl rfl, fun _ => HQ.out.2⟩, HX3⟩
          case neg =>
            have HE := Aside0.mk (show ∀ w' : World, (Op.equal 48 (.agg #[.bool y.r.f0, .string y.r.f1, .bool y.r.f2, .string y.r.f3, .int .i64 y.r.f4, .int .i64 y.r.f5]) (.agg #[.bool (rd_T48 (rd_T61 l i2).f4 j).f0, .string (rd_T48 (rd_T61 l i2).f4 j).f1, .bool (rd_T48 (rd_T61 l i2).f4 j).f2, .string (rd_T48 (rd_T61 l i2).f4 j).f3, .int .i64 (rd_T48 (rd_T61 l i2).f4 j).f4, .int .i64 0])).run Try.prog w' = .ok false w' from fun w' => rec_diff (show ¬ Value.agg #[.bool y.r.f0, .string y.r.f1, .bool y.r.f2, .string y.r.f3, .int .i64 y.r.f4, .int .i64 y.r.f5] = Value.agg #[.bool (rd_T48 (rd_T61 l i2).f4 j).f0, .string (rd_T48 (rd_T61 l i2).f4 j).f1, .bool (rd_T48 (rd_T61 l i2).f4 j).f2, .string (rd_T48 (rd_T61 l i2).f4 j).f3, .int .i64 (rd_T48 (rd_T61 l i2).f4 j).f4, .int .i64 0] from hv) w')
            refine start_ (n := 8) (S := fun w' => Below (wr.drewN nq).drew.heap.size (wr.drewN nq).drew w') (ds := []) #[false, false, false, false, false, false, false, false] (by decide +kernel) rfl rfl (Below.refl _ _) (fun hHeld => ?_)
            have HV := Aside0.mk hv
            clear hv hdn HMX Z1
            generalize (wr.drewN nq).drew = wv at HX3 HY0_ HY1_ HY2_ HY3_ HY4_ HY5_ hHeld ⊢
            refine pure_ (i := 0) (N := (some 176)) (v := ?_) (a' := ?_) #[true, false, false, false, false, false, false, false] rfl rfl (by decide +kernel) (fun _ _ _ h => h) (Or.inl ⟨by rfl, ?_⟩) ?_ ?_
            rotate_left
            · intro w'
              go_simp
              with_reducible rfl
            rotate_left
            · simp only [Act.put, List.setIfInBounds_toArray, List.set_cons_zero, List.set_cons_succ, i64_w, i32_w]
              rfl
            refine pure_ (i := 1) (N := (some 177)) (v := ?_) (a' := ?_) #[true, true, false, false, false, false, false, false] rfl rfl (by decide +kernel) (fun _ _ _ h => h) (Or.inl ⟨by rfl, ?_⟩) ?_ ?_
            rotate_left
            · intro w'
              go_simp
              with_reducible rfl
            rotate_left
            · simp only [Act.put, List.setIfInBounds_toArray, List.set_cons_zero, List.set_cons_succ, i64_w, i32_w]
              rfl
            refine pure_ (i := 2) (N := (some 178)) (v := ?_) (a' := ?_) #[true, true, true, false, false, false, false, false] rfl rfl (by decide +kernel) (fun _ _ _ h => h) (Or.inl ⟨by rfl, ?_⟩) ?_ ?_
            rotate_left
            · intro w'
              go_simp
              with_reducible rfl
            rotate_left
            · simp only [Act.put, List.setIfInBounds_toArray, List.set_cons_zero, List.set_cons_succ, i64_w, i32_w]
              rfl
            refine pure_ (i := 3) (N := (some 179)) (v := ?_) (a' := ?_) #[true, true, true, true, false, false, false, false] rfl rfl (by decide +kernel) (fun _ _ _ h => h) (Or.inl ⟨by rfl, ?_⟩) ?_ ?_
            rotate_left
            · intro w'
              go_simp
              with_reducible rfl
            rotate_left
            · simp only [Act.put, List.setIfInBounds_toArray, List.set_cons_zero, List.set_cons_succ, i64_w, i32_w]
              rfl
            refine take_ (i := 4) (N := (some 180)) (v := ?_) (a' := ?_) #[true, true, true, true, true, false, false, false] rfl rfl (by decide +kernel) (fun _ _ _ h => h) (Or.inl ⟨by rfl, ?_⟩) hHeld ?_ ?_
            rotate_left
            · rintro w' s0
              have c0_ := pw_cell_below s0 HY0_.out
              have c1_ := pw_cell_below s0 HY1_.out
              have c2_ := pw_cell_below s0 HY2_.out
              have c3_ := pw_cell_below s0 HY3_.out
              have c4_ := pw_cell_below s0 HY4_.out
              have c5_ := pw_cell_below s0 HY5_.out
              go_simp
              with_reducible rfl
            rotate_left
            · simp only [Act.put, List.setIfInBounds_toArray, List.set_cons_zero, List.set_cons_succ, i64_w, i32_w]
              rfl
            refine pure_ (i := 5) (N := (some 181)) (v := ?_) (a' := ?_) #[true, true, true, true, true, true, false, false] rfl rfl (by decide +kernel) (fun _ _ _ h => h) (Or.inl ⟨by rfl, ?_⟩) ?_ ?_
            rotate_left
            · intro w'
              go_simp
              with_reducible rfl
            rotate_left
            · simp only [Act.put, List.setIfInBounds_toArray, List.set_cons_zero, List.set_cons_succ, i64_w, i32_w]
              rfl
            refine take_ (i := 6) (N := (some 182)) (v := ?_) (a' := ?_) #[true, true, true, true, true, true, true, false] rfl rfl (by decide +kernel) (fun _ _ _ h => h) (Or.inl ⟨by rfl, ?_⟩) hHeld ?_ ?_
            rotate_left
            · rintro w' s0
              have c0_ := pw_cell_below s0 (show wv.cell? ⟨gf, 3, none⟩ = some (.bool (rd_T48 (rd_T61 l i2).f4 j).f0) from (blk_cell HX3.out.2 3).trans rfl)
              have c1_ := pw_cell_below s0 (show wv.cell? ⟨gf, 4, none⟩ = some (.string (rd_T48 (rd_T61 l i2).f4 j).f1) from (blk_cell HX3.out.2 4).trans rfl)
              have c2_ := pw_cell_below s0 (show wv.cell? ⟨gf, 5, none⟩ = some (.bool (rd_T48 (rd_T61 l i2).f4 j).f2) from (blk_cell HX3.out.2 5).trans rfl)
              have c3_ := pw_cell_below s0 (show wv.cell? ⟨gf, 6, none⟩ = some (.string (rd_T48 (rd_T61 l i2).f4 j).f3) from (blk_cell HX3.out.2 6).trans rfl)
              have c4_ := pw_cell_below s0 (show wv.cell? ⟨gf, 7, none⟩ = some (.int .i64 (rd_T48 (rd_T61 l i2).f4 j).f4) from (blk_cell HX3.out.2 7).trans rfl)
              have c5_ := pw_cell_below s0 (show wv.cell? ⟨gf, 8, none⟩ = some (.int .i64 0) from (blk_cell HX3.out.2 8).trans rfl)
              go_simp
              with_reducible rfl
            rotate_left
            · simp only [Act.put, List.setIfInBounds_toArray, List.set_cons_zero, List.set_cons_succ, i64_w, i32_w]
              rfl
            refine pure_ (i := 7) (N := (some 183)) (v := ?_) (a' := ?_) #[true, true, true, true, true, true, true, true] rfl rfl (by decide +kernel) (fun _ _ _ h => h) (Or.inl ⟨by rfl, ?_⟩) ?_ ?_
            rotate_left
            · intro w'
              refine bin_ne 48 48 (.tmp 180) (.tmp 182) ?_ ?_ ?_ ?_ (HE.out w')
              · rfl
              · rfl
              · rfl
              · kernel_rfl
            rotate_left
            · simp only [Act.put, List.setIfInBounds_toArray, List.set_cons_zero, List.set_cons_succ, i64_w, i32_w]
              rfl
            refine done_ (by decide +kernel) ?_
            clear hHeld
            have HBAD := Aside0.mk (show fBad ys (⟨t, p, (wrap64 ((rd_T61 l i2).f0 + (rd_T48 (rd_T61 l i2).f4 j).f5)), lk (rd_T48 (rd_T61 l i2).f4 j)⟩ : Fct) from by rw [HMQ.out.1, HD3.out, fBad_cons]; exact .inl ⟨HKE.out, HV.out⟩)
            have HF_ := Aside0.mk (show refF t p st nx fr l FA SA PA = (3, FA, SA, PA) from by rw [HRF.out, show refB t p l FA = none from by rw [← HK3.out, HD2.out]; exact congrArg (fun q => Option.bind q (refB t p (l.drop (i2 + 1).toNat))) (refR_none (t := t) (p := p) (base := (rd_T61 l i2).f0) (r := (rd_T48 (rd_T61 l i2).f4 j)) (fStep_cons_bad HBAD.out))])
            clear HMQ HE
            go_wp2_with fail
            go_ret
            exact ⟨by rw [HF_.out]; rfl, by rw [HF_.out]; exact HX3.out.1.old, HX3.out.1.keep⟩
theorem ref_Saw.calls (m : Nat) (FA : List Fct) (SA : List Snt) (PA : List Spn) (t : ByteArray) (p st nx fr : Int) (A : Option Addr) (c : Nat) (l : List SB) (w0 w : World) (hM : ChkP w0.heap.size w m FA SA PA) (hb : Below w0.heap.size w0 w) (hm : w0.heap.size ≤ m) (hr : Kd.C k61 w0 A l.length l) (hc : l.length ≤ c) (ha : SawArg t p st nx fr l) (hn : FA.length + recs l ≤ 1000000000 ∧ SA.length + l.length ≤ 1000000000 ∧ PA.length ≤ 1000000000) :
    Calls Try.prog 12 #[.pointer (some ⟨m, 0, none⟩), .string t, .int .i64 p, .int .i64 st, .int .i64 nx, .int .i64 fr, .slice A l.length c] w fun e w' => e = .returned (.int .i64 (refF t p st nx fr l FA SA PA).1) ∧ ChkP w0.heap.size w' m (refF t p st nx fr l FA SA PA).2.1 (refF t p st nx fr l FA SA PA).2.2.1 (refF t p st nx fr l FA SA PA).2.2.2 ∧ Keep w0.heap.size m w w' := ref_Saw.box.down m FA SA PA t p st nx fr A c l w0 w hM hb hm hr hc ha hn

end Go.Proofs.Ytdlkofmcioalfaa.PCk
