/- The law ParaCounts, walked. -/
import Derived.Test.Ytogmnhebobdokab64
import Derived.Test.Ytogmnhebobdokab17
set_option linter.unusedVariables false
set_option linter.unusedSimpArgs false
namespace Go.Ab
open Go Go.RowKit Go.Proofs

theorem blkK_at {l : List ByteArray} {k x : Nat} {s : Nat × Nat} (hs : (blkL l)[k]? = some s) (h1 : s.1 ≤ x) (h2 : x < s.2) : blkK l x = k :=
  lastI_eq (blkL_chain l) hs h1 h2 (blkL l).length (get_lt hs) (Nat.le_refl _)
theorem onB_zero {l : List ByteArray} {x : Nat} (hx : x < l.length) : onB l x 0 = true := by
  have hp : placeB l x 0 = true := by
    unfold placeB
    rw [decide_eq_true (by omega), decide_eq_true (by omega), decide_eq_true (by omega), decide_eq_true (by show (0 : Int) ≤ ((sz l x : Nat) : Int); omega)]
    rfl
  rw [onB, hp]
  cases decide ((0 : Int) < (sz l (x : Int).toNat : Int)) <;> rfl
theorem innI_zero {l : List ByteArray} {x N : Nat} (hx : x < l.length) (hN : 1 ≤ N) : innI l x 0 N = innP l x N := by
  have hb : blkF l x 0 N = false := by rw [blkF, onB_zero hx, decide_eq_false (by omega)]; rfl
  rw [innI, hb, if_neg (by simp), Int.toNat_natCast]
theorem innI_one {l : List ByteArray} {k x : Nat} {s : Nat × Nat} (hs : (blkL l)[k]? = some s) (h1 : s.1 ≤ x) (h2 : x < s.2) : innI l x 0 1 = some (s.1, s.2 - 1) := by
  have hx : x < l.length := by have := (blkL_chain l).get hs; omega
  have := innI_zero (N := 1) hx (Nat.le_refl _)
  rw [show ((1 : Nat) : Int) = 1 from rfl] at this
  rw [this, innP, blkK_at hs h1 h2, if_pos (by have := get_lt hs; omega), Nat.add_sub_cancel, getD_some hs]
def frZ (L : List (Nat × Nat)) (K : Nat) : Nat → Int
  | 0 => 0
  | _ + 1 => ((L.getD K (0, 0)).1 : Nat)
def toZ (L : List (Nat × Nat)) (K : Nat) : Nat → Int
  | 0 => -1
  | i + 1 => ((L.getD (K + i) (0, 0)).2 - 1 : Nat)

def Gpu (l : List ByteArray) (f : FuncId) (args : List V) : Option (List RV) :=
  if f = 43 then some [.v (.bool true)]
  else if f = 20 then some [.v (.bool (textB l))]
  else if f = 47 then lnV (innI l) args else none

set_option maxRecDepth 100000 in
set_option maxHeartbeats 4000000 in
theorem law_ParaCounts (l : List ByteArray) (hw : ∀ a, sz l a ≤ 4611686018427387904) (m : Nat) (hm : m < 256) (n : Nat) (hn : n < 256) (k : Nat) :
    CallOK Try.prog 14 [.r k, .v (.int .u8 m), .v (.int .u8 n)] [some (EC l), none, none] [.v (.bool true)] := by
  refine callOK_of_awp (c := cx (Gpu l) 109) (cx_ok _ _) Try.func14 (by kernel_rfl) rfl rfl (by simp [cx]) (by simp [sizesOK, EC]) (awk_of ?_)
  have hT := help_Text l hw 0
  rcases ht : textB l with _ | _
  · rw [ht] at hT
    simp (config := {maxSteps := 4000000}) only [Try.f14, Gpu, ht, G2, G3, G4, ↓ZX, ↓ZY, ZZ, Nat.reduceBNe, A0, A1, Int.reduceLE, Int.reduceLT, A6, A7, A8, A9, AA, AB, AC, AD, AE, AF, AG, AH, AI, AJ, AK, AL, AM, AN, AO, AP, AQ, AR, AS, AT, AU, AV, AX, AY, AZ, B0, B1, B3, B4, B5, B6, B7, B8, B9, BA, BB, BC, BD, BE, BF, BG, BH, BI, BJ, BK, BL, BM, BN, BO, BP, BQ, BR, BS, BT, BU, BV, BW, BX, BY, BZ, C0, C1, C2, C3, C4, C5, C6, C7, C8, C9, CA, CB, CC, CD, CE, CF, CG, CH, CI, CJ, CK, CL, CM, CN, CO, CP, CQ, CR, CS, CT, CU, CV, CW, CX, CY, CZ, D0, D1, D2, D3, D4, D5, D6, D7, DV.isSl, DV.isStr, DV.isBool, D8, D9, DA, DV.agg, DB, DC, DD, DE, DF, DG, DH, DI, DJ, DK, DL, DM, DN, DO, DP, DQ, DR, DS, DT, DU, St.kill, St.app, St.forget, St.newOK, DW, DX, DY, St.unseen, DZ, E0, E1, E3, E5, E6, E7, E8, E9, EA, EB, EC, Value.cells, Value.oneCell', ED, EE, EF, EG, EH, EJ, EK, EL, id, EM, EN, EO, EP, EQ, ER, ES, ET, EU, EV, EW, EX, EY, EZ, F0, F1, F3, F4, F5, F6, F7, F8, F9, FA, reduceCtorEq, ↓reduceIte, Nat.reduceEqDiff, Nat.reduceAdd, Nat.reduceLT, Nat.reduceLeDiff, Nat.reduceBEq, FB, Nat.reduceMul, FC, FD, FE, FF, FG, FH, FI, if_true, if_false, FL, FM, FN, FO, FP, FQ, FR, FS, FT, FU, FV, decide_true, decide_false, FY, FZ, G0, G1]
    exact ⟨law18_known, hT⟩
  · rw [ht] at hT
    obtain ⟨hf, hl⟩ := fit_of_text ht
    have hl40 := hf.1
    have e24 : IntKind.i64.wrap (m : Int) = (m : Int) := w64 (by omega) (by omega)
    have e27 : (m : Int).tmod (l.length : Int) = ((m % l.length : Nat) : Int) := by rw [Int.tmod_eq_emod_of_nonneg (by omega)]; omega
    have hxl : m % l.length < l.length := Nat.mod_lt _ hl
    have hz27 : ((l.length : Int) ≠ 0) = True := by simp; intro h; rw [h] at hl; simp at hl
    have e30 : IntKind.i64.wrap ((n : Int).tmod 5) = ((n % 5 : Nat) : Int) := by
      have : (n : Int).tmod 5 = ((n % 5 : Nat) : Int) := by rw [Int.tmod_eq_emod_of_nonneg (by omega)]; omega
      rw [this, w64 (by omega) (by omega)]
    have e32 : IntKind.i64.wrap (((n % 5 : Nat) : Int) + 1) = ((n % 5 + 1 : Nat) : Int) := by rw [w64 (by omega) (by omega)]; omega
    have hC : 1 ≤ n % 5 + 1 ∧ n % 5 + 1 ≤ 5 := by omega
    have z5 : ((5 : Int) ≠ 0) = True := by simp
    generalize m % l.length = x at *
    generalize n % 5 + 1 = C at *
    obtain ⟨s, hs, hs1, hs2⟩ := blkK_spec hxl
    have hkl := get_lt hs
    have hbn := blkL_len l
    have hch := blkL_chain l
    simp (config := {maxSteps := 4000000}) only [Try.f14, Gpu, ht, e24, e27, hz27, e30, e32, z5, G2, G3, G4, ↓ZX, ↓ZY, ZZ, Nat.reduceBNe, A0, A1, Int.reduceLE, Int.reduceLT, A6, A7, A8, A9, AA, AB, AC, AD, AE, AF, AG, AH, AI, AJ, AK, AL, AM, AN, AO, AP, AQ, AR, AS, AT, AU, AV, AX, AY, AZ, B0, B1, B3, B4, B5, B6, B7, B8, B9, BA, BB, BC, BD, BE, BF, BG, BH, BI, BJ, BK, BL, BM, BN, BO, BP, BQ, BR, BS, BT, BU, BV, BW, BX, BY, BZ, C0, C1, C2, C3, C4, C5, C6, C7, C8, C9, CA, CB, CC, CD, CE, CF, CG, CH, CI, CJ, CK, CL, CM, CN, CO, CP, CQ, CR, CS, CT, CU, CV, CW, CX, CY, CZ, D0, D1, D2, D3, D4, D5, D6, D7, DV.isSl, DV.isStr, DV.isBool, D8, D9, DA, DV.agg, DB, DC, DD, DE, DF, DG, DH, DI, DJ, DK, DL, DM, DN, DO, DP, DQ, DR, DS, DT, DU, St.kill, St.app, St.forget, St.newOK, DW, DX, DY, St.unseen, DZ, E0, E1, E3, E5, E6, E7, E8, E9, EA, EB, EC, Value.cells, Value.oneCell', ED, EE, EF, EG, EH, EJ, EK, EL, id, EM, EN, EO, EP, EQ, ER, ES, ET, EU, EV, EW, EX, EY, EZ, F0, F1, F3, F4, F5, F6, F7, F8, F9, FA, reduceCtorEq, ↓reduceIte, Nat.reduceEqDiff, Nat.reduceAdd, Nat.reduceLT, Nat.reduceLeDiff, Nat.reduceBEq, FB, Nat.reduceMul, FC, FD, FE, FF, FG, FH, FI, if_true, if_false, FL, FM, FN, FO, FP, FQ, FR, FS, FT, FU, FV, decide_true, decide_false, FY, FZ, G0, G1]
    refine ⟨law18_known, hT, ?_⟩
    generalize hK : blkK l x = K at *
    refine AWL_loop (cx_ok _ _) (fun i : Nat => ⟨[(0, .r 0), (7, .p 7 0), (8, .v (i64 C)), (9, .v (i64 (frZ (blkL l) K i))), (10, .v (i64 (toZ (blkL l) K i))), (11, .v (.bool true)), (12, .v (i64 i))], [(7, some [.v (i64 x), .v (i64 0)])], [(0, some (EC l))]⟩)
      (fun i => i ≤ C ∧ K + i ≤ (blkL l).length) (fun i => C - i) 0 ?_ ⟨by omega, by omega⟩ ?_
    · simp (config := {maxSteps := 4000000}) only [EC, frZ, toZ, G2, G3, G4, ↓ZX, ↓ZY, ZZ, Nat.reduceBNe, A0, A1, Int.reduceLE, Int.reduceLT, A6, A7, A8, A9, AA, AB, AC, AD, AE, AF, AG, AH, AI, AJ, AK, AL, AM, AN, AO, AP, AQ, AR, AS, AT, AU, AV, AX, AY, AZ, B0, B1, B3, B4, B5, B6, B7, B8, B9, BA, BB, BC, BD, BE, BF, BG, BH, BI, BJ, BK, BL, BM, BN, BO, BP, BQ, BR, BS, BT, BU, BV, BW, BX, BY, BZ, C0, C1, C2, C3, C4, C5, C6, C7, C8, C9, CA, CB, CC, CD, CE, CF, CG, CH, CI, CJ, CK, CL, CM, CN, CO, CP, CQ, CR, CS, CT, CU, CV, CW, CX, CY, CZ, D0, D1, D2, D3, D4, D5, D6, D7, DV.isSl, DV.isStr, DV.isBool, D8, D9, DA, DV.agg, DB, DC, DD, DE, DF, DG, DH, DI, DJ, DK, DL, DM, DN, DO, DP, DQ, DR, DS, DT, DU, St.kill, St.app, St.forget, St.newOK, DW, DX, DY, St.unseen, DZ, E0, E1, E3, E5, E6, E7, E8, E9, EA, EB, EC, Value.cells, Value.oneCell', ED, EE, EF, EG, EH, EJ, EK, EL, id, EM, EN, EO, EP, EQ, ER, ES, ET, EU, EV, EW, EX, EY, EZ, F0, F1, F3, F4, F5, F6, F7, F8, F9, FA, reduceCtorEq, ↓reduceIte, Nat.reduceEqDiff, Nat.reduceAdd, Nat.reduceLT, Nat.reduceLeDiff, Nat.reduceBEq, FB, Nat.reduceMul, FC, FD, FE, FF, FG, FH, FI, if_true, if_false, FL, FM, FN, FO, FP, FQ, FR, FS, FT, FU, FV, decide_true, decide_false, FY, FZ, G0, G1]
      all_goals simp
    · rintro i ⟨hi, hiK⟩ R hN hR hE
      by_cases hiC : i < C
      · have d : decide ((i : Int) < (C : Int)) = true := decide_eq_true (by omega)
        have ei : IntKind.i64.wrap ((i : Int) + 1) = ((i + 1 : Nat) : Int) := by rw [w64 (by omega) (by omega)]; omega
        cases i with
        | zero =>
          have hin := innI_one hs hs1 hs2
          have hpi := obj_pInner l hf x 0 1 (by omega) 0
          rw [hin] at hpi
          have hse := hch.get hs
          have d1 : decide (0 < ((0 : Nat) : Int)) = false := rfl
          have d2 : decide ((l.length : Int) ≤ (x : Int)) = false := decide_eq_false (by omega)
          have d3 : decide ((x : Int) < (s.1 : Int)) = false := decide_eq_false (by omega)
          have d4 : decide (((s.2 - 1 : Nat) : Int) < (x : Int)) = false := decide_eq_false (by omega)
          have d5 : (((0 : Nat) : Int) == 0) = true := rfl
          have f1 : frZ (blkL l) K 1 = (s.1 : Int) := by rw [frZ, getD_some hs]
          have t1 : toZ (blkL l) K 1 = ((s.2 - 1 : Nat) : Int) := by rw [toZ, Nat.add_zero, getD_some hs]
          have hgt := get_lt hs
          simp (config := {maxSteps := 4000000}) only [Gpu, lnV, iv, p1, p2, EC, d, hin, d1, d2, d3, d4, d5, ei, bne, beq_self_eq_true, G2, G3, G4, ↓ZX, ↓ZY, ZZ, Nat.reduceBNe, A0, A1, Int.reduceLE, Int.reduceLT, A6, A7, A8, A9, AA, AB, AC, AD, AE, AF, AG, AH, AI, AJ, AK, AL, AM, AN, AO, AP, AQ, AR, AS, AT, AU, AV, AX, AY, AZ, B0, B1, B3, B4, B5, B6, B7, B8, B9, BA, BB, BC, BD, BE, BF, BG, BH, BI, BJ, BK, BL, BM, BN, BO, BP, BQ, BR, BS, BT, BU, BV, BW, BX, BY, BZ, C0, C1, C2, C3, C4, C5, C6, C7, C8, C9, CA, CB, CC, CD, CE, CF, CG, CH, CI, CJ, CK, CL, CM, CN, CO, CP, CQ, CR, CS, CT, CU, CV, CW, CX, CY, CZ, D0, D1, D2, D3, D4, D5, D6, D7, DV.isSl, DV.isStr, DV.isBool, D8, D9, DA, DV.agg, DB, DC, DD, DE, DF, DG, DH, DI, DJ, DK, DL, DM, DN, DO, DP, DQ, DR, DS, DT, DU, St.kill, St.app, St.forget, St.newOK, DW, DX, DY, St.unseen, DZ, E0, E1, E3, E5, E6, E7, E8, E9, EA, EB, EC, Value.cells, Value.oneCell', ED, EE, EF, EG, EH, EJ, EK, EL, id, EM, EN, EO, EP, EQ, ER, ES, ET, EU, EV, EW, EX, EY, EZ, F0, F1, F3, F4, F5, F6, F7, F8, F9, FA, reduceCtorEq, ↓reduceIte, Nat.reduceEqDiff, Nat.reduceAdd, Nat.reduceLT, Nat.reduceLeDiff, Nat.reduceBEq, FB, Nat.reduceMul, FC, FD, FE, FF, FG, FH, FI, if_true, if_false, FL, FM, FN, FO, FP, FQ, FR, FS, FT, FU, FV, decide_true, decide_false, FY, FZ, G0, G1]
          refine ⟨hpi, hN _ ⟨0 + 1, ⟨by omega, by omega⟩, by dsimp only; omega, ?_⟩⟩
          simp (config := {maxSteps := 4000000}) only [EC, f1, t1, G2, G3, G4, ↓ZX, ↓ZY, ZZ, Nat.reduceBNe, A0, A1, Int.reduceLE, Int.reduceLT, A6, A7, A8, A9, AA, AB, AC, AD, AE, AF, AG, AH, AI, AJ, AK, AL, AM, AN, AO, AP, AQ, AR, AS, AT, AU, AV, AX, AY, AZ, B0, B1, B3, B4, B5, B6, B7, B8, B9, BA, BB, BC, BD, BE, BF, BG, BH, BI, BJ, BK, BL, BM, BN, BO, BP, BQ, BR, BS, BT, BU, BV, BW, BX, BY, BZ, C0, C1, C2, C3, C4, C5, C6, C7, C8, C9, CA, CB, CC, CD, CE, CF, CG, CH, CI, CJ, CK, CL, CM, CN, CO, CP, CQ, CR, CS, CT, CU, CV, CW, CX, CY, CZ, D0, D1, D2, D3, D4, D5, D6, D7, DV.isSl, DV.isStr, DV.isBool, D8, D9, DA, DV.agg, DB, DC, DD, DE, DF, DG, DH, DI, DJ, DK, DL, DM, DN, DO, DP, DQ, DR, DS, DT, DU, St.kill, St.app, St.forget, St.newOK, DW, DX, DY, St.unseen, DZ, E0, E1, E3, E5, E6, E7, E8, E9, EA, EB, EC, Value.cells, Value.oneCell', ED, EE, EF, EG, EH, EJ, EK, EL, id, EM, EN, EO, EP, EQ, ER, ES, ET, EU, EV, EW, EX, EY, EZ, F0, F1, F3, F4, F5, F6, F7, F8, F9, FA, reduceCtorEq, ↓reduceIte, Nat.reduceEqDiff, Nat.reduceAdd, Nat.reduceLT, Nat.reduceLeDiff, Nat.reduceBEq, FB, Nat.reduceMul, FC, FD, FE, FF, FG, FH, FI, if_true, if_false, FL, FM, FN, FO, FP, FQ, FR, FS, FT, FU, FV, decide_true, decide_false, FY, FZ, G0, G1]
          all_goals simp
        | succ j =>
          obtain ⟨q, hq⟩ := get_of (show K + j < (blkL l).length by omega)
          have hqe := hch.get hq
          have d1 : decide (0 < ((j + 1 : Nat) : Int)) = true := decide_eq_true (by omega)
          have f0 : frZ (blkL l) K (j + 1) = (s.1 : Int) := by rw [frZ, getD_some hs]
          have t0 : toZ (blkL l) K (j + 1) = ((q.2 - 1 : Nat) : Int) := by rw [toZ, getD_some hq]
          have e42 : IntKind.i64.wrap (((q.2 - 1 : Nat) : Int) + 1) = (q.2 : Int) := by rw [w64 (by omega) (by omega)]; omega
          by_cases hend : K + (j + 1) = (blkL l).length
          · have hql : q.2 = l.length := hch.last (by rw [← hend]; exact hq)
            have d2 : decide ((l.length : Int) ≤ (q.2 : Int)) = true := decide_eq_true (by omega)
            have hin : innI l x 0 C = none := by
              rw [innI_zero hxl (by omega), innP, hK, if_neg (by omega)]
            have hpi := obj_pInner l hf x 0 C (by omega) 0
            rw [hin] at hpi
            simp (config := {maxSteps := 4000000}) only [Gpu, lnV, iv, p1, p2, EC, d, d1, d2, f0, t0, e42, G2, G3, G4, ↓ZX, ↓ZY, ZZ, Nat.reduceBNe, A0, A1, Int.reduceLE, Int.reduceLT, A6, A7, A8, A9, AA, AB, AC, AD, AE, AF, AG, AH, AI, AJ, AK, AL, AM, AN, AO, AP, AQ, AR, AS, AT, AU, AV, AX, AY, AZ, B0, B1, B3, B4, B5, B6, B7, B8, B9, BA, BB, BC, BD, BE, BF, BG, BH, BI, BJ, BK, BL, BM, BN, BO, BP, BQ, BR, BS, BT, BU, BV, BW, BX, BY, BZ, C0, C1, C2, C3, C4, C5, C6, C7, C8, C9, CA, CB, CC, CD, CE, CF, CG, CH, CI, CJ, CK, CL, CM, CN, CO, CP, CQ, CR, CS, CT, CU, CV, CW, CX, CY, CZ, D0, D1, D2, D3, D4, D5, D6, D7, DV.isSl, DV.isStr, DV.isBool, D8, D9, DA, DV.agg, DB, DC, DD, DE, DF, DG, DH, DI, DJ, DK, DL, DM, DN, DO, DP, DQ, DR, DS, DT, DU, St.kill, St.app, St.forget, St.newOK, DW, DX, DY, St.unseen, DZ, E0, E1, E3, E5, E6, E7, E8, E9, EA, EB, EC, Value.cells, Value.oneCell', ED, EE, EF, EG, EH, EJ, EK, EL, id, EM, EN, EO, EP, EQ, ER, ES, ET, EU, EV, EW, EX, EY, EZ, F0, F1, F3, F4, F5, F6, F7, F8, F9, FA, reduceCtorEq, ↓reduceIte, Nat.reduceEqDiff, Nat.reduceAdd, Nat.reduceLT, Nat.reduceLeDiff, Nat.reduceBEq, FB, Nat.reduceMul, FC, FD, FE, FF, FG, FH, FI, if_true, if_false, FL, FM, FN, FO, FP, FQ, FR, FS, FT, FU, FV, decide_true, decide_false, FY, FZ, G0, G1]
            refine hE _ _ ?_
            simp (config := {maxSteps := 4000000}) only [Gpu, lnV, iv, p1, p2, EC, hin, beq_self_eq_true, G2, G3, G4, ↓ZX, ↓ZY, ZZ, Nat.reduceBNe, A0, A1, Int.reduceLE, Int.reduceLT, A6, A7, A8, A9, AA, AB, AC, AD, AE, AF, AG, AH, AI, AJ, AK, AL, AM, AN, AO, AP, AQ, AR, AS, AT, AU, AV, AX, AY, AZ, B0, B1, B3, B4, B5, B6, B7, B8, B9, BA, BB, BC, BD, BE, BF, BG, BH, BI, BJ, BK, BL, BM, BN, BO, BP, BQ, BR, BS, BT, BU, BV, BW, BX, BY, BZ, C0, C1, C2, C3, C4, C5, C6, C7, C8, C9, CA, CB, CC, CD, CE, CF, CG, CH, CI, CJ, CK, CL, CM, CN, CO, CP, CQ, CR, CS, CT, CU, CV, CW, CX, CY, CZ, D0, D1, D2, D3, D4, D5, D6, D7, DV.isSl, DV.isStr, DV.isBool, D8, D9, DA, DV.agg, DB, DC, DD, DE, DF, DG, DH, DI, DJ, DK, DL, DM, DN, DO, DP, DQ, DR, DS, DT, DU, St.kill, St.app, St.forget, St.newOK, DW, DX, DY, St.unseen, DZ, E0, E1, E3, E5, E6, E7, E8, E9, EA, EB, EC, Value.cells, Value.oneCell', ED, EE, EF, EG, EH, EJ, EK, EL, id, EM, EN, EO, EP, EQ, ER, ES, ET, EU, EV, EW, EX, EY, EZ, F0, F1, F3, F4, F5, F6, F7, F8, F9, FA, reduceCtorEq, ↓reduceIte, Nat.reduceEqDiff, Nat.reduceAdd, Nat.reduceLT, Nat.reduceLeDiff, Nat.reduceBEq, FB, Nat.reduceMul, FC, FD, FE, FF, FG, FH, FI, if_true, if_false, FL, FM, FN, FO, FP, FQ, FR, FS, FT, FU, FV, decide_true, decide_false, FY, FZ, G0, G1]
            exact hpi
          · obtain ⟨u, hu⟩ := get_of (show K + j + 1 < (blkL l).length by omega)
            have huq := hch.next hq hu
            have hue := hch.get hu
            have hin := innI_one hu (x := q.2) (by omega) (by omega)
            have hpi := obj_pInner l hf q.2 0 1 (by omega) 0
            rw [hin] at hpi
            have d2 : decide ((l.length : Int) ≤ (q.2 : Int)) = false := decide_eq_false (by omega)
            have d3 : decide ((q.2 : Int) < (u.1 : Int)) = false := decide_eq_false (by omega)
            have d4 : decide (((u.2 - 1 : Nat) : Int) < (q.2 : Int)) = false := decide_eq_false (by omega)
            have d5 : (((j + 1 : Nat) : Int) == 0) = false := by simp; omega
            have f1 : frZ (blkL l) K (j + 1 + 1) = (s.1 : Int) := by rw [frZ, getD_some hs]
            have t1 : toZ (blkL l) K (j + 1 + 1) = ((u.2 - 1 : Nat) : Int) := by rw [toZ, ← Nat.add_assoc, getD_some hu]
            simp (config := {maxSteps := 4000000}) only [Gpu, lnV, iv, p1, p2, EC, d, hin, d1, d2, d3, d4, d5, f0, t0, e42, ei, bne, beq_self_eq_true, G2, G3, G4, ↓ZX, ↓ZY, ZZ, Nat.reduceBNe, A0, A1, Int.reduceLE, Int.reduceLT, A6, A7, A8, A9, AA, AB, AC, AD, AE, AF, AG, AH, AI, AJ, AK, AL, AM, AN, AO, AP, AQ, AR, AS, AT, AU, AV, AX, AY, AZ, B0, B1, B3, B4, B5, B6, B7, B8, B9, BA, BB, BC, BD, BE, BF, BG, BH, BI, BJ, BK, BL, BM, BN, BO, BP, BQ, BR, BS, BT, BU, BV, BW, BX, BY, BZ, C0, C1, C2, C3, C4, C5, C6, C7, C8, C9, CA, CB, CC, CD, CE, CF, CG, CH, CI, CJ, CK, CL, CM, CN, CO, CP, CQ, CR, CS, CT, CU, CV, CW, CX, CY, CZ, D0, D1, D2, D3, D4, D5, D6, D7, DV.isSl, DV.isStr, DV.isBool, D8, D9, DA, DV.agg, DB, DC, DD, DE, DF, DG, DH, DI, DJ, DK, DL, DM, DN, DO, DP, DQ, DR, DS, DT, DU, St.kill, St.app, St.forget, St.newOK, DW, DX, DY, St.unseen, DZ, E0, E1, E3, E5, E6, E7, E8, E9, EA, EB, EC, Value.cells, Value.oneCell', ED, EE, EF, EG, EH, EJ, EK, EL, id, EM, EN, EO, EP, EQ, ER, ES, ET, EU, EV, EW, EX, EY, EZ, F0, F1, F3, F4, F5, F6, F7, F8, F9, FA, reduceCtorEq, ↓reduceIte, Nat.reduceEqDiff, Nat.reduceAdd, Nat.reduceLT, Nat.reduceLeDiff, Nat.reduceBEq, FB, Nat.reduceMul, FC, FD, FE, FF, FG, FH, FI, if_true, if_false, FL, FM, FN, FO, FP, FQ, FR, FS, FT, FU, FV, decide_true, decide_false, FY, FZ, G0, G1]
            refine ⟨hpi, hN _ ⟨j + 1 + 1, ⟨by omega, by omega⟩, by dsimp only; omega, ?_⟩⟩
            simp (config := {maxSteps := 4000000}) only [EC, f1, t1, G2, G3, G4, ↓ZX, ↓ZY, ZZ, Nat.reduceBNe, A0, A1, Int.reduceLE, Int.reduceLT, A6, A7, A8, A9, AA, AB, AC, AD, AE, AF, AG, AH, AI, AJ, AK, AL, AM, AN, AO, AP, AQ, AR, AS, AT, AU, AV, AX, AY, AZ, B0, B1, B3, B4, B5, B6, B7, B8, B9, BA, BB, BC, BD, BE, BF, BG, BH, BI, BJ, BK, BL, BM, BN, BO, BP, BQ, BR, BS, BT, BU, BV, BW, BX, BY, BZ, C0, C1, C2, C3, C4, C5, C6, C7, C8, C9, CA, CB, CC, CD, CE, CF, CG, CH, CI, CJ, CK, CL, CM, CN, CO, CP, CQ, CR, CS, CT, CU, CV, CW, CX, CY, CZ, D0, D1, D2, D3, D4, D5, D6, D7, DV.isSl, DV.isStr, DV.isBool, D8, D9, DA, DV.agg, DB, DC, DD, DE, DF, DG, DH, DI, DJ, DK, DL, DM, DN, DO, DP, DQ, DR, DS, DT, DU, St.kill, St.app, St.forget, St.newOK, DW, DX, DY, St.unseen, DZ, E0, E1, E3, E5, E6, E7, E8, E9, EA, EB, EC, Value.cells, Value.oneCell', ED, EE, EF, EG, EH, EJ, EK, EL, id, EM, EN, EO, EP, EQ, ER, ES, ET, EU, EV, EW, EX, EY, EZ, F0, F1, F3, F4, F5, F6, F7, F8, F9, FA, reduceCtorEq, ↓reduceIte, Nat.reduceEqDiff, Nat.reduceAdd, Nat.reduceLT, Nat.reduceLeDiff, Nat.reduceBEq, FB, Nat.reduceMul, FC, FD, FE, FF, FG, FH, FI, if_true, if_false, FL, FM, FN, FO, FP, FQ, FR, FS, FT, FU, FV, decide_true, decide_false, FY, FZ, G0, G1]
            all_goals simp
      · have d : decide ((i : Int) < (C : Int)) = false := decide_eq_false (by omega)
        obtain rfl : i = C := by omega
        obtain ⟨j, rfl⟩ : ∃ j, i = j + 1 := ⟨i - 1, by omega⟩
        obtain ⟨q, hq⟩ := get_of (show K + j < (blkL l).length by omega)
        have f0 : frZ (blkL l) K (j + 1) = (s.1 : Int) := by rw [frZ, getD_some hs]
        have t0 : toZ (blkL l) K (j + 1) = ((q.2 - 1 : Nat) : Int) := by rw [toZ, getD_some hq]
        have hin : innI l x 0 (j + 1 : Nat) = some (s.1, q.2 - 1) := by
          rw [innI_zero hxl (by omega), innP, hK, if_pos (by omega), getD_some hs, show K + (j + 1) - 1 = K + j by omega, getD_some hq]
        have hpi := obj_pInner l hf x 0 (j + 1 : Nat) (by omega) 0
        rw [hin] at hpi
        simp (config := {maxSteps := 4000000}) only [Gpu, lnV, iv, p1, p2, EC, d, G2, G3, G4, ↓ZX, ↓ZY, ZZ, Nat.reduceBNe, A0, A1, Int.reduceLE, Int.reduceLT, A6, A7, A8, A9, AA, AB, AC, AD, AE, AF, AG, AH, AI, AJ, AK, AL, AM, AN, AO, AP, AQ, AR, AS, AT, AU, AV, AX, AY, AZ, B0, B1, B3, B4, B5, B6, B7, B8, B9, BA, BB, BC, BD, BE, BF, BG, BH, BI, BJ, BK, BL, BM, BN, BO, BP, BQ, BR, BS, BT, BU, BV, BW, BX, BY, BZ, C0, C1, C2, C3, C4, C5, C6, C7, C8, C9, CA, CB, CC, CD, CE, CF, CG, CH, CI, CJ, CK, CL, CM, CN, CO, CP, CQ, CR, CS, CT, CU, CV, CW, CX, CY, CZ, D0, D1, D2, D3, D4, D5, D6, D7, DV.isSl, DV.isStr, DV.isBool, D8, D9, DA, DV.agg, DB, DC, DD, DE, DF, DG, DH, DI, DJ, DK, DL, DM, DN, DO, DP, DQ, DR, DS, DT, DU, St.kill, St.app, St.forget, St.newOK, DW, DX, DY, St.unseen, DZ, E0, E1, E3, E5, E6, E7, E8, E9, EA, EB, EC, Value.cells, Value.oneCell', ED, EE, EF, EG, EH, EJ, EK, EL, id, EM, EN, EO, EP, EQ, ER, ES, ET, EU, EV, EW, EX, EY, EZ, F0, F1, F3, F4, F5, F6, F7, F8, F9, FA, reduceCtorEq, ↓reduceIte, Nat.reduceEqDiff, Nat.reduceAdd, Nat.reduceLT, Nat.reduceLeDiff, Nat.reduceBEq, FB, Nat.reduceMul, FC, FD, FE, FF, FG, FH, FI, if_true, if_false, FL, FM, FN, FO, FP, FQ, FR, FS, FT, FU, FV, decide_true, decide_false, FY, FZ, G0, G1]
        refine hE _ _ ?_
        simp (config := {maxSteps := 4000000}) only [Gpu, lnV, iv, p1, p2, EC, hin, f0, t0, beq_self_eq_true, G2, G3, G4, ↓ZX, ↓ZY, ZZ, Nat.reduceBNe, A0, A1, Int.reduceLE, Int.reduceLT, A6, A7, A8, A9, AA, AB, AC, AD, AE, AF, AG, AH, AI, AJ, AK, AL, AM, AN, AO, AP, AQ, AR, AS, AT, AU, AV, AX, AY, AZ, B0, B1, B3, B4, B5, B6, B7, B8, B9, BA, BB, BC, BD, BE, BF, BG, BH, BI, BJ, BK, BL, BM, BN, BO, BP, BQ, BR, BS, BT, BU, BV, BW, BX, BY, BZ, C0, C1, C2, C3, C4, C5, C6, C7, C8, C9, CA, CB, CC, CD, CE, CF, CG, CH, CI, CJ, CK, CL, CM, CN, CO, CP, CQ, CR, CS, CT, CU, CV, CW, CX, CY, CZ, D0, D1, D2, D3, D4, D5, D6, D7, DV.isSl, DV.isStr, DV.isBool, D8, D9, DA, DV.agg, DB, DC, DD, DE, DF, DG, DH, DI, DJ, DK, DL, DM, DN, DO, DP, DQ, DR, DS, DT, DU, St.kill, St.app, St.forget, St.newOK, DW, DX, DY, St.unseen, DZ, E0, E1, E3, E5, E6, E7, E8, E9, EA, EB, EC, Value.cells, Value.oneCell', ED, EE, EF, EG, EH, EJ, EK, EL, id, EM, EN, EO, EP, EQ, ER, ES, ET, EU, EV, EW, EX, EY, EZ, F0, F1, F3, F4, F5, F6, F7, F8, F9, FA, reduceCtorEq, ↓reduceIte, Nat.reduceEqDiff, Nat.reduceAdd, Nat.reduceLT, Nat.reduceLeDiff, Nat.reduceBEq, FB, Nat.reduceMul, FC, FD, FE, FF, FG, FH, FI, if_true, if_false, FL, FM, FN, FO, FP, FQ, FR, FS, FT, FU, FV, decide_true, decide_false, FY, FZ, G0, G1]
        exact hpi

end Go.Ab
