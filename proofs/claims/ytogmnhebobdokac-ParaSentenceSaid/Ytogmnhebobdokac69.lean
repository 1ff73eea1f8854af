/- The law ParaSentence: its walk. -/
import Derived.Test.Ytogmnhebobdokac68
set_option linter.unusedVariables false
set_option linter.unusedSimpArgs false
namespace Go.Ab
open Go Go.RowKit Go.Proofs

def Gpv (l : List ByteArray) (a b : Nat) (f : FuncId) (args : List V) : Option (List RV) :=
  if f = 4 then some [.v (.bool true)]
  else if f = 5 then some [.v (.bool (textB l))]
  else if f = 6 then some [.v (pos (seatA l a) (seatB l a b))]
  else if f = 7 then srV (sentRI l) args
  else if f = 8 then lessV args
  else if f = 9 then clsV args else none

set_option maxRecDepth 100000 in
set_option maxHeartbeats 4000000 in
theorem law_ParaSentence (l : List ByteArray) (hw : ∀ a, sz l a ≤ 4611686018427387904) (a b : Nat) (ha : a < 65536) (hb : b < 65536) (k : Nat) :
    CallOK Try.prog 3 [.r k, .v (.int .u16 a), .v (.int .u16 b)] [some (EC l), none, none] [.v (.bool true)] := by
  refine callOK_of_awp (c := cx (Gpv l a b) 83) (cx_ok _ _) Try.func3 (by kernel_rfl) rfl rfl (by simp [cx]) (by simp [sizesOK, EC]) (awk_of ?_)
  have hT := help_Text l hw 0
  rcases ht : textB l with _ | _
  · rw [ht] at hT
    simp (config := {maxSteps := 4000000}) only [Try.f3, Gpv, ht, G2, G3, G4, ↓ZX, ↓ZY, ZZ, Nat.reduceBNe, A0, A1, Int.reduceLE, Int.reduceLT, A6, A7, A8, A9, AA, AB, AC, AD, AE, AF, AG, AH, AI, AJ, AK, AL, AM, AN, AO, AP, AQ, AR, AS, AT, AU, AV, AX, AY, AZ, B0, B1, B3, B4, B5, B6, B7, B8, B9, BA, BB, BC, BD, BE, BF, BG, BH, BI, BJ, BK, BL, BM, BN, BO, BP, BQ, BR, BS, BT, BU, BV, BW, BX, BY, BZ, C0, C1, C2, C3, C4, C5, C6, C7, C8, C9, CA, CB, CC, CD, CE, CF, CG, CH, CI, CJ, CK, CL, CM, CN, CO, CP, CQ, CR, CS, CT, CU, CV, CW, CX, CY, CZ, D0, D1, D2, D3, D4, D5, D6, D7, DV.isSl, DV.isStr, DV.isBool, D8, D9, DA, DV.agg, DB, DC, DD, DE, DF, DG, DH, DI, DJ, DK, DL, DM, DN, DO, DP, DQ, DR, DS, DT, DU, St.kill, St.app, St.forget, St.newOK, DW, DX, DY, St.unseen, DZ, E0, E1, E3, E5, E6, E7, E8, E9, EA, EB, EC, Value.cells, Value.oneCell', ED, EE, EF, EG, EH, EJ, EK, EL, id, EM, EN, EO, EP, EQ, ER, ES, ET, EU, EV, EW, EX, EY, EZ, F0, F1, F3, F4, F5, F6, F7, F8, F9, FA, reduceCtorEq, ↓reduceIte, Nat.reduceEqDiff, Nat.reduceAdd, Nat.reduceLT, Nat.reduceLeDiff, Nat.reduceBEq, FB, Nat.reduceMul, FC, FD, FE, FF, FG, FH, FI, if_true, if_false, FL, FM, FN, FO, FP, FQ, FR, FS, FT, FU, FV, decide_true, decide_false, FY, FZ, G0, G1]
    exact ⟨law18_known, hT⟩
  · rw [ht] at hT
    obtain ⟨hf, hl⟩ := fit_of_text ht
    have hse : CallOK Try.prog 6 [.r 0, .v (.int .u16 a), .v (.int .u16 b)] [some (EC l), none, none] [.v (pos (seatA l a) (seatB l a b))] := seat_Place l hf hl a b ha hb 0
    have hA : seatA l a < l.length := Nat.mod_lt _ hl
    have hB : seatB l a b ≤ sz l (seatA l a) := by have := Nat.mod_lt b (show 0 < sz l (a % l.length) + 1 by omega); show b % (sz l (a % l.length) + 1) ≤ sz l (a % l.length); omega
    have hs1 := obj_Sentence l hf (seatA l a) (seatB l a b) true 0
    have hs2 := obj_Sentence l hf (seatA l a) (seatB l a b) false 0
    generalize hx : seatA l a = x at *
    generalize hy : seatB l a b = y at *
    rcases h1 : sentRI l true x y with _ | ⟨F, T⟩
    · have h2 := sentR_none h1
      rw [h1] at hs1
      rw [h2] at hs2
      simp (config := {maxSteps := 4000000}) only [Try.f3, Gpv, srV, iv, bv, p1, p2, ht, hx, hy, h1, h2, G2, G3, G4, ↓ZX, ↓ZY, ZZ, Nat.reduceBNe, A0, A1, Int.reduceLE, Int.reduceLT, A6, A7, A8, A9, AA, AB, AC, AD, AE, AF, AG, AH, AI, AJ, AK, AL, AM, AN, AO, AP, AQ, AR, AS, AT, AU, AV, AX, AY, AZ, B0, B1, B3, B4, B5, B6, B7, B8, B9, BA, BB, BC, BD, BE, BF, BG, BH, BI, BJ, BK, BL, BM, BN, BO, BP, BQ, BR, BS, BT, BU, BV, BW, BX, BY, BZ, C0, C1, C2, C3, C4, C5, C6, C7, C8, C9, CA, CB, CC, CD, CE, CF, CG, CH, CI, CJ, CK, CL, CM, CN, CO, CP, CQ, CR, CS, CT, CU, CV, CW, CX, CY, CZ, D0, D1, D2, D3, D4, D5, D6, D7, DV.isSl, DV.isStr, DV.isBool, D8, D9, DA, DV.agg, DB, DC, DD, DE, DF, DG, DH, DI, DJ, DK, DL, DM, DN, DO, DP, DQ, DR, DS, DT, DU, St.kill, St.app, St.forget, St.newOK, DW, DX, DY, St.unseen, DZ, E0, E1, E3, E5, E6, E7, E8, E9, EA, EB, EC, Value.cells, Value.oneCell', ED, EE, EF, EG, EH, EJ, EK, EL, id, EM, EN, EO, EP, EQ, ER, ES, ET, EU, EV, EW, EX, EY, EZ, F0, F1, F3, F4, F5, F6, F7, F8, F9, FA, reduceCtorEq, ↓reduceIte, Nat.reduceEqDiff, Nat.reduceAdd, Nat.reduceLT, Nat.reduceLeDiff, Nat.reduceBEq, FB, Nat.reduceMul, FC, FD, FE, FF, FG, FH, FI, if_true, if_false, FL, FM, FN, FO, FP, FQ, FR, FS, FT, FU, FV, decide_true, decide_false, FY, FZ, G0, G1]
      exact ⟨law18_known, hT, hse, hs1, hs2⟩
    · obtain ⟨l1, l2, h2⟩ := sentR_some hA hB h1
      have c1 := ref_Less x y F.1 F.2
      have c2 := ref_Less T.1 T.2 x y
      rw [l1] at c1
      rw [l2] at c2
      rw [h1] at hs1
      rcases h2 with h2 | ⟨s, h2, hs3, hs4, l3, q⟩
      · rw [h2] at hs2
        simp (config := {maxSteps := 4000000}) only [Try.f3, Gpv, srV, lessV, iv, bv, p1, p2, ht, hx, hy, h1, h2, l1, l2, G2, G3, G4, ↓ZX, ↓ZY, ZZ, Nat.reduceBNe, A0, A1, Int.reduceLE, Int.reduceLT, A6, A7, A8, A9, AA, AB, AC, AD, AE, AF, AG, AH, AI, AJ, AK, AL, AM, AN, AO, AP, AQ, AR, AS, AT, AU, AV, AX, AY, AZ, B0, B1, B3, B4, B5, B6, B7, B8, B9, BA, BB, BC, BD, BE, BF, BG, BH, BI, BJ, BK, BL, BM, BN, BO, BP, BQ, BR, BS, BT, BU, BV, BW, BX, BY, BZ, C0, C1, C2, C3, C4, C5, C6, C7, C8, C9, CA, CB, CC, CD, CE, CF, CG, CH, CI, CJ, CK, CL, CM, CN, CO, CP, CQ, CR, CS, CT, CU, CV, CW, CX, CY, CZ, D0, D1, D2, D3, D4, D5, D6, D7, DV.isSl, DV.isStr, DV.isBool, D8, D9, DA, DV.agg, DB, DC, DD, DE, DF, DG, DH, DI, DJ, DK, DL, DM, DN, DO, DP, DQ, DR, DS, DT, DU, St.kill, St.app, St.forget, St.newOK, DW, DX, DY, St.unseen, DZ, E0, E1, E3, E5, E6, E7, E8, E9, EA, EB, EC, Value.cells, Value.oneCell', ED, EE, EF, EG, EH, EJ, EK, EL, id, EM, EN, EO, EP, EQ, ER, ES, ET, EU, EV, EW, EX, EY, EZ, F0, F1, F3, F4, F5, F6, F7, F8, F9, FA, reduceCtorEq, ↓reduceIte, Nat.reduceEqDiff, Nat.reduceAdd, Nat.reduceLT, Nat.reduceLeDiff, Nat.reduceBEq, FB, Nat.reduceMul, FC, FD, FE, FF, FG, FH, FI, if_true, if_false, FL, FM, FN, FO, FP, FQ, FR, FS, FT, FU, FV, decide_true, decide_false, FY, FZ, G0, G1]
        repeat' (first | with_reducible apply And.intro)
        all_goals first
          | exact law18_known
          | exact hT
          | exact hse
          | exact hs1
          | exact hs2
          | exact c1
          | exact c2
          | omega
          | kernel_rfl
      · rw [h2] at hs2
        have c3 := ref_Less T.1 T.2 s.1 (s.2 + 1 : Nat)
        rw [l3] at c3
        have c4 := ref_Of (byteAt l s.1 s.2) true
        have hsz := hf.2 s.1
        have d1 : decide (0 < ((s.2 + 1 : Nat) : Int)) = true := decide_eq_true (by omega)
        have em : IntKind.i64.wrap (((s.2 + 1 : Nat) : Int) - 1) = (s.2 : Int) := by rw [w64 (by omega) (by omega)]; omega
        simp (config := {maxSteps := 4000000}) only [Try.f3, Gpv, srV, lessV, clsV, iv, bv, p1, p2, ht, hx, hy, h1, h2, l1, l2, l3, d1, em, q, AA, beq_self_eq_true, G2, G3, G4, ↓ZX, ↓ZY, ZZ, Nat.reduceBNe, A0, A1, Int.reduceLE, Int.reduceLT, A6, A7, A8, A9, AA, AB, AC, AD, AE, AF, AG, AH, AI, AJ, AK, AL, AM, AN, AO, AP, AQ, AR, AS, AT, AU, AV, AX, AY, AZ, B0, B1, B3, B4, B5, B6, B7, B8, B9, BA, BB, BC, BD, BE, BF, BG, BH, BI, BJ, BK, BL, BM, BN, BO, BP, BQ, BR, BS, BT, BU, BV, BW, BX, BY, BZ, C0, C1, C2, C3, C4, C5, C6, C7, C8, C9, CA, CB, CC, CD, CE, CF, CG, CH, CI, CJ, CK, CL, CM, CN, CO, CP, CQ, CR, CS, CT, CU, CV, CW, CX, CY, CZ, D0, D1, D2, D3, D4, D5, D6, D7, DV.isSl, DV.isStr, DV.isBool, D8, D9, DA, DV.agg, DB, DC, DD, DE, DF, DG, DH, DI, DJ, DK, DL, DM, DN, DO, DP, DQ, DR, DS, DT, DU, St.kill, St.app, St.forget, St.newOK, DW, DX, DY, St.unseen, DZ, E0, E1, E3, E5, E6, E7, E8, E9, EA, EB, EC, Value.cells, Value.oneCell', ED, EE, EF, EG, EH, EJ, EK, EL, id, EM, EN, EO, EP, EQ, ER, ES, ET, EU, EV, EW, EX, EY, EZ, F0, F1, F3, F4, F5, F6, F7, F8, F9, FA, reduceCtorEq, ↓reduceIte, Nat.reduceEqDiff, Nat.reduceAdd, Nat.reduceLT, Nat.reduceLeDiff, Nat.reduceBEq, FB, Nat.reduceMul, FC, FD, FE, FF, FG, FH, FI, if_true, if_false, FL, FM, FN, FO, FP, FQ, FR, FS, FT, FU, FV, decide_true, decide_false, FY, FZ, G0, G1]
        repeat' (first | with_reducible apply And.intro)
        all_goals first
          | exact law18_known
          | exact hT
          | exact hse
          | exact hs1
          | exact hs2
          | exact c1
          | exact c2
          | exact c3
          | exact c4
          | omega
          | kernel_rfl

end Go.Ab
