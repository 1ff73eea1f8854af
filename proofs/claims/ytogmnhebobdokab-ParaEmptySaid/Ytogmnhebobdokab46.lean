/- The law ParaEmpty, walked. -/
import Derived.Test.Ytogmnhebobdokab45
set_option linter.unusedVariables false
set_option linter.unusedSimpArgs false
namespace Go.Ab
open Go Go.RowKit Go.Proofs

def Gpe (l : List ByteArray) (f : FuncId) (args : List V) : Option (List RV) :=
  if f = 27 then some [.v (.bool true)]
  else if f = 20 then some [.v (.bool (textB l))]
  else if f = 28 then nxV (nextI l) args
  else if f = 31 then bxV (backI l) args
  else if f = 37 then lessV args else none

set_option maxRecDepth 100000 in
set_option maxHeartbeats 4000000 in
theorem law_ParaEmpty (l : List ByteArray) (hw : ∀ a, sz l a ≤ 4611686018427387904) (q : Nat) (hq : q < 256) (k : Nat) :
    CallOK Try.prog 10 [.r k, .v (u8 q)] [some (EC l), none] [.v (.bool true)] := by
  refine callOK_of_awp (c := cx (Gpe l) 107) (cx_ok _ _) Try.func10 (by kernel_rfl) rfl rfl (by simp [cx]) (by simp [sizesOK, EC]) (awk_of ?_)
  have hT := help_Text l hw 0
  rcases ht : textB l with _ | _
  · rw [ht] at hT
    simp (config := {maxSteps := 4000000}) only [Try.f10, Gpe, nxV, bxV, lessV, bv, p1, p2, iv, ht, G2, G3, G4, Nat.reduceBNe, A0, A1, Int.reduceLE, Int.reduceLT, A6, A7, A8, A9, AA, AB, AC, AD, AE, AF, AG, AH, AI, AJ, AK, AL, AM, AN, AO, AP, AQ, AR, AS, AT, AU, AV, AX, AY, AZ, B0, B1, B3, B4, B5, B6, B7, B8, B9, BA, BB, BC, BD, BE, BF, BG, BH, BI, BJ, BK, BL, BM, BN, BO, BP, BQ, BR, BS, BT, BU, BV, BW, BX, BY, BZ, C0, C1, C2, C3, C4, C5, C6, C7, C8, C9, CA, CB, CC, CD, CE, CF, CG, CH, CI, CJ, CK, CL, CM, CN, CO, CP, CQ, CR, CS, CT, CU, CV, CW, CX, CY, CZ, D0, D1, D2, D3, D4, D5, D6, D7, DV.isSl, DV.isStr, DV.isBool, D8, D9, DA, DV.agg, DB, DC, DD, DE, DF, DG, DH, DI, DJ, DK, DL, DM, DN, DO, DP, DQ, DR, DS, DT, DU, St.kill, St.app, St.forget, St.newOK, DW, DX, DY, St.unseen, DZ, E0, E1, E3, E5, E6, E7, E8, E9, EA, EB, EC, Value.cells, Value.oneCell', ED, EE, EF, EG, EH, EJ, EK, EL, id, EM, EN, EO, EP, EQ, ER, ES, ET, EU, EV, EW, EX, EY, EZ, F0, F1, F3, F4, F5, F6, F7, F8, F9, FA, reduceCtorEq, ↓reduceIte, Nat.reduceEqDiff, Nat.reduceAdd, Nat.reduceLT, Nat.reduceLeDiff, Nat.reduceBEq, FB, Nat.reduceMul, FC, FD, FE, FF, FG, FH, FI, if_true, if_false, FL, FM, FN, FO, FP, FQ, FR, FS, FT, FU, FV, decide_true, decide_false, FY, FZ, G0, G1]
    exact ⟨law10_known, hT⟩
  · rw [ht] at hT
    obtain ⟨hf, hl⟩ := fit_of_text ht
    have hl40 := hf.1
    have em : (q : Int).tmod (l.length : Int) = ((q % l.length : Nat) : Int) := (Int.ofNat_tmod q l.length).symm
    have ea : IntKind.i64.wrap (q : Int) = q := w64 (by omega) (by omega)
    have hi : q % l.length < l.length := Nat.mod_lt _ hl
    generalize q % l.length = a at em hi
    have e1 : IntKind.i64.wrap ((l.length : Int) - 1) = ((l.length - 1 : Nat) : Int) := by rw [w64 (by omega) (by omega)]; omega
    have hs := hf.2 (l.length - 1)
    have e2 : IntKind.i64.wrap ((sz l (l.length - 1) : Int) - 1) = (sz l (l.length - 1) : Int) - 1 := w64 (by omega) (by omega)
    have hN := para_Next l hf a 0 1 (by omega) false 0
    have hB := para_Back l hf a 0 1 (by omega) 0
    obtain ⟨b1, b2⟩ := back_one hi
    rcases hn : nextI l false a 0 1 with _ | t <;> rcases hb : backI l a 0 1 with _ | u
    all_goals
      rw [hn] at hN
      rw [hb] at hB b1
    · have ha0 : ((a : Int) == 0) = true := by cases h : ((a : Int) == 0) <;> simp_all
      simp (config := {maxSteps := 4000000}) only [Try.f10, Gpe, nxV, bxV, lessV, bv, p1, p2, iv, ht, em, ea, e1, e2, hn, hb, ha0, str_nil, bne, beq_self_eq_true, G2, G3, G4, Nat.reduceBNe, A0, A1, Int.reduceLE, Int.reduceLT, A6, A7, A8, A9, AA, AB, AC, AD, AE, AF, AG, AH, AI, AJ, AK, AL, AM, AN, AO, AP, AQ, AR, AS, AT, AU, AV, AX, AY, AZ, B0, B1, B3, B4, B5, B6, B7, B8, B9, BA, BB, BC, BD, BE, BF, BG, BH, BI, BJ, BK, BL, BM, BN, BO, BP, BQ, BR, BS, BT, BU, BV, BW, BX, BY, BZ, C0, C1, C2, C3, C4, C5, C6, C7, C8, C9, CA, CB, CC, CD, CE, CF, CG, CH, CI, CJ, CK, CL, CM, CN, CO, CP, CQ, CR, CS, CT, CU, CV, CW, CX, CY, CZ, D0, D1, D2, D3, D4, D5, D6, D7, DV.isSl, DV.isStr, DV.isBool, D8, D9, DA, DV.agg, DB, DC, DD, DE, DF, DG, DH, DI, DJ, DK, DL, DM, DN, DO, DP, DQ, DR, DS, DT, DU, St.kill, St.app, St.forget, St.newOK, DW, DX, DY, St.unseen, DZ, E0, E1, E3, E5, E6, E7, E8, E9, EA, EB, EC, Value.cells, Value.oneCell', ED, EE, EF, EG, EH, EJ, EK, EL, id, EM, EN, EO, EP, EQ, ER, ES, ET, EU, EV, EW, EX, EY, EZ, F0, F1, F3, F4, F5, F6, F7, F8, F9, FA, reduceCtorEq, ↓reduceIte, Nat.reduceEqDiff, Nat.reduceAdd, Nat.reduceLT, Nat.reduceLeDiff, Nat.reduceBEq, FB, Nat.reduceMul, FC, FD, FE, FF, FG, FH, FI, if_true, if_false, FL, FM, FN, FO, FP, FQ, FR, FS, FT, FU, FV, decide_true, decide_false, FY, FZ, G0, G1]
      refine ⟨law10_known, hT, by omega, hN, by kernel_rfl, ?_⟩
      repeat' (first | with_reducible apply And.intro)
      all_goals first
        | exact hB
        | omega
    · have ha0 : ((a : Int) == 0) = false := by cases h : ((a : Int) == 0) <;> simp_all
      obtain ⟨u1, u2, u3⟩ := b2 u hb
      have hl2 := ref_Less u.1 u.2 a 0
      rw [u2] at hl2
      rcases hy : (sz l u.1 == 0) with _ | _
      · have u4 : u = (0, 0) := by
          rcases u3 with h | h
          · simp [h] at hy
          · exact h
        have f3 : ((u.1 : Int) == 0) = true := by rw [u4]; rfl
        have f4 : ((u.2 : Int) == 0) = true := by rw [u4]; rfl
        simp (config := {maxSteps := 4000000}) only [Try.f10, Gpe, nxV, bxV, lessV, bv, p1, p2, iv, ht, em, ea, e1, e2, hn, hb, ha0, u2, hy, f3, f4, str_nil, bne, beq_self_eq_true, G2, G3, G4, Nat.reduceBNe, A0, A1, Int.reduceLE, Int.reduceLT, A6, A7, A8, A9, AA, AB, AC, AD, AE, AF, AG, AH, AI, AJ, AK, AL, AM, AN, AO, AP, AQ, AR, AS, AT, AU, AV, AX, AY, AZ, B0, B1, B3, B4, B5, B6, B7, B8, B9, BA, BB, BC, BD, BE, BF, BG, BH, BI, BJ, BK, BL, BM, BN, BO, BP, BQ, BR, BS, BT, BU, BV, BW, BX, BY, BZ, C0, C1, C2, C3, C4, C5, C6, C7, C8, C9, CA, CB, CC, CD, CE, CF, CG, CH, CI, CJ, CK, CL, CM, CN, CO, CP, CQ, CR, CS, CT, CU, CV, CW, CX, CY, CZ, D0, D1, D2, D3, D4, D5, D6, D7, DV.isSl, DV.isStr, DV.isBool, D8, D9, DA, DV.agg, DB, DC, DD, DE, DF, DG, DH, DI, DJ, DK, DL, DM, DN, DO, DP, DQ, DR, DS, DT, DU, St.kill, St.app, St.forget, St.newOK, DW, DX, DY, St.unseen, DZ, E0, E1, E3, E5, E6, E7, E8, E9, EA, EB, EC, Value.cells, Value.oneCell', ED, EE, EF, EG, EH, EJ, EK, EL, id, EM, EN, EO, EP, EQ, ER, ES, ET, EU, EV, EW, EX, EY, EZ, F0, F1, F3, F4, F5, F6, F7, F8, F9, FA, reduceCtorEq, ↓reduceIte, Nat.reduceEqDiff, Nat.reduceAdd, Nat.reduceLT, Nat.reduceLeDiff, Nat.reduceBEq, FB, Nat.reduceMul, FC, FD, FE, FF, FG, FH, FI, if_true, if_false, FL, FM, FN, FO, FP, FQ, FR, FS, FT, FU, FV, decide_true, decide_false, FY, FZ, G0, G1]
        refine ⟨law10_known, hT, by omega, hN, by kernel_rfl, ?_⟩
        repeat' (first | with_reducible apply And.intro)
        all_goals first
          | exact hB
          | exact hl2
          | omega
      · simp (config := {maxSteps := 4000000}) only [Try.f10, Gpe, nxV, bxV, lessV, bv, p1, p2, iv, ht, em, ea, e1, e2, hn, hb, ha0, u2, hy, str_nil, bne, beq_self_eq_true, G2, G3, G4, Nat.reduceBNe, A0, A1, Int.reduceLE, Int.reduceLT, A6, A7, A8, A9, AA, AB, AC, AD, AE, AF, AG, AH, AI, AJ, AK, AL, AM, AN, AO, AP, AQ, AR, AS, AT, AU, AV, AX, AY, AZ, B0, B1, B3, B4, B5, B6, B7, B8, B9, BA, BB, BC, BD, BE, BF, BG, BH, BI, BJ, BK, BL, BM, BN, BO, BP, BQ, BR, BS, BT, BU, BV, BW, BX, BY, BZ, C0, C1, C2, C3, C4, C5, C6, C7, C8, C9, CA, CB, CC, CD, CE, CF, CG, CH, CI, CJ, CK, CL, CM, CN, CO, CP, CQ, CR, CS, CT, CU, CV, CW, CX, CY, CZ, D0, D1, D2, D3, D4, D5, D6, D7, DV.isSl, DV.isStr, DV.isBool, D8, D9, DA, DV.agg, DB, DC, DD, DE, DF, DG, DH, DI, DJ, DK, DL, DM, DN, DO, DP, DQ, DR, DS, DT, DU, St.kill, St.app, St.forget, St.newOK, DW, DX, DY, St.unseen, DZ, E0, E1, E3, E5, E6, E7, E8, E9, EA, EB, EC, Value.cells, Value.oneCell', ED, EE, EF, EG, EH, EJ, EK, EL, id, EM, EN, EO, EP, EQ, ER, ES, ET, EU, EV, EW, EX, EY, EZ, F0, F1, F3, F4, F5, F6, F7, F8, F9, FA, reduceCtorEq, ↓reduceIte, Nat.reduceEqDiff, Nat.reduceAdd, Nat.reduceLT, Nat.reduceLeDiff, Nat.reduceBEq, FB, Nat.reduceMul, FC, FD, FE, FF, FG, FH, FI, if_true, if_false, FL, FM, FN, FO, FP, FQ, FR, FS, FT, FU, FV, decide_true, decide_false, FY, FZ, G0, G1]
        refine ⟨law10_known, hT, by omega, hN, by kernel_rfl, ?_⟩
        repeat' (first | with_reducible apply And.intro)
        all_goals first
          | exact hB
          | exact hl2
          | omega
    · have ha0 : ((a : Int) == 0) = true := by cases h : ((a : Int) == 0) <;> simp_all
      obtain ⟨⟨n1, n2⟩, n3, n4⟩ := next_one hi hn
      have hl1 := ref_Less a 0 t.1 t.2
      rw [n3] at hl1
      rcases hz : (sz l t.1 == 0) with _ | _
      · have n5 : t.1 = l.length - 1 ∧ t.2 = sz l (l.length - 1) - 1 ∧ 0 < sz l (l.length - 1) := by
          rcases n4 with h | h
          · simp [h] at hz
          · exact h
        have f1 : ((t.1 : Int) == ((l.length - 1 : Nat) : Int)) = true := by simp; omega
        have f2 : ((t.2 : Int) == (sz l (l.length - 1) : Int) - 1) = true := by simp; omega
        simp (config := {maxSteps := 4000000}) only [Try.f10, Gpe, nxV, bxV, lessV, bv, p1, p2, iv, ht, em, ea, e1, e2, hn, hb, ha0, n3, hz, f1, f2, str_nil, bne, beq_self_eq_true, G2, G3, G4, Nat.reduceBNe, A0, A1, Int.reduceLE, Int.reduceLT, A6, A7, A8, A9, AA, AB, AC, AD, AE, AF, AG, AH, AI, AJ, AK, AL, AM, AN, AO, AP, AQ, AR, AS, AT, AU, AV, AX, AY, AZ, B0, B1, B3, B4, B5, B6, B7, B8, B9, BA, BB, BC, BD, BE, BF, BG, BH, BI, BJ, BK, BL, BM, BN, BO, BP, BQ, BR, BS, BT, BU, BV, BW, BX, BY, BZ, C0, C1, C2, C3, C4, C5, C6, C7, C8, C9, CA, CB, CC, CD, CE, CF, CG, CH, CI, CJ, CK, CL, CM, CN, CO, CP, CQ, CR, CS, CT, CU, CV, CW, CX, CY, CZ, D0, D1, D2, D3, D4, D5, D6, D7, DV.isSl, DV.isStr, DV.isBool, D8, D9, DA, DV.agg, DB, DC, DD, DE, DF, DG, DH, DI, DJ, DK, DL, DM, DN, DO, DP, DQ, DR, DS, DT, DU, St.kill, St.app, St.forget, St.newOK, DW, DX, DY, St.unseen, DZ, E0, E1, E3, E5, E6, E7, E8, E9, EA, EB, EC, Value.cells, Value.oneCell', ED, EE, EF, EG, EH, EJ, EK, EL, id, EM, EN, EO, EP, EQ, ER, ES, ET, EU, EV, EW, EX, EY, EZ, F0, F1, F3, F4, F5, F6, F7, F8, F9, FA, reduceCtorEq, ↓reduceIte, Nat.reduceEqDiff, Nat.reduceAdd, Nat.reduceLT, Nat.reduceLeDiff, Nat.reduceBEq, FB, Nat.reduceMul, FC, FD, FE, FF, FG, FH, FI, if_true, if_false, FL, FM, FN, FO, FP, FQ, FR, FS, FT, FU, FV, decide_true, decide_false, FY, FZ, G0, G1]
        refine ⟨law10_known, hT, by omega, hN, by kernel_rfl, ?_⟩
        repeat' (first | with_reducible apply And.intro)
        all_goals first
          | exact hB
          | exact hl1
          | omega
      · skip
        simp (config := {maxSteps := 4000000}) only [Try.f10, Gpe, nxV, bxV, lessV, bv, p1, p2, iv, ht, em, ea, e1, e2, hn, hb, ha0, n3, hz, str_nil, bne, beq_self_eq_true, G2, G3, G4, Nat.reduceBNe, A0, A1, Int.reduceLE, Int.reduceLT, A6, A7, A8, A9, AA, AB, AC, AD, AE, AF, AG, AH, AI, AJ, AK, AL, AM, AN, AO, AP, AQ, AR, AS, AT, AU, AV, AX, AY, AZ, B0, B1, B3, B4, B5, B6, B7, B8, B9, BA, BB, BC, BD, BE, BF, BG, BH, BI, BJ, BK, BL, BM, BN, BO, BP, BQ, BR, BS, BT, BU, BV, BW, BX, BY, BZ, C0, C1, C2, C3, C4, C5, C6, C7, C8, C9, CA, CB, CC, CD, CE, CF, CG, CH, CI, CJ, CK, CL, CM, CN, CO, CP, CQ, CR, CS, CT, CU, CV, CW, CX, CY, CZ, D0, D1, D2, D3, D4, D5, D6, D7, DV.isSl, DV.isStr, DV.isBool, D8, D9, DA, DV.agg, DB, DC, DD, DE, DF, DG, DH, DI, DJ, DK, DL, DM, DN, DO, DP, DQ, DR, DS, DT, DU, St.kill, St.app, St.forget, St.newOK, DW, DX, DY, St.unseen, DZ, E0, E1, E3, E5, E6, E7, E8, E9, EA, EB, EC, Value.cells, Value.oneCell', ED, EE, EF, EG, EH, EJ, EK, EL, id, EM, EN, EO, EP, EQ, ER, ES, ET, EU, EV, EW, EX, EY, EZ, F0, F1, F3, F4, F5, F6, F7, F8, F9, FA, reduceCtorEq, ↓reduceIte, Nat.reduceEqDiff, Nat.reduceAdd, Nat.reduceLT, Nat.reduceLeDiff, Nat.reduceBEq, FB, Nat.reduceMul, FC, FD, FE, FF, FG, FH, FI, if_true, if_false, FL, FM, FN, FO, FP, FQ, FR, FS, FT, FU, FV, decide_true, decide_false, FY, FZ, G0, G1]
        refine ⟨law10_known, hT, by omega, hN, by kernel_rfl, ?_⟩
        repeat' (first | with_reducible apply And.intro)
        all_goals first
          | exact hB
          | exact hl1
          | omega
    · have ha0 : ((a : Int) == 0) = false := by cases h : ((a : Int) == 0) <;> simp_all
      obtain ⟨⟨n1, n2⟩, n3, n4⟩ := next_one hi hn
      have hl1 := ref_Less a 0 t.1 t.2
      rw [n3] at hl1
      rcases hz : (sz l t.1 == 0) with _ | _
      · have n5 : t.1 = l.length - 1 ∧ t.2 = sz l (l.length - 1) - 1 ∧ 0 < sz l (l.length - 1) := by
          rcases n4 with h | h
          · simp [h] at hz
          · exact h
        have f1 : ((t.1 : Int) == ((l.length - 1 : Nat) : Int)) = true := by simp; omega
        have f2 : ((t.2 : Int) == (sz l (l.length - 1) : Int) - 1) = true := by simp; omega
        obtain ⟨u1, u2, u3⟩ := b2 u hb
        have hl2 := ref_Less u.1 u.2 a 0
        rw [u2] at hl2
        rcases hy : (sz l u.1 == 0) with _ | _
        · have u4 : u = (0, 0) := by
            rcases u3 with h | h
            · simp [h] at hy
            · exact h
          have f3 : ((u.1 : Int) == 0) = true := by rw [u4]; rfl
          have f4 : ((u.2 : Int) == 0) = true := by rw [u4]; rfl
          simp (config := {maxSteps := 4000000}) only [Try.f10, Gpe, nxV, bxV, lessV, bv, p1, p2, iv, ht, em, ea, e1, e2, hn, hb, ha0, n3, hz, f1, f2, u2, hy, f3, f4, str_nil, bne, beq_self_eq_true, G2, G3, G4, Nat.reduceBNe, A0, A1, Int.reduceLE, Int.reduceLT, A6, A7, A8, A9, AA, AB, AC, AD, AE, AF, AG, AH, AI, AJ, AK, AL, AM, AN, AO, AP, AQ, AR, AS, AT, AU, AV, AX, AY, AZ, B0, B1, B3, B4, B5, B6, B7, B8, B9, BA, BB, BC, BD, BE, BF, BG, BH, BI, BJ, BK, BL, BM, BN, BO, BP, BQ, BR, BS, BT, BU, BV, BW, BX, BY, BZ, C0, C1, C2, C3, C4, C5, C6, C7, C8, C9, CA, CB, CC, CD, CE, CF, CG, CH, CI, CJ, CK, CL, CM, CN, CO, CP, CQ, CR, CS, CT, CU, CV, CW, CX, CY, CZ, D0, D1, D2, D3, D4, D5, D6, D7, DV.isSl, DV.isStr, DV.isBool, D8, D9, DA, DV.agg, DB, DC, DD, DE, DF, DG, DH, DI, DJ, DK, DL, DM, DN, DO, DP, DQ, DR, DS, DT, DU, St.kill, St.app, St.forget, St.newOK, DW, DX, DY, St.unseen, DZ, E0, E1, E3, E5, E6, E7, E8, E9, EA, EB, EC, Value.cells, Value.oneCell', ED, EE, EF, EG, EH, EJ, EK, EL, id, EM, EN, EO, EP, EQ, ER, ES, ET, EU, EV, EW, EX, EY, EZ, F0, F1, F3, F4, F5, F6, F7, F8, F9, FA, reduceCtorEq, ↓reduceIte, Nat.reduceEqDiff, Nat.reduceAdd, Nat.reduceLT, Nat.reduceLeDiff, Nat.reduceBEq, FB, Nat.reduceMul, FC, FD, FE, FF, FG, FH, FI, if_true, if_false, FL, FM, FN, FO, FP, FQ, FR, FS, FT, FU, FV, decide_true, decide_false, FY, FZ, G0, G1]
          refine ⟨law10_known, hT, by omega, hN, by kernel_rfl, ?_⟩
          repeat' (first | with_reducible apply And.intro)
          all_goals first
            | exact hB
            | exact hl1
            | exact hl2
            | omega
        · simp (config := {maxSteps := 4000000}) only [Try.f10, Gpe, nxV, bxV, lessV, bv, p1, p2, iv, ht, em, ea, e1, e2, hn, hb, ha0, n3, hz, f1, f2, u2, hy, str_nil, bne, beq_self_eq_true, G2, G3, G4, Nat.reduceBNe, A0, A1, Int.reduceLE, Int.reduceLT, A6, A7, A8, A9, AA, AB, AC, AD, AE, AF, AG, AH, AI, AJ, AK, AL, AM, AN, AO, AP, AQ, AR, AS, AT, AU, AV, AX, AY, AZ, B0, B1, B3, B4, B5, B6, B7, B8, B9, BA, BB, BC, BD, BE, BF, BG, BH, BI, BJ, BK, BL, BM, BN, BO, BP, BQ, BR, BS, BT, BU, BV, BW, BX, BY, BZ, C0, C1, C2, C3, C4, C5, C6, C7, C8, C9, CA, CB, CC, CD, CE, CF, CG, CH, CI, CJ, CK, CL, CM, CN, CO, CP, CQ, CR, CS, CT, CU, CV, CW, CX, CY, CZ, D0, D1, D2, D3, D4, D5, D6, D7, DV.isSl, DV.isStr, DV.isBool, D8, D9, DA, DV.agg, DB, DC, DD, DE, DF, DG, DH, DI, DJ, DK, DL, DM, DN, DO, DP, DQ, DR, DS, DT, DU, St.kill, St.app, St.forget, St.newOK, DW, DX, DY, St.unseen, DZ, E0, E1, E3, E5, E6, E7, E8, E9, EA, EB, EC, Value.cells, Value.oneCell', ED, EE, EF, EG, EH, EJ, EK, EL, id, EM, EN, EO, EP, EQ, ER, ES, ET, EU, EV, EW, EX, EY, EZ, F0, F1, F3, F4, F5, F6, F7, F8, F9, FA, reduceCtorEq, ↓reduceIte, Nat.reduceEqDiff, Nat.reduceAdd, Nat.reduceLT, Nat.reduceLeDiff, Nat.reduceBEq, FB, Nat.reduceMul, FC, FD, FE, FF, FG, FH, FI, if_true, if_false, FL, FM, FN, FO, FP, FQ, FR, FS, FT, FU, FV, decide_true, decide_false, FY, FZ, G0, G1]
          refine ⟨law10_known, hT, by omega, hN, by kernel_rfl, ?_⟩
          repeat' (first | with_reducible apply And.intro)
          all_goals first
            | exact hB
            | exact hl1
            | exact hl2
            | omega
      · skip
        obtain ⟨u1, u2, u3⟩ := b2 u hb
        have hl2 := ref_Less u.1 u.2 a 0
        rw [u2] at hl2
        rcases hy : (sz l u.1 == 0) with _ | _
        · have u4 : u = (0, 0) := by
            rcases u3 with h | h
            · simp [h] at hy
            · exact h
          have f3 : ((u.1 : Int) == 0) = true := by rw [u4]; rfl
          have f4 : ((u.2 : Int) == 0) = true := by rw [u4]; rfl
          simp (config := {maxSteps := 4000000}) only [Try.f10, Gpe, nxV, bxV, lessV, bv, p1, p2, iv, ht, em, ea, e1, e2, hn, hb, ha0, n3, hz, u2, hy, f3, f4, str_nil, bne, beq_self_eq_true, G2, G3, G4, Nat.reduceBNe, A0, A1, Int.reduceLE, Int.reduceLT, A6, A7, A8, A9, AA, AB, AC, AD, AE, AF, AG, AH, AI, AJ, AK, AL, AM, AN, AO, AP, AQ, AR, AS, AT, AU, AV, AX, AY, AZ, B0, B1, B3, B4, B5, B6, B7, B8, B9, BA, BB, BC, BD, BE, BF, BG, BH, BI, BJ, BK, BL, BM, BN, BO, BP, BQ, BR, BS, BT, BU, BV, BW, BX, BY, BZ, C0, C1, C2, C3, C4, C5, C6, C7, C8, C9, CA, CB, CC, CD, CE, CF, CG, CH, CI, CJ, CK, CL, CM, CN, CO, CP, CQ, CR, CS, CT, CU, CV, CW, CX, CY, CZ, D0, D1, D2, D3, D4, D5, D6, D7, DV.isSl, DV.isStr, DV.isBool, D8, D9, DA, DV.agg, DB, DC, DD, DE, DF, DG, DH, DI, DJ, DK, DL, DM, DN, DO, DP, DQ, DR, DS, DT, DU, St.kill, St.app, St.forget, St.newOK, DW, DX, DY, St.unseen, DZ, E0, E1, E3, E5, E6, E7, E8, E9, EA, EB, EC, Value.cells, Value.oneCell', ED, EE, EF, EG, EH, EJ, EK, EL, id, EM, EN, EO, EP, EQ, ER, ES, ET, EU, EV, EW, EX, EY, EZ, F0, F1, F3, F4, F5, F6, F7, F8, F9, FA, reduceCtorEq, ↓reduceIte, Nat.reduceEqDiff, Nat.reduceAdd, Nat.reduceLT, Nat.reduceLeDiff, Nat.reduceBEq, FB, Nat.reduceMul, FC, FD, FE, FF, FG, FH, FI, if_true, if_false, FL, FM, FN, FO, FP, FQ, FR, FS, FT, FU, FV, decide_true, decide_false, FY, FZ, G0, G1]
          refine ⟨law10_known, hT, by omega, hN, by kernel_rfl, ?_⟩
          repeat' (first | with_reducible apply And.intro)
          all_goals first
            | exact hB
            | exact hl1
            | exact hl2
            | omega
        · simp (config := {maxSteps := 4000000}) only [Try.f10, Gpe, nxV, bxV, lessV, bv, p1, p2, iv, ht, em, ea, e1, e2, hn, hb, ha0, n3, hz, u2, hy, str_nil, bne, beq_self_eq_true, G2, G3, G4, Nat.reduceBNe, A0, A1, Int.reduceLE, Int.reduceLT, A6, A7, A8, A9, AA, AB, AC, AD, AE, AF, AG, AH, AI, AJ, AK, AL, AM, AN, AO, AP, AQ, AR, AS, AT, AU, AV, AX, AY, AZ, B0, B1, B3, B4, B5, B6, B7, B8, B9, BA, BB, BC, BD, BE, BF, BG, BH, BI, BJ, BK, BL, BM, BN, BO, BP, BQ, BR, BS, BT, BU, BV, BW, BX, BY, BZ, C0, C1, C2, C3, C4, C5, C6, C7, C8, C9, CA, CB, CC, CD, CE, CF, CG, CH, CI, CJ, CK, CL, CM, CN, CO, CP, CQ, CR, CS, CT, CU, CV, CW, CX, CY, CZ, D0, D1, D2, D3, D4, D5, D6, D7, DV.isSl, DV.isStr, DV.isBool, D8, D9, DA, DV.agg, DB, DC, DD, DE, DF, DG, DH, DI, DJ, DK, DL, DM, DN, DO, DP, DQ, DR, DS, DT, DU, St.kill, St.app, St.forget, St.newOK, DW, DX, DY, St.unseen, DZ, E0, E1, E3, E5, E6, E7, E8, E9, EA, EB, EC, Value.cells, Value.oneCell', ED, EE, EF, EG, EH, EJ, EK, EL, id, EM, EN, EO, EP, EQ, ER, ES, ET, EU, EV, EW, EX, EY, EZ, F0, F1, F3, F4, F5, F6, F7, F8, F9, FA, reduceCtorEq, ↓reduceIte, Nat.reduceEqDiff, Nat.reduceAdd, Nat.reduceLT, Nat.reduceLeDiff, Nat.reduceBEq, FB, Nat.reduceMul, FC, FD, FE, FF, FG, FH, FI, if_true, if_false, FL, FM, FN, FO, FP, FQ, FR, FS, FT, FU, FV, decide_true, decide_false, FY, FZ, G0, G1]
          refine ⟨law10_known, hT, by omega, hN, by kernel_rfl, ?_⟩
          repeat' (first | with_reducible apply And.intro)
          all_goals first
            | exact hB
            | exact hl1
            | exact hl2
            | omega

end Go.Ab
