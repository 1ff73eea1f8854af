/- Contracts: blocks with those beside them, as the document says. -/
import Derived.Test.Ytogmnhebobdokab58
set_option linter.unusedVariables false
set_option linter.unusedSimpArgs false
namespace Go.Ab
open Go Go.RowKit Go.Proofs

set_option maxRecDepth 100000 in
set_option maxHeartbeats 4000000 in
theorem ref_pAround (l : List ByteArray) (hf : Fit l) (a b n : Int) (hn : n ≤ 9223372036854775807) (k : Nat) : CallOK Try.prog 50 [.r k, .v (pos a b), .v (i64 n)] [some (EC l), none, none] [.v (lineV (aroI l a b n)), .v (.bool (aroI l a b n).isSome)] := by
  refine callOK_of_awp (c := cx (Grb l) 84) (cx_ok _ _) Try.func50 (by kernel_rfl) rfl rfl (by simp [cx]) (by simp [sizesOK, EC]) (awk_of ?_)
  have hon := ref_on l a b n 0
  rw [onN_blkF] at hon
  unfold aroI
  rcases h : blkF l a b n with _ | _
  · rw [h] at hon
    obtain ⟨h1, h2⟩ := blkF_no h
    obtain ⟨x, y, rfl, rfl, hx, hy⟩ := onB_place h2
    have hn1 : 1 ≤ n := by simp at h1; omega
    obtain ⟨N, rfl⟩ : ∃ N : Nat, n = N := ⟨n.toNat, by omega⟩
    obtain ⟨p, hp, hp1, hp2⟩ := blkK_spec hx
    have hl := hf.1
    have hbn := blkL_len l
    have hkl := get_lt hp
    have hrb := ref_Blocks l hf 0
    have hfn := (ref_find (blkL l) (by omega) x 18).row (S := { runRow (blkL l) with new := true }) rfl rfl (fun _ _ => rfl)
    have hfx := blk_fnd hx
    rw [hfx] at hfn
    have hlast := blk_end (l := l) (k := (blkL l).length - 1) (by omega)
    by_cases hbig : (blkL l).length < N
    · have d : decide (((blkL l).length : Int) < (N : Int)) = true := decide_eq_true (by omega)
      have hr : aroP l x N = none := by rw [aroP, if_neg (by omega), if_neg (by omega)]
      simp (config := {maxSteps := 4000000}) only [Try.f50, Grb, onF, wholeW, runRow, iv, p1, p2, h, hfx, d, hr, G2, G3, G4, ↓ZX, ↓ZY, ZZ, Nat.reduceBNe, A0, A1, Int.reduceLE, Int.reduceLT, A6, A7, A8, A9, AA, AB, AC, AD, AE, AF, AG, AH, AI, AJ, AK, AL, AM, AN, AO, AP, AQ, AR, AS, AT, AU, AV, AX, AY, AZ, B0, B1, B3, B4, B5, B6, B7, B8, B9, BA, BB, BC, BD, BE, BF, BG, BH, BI, BJ, BK, BL, BM, BN, BO, BP, BQ, BR, BS, BT, BU, BV, BW, BX, BY, BZ, C0, C1, C2, C3, C4, C5, C6, C7, C8, C9, CA, CB, CC, CD, CE, CF, CG, CH, CI, CJ, CK, CL, CM, CN, CO, CP, CQ, CR, CS, CT, CU, CV, CW, CX, CY, CZ, D0, D1, D2, D3, D4, D5, D6, D7, DV.isSl, DV.isStr, DV.isBool, D8, D9, DA, DV.agg, DB, DC, DD, DE, DF, DG, DH, DI, DJ, DK, DL, DM, DN, DO, DP, DQ, DR, DS, DT, DU, St.kill, St.app, St.forget, St.newOK, DW, DX, DY, St.unseen, DZ, E0, E1, E3, E5, E6, E7, E8, E9, EA, EB, EC, Value.cells, Value.oneCell', ED, EE, EF, EG, EH, EJ, EK, EL, id, EM, EN, EO, EP, EQ, ER, ES, ET, EU, EV, EW, EX, EY, EZ, F0, F1, F3, F4, F5, F6, F7, F8, F9, FA, reduceCtorEq, ↓reduceIte, Nat.reduceEqDiff, Nat.reduceAdd, Nat.reduceLT, Nat.reduceLeDiff, Nat.reduceBEq, FB, Nat.reduceMul, FC, FD, FE, FF, FG, FH, FI, if_true, if_false, FL, FM, FN, FO, FP, FQ, FR, FS, FT, FU, FV, decide_true, decide_false, FY, FZ, G0, G1]
      exact ⟨hon, hrb, hfn, rfl⟩
    · have d : decide (((blkL l).length : Int) < (N : Int)) = false := decide_eq_false (by omega)
      have e3 : IntKind.i64.wrap (2 * (N : Int)) = ((2 * N : Nat) : Int) := by rw [w64 (by omega) (by omega)]; omega
      have e4 : IntKind.i64.wrap ((blkK l x : Int) + ((2 * N : Nat) : Int)) = ((blkK l x + 2 * N : Nat) : Int) := by rw [w64 (by omega) (by omega)]; omega
      have e5 : IntKind.i64.wrap (((blkK l x + 2 * N : Nat) : Int) - 1) = ((blkK l x + 2 * N - 1 : Nat) : Int) := by rw [w64 (by omega) (by omega)]; omega
      by_cases h2n : 2 * N ≤ (blkL l).length - blkK l x
      · have d2 : decide (((blkK l x + 2 * N - 1 : Nat) : Int) < ((blkL l).length : Int)) = true := decide_eq_true (by omega)
        have hr : aroP l x N = some (((blkL l).getD (blkK l x) (0, 0)).1, ((blkL l).getD (blkK l x + 2 * N - 1) (0, 0)).2 - 1) := if_pos h2n
        have hen := blk_end (l := l) (k := blkK l x + 2 * N - 1) (by omega)
        have e6 : IntKind.i64.wrap ((((blkL l).getD (blkK l x + 2 * N - 1) (0, 0)).2 : Int) - 1) = ((((blkL l).getD (blkK l x + 2 * N - 1) (0, 0)).2 - 1 : Nat) : Int) := by rw [w64 (by omega) (by omega)]; omega
        have hwh := ref_whole ((blkL l).getD (blkK l x) (0, 0)).1 (((blkL l).getD (blkK l x + 2 * N - 1) (0, 0)).2 - 1 : Nat)
        simp (config := {maxSteps := 4000000}) only [Try.f50, Grb, onF, wholeW, runRow, iv, p1, p2, h, hfx, d, e3, e4, e5, e6, d2, hr, G2, G3, G4, ↓ZX, ↓ZY, ZZ, Nat.reduceBNe, A0, A1, Int.reduceLE, Int.reduceLT, A6, A7, A8, A9, AA, AB, AC, AD, AE, AF, AG, AH, AI, AJ, AK, AL, AM, AN, AO, AP, AQ, AR, AS, AT, AU, AV, AX, AY, AZ, B0, B1, B3, B4, B5, B6, B7, B8, B9, BA, BB, BC, BD, BE, BF, BG, BH, BI, BJ, BK, BL, BM, BN, BO, BP, BQ, BR, BS, BT, BU, BV, BW, BX, BY, BZ, C0, C1, C2, C3, C4, C5, C6, C7, C8, C9, CA, CB, CC, CD, CE, CF, CG, CH, CI, CJ, CK, CL, CM, CN, CO, CP, CQ, CR, CS, CT, CU, CV, CW, CX, CY, CZ, D0, D1, D2, D3, D4, D5, D6, D7, DV.isSl, DV.isStr, DV.isBool, D8, D9, DA, DV.agg, DB, DC, DD, DE, DF, DG, DH, DI, DJ, DK, DL, DM, DN, DO, DP, DQ, DR, DS, DT, DU, St.kill, St.app, St.forget, St.newOK, DW, DX, DY, St.unseen, DZ, E0, E1, E3, E5, E6, E7, E8, E9, EA, EB, EC, Value.cells, Value.oneCell', ED, EE, EF, EG, EH, EJ, EK, EL, id, EM, EN, EO, EP, EQ, ER, ES, ET, EU, EV, EW, EX, EY, EZ, F0, F1, F3, F4, F5, F6, F7, F8, F9, FA, reduceCtorEq, ↓reduceIte, Nat.reduceEqDiff, Nat.reduceAdd, Nat.reduceLT, Nat.reduceLeDiff, Nat.reduceBEq, FB, Nat.reduceMul, FC, FD, FE, FF, FG, FH, FI, if_true, if_false, FL, FM, FN, FO, FP, FQ, FR, FS, FT, FU, FV, decide_true, decide_false, FY, FZ, G0, G1]
        refine ⟨hon, hrb, hfn, by kernel_rfl, ⟨?_, rfl⟩⟩
        repeat' (first | with_reducible apply And.intro)
        all_goals first | exact hwh | omega
      · have d2 : decide (((blkK l x + 2 * N - 1 : Nat) : Int) < ((blkL l).length : Int)) = false := decide_eq_false (by omega)
        by_cases hc : (blkL l).length - blkK l x = 2 * N - 1 ∧ sz l x ≠ 0 ∧ 0 < blkK l x
        · have c1 : (((blkK l x + 2 * N - 1 : Nat) : Int) == ((blkL l).length : Int)) = true := by simp; omega
          have c2 : (sz l x == 0) = false := by simpa using hc.2.1
          have c3 : decide (0 < (blkK l x : Int)) = true := decide_eq_true (by omega)
          have e6 : IntKind.i64.wrap ((blkK l x : Int) - 1) = ((blkK l x - 1 : Nat) : Int) := by rw [w64 (by omega) (by omega)]; omega
          have e7 : IntKind.i64.wrap (((blkK l x + 2 * N - 1 : Nat) : Int) - 1) = (((blkL l).length - 1 : Nat) : Int) := by rw [w64 (by omega) (by omega)]; omega
          have e8 : IntKind.i64.wrap ((((blkL l).getD ((blkL l).length - 1) (0, 0)).2 : Int) - 1) = ((((blkL l).getD ((blkL l).length - 1) (0, 0)).2 - 1 : Nat) : Int) := by rw [w64 (by omega) (by omega)]; omega
          have hr : aroP l x N = some (((blkL l).getD (blkK l x - 1) (0, 0)).1, ((blkL l).getD ((blkL l).length - 1) (0, 0)).2 - 1) := by simp only [aroP, Int.toNat_natCast]; rw [if_neg h2n, if_pos hc]
          have hwh := ref_whole ((blkL l).getD (blkK l x - 1) (0, 0)).1 (((blkL l).getD ((blkL l).length - 1) (0, 0)).2 - 1 : Nat)
          simp (config := {maxSteps := 4000000}) only [Try.f50, Grb, onF, wholeW, runRow, iv, p1, p2, h, hfx, d, e3, e4, e5, e6, e7, e8, d2, c1, c2, c3, str_nil, bne, hr, G2, G3, G4, ↓ZX, ↓ZY, ZZ, Nat.reduceBNe, A0, A1, Int.reduceLE, Int.reduceLT, A6, A7, A8, A9, AA, AB, AC, AD, AE, AF, AG, AH, AI, AJ, AK, AL, AM, AN, AO, AP, AQ, AR, AS, AT, AU, AV, AX, AY, AZ, B0, B1, B3, B4, B5, B6, B7, B8, B9, BA, BB, BC, BD, BE, BF, BG, BH, BI, BJ, BK, BL, BM, BN, BO, BP, BQ, BR, BS, BT, BU, BV, BW, BX, BY, BZ, C0, C1, C2, C3, C4, C5, C6, C7, C8, C9, CA, CB, CC, CD, CE, CF, CG, CH, CI, CJ, CK, CL, CM, CN, CO, CP, CQ, CR, CS, CT, CU, CV, CW, CX, CY, CZ, D0, D1, D2, D3, D4, D5, D6, D7, DV.isSl, DV.isStr, DV.isBool, D8, D9, DA, DV.agg, DB, DC, DD, DE, DF, DG, DH, DI, DJ, DK, DL, DM, DN, DO, DP, DQ, DR, DS, DT, DU, St.kill, St.app, St.forget, St.newOK, DW, DX, DY, St.unseen, DZ, E0, E1, E3, E5, E6, E7, E8, E9, EA, EB, EC, Value.cells, Value.oneCell', ED, EE, EF, EG, EH, EJ, EK, EL, id, EM, EN, EO, EP, EQ, ER, ES, ET, EU, EV, EW, EX, EY, EZ, F0, F1, F3, F4, F5, F6, F7, F8, F9, FA, reduceCtorEq, ↓reduceIte, Nat.reduceEqDiff, Nat.reduceAdd, Nat.reduceLT, Nat.reduceLeDiff, Nat.reduceBEq, FB, Nat.reduceMul, FC, FD, FE, FF, FG, FH, FI, if_true, if_false, FL, FM, FN, FO, FP, FQ, FR, FS, FT, FU, FV, decide_true, decide_false, FY, FZ, G0, G1]
          refine ⟨hon, hrb, hfn, ?_, by kernel_rfl, ?_, rfl⟩
          all_goals
            repeat' (first | with_reducible apply And.intro)
          all_goals first | exact hwh | omega
        · have hr : aroP l x N = none := by simp only [aroP, Int.toNat_natCast]; rw [if_neg h2n, if_neg hc]
          rcases c1 : (((blkK l x + 2 * N - 1 : Nat) : Int) == ((blkL l).length : Int)) with _ | _
          · simp (config := {maxSteps := 4000000}) only [Try.f50, Grb, onF, wholeW, runRow, iv, p1, p2, h, hfx, d, e3, e4, e5, d2, c1, str_nil, bne, hr, G2, G3, G4, ↓ZX, ↓ZY, ZZ, Nat.reduceBNe, A0, A1, Int.reduceLE, Int.reduceLT, A6, A7, A8, A9, AA, AB, AC, AD, AE, AF, AG, AH, AI, AJ, AK, AL, AM, AN, AO, AP, AQ, AR, AS, AT, AU, AV, AX, AY, AZ, B0, B1, B3, B4, B5, B6, B7, B8, B9, BA, BB, BC, BD, BE, BF, BG, BH, BI, BJ, BK, BL, BM, BN, BO, BP, BQ, BR, BS, BT, BU, BV, BW, BX, BY, BZ, C0, C1, C2, C3, C4, C5, C6, C7, C8, C9, CA, CB, CC, CD, CE, CF, CG, CH, CI, CJ, CK, CL, CM, CN, CO, CP, CQ, CR, CS, CT, CU, CV, CW, CX, CY, CZ, D0, D1, D2, D3, D4, D5, D6, D7, DV.isSl, DV.isStr, DV.isBool, D8, D9, DA, DV.agg, DB, DC, DD, DE, DF, DG, DH, DI, DJ, DK, DL, DM, DN, DO, DP, DQ, DR, DS, DT, DU, St.kill, St.app, St.forget, St.newOK, DW, DX, DY, St.unseen, DZ, E0, E1, E3, E5, E6, E7, E8, E9, EA, EB, EC, Value.cells, Value.oneCell', ED, EE, EF, EG, EH, EJ, EK, EL, id, EM, EN, EO, EP, EQ, ER, ES, ET, EU, EV, EW, EX, EY, EZ, F0, F1, F3, F4, F5, F6, F7, F8, F9, FA, reduceCtorEq, ↓reduceIte, Nat.reduceEqDiff, Nat.reduceAdd, Nat.reduceLT, Nat.reduceLeDiff, Nat.reduceBEq, FB, Nat.reduceMul, FC, FD, FE, FF, FG, FH, FI, if_true, if_false, FL, FM, FN, FO, FP, FQ, FR, FS, FT, FU, FV, decide_true, decide_false, FY, FZ, G0, G1]
            exact ⟨hon, hrb, hfn, rfl⟩
          · rcases c2 : (sz l x == 0) with _ | _
            · have c3 : decide (0 < (blkK l x : Int)) = false := decide_eq_false (fun g => hc ⟨by simp at c1; omega, by simpa using c2, by omega⟩)
              simp (config := {maxSteps := 4000000}) only [Try.f50, Grb, onF, wholeW, runRow, iv, p1, p2, h, hfx, d, e3, e4, e5, d2, c1, c2, c3, str_nil, bne, hr, G2, G3, G4, ↓ZX, ↓ZY, ZZ, Nat.reduceBNe, A0, A1, Int.reduceLE, Int.reduceLT, A6, A7, A8, A9, AA, AB, AC, AD, AE, AF, AG, AH, AI, AJ, AK, AL, AM, AN, AO, AP, AQ, AR, AS, AT, AU, AV, AX, AY, AZ, B0, B1, B3, B4, B5, B6, B7, B8, B9, BA, BB, BC, BD, BE, BF, BG, BH, BI, BJ, BK, BL, BM, BN, BO, BP, BQ, BR, BS, BT, BU, BV, BW, BX, BY, BZ, C0, C1, C2, C3, C4, C5, C6, C7, C8, C9, CA, CB, CC, CD, CE, CF, CG, CH, CI, CJ, CK, CL, CM, CN, CO, CP, CQ, CR, CS, CT, CU, CV, CW, CX, CY, CZ, D0, D1, D2, D3, D4, D5, D6, D7, DV.isSl, DV.isStr, DV.isBool, D8, D9, DA, DV.agg, DB, DC, DD, DE, DF, DG, DH, DI, DJ, DK, DL, DM, DN, DO, DP, DQ, DR, DS, DT, DU, St.kill, St.app, St.forget, St.newOK, DW, DX, DY, St.unseen, DZ, E0, E1, E3, E5, E6, E7, E8, E9, EA, EB, EC, Value.cells, Value.oneCell', ED, EE, EF, EG, EH, EJ, EK, EL, id, EM, EN, EO, EP, EQ, ER, ES, ET, EU, EV, EW, EX, EY, EZ, F0, F1, F3, F4, F5, F6, F7, F8, F9, FA, reduceCtorEq, ↓reduceIte, Nat.reduceEqDiff, Nat.reduceAdd, Nat.reduceLT, Nat.reduceLeDiff, Nat.reduceBEq, FB, Nat.reduceMul, FC, FD, FE, FF, FG, FH, FI, if_true, if_false, FL, FM, FN, FO, FP, FQ, FR, FS, FT, FU, FV, decide_true, decide_false, FY, FZ, G0, G1]
              exact ⟨hon, hrb, hfn, ⟨⟨by omega, by omega⟩, by omega, by omega⟩, rfl⟩
            · simp (config := {maxSteps := 4000000}) only [Try.f50, Grb, onF, wholeW, runRow, iv, p1, p2, h, hfx, d, e3, e4, e5, d2, c1, c2, str_nil, bne, hr, G2, G3, G4, ↓ZX, ↓ZY, ZZ, Nat.reduceBNe, A0, A1, Int.reduceLE, Int.reduceLT, A6, A7, A8, A9, AA, AB, AC, AD, AE, AF, AG, AH, AI, AJ, AK, AL, AM, AN, AO, AP, AQ, AR, AS, AT, AU, AV, AX, AY, AZ, B0, B1, B3, B4, B5, B6, B7, B8, B9, BA, BB, BC, BD, BE, BF, BG, BH, BI, BJ, BK, BL, BM, BN, BO, BP, BQ, BR, BS, BT, BU, BV, BW, BX, BY, BZ, C0, C1, C2, C3, C4, C5, C6, C7, C8, C9, CA, CB, CC, CD, CE, CF, CG, CH, CI, CJ, CK, CL, CM, CN, CO, CP, CQ, CR, CS, CT, CU, CV, CW, CX, CY, CZ, D0, D1, D2, D3, D4, D5, D6, D7, DV.isSl, DV.isStr, DV.isBool, D8, D9, DA, DV.agg, DB, DC, DD, DE, DF, DG, DH, DI, DJ, DK, DL, DM, DN, DO, DP, DQ, DR, DS, DT, DU, St.kill, St.app, St.forget, St.newOK, DW, DX, DY, St.unseen, DZ, E0, E1, E3, E5, E6, E7, E8, E9, EA, EB, EC, Value.cells, Value.oneCell', ED, EE, EF, EG, EH, EJ, EK, EL, id, EM, EN, EO, EP, EQ, ER, ES, ET, EU, EV, EW, EX, EY, EZ, F0, F1, F3, F4, F5, F6, F7, F8, F9, FA, reduceCtorEq, ↓reduceIte, Nat.reduceEqDiff, Nat.reduceAdd, Nat.reduceLT, Nat.reduceLeDiff, Nat.reduceBEq, FB, Nat.reduceMul, FC, FD, FE, FF, FG, FH, FI, if_true, if_false, FL, FM, FN, FO, FP, FQ, FR, FS, FT, FU, FV, decide_true, decide_false, FY, FZ, G0, G1]
              exact ⟨hon, hrb, hfn, ⟨⟨by omega, by omega⟩, by omega, by omega⟩, rfl⟩
  · rw [h] at hon
    simp (config := {maxSteps := 4000000}) only [Try.f50, Grb, onF, wholeW, iv, p1, p2, h, G2, G3, G4, ↓ZX, ↓ZY, ZZ, Nat.reduceBNe, A0, A1, Int.reduceLE, Int.reduceLT, A6, A7, A8, A9, AA, AB, AC, AD, AE, AF, AG, AH, AI, AJ, AK, AL, AM, AN, AO, AP, AQ, AR, AS, AT, AU, AV, AX, AY, AZ, B0, B1, B3, B4, B5, B6, B7, B8, B9, BA, BB, BC, BD, BE, BF, BG, BH, BI, BJ, BK, BL, BM, BN, BO, BP, BQ, BR, BS, BT, BU, BV, BW, BX, BY, BZ, C0, C1, C2, C3, C4, C5, C6, C7, C8, C9, CA, CB, CC, CD, CE, CF, CG, CH, CI, CJ, CK, CL, CM, CN, CO, CP, CQ, CR, CS, CT, CU, CV, CW, CX, CY, CZ, D0, D1, D2, D3, D4, D5, D6, D7, DV.isSl, DV.isStr, DV.isBool, D8, D9, DA, DV.agg, DB, DC, DD, DE, DF, DG, DH, DI, DJ, DK, DL, DM, DN, DO, DP, DQ, DR, DS, DT, DU, St.kill, St.app, St.forget, St.newOK, DW, DX, DY, St.unseen, DZ, E0, E1, E3, E5, E6, E7, E8, E9, EA, EB, EC, Value.cells, Value.oneCell', ED, EE, EF, EG, EH, EJ, EK, EL, id, EM, EN, EO, EP, EQ, ER, ES, ET, EU, EV, EW, EX, EY, EZ, F0, F1, F3, F4, F5, F6, F7, F8, F9, FA, reduceCtorEq, ↓reduceIte, Nat.reduceEqDiff, Nat.reduceAdd, Nat.reduceLT, Nat.reduceLeDiff, Nat.reduceBEq, FB, Nat.reduceMul, FC, FD, FE, FF, FG, FH, FI, if_true, if_false, FL, FM, FN, FO, FP, FQ, FR, FS, FT, FU, FV, decide_true, decide_false, FY, FZ, G0, G1]
    exact ⟨hon, rfl⟩

end Go.Ab
