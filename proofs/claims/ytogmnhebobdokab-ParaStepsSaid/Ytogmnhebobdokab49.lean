/- Contracts: n sentences on and back, as the document says. -/
import Derived.Test.Ytogmnhebobdokab48
import Derived.Test.YtogmnhebobdokabRw
set_option linter.unusedVariables false
set_option linter.unusedSimpArgs false
namespace Go.Ab
open Go Go.RowKit Go.Proofs

def seqW (l : List ByteArray) (args : List V) : Option (List RV) :=
  match args with
  | [_] => some [.row (posRow (sentL l))]
  | _ => none
def behV (l : List ByteArray) (args : List V) : Option (List RV) :=
  match args with
  | [_, .v p, _] => some [.row (posRow (behL (sentL l) ((p1 p).toNat, (p2 p).toNat)))]
  | _ => none
def aheV (l : List ByteArray) (args : List V) : Option (List RV) :=
  match args with
  | [_, .v p] => some [.row (posRow (aheR (sentL l) ((p1 p).toNat, (p2 p).toNat) 0))]
  | _ => none
def Gsr (l : List ByteArray) (f : FuncId) (args : List V) : Option (List RV) := if f = 36 then seqW l args else if f = 78 then behV l args else if f = 79 then aheV l args else Gpr l f args

set_option maxRecDepth 100000 in
set_option maxHeartbeats 4000000 in
theorem ref_SentNext (l : List ByteArray) (hf : Fit l) (a b n : Int) (hn : n ≤ 9223372036854775807) (op : Bool) (k : Nat) : CallOK Try.prog 40 [.r k, .v (pos a b), .v (i64 n), .v (.bool op)] [some (EC l), none, none, none] [.v (jumpP (sentNI l op a b n)), .v (.bool (sentNI l op a b n).isSome)] := by
  refine callOK_of_awp (c := cx (Gsr l) 58) (cx_ok _ _) Try.func40 (by kernel_rfl) rfl rfl (by simp [cx]) (by simp [sizesOK, EC]) (awk_of ?_)
  have hmay : CallOK Try.prog 67 [.r 0, .v (pos a b), .v (i64 n)] [some (EC l), none, none] [.v (.bool (mayB l a b n))] := ref_may l a b n 0
  unfold sentNI
  rcases h : failsB l a b n with _ | _
  · have hM : mayB l a b n = true := by rw [mayB_fails, h]; rfl
    rw [hM] at hmay
    have hpl : placeB l a b = true := by cases hp : placeB l a b <;> simp_all [failsB]
    have hn1 : 1 ≤ n := by simp [failsB] at h; omega
    obtain ⟨x, y, rfl, rfl, hx, hy⟩ := placeB_spec hpl
    have hll := hf.1
    have hsl := sentTo_len l hf l.length
    have hL40 : (sentL l).length ≤ 48000 := by unfold sentL; omega
    have hsq := ref_Sentences l hf 0
    have hbe := (ref_behind (sentL l) hL40 x y 21).row (S := { posRow (sentL l) with new := true }) rfl rfl (fun _ _ => rfl)
    have hen := ref_end l hf (by omega) 0
    have hls := ref_Less x y (l.length - 1 : Nat) (sz l (l.length - 1))
    have hbl := behL_len (sentL l) (x, y)
    have e1 : IntKind.i64.wrap (n - 1) = n - 1 := w64 (by omega) (by omega)
    by_cases hnm : n ≤ ((behL (sentL l) (x, y)).length : Int)
    · have d : decide (((behL (sentL l) (x, y)).length : Int) < n) = false := decide_eq_false (by omega)
      have q : (((behL (sentL l) (x, y)).length : Int) == n - 1) = false := by simp; omega
      obtain ⟨s, hs⟩ := at_of (show (n - 1).toNat < (behL (sentL l) (x, y)).length by omega)
      have hsd : (behL (sentL l) (x, y)).getD (n - 1).toNat (0, 0) = s := getD_at hs
      have hRR : sentN l op (x, y) n = some s := by rw [sentN, hs]
      cases op
      · simp (config := {maxSteps := 4000000}) only [Try.f40, Gsr, Gpr, mayW, noneW, jumpW, endV, lessV, seqW, behV, aheV, posRow, iv, bv, p1, p2, hM, e1, d, hsd, hRR, G2, G3, G4, Nat.reduceBNe, A0, A1, Int.reduceLE, Int.reduceLT, A6, A7, A8, A9, AA, AB, AC, AD, AE, AF, AG, AH, AI, AJ, AK, AL, AM, AN, AO, AP, AQ, AR, AS, AT, AU, AV, AX, AY, AZ, B0, B1, B3, B4, B5, B6, B7, B8, B9, BA, BB, BC, BD, BE, BF, BG, BH, BI, BJ, BK, BL, BM, BN, BO, BP, BQ, BR, BS, BT, BU, BV, BW, BX, BY, BZ, C0, C1, C2, C3, C4, C5, C6, C7, C8, C9, CA, CB, CC, CD, CE, CF, CG, CH, CI, CJ, CK, CL, CM, CN, CO, CP, CQ, CR, CS, CT, CU, CV, CW, CX, CY, CZ, D0, D1, D2, D3, D4, D5, D6, D7, DV.isSl, DV.isStr, DV.isBool, D8, D9, DA, DV.agg, DB, DC, DD, DE, DF, DG, DH, DI, DJ, DK, DL, DM, DN, DO, DP, DQ, DR, DS, DT, DU, St.kill, St.app, St.forget, St.newOK, DW, DX, DY, St.unseen, DZ, E0, E1, E3, E5, E6, E7, E8, E9, EA, EB, EC, Value.cells, Value.oneCell', ED, EE, EF, EG, EH, EJ, EK, EL, id, EM, EN, EO, EP, EQ, ER, ES, ET, EU, EV, EW, EX, EY, EZ, F0, F1, F3, F4, F5, F6, F7, F8, F9, FA, reduceCtorEq, ↓reduceIte, Nat.reduceEqDiff, Nat.reduceAdd, Nat.reduceLT, Nat.reduceLeDiff, Nat.reduceBEq, FB, Nat.reduceMul, FC, FD, FE, FF, FG, FH, FI, if_true, if_false, FL, FM, FN, FO, FP, FQ, FR, FS, FT, FU, FV, decide_true, decide_false, FY, FZ, G0, G1]
        repeat' (first | with_reducible apply And.intro | intro _)
        all_goals first
          | exact hmay
          | exact hsq
          | exact hbe
          | exact hen
          | exact hls
          | exact ref_none
          | exact ref_jump _ _
          | omega
          | kernel_rfl
          | rfl
      · simp (config := {maxSteps := 4000000}) only [Try.f40, Gsr, Gpr, mayW, noneW, jumpW, endV, lessV, seqW, behV, aheV, posRow, iv, bv, p1, p2, hM, e1, d, q, hsd, hRR, G2, G3, G4, Nat.reduceBNe, A0, A1, Int.reduceLE, Int.reduceLT, A6, A7, A8, A9, AA, AB, AC, AD, AE, AF, AG, AH, AI, AJ, AK, AL, AM, AN, AO, AP, AQ, AR, AS, AT, AU, AV, AX, AY, AZ, B0, B1, B3, B4, B5, B6, B7, B8, B9, BA, BB, BC, BD, BE, BF, BG, BH, BI, BJ, BK, BL, BM, BN, BO, BP, BQ, BR, BS, BT, BU, BV, BW, BX, BY, BZ, C0, C1, C2, C3, C4, C5, C6, C7, C8, C9, CA, CB, CC, CD, CE, CF, CG, CH, CI, CJ, CK, CL, CM, CN, CO, CP, CQ, CR, CS, CT, CU, CV, CW, CX, CY, CZ, D0, D1, D2, D3, D4, D5, D6, D7, DV.isSl, DV.isStr, DV.isBool, D8, D9, DA, DV.agg, DB, DC, DD, DE, DF, DG, DH, DI, DJ, DK, DL, DM, DN, DO, DP, DQ, DR, DS, DT, DU, St.kill, St.app, St.forget, St.newOK, DW, DX, DY, St.unseen, DZ, E0, E1, E3, E5, E6, E7, E8, E9, EA, EB, EC, Value.cells, Value.oneCell', ED, EE, EF, EG, EH, EJ, EK, EL, id, EM, EN, EO, EP, EQ, ER, ES, ET, EU, EV, EW, EX, EY, EZ, F0, F1, F3, F4, F5, F6, F7, F8, F9, FA, reduceCtorEq, ↓reduceIte, Nat.reduceEqDiff, Nat.reduceAdd, Nat.reduceLT, Nat.reduceLeDiff, Nat.reduceBEq, FB, Nat.reduceMul, FC, FD, FE, FF, FG, FH, FI, if_true, if_false, FL, FM, FN, FO, FP, FQ, FR, FS, FT, FU, FV, decide_true, decide_false, FY, FZ, G0, G1]
        repeat' (first | with_reducible apply And.intro | intro _)
        all_goals first
          | exact hmay
          | exact hsq
          | exact hbe
          | exact hen
          | exact hls
          | exact ref_none
          | exact ref_jump _ _
          | omega
          | kernel_rfl
          | rfl
    · have d : decide (((behL (sentL l) (x, y)).length : Int) < n) = true := decide_eq_true (by omega)
      have hnone : (behL (sentL l) (x, y))[(n - 1).toNat]? = none := List.getElem?_eq_none (by omega)
      cases op
      · have hRR : sentN l false (x, y) n = none := by rw [sentN, hnone]; simp
        simp (config := {maxSteps := 4000000}) only [Try.f40, Gsr, Gpr, mayW, noneW, jumpW, endV, lessV, seqW, behV, aheV, posRow, iv, bv, p1, p2, hM, e1, d, hRR, G2, G3, G4, Nat.reduceBNe, A0, A1, Int.reduceLE, Int.reduceLT, A6, A7, A8, A9, AA, AB, AC, AD, AE, AF, AG, AH, AI, AJ, AK, AL, AM, AN, AO, AP, AQ, AR, AS, AT, AU, AV, AX, AY, AZ, B0, B1, B3, B4, B5, B6, B7, B8, B9, BA, BB, BC, BD, BE, BF, BG, BH, BI, BJ, BK, BL, BM, BN, BO, BP, BQ, BR, BS, BT, BU, BV, BW, BX, BY, BZ, C0, C1, C2, C3, C4, C5, C6, C7, C8, C9, CA, CB, CC, CD, CE, CF, CG, CH, CI, CJ, CK, CL, CM, CN, CO, CP, CQ, CR, CS, CT, CU, CV, CW, CX, CY, CZ, D0, D1, D2, D3, D4, D5, D6, D7, DV.isSl, DV.isStr, DV.isBool, D8, D9, DA, DV.agg, DB, DC, DD, DE, DF, DG, DH, DI, DJ, DK, DL, DM, DN, DO, DP, DQ, DR, DS, DT, DU, St.kill, St.app, St.forget, St.newOK, DW, DX, DY, St.unseen, DZ, E0, E1, E3, E5, E6, E7, E8, E9, EA, EB, EC, Value.cells, Value.oneCell', ED, EE, EF, EG, EH, EJ, EK, EL, id, EM, EN, EO, EP, EQ, ER, ES, ET, EU, EV, EW, EX, EY, EZ, F0, F1, F3, F4, F5, F6, F7, F8, F9, FA, reduceCtorEq, ↓reduceIte, Nat.reduceEqDiff, Nat.reduceAdd, Nat.reduceLT, Nat.reduceLeDiff, Nat.reduceBEq, FB, Nat.reduceMul, FC, FD, FE, FF, FG, FH, FI, if_true, if_false, FL, FM, FN, FO, FP, FQ, FR, FS, FT, FU, FV, decide_true, decide_false, FY, FZ, G0, G1]
        repeat' (first | with_reducible apply And.intro | intro _)
        all_goals first
          | exact hmay
          | exact hsq
          | exact hbe
          | exact hen
          | exact hls
          | exact ref_none
          | exact ref_jump _ _
          | omega
          | kernel_rfl
          | rfl
      · rcases q : (((behL (sentL l) (x, y)).length : Int) == n - 1) with _ | _
        · have hRR : sentN l true (x, y) n = none := by
            rw [sentN, hnone]
            dsimp only
            rw [if_neg (fun g => by simp at q; omega)]
          simp (config := {maxSteps := 4000000}) only [Try.f40, Gsr, Gpr, mayW, noneW, jumpW, endV, lessV, seqW, behV, aheV, posRow, iv, bv, p1, p2, hM, e1, d, q, hRR, G2, G3, G4, Nat.reduceBNe, A0, A1, Int.reduceLE, Int.reduceLT, A6, A7, A8, A9, AA, AB, AC, AD, AE, AF, AG, AH, AI, AJ, AK, AL, AM, AN, AO, AP, AQ, AR, AS, AT, AU, AV, AX, AY, AZ, B0, B1, B3, B4, B5, B6, B7, B8, B9, BA, BB, BC, BD, BE, BF, BG, BH, BI, BJ, BK, BL, BM, BN, BO, BP, BQ, BR, BS, BT, BU, BV, BW, BX, BY, BZ, C0, C1, C2, C3, C4, C5, C6, C7, C8, C9, CA, CB, CC, CD, CE, CF, CG, CH, CI, CJ, CK, CL, CM, CN, CO, CP, CQ, CR, CS, CT, CU, CV, CW, CX, CY, CZ, D0, D1, D2, D3, D4, D5, D6, D7, DV.isSl, DV.isStr, DV.isBool, D8, D9, DA, DV.agg, DB, DC, DD, DE, DF, DG, DH, DI, DJ, DK, DL, DM, DN, DO, DP, DQ, DR, DS, DT, DU, St.kill, St.app, St.forget, St.newOK, DW, DX, DY, St.unseen, DZ, E0, E1, E3, E5, E6, E7, E8, E9, EA, EB, EC, Value.cells, Value.oneCell', ED, EE, EF, EG, EH, EJ, EK, EL, id, EM, EN, EO, EP, EQ, ER, ES, ET, EU, EV, EW, EX, EY, EZ, F0, F1, F3, F4, F5, F6, F7, F8, F9, FA, reduceCtorEq, ↓reduceIte, Nat.reduceEqDiff, Nat.reduceAdd, Nat.reduceLT, Nat.reduceLeDiff, Nat.reduceBEq, FB, Nat.reduceMul, FC, FD, FE, FF, FG, FH, FI, if_true, if_false, FL, FM, FN, FO, FP, FQ, FR, FS, FT, FU, FV, decide_true, decide_false, FY, FZ, G0, G1]
          repeat' (first | with_reducible apply And.intro | intro _)
          all_goals first
            | exact hmay
            | exact hsq
            | exact hbe
            | exact hen
            | exact hls
            | exact ref_none
            | exact ref_jump _ _
            | omega
            | kernel_rfl
            | rfl
        · have q' : n = (behL (sentL l) (x, y)).length + 1 := by simp at q; omega
          rcases ho : lessI x y (l.length - 1 : Nat) (sz l (l.length - 1)) with _ | _
          · rw [ho] at hls
            have hRR : sentN l true (x, y) n = none := by
              rw [sentN, hnone]
              dsimp only
              rw [if_neg (fun g => by have := g.2.2; rw [show okF (x, y) (endP l) = false from ho] at this; cases this)]
            simp (config := {maxSteps := 4000000}) only [Try.f40, Gsr, Gpr, mayW, noneW, jumpW, endV, lessV, seqW, behV, aheV, posRow, iv, bv, p1, p2, hM, e1, d, q, ho, hRR, G2, G3, G4, Nat.reduceBNe, A0, A1, Int.reduceLE, Int.reduceLT, A6, A7, A8, A9, AA, AB, AC, AD, AE, AF, AG, AH, AI, AJ, AK, AL, AM, AN, AO, AP, AQ, AR, AS, AT, AU, AV, AX, AY, AZ, B0, B1, B3, B4, B5, B6, B7, B8, B9, BA, BB, BC, BD, BE, BF, BG, BH, BI, BJ, BK, BL, BM, BN, BO, BP, BQ, BR, BS, BT, BU, BV, BW, BX, BY, BZ, C0, C1, C2, C3, C4, C5, C6, C7, C8, C9, CA, CB, CC, CD, CE, CF, CG, CH, CI, CJ, CK, CL, CM, CN, CO, CP, CQ, CR, CS, CT, CU, CV, CW, CX, CY, CZ, D0, D1, D2, D3, D4, D5, D6, D7, DV.isSl, DV.isStr, DV.isBool, D8, D9, DA, DV.agg, DB, DC, DD, DE, DF, DG, DH, DI, DJ, DK, DL, DM, DN, DO, DP, DQ, DR, DS, DT, DU, St.kill, St.app, St.forget, St.newOK, DW, DX, DY, St.unseen, DZ, E0, E1, E3, E5, E6, E7, E8, E9, EA, EB, EC, Value.cells, Value.oneCell', ED, EE, EF, EG, EH, EJ, EK, EL, id, EM, EN, EO, EP, EQ, ER, ES, ET, EU, EV, EW, EX, EY, EZ, F0, F1, F3, F4, F5, F6, F7, F8, F9, FA, reduceCtorEq, ↓reduceIte, Nat.reduceEqDiff, Nat.reduceAdd, Nat.reduceLT, Nat.reduceLeDiff, Nat.reduceBEq, FB, Nat.reduceMul, FC, FD, FE, FF, FG, FH, FI, if_true, if_false, FL, FM, FN, FO, FP, FQ, FR, FS, FT, FU, FV, decide_true, decide_false, FY, FZ, G0, G1]
            repeat' (first | with_reducible apply And.intro | intro _)
            all_goals first
              | exact hmay
              | exact hsq
              | exact hbe
              | exact hen
              | exact hls
              | exact ref_none
              | exact ref_jump _ _
              | omega
              | kernel_rfl
              | rfl
          · rw [ho] at hls
            have hRR : sentN l true (x, y) n = some (endP l) := by
              rw [sentN, hnone]
              dsimp only
              rw [if_pos ⟨rfl, q', ho⟩]
            simp (config := {maxSteps := 4000000}) only [Try.f40, Gsr, Gpr, mayW, noneW, jumpW, endV, lessV, seqW, behV, aheV, posRow, iv, bv, p1, p2, hM, e1, d, q, ho, hRR, G2, G3, G4, Nat.reduceBNe, A0, A1, Int.reduceLE, Int.reduceLT, A6, A7, A8, A9, AA, AB, AC, AD, AE, AF, AG, AH, AI, AJ, AK, AL, AM, AN, AO, AP, AQ, AR, AS, AT, AU, AV, AX, AY, AZ, B0, B1, B3, B4, B5, B6, B7, B8, B9, BA, BB, BC, BD, BE, BF, BG, BH, BI, BJ, BK, BL, BM, BN, BO, BP, BQ, BR, BS, BT, BU, BV, BW, BX, BY, BZ, C0, C1, C2, C3, C4, C5, C6, C7, C8, C9, CA, CB, CC, CD, CE, CF, CG, CH, CI, CJ, CK, CL, CM, CN, CO, CP, CQ, CR, CS, CT, CU, CV, CW, CX, CY, CZ, D0, D1, D2, D3, D4, D5, D6, D7, DV.isSl, DV.isStr, DV.isBool, D8, D9, DA, DV.agg, DB, DC, DD, DE, DF, DG, DH, DI, DJ, DK, DL, DM, DN, DO, DP, DQ, DR, DS, DT, DU, St.kill, St.app, St.forget, St.newOK, DW, DX, DY, St.unseen, DZ, E0, E1, E3, E5, E6, E7, E8, E9, EA, EB, EC, Value.cells, Value.oneCell', ED, EE, EF, EG, EH, EJ, EK, EL, id, EM, EN, EO, EP, EQ, ER, ES, ET, EU, EV, EW, EX, EY, EZ, F0, F1, F3, F4, F5, F6, F7, F8, F9, FA, reduceCtorEq, ↓reduceIte, Nat.reduceEqDiff, Nat.reduceAdd, Nat.reduceLT, Nat.reduceLeDiff, Nat.reduceBEq, FB, Nat.reduceMul, FC, FD, FE, FF, FG, FH, FI, if_true, if_false, FL, FM, FN, FO, FP, FQ, FR, FS, FT, FU, FV, decide_true, decide_false, FY, FZ, G0, G1]
            repeat' (first | with_reducible apply And.intro | intro _)
            all_goals first
              | exact hmay
              | exact hsq
              | exact hbe
              | exact hen
              | exact hls
              | exact ref_none
              | exact ref_jump _ _
              | omega
              | kernel_rfl
              | rfl
  · have hM : mayB l a b n = false := by rw [mayB_fails, h]; rfl
    rw [hM] at hmay
    simp (config := {maxSteps := 4000000}) only [Try.f40, Gsr, Gpr, mayW, noneW, jumpW, endV, lessV, iv, bv, p1, p2, hM, G2, G3, G4, Nat.reduceBNe, A0, A1, Int.reduceLE, Int.reduceLT, A6, A7, A8, A9, AA, AB, AC, AD, AE, AF, AG, AH, AI, AJ, AK, AL, AM, AN, AO, AP, AQ, AR, AS, AT, AU, AV, AX, AY, AZ, B0, B1, B3, B4, B5, B6, B7, B8, B9, BA, BB, BC, BD, BE, BF, BG, BH, BI, BJ, BK, BL, BM, BN, BO, BP, BQ, BR, BS, BT, BU, BV, BW, BX, BY, BZ, C0, C1, C2, C3, C4, C5, C6, C7, C8, C9, CA, CB, CC, CD, CE, CF, CG, CH, CI, CJ, CK, CL, CM, CN, CO, CP, CQ, CR, CS, CT, CU, CV, CW, CX, CY, CZ, D0, D1, D2, D3, D4, D5, D6, D7, DV.isSl, DV.isStr, DV.isBool, D8, D9, DA, DV.agg, DB, DC, DD, DE, DF, DG, DH, DI, DJ, DK, DL, DM, DN, DO, DP, DQ, DR, DS, DT, DU, St.kill, St.app, St.forget, St.newOK, DW, DX, DY, St.unseen, DZ, E0, E1, E3, E5, E6, E7, E8, E9, EA, EB, EC, Value.cells, Value.oneCell', ED, EE, EF, EG, EH, EJ, EK, EL, id, EM, EN, EO, EP, EQ, ER, ES, ET, EU, EV, EW, EX, EY, EZ, F0, F1, F3, F4, F5, F6, F7, F8, F9, FA, reduceCtorEq, ↓reduceIte, Nat.reduceEqDiff, Nat.reduceAdd, Nat.reduceLT, Nat.reduceLeDiff, Nat.reduceBEq, FB, Nat.reduceMul, FC, FD, FE, FF, FG, FH, FI, if_true, if_false, FL, FM, FN, FO, FP, FQ, FR, FS, FT, FU, FV, decide_true, decide_false, FY, FZ, G0, G1]
    exact ⟨hmay, ref_none, rfl⟩

theorem sentB_rev (l : List ByteArray) (p : Nat × Nat) (n : Int) (hn : 1 ≤ n) : sentB l p n = if ((aheR (sentL l) p 0).length : Int) < n then none else (aheR (sentL l) p 0)[(n - 1).toNat]? := by
  have e : aheR (sentL l) p 0 = (aheL (sentL l) p).reverse := by rw [aheL_eq (sentL_sorted l), aheR, List.drop_zero]
  rw [e, List.length_reverse, sentB]
  split
  · rfl
  · rw [List.getElem?_reverse (by omega)]
    congr 1
    omega

set_option maxRecDepth 100000 in
set_option maxHeartbeats 4000000 in
theorem ref_SentBack (l : List ByteArray) (hf : Fit l) (a b n : Int) (hn : n ≤ 9223372036854775807) (k : Nat) : CallOK Try.prog 42 [.r k, .v (pos a b), .v (i64 n)] [some (EC l), none, none] [.v (jumpP (sentBI l a b n)), .v (.bool (sentBI l a b n).isSome)] := by
  refine callOK_of_awp (c := cx (Gsr l) 36) (cx_ok _ _) Try.func42 (by kernel_rfl) rfl rfl (by simp [cx]) (by simp [sizesOK, EC]) (awk_of ?_)
  have hmay : CallOK Try.prog 67 [.r 0, .v (pos a b), .v (i64 n)] [some (EC l), none, none] [.v (.bool (mayB l a b n))] := ref_may l a b n 0
  unfold sentBI
  rcases h : failsB l a b n with _ | _
  · have hM : mayB l a b n = true := by rw [mayB_fails, h]; rfl
    rw [hM] at hmay
    have hpl : placeB l a b = true := by cases hp : placeB l a b <;> simp_all [failsB]
    have hn1 : 1 ≤ n := by simp [failsB] at h; omega
    obtain ⟨x, y, rfl, rfl, hx, hy⟩ := placeB_spec hpl
    have hll := hf.1
    have hsl := sentTo_len l hf l.length
    have hL40 : (sentL l).length ≤ 48000 := by unfold sentL; omega
    have hsq := ref_Sentences l hf 0
    have hbe := (ref_ahead (sentL l) hL40 x y 18).row (S := { posRow (sentL l) with new := true }) rfl rfl (fun _ _ => rfl)
    have hbl := aheR_len (sentL l) (x, y) 0
    have e1 : IntKind.i64.wrap (n - 1) = n - 1 := w64 (by omega) (by omega)
    have hRR := sentB_rev l (x, y) n hn1
    by_cases hnm : n ≤ ((aheR (sentL l) (x, y) 0).length : Int)
    · have d : decide (((aheR (sentL l) (x, y) 0).length : Int) < n) = false := decide_eq_false (by omega)
      obtain ⟨s, hs⟩ := at_of (show (n - 1).toNat < (aheR (sentL l) (x, y) 0).length by omega)
      have hsd : (aheR (sentL l) (x, y) 0).getD (n - 1).toNat (0, 0) = s := getD_at hs
      rw [if_neg (by omega), hs] at hRR
      simp (config := {maxSteps := 4000000}) only [Try.f42, Gsr, Gpr, mayW, noneW, jumpW, endV, lessV, seqW, behV, aheV, posRow, iv, bv, p1, p2, hM, e1, d, hsd, hRR, G2, G3, G4, Nat.reduceBNe, A0, A1, Int.reduceLE, Int.reduceLT, A6, A7, A8, A9, AA, AB, AC, AD, AE, AF, AG, AH, AI, AJ, AK, AL, AM, AN, AO, AP, AQ, AR, AS, AT, AU, AV, AX, AY, AZ, B0, B1, B3, B4, B5, B6, B7, B8, B9, BA, BB, BC, BD, BE, BF, BG, BH, BI, BJ, BK, BL, BM, BN, BO, BP, BQ, BR, BS, BT, BU, BV, BW, BX, BY, BZ, C0, C1, C2, C3, C4, C5, C6, C7, C8, C9, CA, CB, CC, CD, CE, CF, CG, CH, CI, CJ, CK, CL, CM, CN, CO, CP, CQ, CR, CS, CT, CU, CV, CW, CX, CY, CZ, D0, D1, D2, D3, D4, D5, D6, D7, DV.isSl, DV.isStr, DV.isBool, D8, D9, DA, DV.agg, DB, DC, DD, DE, DF, DG, DH, DI, DJ, DK, DL, DM, DN, DO, DP, DQ, DR, DS, DT, DU, St.kill, St.app, St.forget, St.newOK, DW, DX, DY, St.unseen, DZ, E0, E1, E3, E5, E6, E7, E8, E9, EA, EB, EC, Value.cells, Value.oneCell', ED, EE, EF, EG, EH, EJ, EK, EL, id, EM, EN, EO, EP, EQ, ER, ES, ET, EU, EV, EW, EX, EY, EZ, F0, F1, F3, F4, F5, F6, F7, F8, F9, FA, reduceCtorEq, ↓reduceIte, Nat.reduceEqDiff, Nat.reduceAdd, Nat.reduceLT, Nat.reduceLeDiff, Nat.reduceBEq, FB, Nat.reduceMul, FC, FD, FE, FF, FG, FH, FI, if_true, if_false, FL, FM, FN, FO, FP, FQ, FR, FS, FT, FU, FV, decide_true, decide_false, FY, FZ, G0, G1]
      repeat' (first | with_reducible apply And.intro | intro _)
      all_goals first
        | exact hmay
        | exact hsq
        | exact hbe
          | exact ref_none
        | exact ref_jump _ _
        | omega
        | kernel_rfl
        | rfl
    · have d : decide (((aheR (sentL l) (x, y) 0).length : Int) < n) = true := decide_eq_true (by omega)
      rw [if_pos (by omega)] at hRR
      simp (config := {maxSteps := 4000000}) only [Try.f42, Gsr, Gpr, mayW, noneW, jumpW, endV, lessV, seqW, behV, aheV, posRow, iv, bv, p1, p2, hM, e1, d, hRR, G2, G3, G4, Nat.reduceBNe, A0, A1, Int.reduceLE, Int.reduceLT, A6, A7, A8, A9, AA, AB, AC, AD, AE, AF, AG, AH, AI, AJ, AK, AL, AM, AN, AO, AP, AQ, AR, AS, AT, AU, AV, AX, AY, AZ, B0, B1, B3, B4, B5, B6, B7, B8, B9, BA, BB, BC, BD, BE, BF, BG, BH, BI, BJ, BK, BL, BM, BN, BO, BP, BQ, BR, BS, BT, BU, BV, BW, BX, BY, BZ, C0, C1, C2, C3, C4, C5, C6, C7, C8, C9, CA, CB, CC, CD, CE, CF, CG, CH, CI, CJ, CK, CL, CM, CN, CO, CP, CQ, CR, CS, CT, CU, CV, CW, CX, CY, CZ, D0, D1, D2, D3, D4, D5, D6, D7, DV.isSl, DV.isStr, DV.isBool, D8, D9, DA, DV.agg, DB, DC, DD, DE, DF, DG, DH, DI, DJ, DK, DL, DM, DN, DO, DP, DQ, DR, DS, DT, DU, St.kill, St.app, St.forget, St.newOK, DW, DX, DY, St.unseen, DZ, E0, E1, E3, E5, E6, E7, E8, E9, EA, EB, EC, Value.cells, Value.oneCell', ED, EE, EF, EG, EH, EJ, EK, EL, id, EM, EN, EO, EP, EQ, ER, ES, ET, EU, EV, EW, EX, EY, EZ, F0, F1, F3, F4, F5, F6, F7, F8, F9, FA, reduceCtorEq, ↓reduceIte, Nat.reduceEqDiff, Nat.reduceAdd, Nat.reduceLT, Nat.reduceLeDiff, Nat.reduceBEq, FB, Nat.reduceMul, FC, FD, FE, FF, FG, FH, FI, if_true, if_false, FL, FM, FN, FO, FP, FQ, FR, FS, FT, FU, FV, decide_true, decide_false, FY, FZ, G0, G1]
      repeat' (first | with_reducible apply And.intro | intro _)
      all_goals first
        | exact hmay
        | exact hsq
        | exact hbe
        | exact ref_none
        | exact ref_jump _ _
        | omega
        | kernel_rfl
        | rfl
  · have hM : mayB l a b n = false := by rw [mayB_fails, h]; rfl
    rw [hM] at hmay
    simp (config := {maxSteps := 4000000}) only [Try.f42, Gsr, Gpr, mayW, noneW, jumpW, endV, lessV, iv, bv, p1, p2, hM, G2, G3, G4, Nat.reduceBNe, A0, A1, Int.reduceLE, Int.reduceLT, A6, A7, A8, A9, AA, AB, AC, AD, AE, AF, AG, AH, AI, AJ, AK, AL, AM, AN, AO, AP, AQ, AR, AS, AT, AU, AV, AX, AY, AZ, B0, B1, B3, B4, B5, B6, B7, B8, B9, BA, BB, BC, BD, BE, BF, BG, BH, BI, BJ, BK, BL, BM, BN, BO, BP, BQ, BR, BS, BT, BU, BV, BW, BX, BY, BZ, C0, C1, C2, C3, C4, C5, C6, C7, C8, C9, CA, CB, CC, CD, CE, CF, CG, CH, CI, CJ, CK, CL, CM, CN, CO, CP, CQ, CR, CS, CT, CU, CV, CW, CX, CY, CZ, D0, D1, D2, D3, D4, D5, D6, D7, DV.isSl, DV.isStr, DV.isBool, D8, D9, DA, DV.agg, DB, DC, DD, DE, DF, DG, DH, DI, DJ, DK, DL, DM, DN, DO, DP, DQ, DR, DS, DT, DU, St.kill, St.app, St.forget, St.newOK, DW, DX, DY, St.unseen, DZ, E0, E1, E3, E5, E6, E7, E8, E9, EA, EB, EC, Value.cells, Value.oneCell', ED, EE, EF, EG, EH, EJ, EK, EL, id, EM, EN, EO, EP, EQ, ER, ES, ET, EU, EV, EW, EX, EY, EZ, F0, F1, F3, F4, F5, F6, F7, F8, F9, FA, reduceCtorEq, ↓reduceIte, Nat.reduceEqDiff, Nat.reduceAdd, Nat.reduceLT, Nat.reduceLeDiff, Nat.reduceBEq, FB, Nat.reduceMul, FC, FD, FE, FF, FG, FH, FI, if_true, if_false, FL, FM, FN, FO, FP, FQ, FR, FS, FT, FU, FV, decide_true, decide_false, FY, FZ, G0, G1]
    exact ⟨hmay, ref_none, rfl⟩

end Go.Ab
