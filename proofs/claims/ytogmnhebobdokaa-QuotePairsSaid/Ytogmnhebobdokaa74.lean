/- The law QuotePairs, walked. -/
import Derived.Test.Ytogmnhebobdokaa73
set_option linter.unusedVariables false
set_option linter.unusedSimpArgs false
namespace Go.Ab
open Go Go.RowKit Go.Proofs

def Gqs (s : ByteArray) (q : Int) (f : FuncId) (args : List V) : Option (List RV) :=
  if f = 15 then some [.v (.bool true)]
  else if f = 17 then some [.row (seqRow (runX (pairsL s q)))]
  else if f = 18 then some [.row (runRow (pairsL s q))]
  else if f = 16 then (match args with | [_, .v n] => some [.row (runRow ((pairsL s q).take (iv n).toNat)), .v (.bool true)] | _ => none)
  else if f = 19 then some [.v (.bool true)] else none

set_option maxRecDepth 100000 in
set_option maxHeartbeats 4000000 in
theorem law_QuotePairs (s : ByteArray) (hw : s.size ≤ 4611686018427387904) (q : Int) (m : Nat) (hm : m < 256) :
    CallOK Try.prog 3 [.v (.string s), .v (u8 q), .v (.int .u8 m)] [none, none, none] [.v (.bool true)] := by
  refine callOK_of_awp (c := cx (Gqs s q) 56) (cx_ok _ _) Try.func3 (by kernel_rfl) rfl rfl (by simp [cx]) (by simp [sizesOK]) (awk_of ?_)
  rcases d : decide (300 < (s.size : Int)) with _ | _
  · have hs : s.size ≤ 300 := by have := of_decide_eq_false d; omega
    have hL : (pairsL s q).length ≤ 300 := Nat.le_trans (pairsTo_len _ _ _) hs
    have hall : (pairsL s q).take 1000 = pairsL s q := List.take_of_length_le (by omega)
    have hm10 : IntKind.i64.wrap ((m : Int).tmod 5) = ((m % 5 : Nat) : Int) := by
      have : (m : Int).tmod 5 = ((m % 5 : Nat) : Int) := by rw [Int.tmod_eq_emod_of_nonneg (by omega)]; omega
      rw [this, w64 (by omega) (by omega)]
    have hm11 : IntKind.i64.wrap (((m % 5 : Nat) : Int) + 1) = ((m % 5 + 1 : Nat) : Int) := by rw [w64 (by omega) (by omega)]; omega
    have hk10 : 1 ≤ m % 5 + 1 ∧ m % 5 + 1 ≤ 5 := by omega
    generalize m % 5 + 1 = K at hm11 hk10
    have s5 : (1000 : Int).toNat = 1000 := rfl
    have z10 : ((5 : Int) ≠ 0) = True := by simp
    have hqp := quote_Pairs s (by omega) q
    have hrp := ref_Pairs s (by omega) q
    have p2' := (law16_heard (pairsL s q) (by omega) 1000 (by omega) (by omega) 21).row (S := { seqRow (runX (pairsL s q)) with new := true }) rfl rfl (fun _ _ => rfl)
    have p3' := (law16_heard (pairsL s q) (by omega) K (by omega) (by omega) 35).row (S := { seqRow (runX (pairsL s q)) with new := true }) rfl rfl (fun _ _ => rfl)
    rw [s5, hall] at p2'
    rw [Int.toNat_natCast] at p3'
    have pl1 := (law16_same (pairsL s q) (by omega) 22 27).row (S := { runRow (pairsL s q) with new := true }) rfl rfl (fun _ _ => rfl)
    have pl1' := pl1.row2 (S := { runRow (pairsL s q) with new := true }) rfl rfl (fun _ _ => rfl)
    have hlt : ((pairsL s q).take K).length ≤ 48000 := by rw [List.length_take]; omega
    have pl2 := (law16_same ((pairsL s q).take K) hlt 37 27).row (S := { runRow ((pairsL s q).take K) with new := true }) rfl rfl (fun _ _ => rfl)
    by_cases hmn : ((pairsL s q).length : Int) < (K : Int)
    · have e2 : (pairsL s q).take K = pairsL s q := List.take_of_length_le (by omega)
      have pl2' := pl2.row2 (S := { runRow (pairsL s q) with new := true }) rfl (by show (pairsL s q).length = ((pairsL s q).take K).length; rw [e2]) (fun i h => by rw [e2])
      simp (config := {maxSteps := 4000000}) only [Try.f3, Gqs, iv, runRow, seqRow, d, s5, hall, hm10, hm11, z10, eq_true hmn, G2, G3, G4, ↓ZX, ↓ZY, ZZ, Nat.reduceBNe, A0, A1, Int.reduceLE, Int.reduceLT, A6, A7, A8, A9, AA, AB, AC, AD, AE, AF, AG, AH, AI, AJ, AK, AL, AM, AN, AO, AP, AQ, AR, AS, AT, AU, AV, AX, AY, AZ, B0, B1, B3, B4, B5, B6, B7, B8, B9, BA, BB, BC, BD, BE, BF, BG, BH, BI, BJ, BK, BL, BM, BN, BO, BP, BQ, BR, BS, BT, BU, BV, BW, BX, BY, BZ, C0, C1, C2, C3, C4, C5, C6, C7, C8, C9, CA, CB, CC, CD, CE, CF, CG, CH, CI, CJ, CK, CL, CM, CN, CO, CP, CQ, CR, CS, CT, CU, CV, CW, CX, CY, CZ, D0, D1, D2, D3, D4, D5, D6, D7, DV.isSl, DV.isStr, DV.isBool, D8, D9, DA, DV.agg, DB, DC, DD, DE, DF, DG, DH, DI, DJ, DK, DL, DM, DN, DO, DP, DQ, DR, DS, DT, DU, St.kill, St.app, St.forget, St.newOK, DW, DX, DY, St.unseen, DZ, E0, E1, E3, E5, E6, E7, E8, E9, EA, EB, EC, Value.cells, Value.oneCell', ED, EE, EF, EG, EH, EJ, EK, EL, id, EM, EN, EO, EP, EQ, ER, ES, ET, EU, EV, EW, EX, EY, EZ, F0, F1, F3, F4, F5, F6, F7, F8, F9, FA, reduceCtorEq, ↓reduceIte, Nat.reduceEqDiff, Nat.reduceAdd, Nat.reduceLT, Nat.reduceLeDiff, Nat.reduceBEq, FB, Nat.reduceMul, FC, FD, FE, FF, FG, FH, FI, if_true, if_false, FL, FM, FN, FO, FP, FQ, FR, FS, FT, FU, FV, decide_true, decide_false, FY, FZ, G0, G1]
      exact ⟨law16_known, ⟨hqp, p2'⟩, hrp, ⟨hqp, p3'⟩, pl1', ⟨by omega, by omega⟩, by omega, pl2'⟩
    · have e1 : ((pairsL s q).take K).length = K := by rw [List.length_take]; omega
      have pl2' := pl2.row2 (S := { runRow (pairsL s q) with new := true, len := K }) rfl (by show K = ((pairsL s q).take K).length; exact e1.symm) (fun i h => by
        have h' : i < K := by have : i < ((pairsL s q).take K).length := h; omega
        have : ((pairsL s q).take K).getD i (0, 0) = (pairsL s q).getD i (0, 0) := by rw [List.getD_eq_getElem?_getD, List.getD_eq_getElem?_getD, List.getElem?_take, if_pos h']
        simp only [runRow, Int.toNat_natCast, this])
      simp (config := {maxSteps := 4000000}) only [Try.f3, Gqs, iv, runRow, seqRow, d, s5, hall, hm10, hm11, z10, eq_false hmn, G2, G3, G4, ↓ZX, ↓ZY, ZZ, Nat.reduceBNe, A0, A1, Int.reduceLE, Int.reduceLT, A6, A7, A8, A9, AA, AB, AC, AD, AE, AF, AG, AH, AI, AJ, AK, AL, AM, AN, AO, AP, AQ, AR, AS, AT, AU, AV, AX, AY, AZ, B0, B1, B3, B4, B5, B6, B7, B8, B9, BA, BB, BC, BD, BE, BF, BG, BH, BI, BJ, BK, BL, BM, BN, BO, BP, BQ, BR, BS, BT, BU, BV, BW, BX, BY, BZ, C0, C1, C2, C3, C4, C5, C6, C7, C8, C9, CA, CB, CC, CD, CE, CF, CG, CH, CI, CJ, CK, CL, CM, CN, CO, CP, CQ, CR, CS, CT, CU, CV, CW, CX, CY, CZ, D0, D1, D2, D3, D4, D5, D6, D7, DV.isSl, DV.isStr, DV.isBool, D8, D9, DA, DV.agg, DB, DC, DD, DE, DF, DG, DH, DI, DJ, DK, DL, DM, DN, DO, DP, DQ, DR, DS, DT, DU, St.kill, St.app, St.forget, St.newOK, DW, DX, DY, St.unseen, DZ, E0, E1, E3, E5, E6, E7, E8, E9, EA, EB, EC, Value.cells, Value.oneCell', ED, EE, EF, EG, EH, EJ, EK, EL, id, EM, EN, EO, EP, EQ, ER, ES, ET, EU, EV, EW, EX, EY, EZ, F0, F1, F3, F4, F5, F6, F7, F8, F9, FA, reduceCtorEq, ↓reduceIte, Nat.reduceEqDiff, Nat.reduceAdd, Nat.reduceLT, Nat.reduceLeDiff, Nat.reduceBEq, FB, Nat.reduceMul, FC, FD, FE, FF, FG, FH, FI, if_true, if_false, FL, FM, FN, FO, FP, FQ, FR, FS, FT, FU, FV, decide_true, decide_false, FY, FZ, G0, G1]
      exact ⟨law16_known, ⟨hqp, p2'⟩, hrp, ⟨hqp, p3'⟩, pl1', ⟨by omega, by omega⟩, by omega, pl2'⟩
  · simp (config := {maxSteps := 4000000}) only [Try.f3, Gqs, d, G2, G3, G4, ↓ZX, ↓ZY, ZZ, Nat.reduceBNe, A0, A1, Int.reduceLE, Int.reduceLT, A6, A7, A8, A9, AA, AB, AC, AD, AE, AF, AG, AH, AI, AJ, AK, AL, AM, AN, AO, AP, AQ, AR, AS, AT, AU, AV, AX, AY, AZ, B0, B1, B3, B4, B5, B6, B7, B8, B9, BA, BB, BC, BD, BE, BF, BG, BH, BI, BJ, BK, BL, BM, BN, BO, BP, BQ, BR, BS, BT, BU, BV, BW, BX, BY, BZ, C0, C1, C2, C3, C4, C5, C6, C7, C8, C9, CA, CB, CC, CD, CE, CF, CG, CH, CI, CJ, CK, CL, CM, CN, CO, CP, CQ, CR, CS, CT, CU, CV, CW, CX, CY, CZ, D0, D1, D2, D3, D4, D5, D6, D7, DV.isSl, DV.isStr, DV.isBool, D8, D9, DA, DV.agg, DB, DC, DD, DE, DF, DG, DH, DI, DJ, DK, DL, DM, DN, DO, DP, DQ, DR, DS, DT, DU, St.kill, St.app, St.forget, St.newOK, DW, DX, DY, St.unseen, DZ, E0, E1, E3, E5, E6, E7, E8, E9, EA, EB, EC, Value.cells, Value.oneCell', ED, EE, EF, EG, EH, EJ, EK, EL, id, EM, EN, EO, EP, EQ, ER, ES, ET, EU, EV, EW, EX, EY, EZ, F0, F1, F3, F4, F5, F6, F7, F8, F9, FA, reduceCtorEq, ↓reduceIte, Nat.reduceEqDiff, Nat.reduceAdd, Nat.reduceLT, Nat.reduceLeDiff, Nat.reduceBEq, FB, Nat.reduceMul, FC, FD, FE, FF, FG, FH, FI, if_true, if_false, FL, FM, FN, FO, FP, FQ, FR, FS, FT, FU, FV, decide_true, decide_false, FY, FZ, G0, G1]
    exact law16_known

end Go.Ab
