/- Contracts: places held against one another. -/
import Derived.Test.Ytogmnhebobdokaa10
set_option linter.unusedVariables false
set_option linter.unusedSimpArgs false
namespace Go.Ab
open Go Go.RowKit Go.Proofs

def placeV (l : List ByteArray) (args : List V) : Option (List RV) :=
  match args with
  | [_, .v p] => some [.v (.bool (placeB l (p1 p) (p2 p)))]
  | _ => none

set_option maxRecDepth 100000 in
theorem span_Less (a b c d : Int) : CallOK Try.prog 73 [.v (pos a b), .v (pos c d)] [none, none] [.v (.bool (lessI a b c d))] := by
  refine callOK_of_awp (c := cx (fun _ _ => none) 24) (cx_ok _ _) Try.func73 (by kernel_rfl) rfl rfl (by simp [cx]) (by simp [sizesOK, EC]) (awk_of ?_)
  simp (config := {maxSteps := 4000000}) only [Try.f73, ↓ZX, ↓ZY, ZZ, Nat.reduceBNe, A0, A1, Int.reduceLE, Int.reduceLT, A6, A7, A8, A9, AA, AB, AC, AD, AE, AF, AG, AH, AI, AJ, AK, AL, AM, AN, AO, AP, AQ, AR, AS, AT, AU, AV, AX, AY, AZ, B0, B1, B3, B4, B5, B6, B7, B8, B9, BA, BB, BC, BD, BE, BF, BG, BH, BI, BJ, BK, BL, BM, BN, BO, BP, BQ, BR, BS, BT, BU, BV, BW, BX, BY, BZ, C0, C1, C2, C3, C4, C5, C6, C7, C8, C9, CA, CB, CC, CD, CE, CF, CG, CH, CI, CJ, CK, CL, CM, CN, CO, CP, CQ, CR, CS, CT, CU, CV, CW, CX, CY, CZ, D0, D1, D2, D3, D4, D5, D6, D7, DV.isSl, DV.isStr, DV.isBool, D8, D9, DA, DV.agg, DB, DC, DD, DE, DF, DG, DH, DI, DJ, DK, DL, DM, DN, DO, DP, DQ, DR, DS, DT, DU, St.kill, St.app, St.forget, St.newOK, DW, DX, DY, St.unseen, DZ, E0, E1, E3, E5, E6, E7, E8, E9, EA, EB, EC, Value.cells, Value.oneCell', ED, EE, EF, EG, EH, EJ, EK, EL, id, EM, EN, EO, EP, EQ, ER, ES, ET, EU, EV, EW, EX, EY, EZ, F0, F1, F3, F4, F5, F6, F7, F8, F9, FA, reduceCtorEq, ↓reduceIte, Nat.reduceEqDiff, Nat.reduceAdd, Nat.reduceLT, Nat.reduceLeDiff, Nat.reduceBEq, FB, Nat.reduceMul, FC, FD, FE, FF, FG, FH, FI, if_true, if_false, FL, FM, FN, FO, FP, FQ, FR, FS, FT, FU, FV, decide_true, decide_false, FY, FZ, G0, G1]
  rcases h1 : decide (a < c) with _ | _ <;> rcases h2 : (a == c) with _ | _ <;> simp [lessI, h1, h2]

def lessV (args : List V) : Option (List RV) :=
  match args with
  | [.v p, .v q] => some [.v (.bool (lessI (p1 p) (p2 p) (p1 q) (p2 q)))]
  | _ => none

set_option maxRecDepth 100000 in
theorem ref_Less (a b c d : Int) : CallOK Try.prog 40 [.v (pos a b), .v (pos c d)] [none, none] [.v (.bool (lessI a b c d))] := by
  refine callOK_of_awp (c := cx (fun _ _ => none) 24) (cx_ok _ _) Try.func40 (by kernel_rfl) rfl rfl (by simp [cx]) (by simp [sizesOK, EC]) (awk_of ?_)
  simp (config := {maxSteps := 4000000}) only [Try.f40, ↓ZX, ↓ZY, ZZ, Nat.reduceBNe, A0, A1, Int.reduceLE, Int.reduceLT, A6, A7, A8, A9, AA, AB, AC, AD, AE, AF, AG, AH, AI, AJ, AK, AL, AM, AN, AO, AP, AQ, AR, AS, AT, AU, AV, AX, AY, AZ, B0, B1, B3, B4, B5, B6, B7, B8, B9, BA, BB, BC, BD, BE, BF, BG, BH, BI, BJ, BK, BL, BM, BN, BO, BP, BQ, BR, BS, BT, BU, BV, BW, BX, BY, BZ, C0, C1, C2, C3, C4, C5, C6, C7, C8, C9, CA, CB, CC, CD, CE, CF, CG, CH, CI, CJ, CK, CL, CM, CN, CO, CP, CQ, CR, CS, CT, CU, CV, CW, CX, CY, CZ, D0, D1, D2, D3, D4, D5, D6, D7, DV.isSl, DV.isStr, DV.isBool, D8, D9, DA, DV.agg, DB, DC, DD, DE, DF, DG, DH, DI, DJ, DK, DL, DM, DN, DO, DP, DQ, DR, DS, DT, DU, St.kill, St.app, St.forget, St.newOK, DW, DX, DY, St.unseen, DZ, E0, E1, E3, E5, E6, E7, E8, E9, EA, EB, EC, Value.cells, Value.oneCell', ED, EE, EF, EG, EH, EJ, EK, EL, id, EM, EN, EO, EP, EQ, ER, ES, ET, EU, EV, EW, EX, EY, EZ, F0, F1, F3, F4, F5, F6, F7, F8, F9, FA, reduceCtorEq, ↓reduceIte, Nat.reduceEqDiff, Nat.reduceAdd, Nat.reduceLT, Nat.reduceLeDiff, Nat.reduceBEq, FB, Nat.reduceMul, FC, FD, FE, FF, FG, FH, FI, if_true, if_false, FL, FM, FN, FO, FP, FQ, FR, FS, FT, FU, FV, decide_true, decide_false, FY, FZ, G0, G1]
  rcases h1 : decide (a < c) with _ | _ <;> rcases h2 : (a == c) with _ | _ <;> simp [lessI, h1, h2]


end Go.Ab
