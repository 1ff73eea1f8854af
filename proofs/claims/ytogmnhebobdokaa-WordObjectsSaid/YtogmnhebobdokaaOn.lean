/- Contracts: places that objects begin at, as the document says. -/
import Derived.Test.YtogmnhebobdokaaBy
import Derived.Test.YtogmnhebobdokaaSm
set_option linter.unusedVariables false
set_option linter.unusedSimpArgs false
namespace Go.Ab
open Go Go.RowKit Go.Proofs

def onN (l : List ByteArray) (a b n : Int) : Bool := onB l a b && decide (1 ≤ n)
set_option maxRecDepth 100000 in
theorem ref_on (l : List ByteArray) (a b n : Int) (k : Nat) : CallOK Try.prog 52 [.r k, .v (pos a b), .v (i64 n)] [some (EC l), none, none] [.v (.bool (onN l a b n))] := by
  refine callOK_of_awp (c := cx (fun f args => if f = 66 then placeV l args else none) 33) (cx_ok _ _) Try.func52 (by kernel_rfl) rfl rfl (by simp [cx]) (by simp [sizesOK, EC]) (awk_of ?_)
  have hp := ref_Place l a b 0
  rcases h : placeB l a b with _ | _
  · rw [h] at hp
    simp (config := {maxSteps := 4000000}) only [Try.f52, placeV, iv, p1, p2, h, ↓ZX, ↓ZY, ZZ, Nat.reduceBNe, A0, A1, Int.reduceLE, Int.reduceLT, A6, A7, A8, A9, AA, AB, AC, AD, AE, AF, AG, AH, AI, AJ, AK, AL, AM, AN, AO, AP, AQ, AR, AS, AT, AU, AV, AX, AY, AZ, B0, B1, B3, B4, B5, B6, B7, B8, B9, BA, BB, BC, BD, BE, BF, BG, BH, BI, BJ, BK, BL, BM, BN, BO, BP, BQ, BR, BS, BT, BU, BV, BW, BX, BY, BZ, C0, C1, C2, C3, C4, C5, C6, C7, C8, C9, CA, CB, CC, CD, CE, CF, CG, CH, CI, CJ, CK, CL, CM, CN, CO, CP, CQ, CR, CS, CT, CU, CV, CW, CX, CY, CZ, D0, D1, D2, D3, D4, D5, D6, D7, DV.isSl, DV.isStr, DV.isBool, D8, D9, DA, DV.agg, DB, DC, DD, DE, DF, DG, DH, DI, DJ, DK, DL, DM, DN, DO, DP, DQ, DR, DS, DT, DU, St.kill, St.app, St.forget, St.newOK, DW, DX, DY, St.unseen, DZ, E0, E1, E3, E5, E6, E7, E8, E9, EA, EB, EC, Value.cells, Value.oneCell', ED, EE, EF, EG, EH, EJ, EK, EL, id, EM, EN, EO, EP, EQ, ER, ES, ET, EU, EV, EW, EX, EY, EZ, F0, F1, F3, F4, F5, F6, F7, F8, F9, FA, reduceCtorEq, ↓reduceIte, Nat.reduceEqDiff, Nat.reduceAdd, Nat.reduceLT, Nat.reduceLeDiff, Nat.reduceBEq, FB, Nat.reduceMul, FC, FD, FE, FF, FG, FH, FI, if_true, if_false, FL, FM, FN, FO, FP, FQ, FR, FS, FT, FU, FV, decide_true, decide_false, FY, FZ, G0, G1]
    refine ⟨by kernel_rfl, hp, ?_⟩
    simp [onN, onB, h]
  · rw [h] at hp
    have h' := h
    obtain ⟨a, b, rfl, rfl, ha, hb⟩ := placeB_spec h
    rcases h1 : decide ((b : Int) < (sz l a : Int)) with _ | _ <;> rcases h3 : decide (1 ≤ n) with _ | _
    case' false.true =>
      have hz : (sz l a == 0) = ((b : Int) == 0) := by
        have : sz l a = b := by simp at h1; omega
        rw [this]
        rcases b with _ | b
        · rfl
        · simp; omega
    all_goals
      simp (config := {maxSteps := 4000000}) only [Try.f52, placeV, iv, p1, p2, h, h1, h3, str_nil, ↓ZX, ↓ZY, ZZ, Nat.reduceBNe, A0, A1, Int.reduceLE, Int.reduceLT, A6, A7, A8, A9, AA, AB, AC, AD, AE, AF, AG, AH, AI, AJ, AK, AL, AM, AN, AO, AP, AQ, AR, AS, AT, AU, AV, AX, AY, AZ, B0, B1, B3, B4, B5, B6, B7, B8, B9, BA, BB, BC, BD, BE, BF, BG, BH, BI, BJ, BK, BL, BM, BN, BO, BP, BQ, BR, BS, BT, BU, BV, BW, BX, BY, BZ, C0, C1, C2, C3, C4, C5, C6, C7, C8, C9, CA, CB, CC, CD, CE, CF, CG, CH, CI, CJ, CK, CL, CM, CN, CO, CP, CQ, CR, CS, CT, CU, CV, CW, CX, CY, CZ, D0, D1, D2, D3, D4, D5, D6, D7, DV.isSl, DV.isStr, DV.isBool, D8, D9, DA, DV.agg, DB, DC, DD, DE, DF, DG, DH, DI, DJ, DK, DL, DM, DN, DO, DP, DQ, DR, DS, DT, DU, St.kill, St.app, St.forget, St.newOK, DW, DX, DY, St.unseen, DZ, E0, E1, E3, E5, E6, E7, E8, E9, EA, EB, EC, Value.cells, Value.oneCell', ED, EE, EF, EG, EH, EJ, EK, EL, id, EM, EN, EO, EP, EQ, ER, ES, ET, EU, EV, EW, EX, EY, EZ, F0, F1, F3, F4, F5, F6, F7, F8, F9, FA, reduceCtorEq, ↓reduceIte, Nat.reduceEqDiff, Nat.reduceAdd, Nat.reduceLT, Nat.reduceLeDiff, Nat.reduceBEq, FB, Nat.reduceMul, FC, FD, FE, FF, FG, FH, FI, if_true, if_false, FL, FM, FN, FO, FP, FQ, FR, FS, FT, FU, FV, decide_true, decide_false, FY, FZ, G0, G1]
      refine ⟨by kernel_rfl, ?_, ?_⟩
      · repeat' (first | with_reducible apply And.intro)
        all_goals first | exact hp | omega
      · simp only [onN, onB, h, h1, h3, Int.toNat_natCast, cond_true, cond_false, Bool.and_true, Bool.and_false, Bool.true_and]
        first
          | done
          | exact congrArg Value.bool hz

def charV (args : List V) : Option (List RV) :=
  match args with
  | [.v p, .v q] => some [.v (.agg #[i64 0, i64 (p1 p), i64 (p2 p), i64 (p1 q), i64 (p2 q)]), .v (.bool true)]
  | _ => none
set_option maxRecDepth 100000 in
theorem ref_char (a b c d : Int) : CallOK Try.prog 75 [.v (pos a b), .v (pos c d)] [none, none] [.v (.agg #[i64 0, i64 a, i64 b, i64 c, i64 d]), .v (.bool true)] := by
  refine callOK_of_awp (c := cx (fun _ _ => none) 9) (cx_ok _ _) Try.func75 (by kernel_rfl) rfl rfl (by simp [cx]) (by simp [sizesOK, EC]) (awk_of ?_)
  simp (config := {maxSteps := 4000000}) only [Try.f75, ↓ZX, ↓ZY, ZZ, Nat.reduceBNe, A0, A1, Int.reduceLE, Int.reduceLT, A6, A7, A8, A9, AA, AB, AC, AD, AE, AF, AG, AH, AI, AJ, AK, AL, AM, AN, AO, AP, AQ, AR, AS, AT, AU, AV, AX, AY, AZ, B0, B1, B3, B4, B5, B6, B7, B8, B9, BA, BB, BC, BD, BE, BF, BG, BH, BI, BJ, BK, BL, BM, BN, BO, BP, BQ, BR, BS, BT, BU, BV, BW, BX, BY, BZ, C0, C1, C2, C3, C4, C5, C6, C7, C8, C9, CA, CB, CC, CD, CE, CF, CG, CH, CI, CJ, CK, CL, CM, CN, CO, CP, CQ, CR, CS, CT, CU, CV, CW, CX, CY, CZ, D0, D1, D2, D3, D4, D5, D6, D7, DV.isSl, DV.isStr, DV.isBool, D8, D9, DA, DV.agg, DB, DC, DD, DE, DF, DG, DH, DI, DJ, DK, DL, DM, DN, DO, DP, DQ, DR, DS, DT, DU, St.kill, St.app, St.forget, St.newOK, DW, DX, DY, St.unseen, DZ, E0, E1, E3, E5, E6, E7, E8, E9, EA, EB, EC, Value.cells, Value.oneCell', ED, EE, EF, EG, EH, EJ, EK, EL, id, EM, EN, EO, EP, EQ, ER, ES, ET, EU, EV, EW, EX, EY, EZ, F0, F1, F3, F4, F5, F6, F7, F8, F9, FA, reduceCtorEq, ↓reduceIte, Nat.reduceEqDiff, Nat.reduceAdd, Nat.reduceLT, Nat.reduceLeDiff, Nat.reduceBEq, FB, Nat.reduceMul, FC, FD, FE, FF, FG, FH, FI, if_true, if_false, FL, FM, FN, FO, FP, FQ, FR, FS, FT, FU, FV, decide_true, decide_false, FY, FZ, G0, G1]

def onV (l : List ByteArray) (args : List V) : Option (List RV) :=
  match args with
  | [_, .v p, .v n] => some [.v (.bool (onN l (p1 p) (p2 p) (iv n)))]
  | _ => none

end Go.Ab
