/- The law WordRuns, walked. -/
import Derived.Test.Ytogmnhebobdokaa86
set_option linter.unusedVariables false
set_option linter.unusedSimpArgs false
namespace Go.Ab
open Go Go.RowKit Go.Proofs

def atR (L : List (Nat × Nat)) : Nat → Nat
  | 0 => 0
  | i + 1 => (L.getD i (0, 0)).2
theorem atR_eq {L : List (Nat × Nat)} {b i : Nat} {s : Nat × Nat} (h : Chain 0 L b) (hs : L[i]? = some s) : atR L i = s.1 := by
  cases i with
  | zero => exact (h.first hs).symm
  | succ i =>
    obtain ⟨q, hq⟩ := get_of (show i < L.length by have := get_lt hs; omega)
    rw [atR, getD_some hq, h.next hq hs]
theorem atR_end {L : List (Nat × Nat)} {b : Nat} (h : Chain 0 L b) : atR L L.length = b := by
  cases hL : L.length with
  | zero =>
    rw [List.length_eq_zero_iff] at hL
    subst hL
    exact h
  | succ n =>
    obtain ⟨q, hq⟩ := get_of (show n < L.length by omega)
    rw [atR, getD_some hq]
    exact h.last (by rw [hL]; exact hq)

def Gwq (s : ByteArray) (big : Bool) (f : FuncId) (args : List V) : Option (List RV) :=
  if f = 25 then some [.v (.bool true)]
  else if f = 27 then some [.row (seqRow (runX (wrdL s big)))]
  else if f = 28 then some [.row (runRow (wrdL s big))]
  else if f = 26 then (match args with | [_, .v n] => some [.row (runRow ((wrdL s big).take (iv n).toNat)), .v (.bool true)] | _ => none)
  else if f = 29 then some [.v (.bool true)] else none

set_option maxRecDepth 100000 in
set_option maxHeartbeats 4000000 in
theorem law_WordRuns (s : ByteArray) (hw : s.size ≤ 4611686018427387904) (big : Bool) (m : Nat) (hm : m < 256) :
    CallOK Try.prog 6 [.v (.string s), .v (.bool big), .v (.int .u8 m)] [none, none, none] [.v (.bool true)] := by
  refine callOK_of_awp (c := cx (Gwq s big) 91) (cx_ok _ _) Try.func6 (by kernel_rfl) rfl rfl (by simp [cx]) (by simp [sizesOK]) (awk_of ?_)
  rcases d : decide (300 < (s.size : Int)) with _ | _
  · have hs : s.size ≤ 300 := by have := of_decide_eq_false d; omega
    have hL : (wrdL s big).length ≤ 300 := Nat.le_trans (wrdL_len _ _) hs
    have hch := wrdL_chain s big
    have hall : (wrdL s big).take 1000 = wrdL s big := List.take_of_length_le (by omega)
    have hm10 : IntKind.i64.wrap ((m : Int).tmod 9) = ((m % 9 : Nat) : Int) := by
      have : (m : Int).tmod 9 = ((m % 9 : Nat) : Int) := by rw [Int.tmod_eq_emod_of_nonneg (by omega)]; omega
      rw [this, w64 (by omega) (by omega)]
    have hm11 : IntKind.i64.wrap (((m % 9 : Nat) : Int) + 1) = ((m % 9 + 1 : Nat) : Int) := by rw [w64 (by omega) (by omega)]; omega
    have hk10 : 1 ≤ m % 9 + 1 ∧ m % 9 + 1 ≤ 9 := by omega
    generalize m % 9 + 1 = K at hm11 hk10
    have s5 : (1000 : Int).toNat = 1000 := rfl
    have z10 : ((9 : Int) ≠ 0) = True := by simp
    have hqp := word_Runs s (by omega) big
    have hrp := ref_Runs s (by omega) big
    have p2' := (law15_heard (wrdL s big) (by omega) 1000 (by omega) (by omega) 23).row (S := { seqRow (runX (wrdL s big)) with new := true }) rfl rfl (fun _ _ => rfl)
    have p3' := (law15_heard (wrdL s big) (by omega) K (by omega) (by omega) 37).row (S := { seqRow (runX (wrdL s big)) with new := true }) rfl rfl (fun _ _ => rfl)
    rw [s5, hall] at p2'
    rw [Int.toNat_natCast] at p3'
    have hlt : ((wrdL s big).take K).length ≤ 48000 := by rw [List.length_take]; omega
    simp (config := {maxSteps := 4000000}) only [Try.f6, Gwq, iv, runRow, seqRow, d, s5, hall, hm10, hm11, z10, G2, G3, G4, ↓ZX, ↓ZY, ZZ, Nat.reduceBNe, A0, A1, Int.reduceLE, Int.reduceLT, A6, A7, A8, A9, AA, AB, AC, AD, AE, AF, AG, AH, AI, AJ, AK, AL, AM, AN, AO, AP, AQ, AR, AS, AT, AU, AV, AX, AY, AZ, B0, B1, B3, B4, B5, B6, B7, B8, B9, BA, BB, BC, BD, BE, BF, BG, BH, BI, BJ, BK, BL, BM, BN, BO, BP, BQ, BR, BS, BT, BU, BV, BW, BX, BY, BZ, C0, C1, C2, C3, C4, C5, C6, C7, C8, C9, CA, CB, CC, CD, CE, CF, CG, CH, CI, CJ, CK, CL, CM, CN, CO, CP, CQ, CR, CS, CT, CU, CV, CW, CX, CY, CZ, D0, D1, D2, D3, D4, D5, D6, D7, DV.isSl, DV.isStr, DV.isBool, D8, D9, DA, DV.agg, DB, DC, DD, DE, DF, DG, DH, DI, DJ, DK, DL, DM, DN, DO, DP, DQ, DR, DS, DT, DU, St.kill, St.app, St.forget, St.newOK, DW, DX, DY, St.unseen, DZ, E0, E1, E3, E5, E6, E7, E8, E9, EA, EB, EC, Value.cells, Value.oneCell', ED, EE, EF, EG, EH, EJ, EK, EL, id, EM, EN, EO, EP, EQ, ER, ES, ET, EU, EV, EW, EX, EY, EZ, F0, F1, F3, F4, F5, F6, F7, F8, F9, FA, reduceCtorEq, ↓reduceIte, Nat.reduceEqDiff, Nat.reduceAdd, Nat.reduceLT, Nat.reduceLeDiff, Nat.reduceBEq, FB, Nat.reduceMul, FC, FD, FE, FF, FG, FH, FI, if_true, if_false, FL, FM, FN, FO, FP, FQ, FR, FS, FT, FU, FV, decide_true, decide_false, FY, FZ, G0, G1]
    refine ⟨law15_known, ⟨hqp, p2'⟩, hrp, ⟨hqp, p3'⟩, ?_⟩
    clear hqp hrp p2' p3'
    have pl1 := (law15_same (wrdL s big) (by omega) 24 29).row (S := { runRow (wrdL s big) with new := true }) rfl rfl (fun _ _ => rfl)
    have pl1' := pl1.row2 (S := { runRow (wrdL s big) with new := true }) rfl rfl (fun _ _ => rfl)
    have pl2 := (law15_same ((wrdL s big).take K) hlt 39 29).row (S := { runRow ((wrdL s big).take K) with new := true }) rfl rfl (fun _ _ => rfl)
    generalize wrdL s big = L at *
    refine AWL_loop (cx_ok _ _) (fun i : Nat => ⟨[(0, .v (.string s)), (7, .r 24), (8, .v (.bool true)), (9, .r 29), (10, .v (i64 K)), (11, .r 39), (13, .v (i64 (atR L i : Nat))), (14, .v (i64 i))], [],
        [(24, some { runRow L with new := true }), (29, some { runRow L with new := true }), (39, some { runRow (L.take K) with new := true })]⟩)
      (fun i => i ≤ L.length) (fun i => L.length - i) 0 ?_ (by omega) ?_
    · simp (config := {maxSteps := 4000000}) only [runRow, atR, G2, G3, G4, ↓ZX, ↓ZY, ZZ, Nat.reduceBNe, A0, A1, Int.reduceLE, Int.reduceLT, A6, A7, A8, A9, AA, AB, AC, AD, AE, AF, AG, AH, AI, AJ, AK, AL, AM, AN, AO, AP, AQ, AR, AS, AT, AU, AV, AX, AY, AZ, B0, B1, B3, B4, B5, B6, B7, B8, B9, BA, BB, BC, BD, BE, BF, BG, BH, BI, BJ, BK, BL, BM, BN, BO, BP, BQ, BR, BS, BT, BU, BV, BW, BX, BY, BZ, C0, C1, C2, C3, C4, C5, C6, C7, C8, C9, CA, CB, CC, CD, CE, CF, CG, CH, CI, CJ, CK, CL, CM, CN, CO, CP, CQ, CR, CS, CT, CU, CV, CW, CX, CY, CZ, D0, D1, D2, D3, D4, D5, D6, D7, DV.isSl, DV.isStr, DV.isBool, D8, D9, DA, DV.agg, DB, DC, DD, DE, DF, DG, DH, DI, DJ, DK, DL, DM, DN, DO, DP, DQ, DR, DS, DT, DU, St.kill, St.app, St.forget, St.newOK, DW, DX, DY, St.unseen, DZ, E0, E1, E3, E5, E6, E7, E8, E9, EA, EB, EC, Value.cells, Value.oneCell', ED, EE, EF, EG, EH, EJ, EK, EL, id, EM, EN, EO, EP, EQ, ER, ES, ET, EU, EV, EW, EX, EY, EZ, F0, F1, F3, F4, F5, F6, F7, F8, F9, FA, reduceCtorEq, ↓reduceIte, Nat.reduceEqDiff, Nat.reduceAdd, Nat.reduceLT, Nat.reduceLeDiff, Nat.reduceBEq, FB, Nat.reduceMul, FC, FD, FE, FF, FG, FH, FI, if_true, if_false, FL, FM, FN, FO, FP, FQ, FR, FS, FT, FU, FV, decide_true, decide_false, FY, FZ, G0, G1]
      all_goals simp
    · rintro i hi R hN hR hE
      by_cases hil : i < L.length
      · obtain ⟨p, hp⟩ : ∃ p, L[i]? = some p := ⟨_, List.getElem?_eq_getElem hil⟩
        have hpd : L.getD i (0, 0) = p := by rw [List.getD_eq_getElem?_getD, hp]; rfl
        have d : decide ((i : Int) < (L.length : Int)) = true := decide_eq_true (by omega)
        have ei : IntKind.i64.wrap ((i : Int) + 1) = ((i + 1 : Nat) : Int) := by rw [w64 (by omega) (by omega)]; omega
        have hat := atR_eq hch hp
        have hnx : atR L (i + 1) = p.2 := by rw [atR, hpd]
        have hgo := (hch.get hp).2.1
        have e : decide ((p.2 : Int) ≤ (p.1 : Int)) = false := decide_eq_false (by omega)
        simp (config := {maxSteps := 4000000}) only [runRow, d, e, hpd, hat, bne, beq_self_eq_true, G2, G3, G4, ↓ZX, ↓ZY, ZZ, Nat.reduceBNe, A0, A1, Int.reduceLE, Int.reduceLT, A6, A7, A8, A9, AA, AB, AC, AD, AE, AF, AG, AH, AI, AJ, AK, AL, AM, AN, AO, AP, AQ, AR, AS, AT, AU, AV, AX, AY, AZ, B0, B1, B3, B4, B5, B6, B7, B8, B9, BA, BB, BC, BD, BE, BF, BG, BH, BI, BJ, BK, BL, BM, BN, BO, BP, BQ, BR, BS, BT, BU, BV, BW, BX, BY, BZ, C0, C1, C2, C3, C4, C5, C6, C7, C8, C9, CA, CB, CC, CD, CE, CF, CG, CH, CI, CJ, CK, CL, CM, CN, CO, CP, CQ, CR, CS, CT, CU, CV, CW, CX, CY, CZ, D0, D1, D2, D3, D4, D5, D6, D7, DV.isSl, DV.isStr, DV.isBool, D8, D9, DA, DV.agg, DB, DC, DD, DE, DF, DG, DH, DI, DJ, DK, DL, DM, DN, DO, DP, DQ, DR, DS, DT, DU, St.kill, St.app, St.forget, St.newOK, DW, DX, DY, St.unseen, DZ, E0, E1, E3, E5, E6, E7, E8, E9, EA, EB, EC, Value.cells, Value.oneCell', ED, EE, EF, EG, EH, EJ, EK, EL, id, EM, EN, EO, EP, EQ, ER, ES, ET, EU, EV, EW, EX, EY, EZ, F0, F1, F3, F4, F5, F6, F7, F8, F9, FA, reduceCtorEq, ↓reduceIte, Nat.reduceEqDiff, Nat.reduceAdd, Nat.reduceLT, Nat.reduceLeDiff, Nat.reduceBEq, FB, Nat.reduceMul, FC, FD, FE, FF, FG, FH, FI, if_true, if_false, FL, FM, FN, FO, FP, FQ, FR, FS, FT, FU, FV, decide_true, decide_false, FY, FZ, G0, G1]
        repeat' (first | with_reducible apply And.intro)
        any_goals first | omega | (kernel_rfl; done)
        refine hN _ ⟨i + 1, by omega, by dsimp only; omega, ?_⟩
        simp (config := {maxSteps := 4000000}) only [runRow, ei, hnx, G2, G3, G4, ↓ZX, ↓ZY, ZZ, Nat.reduceBNe, A0, A1, Int.reduceLE, Int.reduceLT, A6, A7, A8, A9, AA, AB, AC, AD, AE, AF, AG, AH, AI, AJ, AK, AL, AM, AN, AO, AP, AQ, AR, AS, AT, AU, AV, AX, AY, AZ, B0, B1, B3, B4, B5, B6, B7, B8, B9, BA, BB, BC, BD, BE, BF, BG, BH, BI, BJ, BK, BL, BM, BN, BO, BP, BQ, BR, BS, BT, BU, BV, BW, BX, BY, BZ, C0, C1, C2, C3, C4, C5, C6, C7, C8, C9, CA, CB, CC, CD, CE, CF, CG, CH, CI, CJ, CK, CL, CM, CN, CO, CP, CQ, CR, CS, CT, CU, CV, CW, CX, CY, CZ, D0, D1, D2, D3, D4, D5, D6, D7, DV.isSl, DV.isStr, DV.isBool, D8, D9, DA, DV.agg, DB, DC, DD, DE, DF, DG, DH, DI, DJ, DK, DL, DM, DN, DO, DP, DQ, DR, DS, DT, DU, St.kill, St.app, St.forget, St.newOK, DW, DX, DY, St.unseen, DZ, E0, E1, E3, E5, E6, E7, E8, E9, EA, EB, EC, Value.cells, Value.oneCell', ED, EE, EF, EG, EH, EJ, EK, EL, id, EM, EN, EO, EP, EQ, ER, ES, ET, EU, EV, EW, EX, EY, EZ, F0, F1, F3, F4, F5, F6, F7, F8, F9, FA, reduceCtorEq, ↓reduceIte, Nat.reduceEqDiff, Nat.reduceAdd, Nat.reduceLT, Nat.reduceLeDiff, Nat.reduceBEq, FB, Nat.reduceMul, FC, FD, FE, FF, FG, FH, FI, if_true, if_false, FL, FM, FN, FO, FP, FQ, FR, FS, FT, FU, FV, decide_true, decide_false, FY, FZ, G0, G1]
        all_goals simp
      · have d : decide ((i : Int) < (L.length : Int)) = false := decide_eq_false (by omega)
        obtain rfl : i = L.length := by omega
        have hend := atR_end hch
        simp (config := {maxSteps := 4000000}) only [runRow, d, G2, G3, G4, ↓ZX, ↓ZY, ZZ, Nat.reduceBNe, A0, A1, Int.reduceLE, Int.reduceLT, A6, A7, A8, A9, AA, AB, AC, AD, AE, AF, AG, AH, AI, AJ, AK, AL, AM, AN, AO, AP, AQ, AR, AS, AT, AU, AV, AX, AY, AZ, B0, B1, B3, B4, B5, B6, B7, B8, B9, BA, BB, BC, BD, BE, BF, BG, BH, BI, BJ, BK, BL, BM, BN, BO, BP, BQ, BR, BS, BT, BU, BV, BW, BX, BY, BZ, C0, C1, C2, C3, C4, C5, C6, C7, C8, C9, CA, CB, CC, CD, CE, CF, CG, CH, CI, CJ, CK, CL, CM, CN, CO, CP, CQ, CR, CS, CT, CU, CV, CW, CX, CY, CZ, D0, D1, D2, D3, D4, D5, D6, D7, DV.isSl, DV.isStr, DV.isBool, D8, D9, DA, DV.agg, DB, DC, DD, DE, DF, DG, DH, DI, DJ, DK, DL, DM, DN, DO, DP, DQ, DR, DS, DT, DU, St.kill, St.app, St.forget, St.newOK, DW, DX, DY, St.unseen, DZ, E0, E1, E3, E5, E6, E7, E8, E9, EA, EB, EC, Value.cells, Value.oneCell', ED, EE, EF, EG, EH, EJ, EK, EL, id, EM, EN, EO, EP, EQ, ER, ES, ET, EU, EV, EW, EX, EY, EZ, F0, F1, F3, F4, F5, F6, F7, F8, F9, FA, reduceCtorEq, ↓reduceIte, Nat.reduceEqDiff, Nat.reduceAdd, Nat.reduceLT, Nat.reduceLeDiff, Nat.reduceBEq, FB, Nat.reduceMul, FC, FD, FE, FF, FG, FH, FI, if_true, if_false, FL, FM, FN, FO, FP, FQ, FR, FS, FT, FU, FV, decide_true, decide_false, FY, FZ, G0, G1]
        refine hE _ _ ?_
        by_cases hmn : (L.length : Int) < (K : Int)
        · have e2 : L.take K = L := List.take_of_length_le (by omega)
          have pl2' := pl2.row2 (S := { runRow L with new := true }) rfl (by show L.length = (L.take K).length; rw [e2]) (fun i h => by rw [e2])
          simp (config := {maxSteps := 4000000}) only [Gwq, runRow, hend, eq_true hmn, beq_self_eq_true, G2, G3, G4, ↓ZX, ↓ZY, ZZ, Nat.reduceBNe, A0, A1, Int.reduceLE, Int.reduceLT, A6, A7, A8, A9, AA, AB, AC, AD, AE, AF, AG, AH, AI, AJ, AK, AL, AM, AN, AO, AP, AQ, AR, AS, AT, AU, AV, AX, AY, AZ, B0, B1, B3, B4, B5, B6, B7, B8, B9, BA, BB, BC, BD, BE, BF, BG, BH, BI, BJ, BK, BL, BM, BN, BO, BP, BQ, BR, BS, BT, BU, BV, BW, BX, BY, BZ, C0, C1, C2, C3, C4, C5, C6, C7, C8, C9, CA, CB, CC, CD, CE, CF, CG, CH, CI, CJ, CK, CL, CM, CN, CO, CP, CQ, CR, CS, CT, CU, CV, CW, CX, CY, CZ, D0, D1, D2, D3, D4, D5, D6, D7, DV.isSl, DV.isStr, DV.isBool, D8, D9, DA, DV.agg, DB, DC, DD, DE, DF, DG, DH, DI, DJ, DK, DL, DM, DN, DO, DP, DQ, DR, DS, DT, DU, St.kill, St.app, St.forget, St.newOK, DW, DX, DY, St.unseen, DZ, E0, E1, E3, E5, E6, E7, E8, E9, EA, EB, EC, Value.cells, Value.oneCell', ED, EE, EF, EG, EH, EJ, EK, EL, id, EM, EN, EO, EP, EQ, ER, ES, ET, EU, EV, EW, EX, EY, EZ, F0, F1, F3, F4, F5, F6, F7, F8, F9, FA, reduceCtorEq, ↓reduceIte, Nat.reduceEqDiff, Nat.reduceAdd, Nat.reduceLT, Nat.reduceLeDiff, Nat.reduceBEq, FB, Nat.reduceMul, FC, FD, FE, FF, FG, FH, FI, if_true, if_false, FL, FM, FN, FO, FP, FQ, FR, FS, FT, FU, FV, decide_true, decide_false, FY, FZ, G0, G1]
          refine ⟨pl1', ⟨by omega, by omega⟩, by omega, pl2'⟩
        · have e1 : (L.take K).length = K := by rw [List.length_take]; omega
          have pl2' := pl2.row2 (S := { runRow L with new := true, len := K }) rfl (by show K = (L.take K).length; exact e1.symm) (fun i h => by
            have h' : i < K := by have : i < (L.take K).length := h; omega
            have : (L.take K).getD i (0, 0) = L.getD i (0, 0) := by rw [List.getD_eq_getElem?_getD, List.getD_eq_getElem?_getD, List.getElem?_take, if_pos h']
            simp only [runRow, Int.toNat_natCast, this])
          simp (config := {maxSteps := 4000000}) only [Gwq, runRow, hend, eq_false hmn, beq_self_eq_true, G2, G3, G4, ↓ZX, ↓ZY, ZZ, Nat.reduceBNe, A0, A1, Int.reduceLE, Int.reduceLT, A6, A7, A8, A9, AA, AB, AC, AD, AE, AF, AG, AH, AI, AJ, AK, AL, AM, AN, AO, AP, AQ, AR, AS, AT, AU, AV, AX, AY, AZ, B0, B1, B3, B4, B5, B6, B7, B8, B9, BA, BB, BC, BD, BE, BF, BG, BH, BI, BJ, BK, BL, BM, BN, BO, BP, BQ, BR, BS, BT, BU, BV, BW, BX, BY, BZ, C0, C1, C2, C3, C4, C5, C6, C7, C8, C9, CA, CB, CC, CD, CE, CF, CG, CH, CI, CJ, CK, CL, CM, CN, CO, CP, CQ, CR, CS, CT, CU, CV, CW, CX, CY, CZ, D0, D1, D2, D3, D4, D5, D6, D7, DV.isSl, DV.isStr, DV.isBool, D8, D9, DA, DV.agg, DB, DC, DD, DE, DF, DG, DH, DI, DJ, DK, DL, DM, DN, DO, DP, DQ, DR, DS, DT, DU, St.kill, St.app, St.forget, St.newOK, DW, DX, DY, St.unseen, DZ, E0, E1, E3, E5, E6, E7, E8, E9, EA, EB, EC, Value.cells, Value.oneCell', ED, EE, EF, EG, EH, EJ, EK, EL, id, EM, EN, EO, EP, EQ, ER, ES, ET, EU, EV, EW, EX, EY, EZ, F0, F1, F3, F4, F5, F6, F7, F8, F9, FA, reduceCtorEq, ↓reduceIte, Nat.reduceEqDiff, Nat.reduceAdd, Nat.reduceLT, Nat.reduceLeDiff, Nat.reduceBEq, FB, Nat.reduceMul, FC, FD, FE, FF, FG, FH, FI, if_true, if_false, FL, FM, FN, FO, FP, FQ, FR, FS, FT, FU, FV, decide_true, decide_false, FY, FZ, G0, G1]
          refine ⟨pl1', ⟨by omega, by omega⟩, by omega, pl2'⟩
  · simp (config := {maxSteps := 4000000}) only [Try.f6, Gwq, d, G2, G3, G4, ↓ZX, ↓ZY, ZZ, Nat.reduceBNe, A0, A1, Int.reduceLE, Int.reduceLT, A6, A7, A8, A9, AA, AB, AC, AD, AE, AF, AG, AH, AI, AJ, AK, AL, AM, AN, AO, AP, AQ, AR, AS, AT, AU, AV, AX, AY, AZ, B0, B1, B3, B4, B5, B6, B7, B8, B9, BA, BB, BC, BD, BE, BF, BG, BH, BI, BJ, BK, BL, BM, BN, BO, BP, BQ, BR, BS, BT, BU, BV, BW, BX, BY, BZ, C0, C1, C2, C3, C4, C5, C6, C7, C8, C9, CA, CB, CC, CD, CE, CF, CG, CH, CI, CJ, CK, CL, CM, CN, CO, CP, CQ, CR, CS, CT, CU, CV, CW, CX, CY, CZ, D0, D1, D2, D3, D4, D5, D6, D7, DV.isSl, DV.isStr, DV.isBool, D8, D9, DA, DV.agg, DB, DC, DD, DE, DF, DG, DH, DI, DJ, DK, DL, DM, DN, DO, DP, DQ, DR, DS, DT, DU, St.kill, St.app, St.forget, St.newOK, DW, DX, DY, St.unseen, DZ, E0, E1, E3, E5, E6, E7, E8, E9, EA, EB, EC, Value.cells, Value.oneCell', ED, EE, EF, EG, EH, EJ, EK, EL, id, EM, EN, EO, EP, EQ, ER, ES, ET, EU, EV, EW, EX, EY, EZ, F0, F1, F3, F4, F5, F6, F7, F8, F9, FA, reduceCtorEq, ↓reduceIte, Nat.reduceEqDiff, Nat.reduceAdd, Nat.reduceLT, Nat.reduceLeDiff, Nat.reduceBEq, FB, Nat.reduceMul, FC, FD, FE, FF, FG, FH, FI, if_true, if_false, FL, FM, FN, FO, FP, FQ, FR, FS, FT, FU, FV, decide_true, decide_false, FY, FZ, G0, G1]
    exact law15_known

end Go.Ab
