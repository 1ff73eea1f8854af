/- Contracts: blocks as objects. -/
import Derived.Test.Ytogmnhebobdokac36
import Derived.Test.Ytogmnhebobdokac54
import Derived.Test.YtogmnhebobdokacBy
import Derived.Test.YtogmnhebobdokacRw
set_option linter.unusedVariables false
set_option linter.unusedSimpArgs false
namespace Go.Ab
open Go Go.RowKit Go.Proofs

def begL (L : List (Nat × Nat)) : List Nat := 0 :: L.map (·.2)
theorem begL_len (L : List (Nat × Nat)) : (begL L).length = L.length + 1 := by simp [begL]
theorem begL_take {L : List (Nat × Nat)} {i : Nat} {p : Nat × Nat} (h : L[i]? = some p) : begL (L.take (i + 1)) = begL (L.take i) ++ [p.2] := by
  obtain ⟨hlt, he⟩ := List.getElem?_eq_some_iff.1 h
  rw [begL, List.take_succ_eq_append_getElem hlt, he]
  simp [begL]
theorem begL_succ (L : List (Nat × Nat)) (i : Nat) : (begL L).getD (i + 1) 0 = (L.getD i (0, 0)).2 := by
  rw [begL, List.getD_cons_succ, List.getD_eq_getElem?_getD, List.getD_eq_getElem?_getD, List.getElem?_map]
  cases L[i]? <;> rfl
theorem begL_at {L : List (Nat × Nat)} {b k : Nat} (h : Chain 0 L b) (hk : k < L.length) : (begL L).getD k 0 = (L.getD k (0, 0)).1 := by
  obtain ⟨p, hp⟩ := get_of hk
  rw [getD_some hp]
  cases k with
  | zero =>
    have := h.first hp
    rw [this]; rfl
  | succ k =>
    obtain ⟨q, hq⟩ := get_of (show k < L.length by omega)
    rw [begL_succ, getD_some hq, h.next hq hp]

theorem blkL_chain (l : List ByteArray) : Chain 0 (blkL l) l.length := runsL_chain _ _
theorem blkL_len (l : List ByteArray) : (blkL l).length ≤ l.length := runsL_len _ _

/-- The number of the block that line a is in. -/
def blkK (l : List ByteArray) (a : Int) : Nat := lastI (blkL l) a (blkL l).length
/-- No count, or no place of a byte. -/
def blkF (l : List ByteArray) (a b n : Int) : Bool := bif decide (n < 1) then true else !onB l a b
theorem blkF_no {l : List ByteArray} {a b n : Int} (h : blkF l a b n = false) : decide (n < 1) = false ∧ onB l a b = true := by
  unfold blkF at h
  cases h1 : decide (n < 1) <;> simp_all
def blkV (l : List ByteArray) (args : List V) : Option (List RV) :=
  match args with
  | [_, .v p, .v n] => if blkF l (p1 p) (p2 p) (iv n) = true then some [.v (.slice none 0 0), .v (i64 0), .v (.bool false)] else some [.row (natRow (begL (blkL l))), .v (i64 (blkK l (p1 p))), .v (.bool true)]
  | _ => none

def Gpk (l : List ByteArray) (f : FuncId) (args : List V) : Option (List RV) :=
  if f = 13 then byteV l args else if f = 25 then (match args with | [_] => some [.row (seqRow (runX (blkL l)))] | _ => none) else none
set_option maxRecDepth 100000 in
set_option maxHeartbeats 2000000 in
theorem obj_blocks_no (l : List ByteArray) (a b n : Int) (h : blkF l a b n = true) (k : Nat) : CallOK Try.prog 18 [.r k, .v (pos a b), .v (i64 n)] [some (EC l), none, none] [.v (.slice none 0 0), .v (i64 0), .v (.bool false)] := by
  refine callOK_of_awp (c := cx (Gpk l) 39) (cx_ok _ _) Try.func18 (by kernel_rfl) rfl rfl (by simp [cx]) (by simp [sizesOK, EC]) (awk_of ?_)
  have hby := class_Byte l a b 0
  rcases h1 : decide (n < 1) with _ | _
  · have h2 : onB l a b = false := by unfold blkF at h; rw [h1] at h; simpa using h
    rw [h2] at hby
    simp (config := {maxSteps := 4000000}) only [Try.f18, Gpk, byteV, iv, p1, p2, h1, h2, G2, G3, G4, ↓ZX, ↓ZY, ZZ, Nat.reduceBNe, A0, A1, Int.reduceLE, Int.reduceLT, A6, A7, A8, A9, AA, AB, AC, AD, AE, AF, AG, AH, AI, AJ, AK, AL, AM, AN, AO, AP, AQ, AR, AS, AT, AU, AV, AX, AY, AZ, B0, B1, B3, B4, B5, B6, B7, B8, B9, BA, BB, BC, BD, BE, BF, BG, BH, BI, BJ, BK, BL, BM, BN, BO, BP, BQ, BR, BS, BT, BU, BV, BW, BX, BY, BZ, C0, C1, C2, C3, C4, C5, C6, C7, C8, C9, CA, CB, CC, CD, CE, CF, CG, CH, CI, CJ, CK, CL, CM, CN, CO, CP, CQ, CR, CS, CT, CU, CV, CW, CX, CY, CZ, D0, D1, D2, D3, D4, D5, D6, D7, DV.isSl, DV.isStr, DV.isBool, D8, D9, DA, DV.agg, DB, DC, DD, DE, DF, DG, DH, DI, DJ, DK, DL, DM, DN, DO, DP, DQ, DR, DS, DT, DU, St.kill, St.app, St.forget, St.newOK, DW, DX, DY, St.unseen, DZ, E0, E1, E3, E5, E6, E7, E8, E9, EA, EB, EC, Value.cells, Value.oneCell', ED, EE, EF, EG, EH, EJ, EK, EL, id, EM, EN, EO, EP, EQ, ER, ES, ET, EU, EV, EW, EX, EY, EZ, F0, F1, F3, F4, F5, F6, F7, F8, F9, FA, reduceCtorEq, ↓reduceIte, Nat.reduceEqDiff, Nat.reduceAdd, Nat.reduceLT, Nat.reduceLeDiff, Nat.reduceBEq, FB, Nat.reduceMul, FC, FD, FE, FF, FG, FH, FI, if_true, if_false, FL, FM, FN, FO, FP, FQ, FR, FS, FT, FU, FV, decide_true, decide_false, FY, FZ, G0, G1]
    exact hby
  · simp (config := {maxSteps := 4000000}) only [Try.f18, Gpk, byteV, iv, p1, p2, h1, G2, G3, G4, ↓ZX, ↓ZY, ZZ, Nat.reduceBNe, A0, A1, Int.reduceLE, Int.reduceLT, A6, A7, A8, A9, AA, AB, AC, AD, AE, AF, AG, AH, AI, AJ, AK, AL, AM, AN, AO, AP, AQ, AR, AS, AT, AU, AV, AX, AY, AZ, B0, B1, B3, B4, B5, B6, B7, B8, B9, BA, BB, BC, BD, BE, BF, BG, BH, BI, BJ, BK, BL, BM, BN, BO, BP, BQ, BR, BS, BT, BU, BV, BW, BX, BY, BZ, C0, C1, C2, C3, C4, C5, C6, C7, C8, C9, CA, CB, CC, CD, CE, CF, CG, CH, CI, CJ, CK, CL, CM, CN, CO, CP, CQ, CR, CS, CT, CU, CV, CW, CX, CY, CZ, D0, D1, D2, D3, D4, D5, D6, D7, DV.isSl, DV.isStr, DV.isBool, D8, D9, DA, DV.agg, DB, DC, DD, DE, DF, DG, DH, DI, DJ, DK, DL, DM, DN, DO, DP, DQ, DR, DS, DT, DU, St.kill, St.app, St.forget, St.newOK, DW, DX, DY, St.unseen, DZ, E0, E1, E3, E5, E6, E7, E8, E9, EA, EB, EC, Value.cells, Value.oneCell', ED, EE, EF, EG, EH, EJ, EK, EL, id, EM, EN, EO, EP, EQ, ER, ES, ET, EU, EV, EW, EX, EY, EZ, F0, F1, F3, F4, F5, F6, F7, F8, F9, FA, reduceCtorEq, ↓reduceIte, Nat.reduceEqDiff, Nat.reduceAdd, Nat.reduceLT, Nat.reduceLeDiff, Nat.reduceBEq, FB, Nat.reduceMul, FC, FD, FE, FF, FG, FH, FI, if_true, if_false, FL, FM, FN, FO, FP, FQ, FR, FS, FT, FU, FV, decide_true, decide_false, FY, FZ, G0, G1]

set_option maxRecDepth 100000 in
set_option maxHeartbeats 2000000 in
theorem obj_blocks (l : List ByteArray) (hf : Fit l) (a b n : Int) (h : blkF l a b n = false) (k : Nat) : CallOK Try.prog 18 [.r k, .v (pos a b), .v (i64 n)] [some (EC l), none, none] [.row (natRow (begL (blkL l))), .v (i64 (blkK l a)), .v (.bool true)] := by
  refine callOK_of_awp (c := cx (Gpk l) 39) (cx_ok _ _) Try.func18 (by kernel_rfl) rfl rfl (by simp [cx]) (by simp [sizesOK, EC]) (awk_of ?_)
  have hby := class_Byte l a b 0
  obtain ⟨h1, h2⟩ := blkF_no h
  rw [h2] at hby
  have hbl := paraobj_Blocks l hf 0
  have hl := hf.1
  have hbn := blkL_len l
  simp (config := {maxSteps := 4000000}) only [Try.f18, Gpk, byteV, seqRow, iv, p1, p2, h1, h2, G2, G3, G4, ↓ZX, ↓ZY, ZZ, Nat.reduceBNe, A0, A1, Int.reduceLE, Int.reduceLT, A6, A7, A8, A9, AA, AB, AC, AD, AE, AF, AG, AH, AI, AJ, AK, AL, AM, AN, AO, AP, AQ, AR, AS, AT, AU, AV, AX, AY, AZ, B0, B1, B3, B4, B5, B6, B7, B8, B9, BA, BB, BC, BD, BE, BF, BG, BH, BI, BJ, BK, BL, BM, BN, BO, BP, BQ, BR, BS, BT, BU, BV, BW, BX, BY, BZ, C0, C1, C2, C3, C4, C5, C6, C7, C8, C9, CA, CB, CC, CD, CE, CF, CG, CH, CI, CJ, CK, CL, CM, CN, CO, CP, CQ, CR, CS, CT, CU, CV, CW, CX, CY, CZ, D0, D1, D2, D3, D4, D5, D6, D7, DV.isSl, DV.isStr, DV.isBool, D8, D9, DA, DV.agg, DB, DC, DD, DE, DF, DG, DH, DI, DJ, DK, DL, DM, DN, DO, DP, DQ, DR, DS, DT, DU, St.kill, St.app, St.forget, St.newOK, DW, DX, DY, St.unseen, DZ, E0, E1, E3, E5, E6, E7, E8, E9, EA, EB, EC, Value.cells, Value.oneCell', ED, EE, EF, EG, EH, EJ, EK, EL, id, EM, EN, EO, EP, EQ, ER, ES, ET, EU, EV, EW, EX, EY, EZ, F0, F1, F3, F4, F5, F6, F7, F8, F9, FA, reduceCtorEq, ↓reduceIte, Nat.reduceEqDiff, Nat.reduceAdd, Nat.reduceLT, Nat.reduceLeDiff, Nat.reduceBEq, FB, Nat.reduceMul, FC, FD, FE, FF, FG, FH, FI, if_true, if_false, FL, FM, FN, FO, FP, FQ, FR, FS, FT, FU, FV, decide_true, decide_false, FY, FZ, G0, G1]
  refine ⟨hby, hbl, ?_⟩
  refine AWR_into rfl rfl [.sw 1000 21] ⟨[(23, .r 23), (4, .p 4 0), (9, .p 9 0), (10, .p 10 0)], [(4, some [.v (i64 a), .v (i64 b)]), (9, some [.r 1000]), (10, some [.v (i64 (lastI (blkL l) a 0 : Nat))])], [(23, some { seqRow (runX (blkL l)) with new := true }), (1000, some { natRow (begL ((blkL l).take 0)) with own := true, new := true })]⟩ ?_ ?_
  · simp (config := {maxSteps := 4000000}) only [seqRow, natRow, lastI, List.take_zero, begL, into, G5, G6, G7, G8, G9, St.sw, GA, GB, GC, GD, sw, G2, G3, G4, ↓ZX, ↓ZY, ZZ, Nat.reduceBNe, A0, A1, Int.reduceLE, Int.reduceLT, A6, A7, A8, A9, AA, AB, AC, AD, AE, AF, AG, AH, AI, AJ, AK, AL, AM, AN, AO, AP, AQ, AR, AS, AT, AU, AV, AX, AY, AZ, B0, B1, B3, B4, B5, B6, B7, B8, B9, BA, BB, BC, BD, BE, BF, BG, BH, BI, BJ, BK, BL, BM, BN, BO, BP, BQ, BR, BS, BT, BU, BV, BW, BX, BY, BZ, C0, C1, C2, C3, C4, C5, C6, C7, C8, C9, CA, CB, CC, CD, CE, CF, CG, CH, CI, CJ, CK, CL, CM, CN, CO, CP, CQ, CR, CS, CT, CU, CV, CW, CX, CY, CZ, D0, D1, D2, D3, D4, D5, D6, D7, DV.isSl, DV.isStr, DV.isBool, D8, D9, DA, DV.agg, DB, DC, DD, DE, DF, DG, DH, DI, DJ, DK, DL, DM, DN, DO, DP, DQ, DR, DS, DT, DU, St.kill, St.app, St.forget, St.newOK, DW, DX, DY, St.unseen, DZ, E0, E1, E3, E5, E6, E7, E8, E9, EA, EB, EC, Value.cells, Value.oneCell', ED, EE, EF, EG, EH, EJ, EK, EL, id, EM, EN, EO, EP, EQ, ER, ES, ET, EU, EV, EW, EX, EY, EZ, F0, F1, F3, F4, F5, F6, F7, F8, F9, FA, reduceCtorEq, ↓reduceIte, Nat.reduceEqDiff, Nat.reduceAdd, Nat.reduceLT, Nat.reduceLeDiff, Nat.reduceBEq, FB, Nat.reduceMul, FC, FD, FE, FF, FG, FH, FI, if_true, if_false, FL, FM, FN, FO, FP, FQ, FR, FS, FT, FU, FV, decide_true, decide_false, FY, FZ, G0, G1]
    refine ⟨rfl, fun i hi => ?_⟩
    obtain rfl : i = 0 := by omega
    rfl
  · unfold blkK
    generalize blkL l = L at *
    refine AWR_range (cx_ok _ _) rfl rfl rfl rfl [4, 9, 10] (fun i => ⟨[(4, .p 4 0), (9, .p 9 0), (10, .p 10 0)], [(4, some [.v (i64 a), .v (i64 b)]), (9, some [.r 1000]), (10, some [.v (i64 (lastI L a i : Nat))])], [(1000, some { natRow (begL (L.take i)) with own := true, new := true })]⟩)
      (fun i => True) (runX L) 23 _ rfl rfl rfl ?_ (dom_of fun i => rfl) (by intro p hp; simp at hp; rcases hp with rfl | rfl <;> first | exact ⟨show 24 < 39 by decide, rfl⟩ | exact ⟨show 25 < 39 by decide, rfl⟩) ?_ rfl trivial ?_ ?_
    · simp (config := {maxSteps := 4000000}) only [natRow, G2, G3, G4, ↓ZX, ↓ZY, ZZ, Nat.reduceBNe, A0, A1, Int.reduceLE, Int.reduceLT, A6, A7, A8, A9, AA, AB, AC, AD, AE, AF, AG, AH, AI, AJ, AK, AL, AM, AN, AO, AP, AQ, AR, AS, AT, AU, AV, AX, AY, AZ, B0, B1, B3, B4, B5, B6, B7, B8, B9, BA, BB, BC, BD, BE, BF, BG, BH, BI, BJ, BK, BL, BM, BN, BO, BP, BQ, BR, BS, BT, BU, BV, BW, BX, BY, BZ, C0, C1, C2, C3, C4, C5, C6, C7, C8, C9, CA, CB, CC, CD, CE, CF, CG, CH, CI, CJ, CK, CL, CM, CN, CO, CP, CQ, CR, CS, CT, CU, CV, CW, CX, CY, CZ, D0, D1, D2, D3, D4, D5, D6, D7, DV.isSl, DV.isStr, DV.isBool, D8, D9, DA, DV.agg, DB, DC, DD, DE, DF, DG, DH, DI, DJ, DK, DL, DM, DN, DO, DP, DQ, DR, DS, DT, DU, St.kill, St.app, St.forget, St.newOK, DW, DX, DY, St.unseen, DZ, E0, E1, E3, E5, E6, E7, E8, E9, EA, EB, EC, Value.cells, Value.oneCell', ED, EE, EF, EG, EH, EJ, EK, EL, id, EM, EN, EO, EP, EQ, ER, ES, ET, EU, EV, EW, EX, EY, EZ, F0, F1, F3, F4, F5, F6, F7, F8, F9, FA, reduceCtorEq, ↓reduceIte, Nat.reduceEqDiff, Nat.reduceAdd, Nat.reduceLT, Nat.reduceLeDiff, Nat.reduceBEq, FB, Nat.reduceMul, FC, FD, FE, FF, FG, FH, FI, if_true, if_false, FL, FM, FN, FO, FP, FQ, FR, FS, FT, FU, FV, decide_true, decide_false, FY, FZ, G0, G1]
      all_goals simp
    · intro x hx
      simp only [runX, List.mem_map] at hx
      obtain ⟨s, _, rfl⟩ := hx
      rfl
    · intro i xv hxi _ R hN hR hE
      obtain ⟨s, hs, rfl⟩ : ∃ s, L[i]? = some s ∧ xv = [i64 s.1, i64 s.2] := by
        simp only [runX, List.getElem?_map] at hxi
        cases hs : L[i]? with
        | none => rw [hs] at hxi; simp at hxi
        | some s => rw [hs] at hxi; simp at hxi; exact ⟨s, rfl, hxi.symm⟩
      have hil : i < L.length := (List.getElem?_eq_some_iff.1 hs).1
      have htk := begL_take hs
      have hlen : (begL (L.take i)).length = i + 1 := by rw [begL_len, List.length_take]; omega
      have hsd : L.getD i (0, 0) = s := getD_some hs
      have em : IntKind.i64.wrap (((i + 1 : Nat) : Int) - 1) = (i : Int) := by rw [w64 (by omega) (by omega)]; omega
      rcases h3 : decide ((s.1 : Int) ≤ a) with _ | _
      · have hla : lastI L a (i + 1) = lastI L a i := by rw [lastI, hsd, if_neg (of_decide_eq_false h3)]
        simp (config := {maxSteps := 4000000}) only [iv, natRow, hlen, h3, em, GE, GF, GG, H1, H2, H4, H5, H6, H7, H8, H9, HA, St.only, HB, HC, HD, St.sw, GA, GB, GC, GD, sw, G2, G3, G4, ↓ZX, ↓ZY, ZZ, Nat.reduceBNe, A0, A1, Int.reduceLE, Int.reduceLT, A6, A7, A8, A9, AA, AB, AC, AD, AE, AF, AG, AH, AI, AJ, AK, AL, AM, AN, AO, AP, AQ, AR, AS, AT, AU, AV, AX, AY, AZ, B0, B1, B3, B4, B5, B6, B7, B8, B9, BA, BB, BC, BD, BE, BF, BG, BH, BI, BJ, BK, BL, BM, BN, BO, BP, BQ, BR, BS, BT, BU, BV, BW, BX, BY, BZ, C0, C1, C2, C3, C4, C5, C6, C7, C8, C9, CA, CB, CC, CD, CE, CF, CG, CH, CI, CJ, CK, CL, CM, CN, CO, CP, CQ, CR, CS, CT, CU, CV, CW, CX, CY, CZ, D0, D1, D2, D3, D4, D5, D6, D7, DV.isSl, DV.isStr, DV.isBool, D8, D9, DA, DV.agg, DB, DC, DD, DE, DF, DG, DH, DI, DJ, DK, DL, DM, DN, DO, DP, DQ, DR, DS, DT, DU, St.kill, St.app, St.forget, St.newOK, DW, DX, DY, St.unseen, DZ, E0, E1, E3, E5, E6, E7, E8, E9, EA, EB, EC, Value.cells, Value.oneCell', ED, EE, EF, EG, EH, EJ, EK, EL, id, EM, EN, EO, EP, EQ, ER, ES, ET, EU, EV, EW, EX, EY, EZ, F0, F1, F3, F4, F5, F6, F7, F8, F9, FA, reduceCtorEq, ↓reduceIte, Nat.reduceEqDiff, Nat.reduceAdd, Nat.reduceLT, Nat.reduceLeDiff, Nat.reduceBEq, FB, Nat.reduceMul, FC, FD, FE, FF, FG, FH, FI, if_true, if_false, FL, FM, FN, FO, FP, FQ, FR, FS, FT, FU, FV, decide_true, decide_false, FY, FZ, G0, G1]
        refine ⟨by omega, hN _ ⟨trivial, [(1000, 36)], ?_⟩⟩
        simp (config := {maxSteps := 4000000}) only [natRow, htk, hlen, hla, GE, GF, GG, H1, H2, H4, H5, H6, H7, H8, H9, HA, St.only, HB, HC, HD, St.sw, GA, GB, GC, GD, sw, G2, G3, G4, ↓ZX, ↓ZY, ZZ, Nat.reduceBNe, A0, A1, Int.reduceLE, Int.reduceLT, A6, A7, A8, A9, AA, AB, AC, AD, AE, AF, AG, AH, AI, AJ, AK, AL, AM, AN, AO, AP, AQ, AR, AS, AT, AU, AV, AX, AY, AZ, B0, B1, B3, B4, B5, B6, B7, B8, B9, BA, BB, BC, BD, BE, BF, BG, BH, BI, BJ, BK, BL, BM, BN, BO, BP, BQ, BR, BS, BT, BU, BV, BW, BX, BY, BZ, C0, C1, C2, C3, C4, C5, C6, C7, C8, C9, CA, CB, CC, CD, CE, CF, CG, CH, CI, CJ, CK, CL, CM, CN, CO, CP, CQ, CR, CS, CT, CU, CV, CW, CX, CY, CZ, D0, D1, D2, D3, D4, D5, D6, D7, DV.isSl, DV.isStr, DV.isBool, D8, D9, DA, DV.agg, DB, DC, DD, DE, DF, DG, DH, DI, DJ, DK, DL, DM, DN, DO, DP, DQ, DR, DS, DT, DU, St.kill, St.app, St.forget, St.newOK, DW, DX, DY, St.unseen, DZ, E0, E1, E3, E5, E6, E7, E8, E9, EA, EB, EC, Value.cells, Value.oneCell', ED, EE, EF, EG, EH, EJ, EK, EL, id, EM, EN, EO, EP, EQ, ER, ES, ET, EU, EV, EW, EX, EY, EZ, F0, F1, F3, F4, F5, F6, F7, F8, F9, FA, reduceCtorEq, ↓reduceIte, Nat.reduceEqDiff, Nat.reduceAdd, Nat.reduceLT, Nat.reduceLeDiff, Nat.reduceBEq, FB, Nat.reduceMul, FC, FD, FE, FF, FG, FH, FI, if_true, if_false, FL, FM, FN, FO, FP, FQ, FR, FS, FT, FU, FV, decide_true, decide_false, FY, FZ, G0, G1]
        intro j hj
        have := nat_snoc (begL (L.take i)) s.2 j (by omega)
        rw [hlen] at this
        exact this
      · have hla : lastI L a (i + 1) = i := by rw [lastI, hsd, if_pos (of_decide_eq_true h3)]
        simp (config := {maxSteps := 4000000}) only [iv, natRow, hlen, h3, em, GE, GF, GG, H1, H2, H4, H5, H6, H7, H8, H9, HA, St.only, HB, HC, HD, St.sw, GA, GB, GC, GD, sw, G2, G3, G4, ↓ZX, ↓ZY, ZZ, Nat.reduceBNe, A0, A1, Int.reduceLE, Int.reduceLT, A6, A7, A8, A9, AA, AB, AC, AD, AE, AF, AG, AH, AI, AJ, AK, AL, AM, AN, AO, AP, AQ, AR, AS, AT, AU, AV, AX, AY, AZ, B0, B1, B3, B4, B5, B6, B7, B8, B9, BA, BB, BC, BD, BE, BF, BG, BH, BI, BJ, BK, BL, BM, BN, BO, BP, BQ, BR, BS, BT, BU, BV, BW, BX, BY, BZ, C0, C1, C2, C3, C4, C5, C6, C7, C8, C9, CA, CB, CC, CD, CE, CF, CG, CH, CI, CJ, CK, CL, CM, CN, CO, CP, CQ, CR, CS, CT, CU, CV, CW, CX, CY, CZ, D0, D1, D2, D3, D4, D5, D6, D7, DV.isSl, DV.isStr, DV.isBool, D8, D9, DA, DV.agg, DB, DC, DD, DE, DF, DG, DH, DI, DJ, DK, DL, DM, DN, DO, DP, DQ, DR, DS, DT, DU, St.kill, St.app, St.forget, St.newOK, DW, DX, DY, St.unseen, DZ, E0, E1, E3, E5, E6, E7, E8, E9, EA, EB, EC, Value.cells, Value.oneCell', ED, EE, EF, EG, EH, EJ, EK, EL, id, EM, EN, EO, EP, EQ, ER, ES, ET, EU, EV, EW, EX, EY, EZ, F0, F1, F3, F4, F5, F6, F7, F8, F9, FA, reduceCtorEq, ↓reduceIte, Nat.reduceEqDiff, Nat.reduceAdd, Nat.reduceLT, Nat.reduceLeDiff, Nat.reduceBEq, FB, Nat.reduceMul, FC, FD, FE, FF, FG, FH, FI, if_true, if_false, FL, FM, FN, FO, FP, FQ, FR, FS, FT, FU, FV, decide_true, decide_false, FY, FZ, G0, G1]
        refine ⟨by omega, hN _ ⟨trivial, [(1000, 36)], ?_⟩⟩
        simp (config := {maxSteps := 4000000}) only [natRow, htk, hlen, hla, GE, GF, GG, H1, H2, H4, H5, H6, H7, H8, H9, HA, St.only, HB, HC, HD, St.sw, GA, GB, GC, GD, sw, G2, G3, G4, ↓ZX, ↓ZY, ZZ, Nat.reduceBNe, A0, A1, Int.reduceLE, Int.reduceLT, A6, A7, A8, A9, AA, AB, AC, AD, AE, AF, AG, AH, AI, AJ, AK, AL, AM, AN, AO, AP, AQ, AR, AS, AT, AU, AV, AX, AY, AZ, B0, B1, B3, B4, B5, B6, B7, B8, B9, BA, BB, BC, BD, BE, BF, BG, BH, BI, BJ, BK, BL, BM, BN, BO, BP, BQ, BR, BS, BT, BU, BV, BW, BX, BY, BZ, C0, C1, C2, C3, C4, C5, C6, C7, C8, C9, CA, CB, CC, CD, CE, CF, CG, CH, CI, CJ, CK, CL, CM, CN, CO, CP, CQ, CR, CS, CT, CU, CV, CW, CX, CY, CZ, D0, D1, D2, D3, D4, D5, D6, D7, DV.isSl, DV.isStr, DV.isBool, D8, D9, DA, DV.agg, DB, DC, DD, DE, DF, DG, DH, DI, DJ, DK, DL, DM, DN, DO, DP, DQ, DR, DS, DT, DU, St.kill, St.app, St.forget, St.newOK, DW, DX, DY, St.unseen, DZ, E0, E1, E3, E5, E6, E7, E8, E9, EA, EB, EC, Value.cells, Value.oneCell', ED, EE, EF, EG, EH, EJ, EK, EL, id, EM, EN, EO, EP, EQ, ER, ES, ET, EU, EV, EW, EX, EY, EZ, F0, F1, F3, F4, F5, F6, F7, F8, F9, FA, reduceCtorEq, ↓reduceIte, Nat.reduceEqDiff, Nat.reduceAdd, Nat.reduceLT, Nat.reduceLeDiff, Nat.reduceBEq, FB, Nat.reduceMul, FC, FD, FE, FF, FG, FH, FI, if_true, if_false, FL, FM, FN, FO, FP, FQ, FR, FS, FT, FU, FV, decide_true, decide_false, FY, FZ, G0, G1]
        intro j hj
        have := nat_snoc (begL (L.take i)) s.2 j (by omega)
        rw [hlen] at this
        exact this
    · intro _
      have e0 : (runX L).length = L.length := by simp [runX]
      rw [e0]
      simp (config := {maxSteps := 4000000}) only [natRow, List.take_length, G2, G3, G4, ↓ZX, ↓ZY, ZZ, Nat.reduceBNe, A0, A1, Int.reduceLE, Int.reduceLT, A6, A7, A8, A9, AA, AB, AC, AD, AE, AF, AG, AH, AI, AJ, AK, AL, AM, AN, AO, AP, AQ, AR, AS, AT, AU, AV, AX, AY, AZ, B0, B1, B3, B4, B5, B6, B7, B8, B9, BA, BB, BC, BD, BE, BF, BG, BH, BI, BJ, BK, BL, BM, BN, BO, BP, BQ, BR, BS, BT, BU, BV, BW, BX, BY, BZ, C0, C1, C2, C3, C4, C5, C6, C7, C8, C9, CA, CB, CC, CD, CE, CF, CG, CH, CI, CJ, CK, CL, CM, CN, CO, CP, CQ, CR, CS, CT, CU, CV, CW, CX, CY, CZ, D0, D1, D2, D3, D4, D5, D6, D7, DV.isSl, DV.isStr, DV.isBool, D8, D9, DA, DV.agg, DB, DC, DD, DE, DF, DG, DH, DI, DJ, DK, DL, DM, DN, DO, DP, DQ, DR, DS, DT, DU, St.kill, St.app, St.forget, St.newOK, DW, DX, DY, St.unseen, DZ, E0, E1, E3, E5, E6, E7, E8, E9, EA, EB, EC, Value.cells, Value.oneCell', ED, EE, EF, EG, EH, EJ, EK, EL, id, EM, EN, EO, EP, EQ, ER, ES, ET, EU, EV, EW, EX, EY, EZ, F0, F1, F3, F4, F5, F6, F7, F8, F9, FA, reduceCtorEq, ↓reduceIte, Nat.reduceEqDiff, Nat.reduceAdd, Nat.reduceLT, Nat.reduceLeDiff, Nat.reduceBEq, FB, Nat.reduceMul, FC, FD, FE, FF, FG, FH, FI, if_true, if_false, FL, FM, FN, FO, FP, FQ, FR, FS, FT, FU, FV, decide_true, decide_false, FY, FZ, G0, G1]
      show chk _ _ = true
      kernel_rfl

/-- Whole lines, or none. -/
abbrev lineV (o : Option (Nat × Nat)) : Value := .agg #[i64 (bif o.isSome then 1 else 0), i64 (pa o), i64 0, i64 (pb o), i64 0]
set_option maxRecDepth 100000 in
theorem obj_whole (a b : Nat) (hb : 1 ≤ b) (hb2 : b ≤ 1000) : CallOK Try.prog 19 [.v (i64 a), .v (i64 b)] [none, none] [.v (.agg #[i64 1, i64 a, i64 0, i64 (b - 1 : Nat), i64 0]), .v (.bool true)] := by
  refine callOK_of_awp (c := cx (fun _ _ => none) 12) (cx_ok _ _) Try.func19 (by kernel_rfl) rfl rfl (by simp [cx]) (by simp [sizesOK]) (awk_of ?_)
  have e : IntKind.i64.wrap ((b : Int) - 1) = ((b - 1 : Nat) : Int) := by rw [w64 (by omega) (by omega)]; omega
  simp (config := {maxSteps := 4000000}) only [Try.f19, e, G2, G3, G4, ↓ZX, ↓ZY, ZZ, Nat.reduceBNe, A0, A1, Int.reduceLE, Int.reduceLT, A6, A7, A8, A9, AA, AB, AC, AD, AE, AF, AG, AH, AI, AJ, AK, AL, AM, AN, AO, AP, AQ, AR, AS, AT, AU, AV, AX, AY, AZ, B0, B1, B3, B4, B5, B6, B7, B8, B9, BA, BB, BC, BD, BE, BF, BG, BH, BI, BJ, BK, BL, BM, BN, BO, BP, BQ, BR, BS, BT, BU, BV, BW, BX, BY, BZ, C0, C1, C2, C3, C4, C5, C6, C7, C8, C9, CA, CB, CC, CD, CE, CF, CG, CH, CI, CJ, CK, CL, CM, CN, CO, CP, CQ, CR, CS, CT, CU, CV, CW, CX, CY, CZ, D0, D1, D2, D3, D4, D5, D6, D7, DV.isSl, DV.isStr, DV.isBool, D8, D9, DA, DV.agg, DB, DC, DD, DE, DF, DG, DH, DI, DJ, DK, DL, DM, DN, DO, DP, DQ, DR, DS, DT, DU, St.kill, St.app, St.forget, St.newOK, DW, DX, DY, St.unseen, DZ, E0, E1, E3, E5, E6, E7, E8, E9, EA, EB, EC, Value.cells, Value.oneCell', ED, EE, EF, EG, EH, EJ, EK, EL, id, EM, EN, EO, EP, EQ, ER, ES, ET, EU, EV, EW, EX, EY, EZ, F0, F1, F3, F4, F5, F6, F7, F8, F9, FA, reduceCtorEq, ↓reduceIte, Nat.reduceEqDiff, Nat.reduceAdd, Nat.reduceLT, Nat.reduceLeDiff, Nat.reduceBEq, FB, Nat.reduceMul, FC, FD, FE, FF, FG, FH, FI, if_true, if_false, FL, FM, FN, FO, FP, FQ, FR, FS, FT, FU, FV, decide_true, decide_false, FY, FZ, G0, G1]
def wholeV (args : List V) : Option (List RV) :=
  match args with
  | [.v x, .v y] => some [.v (.agg #[i64 1, x, i64 0, i64 ((iv y).toNat - 1 : Nat), i64 0]), .v (.bool true)]
  | _ => none

/-- n blocks from line a's on: first and last line. -/
def innP (l : List ByteArray) (a : Int) (n : Nat) : Option (Nat × Nat) :=
  if n ≤ (blkL l).length - blkK l a then some (((blkL l).getD (blkK l a) (0, 0)).1, ((blkL l).getD (blkK l a + n - 1) (0, 0)).2 - 1) else none
def innI (l : List ByteArray) (a b n : Int) : Option (Nat × Nat) := if blkF l a b n = true then none else innP l a n.toNat
def aroP (l : List ByteArray) (a : Int) (n : Nat) : Option (Nat × Nat) :=
  if 2 * n ≤ (blkL l).length - blkK l a then some (((blkL l).getD (blkK l a) (0, 0)).1, ((blkL l).getD (blkK l a + 2 * n - 1) (0, 0)).2 - 1)
  else if (blkL l).length - blkK l a = 2 * n - 1 ∧ sz l a.toNat ≠ 0 ∧ 0 < blkK l a then some (((blkL l).getD (blkK l a - 1) (0, 0)).1, ((blkL l).getD ((blkL l).length - 1) (0, 0)).2 - 1) else none
def aroI (l : List ByteArray) (a b n : Int) : Option (Nat × Nat) := if blkF l a b n = true then none else aroP l a n.toNat

theorem blkK_spec {l : List ByteArray} {x : Nat} (hx : x < l.length) : ∃ p, (blkL l)[blkK l x]? = some p ∧ p.1 ≤ x ∧ x < p.2 := by
  obtain ⟨k, p, hk, h1, h2⟩ := chain_find (blkL_chain l) (Nat.zero_le x) hx
  have := lastI_eq (blkL_chain l) hk h1 h2 (blkL l).length (get_lt hk) (Nat.le_refl _)
  unfold blkK
  rw [this]
  exact ⟨p, hk, h1, h2⟩
theorem blk_end {l : List ByteArray} {k : Nat} (hk : k < (blkL l).length) : 1 ≤ ((blkL l).getD k (0, 0)).2 ∧ ((blkL l).getD k (0, 0)).2 ≤ l.length := by
  obtain ⟨p, hp⟩ := get_of hk
  rw [getD_some hp]
  have := (blkL_chain l).get hp
  omega

def Gin (l : List ByteArray) (f : FuncId) (args : List V) : Option (List RV) :=
  if f = 18 then blkV l args else if f = 19 then wholeV args else none
set_option maxRecDepth 100000 in
set_option maxHeartbeats 2000000 in
theorem obj_pInner (l : List ByteArray) (hf : Fit l) (a b n : Int) (hn : n ≤ 9223372036854775807) (k : Nat) : CallOK Try.prog 11 [.r k, .v (pos a b), .v (i64 n)] [some (EC l), none, none] [.v (lineV (innI l a b n)), .v (.bool (innI l a b n).isSome)] := by
  refine callOK_of_awp (c := cx (Gin l) 44) (cx_ok _ _) Try.func11 (by kernel_rfl) rfl rfl (by simp [cx]) (by simp [sizesOK, EC]) (awk_of ?_)
  unfold innI
  rcases h : blkF l a b n with _ | _
  · have hbk := obj_blocks l hf a b n h 0
    obtain ⟨h1, h2⟩ := blkF_no h
    obtain ⟨x, y, rfl, rfl, hx, hy⟩ := onB_place h2
    have hn1 : 1 ≤ n := by simp at h1; omega
    obtain ⟨N, rfl⟩ : ∃ N : Nat, n = N := ⟨n.toNat, by omega⟩
    obtain ⟨p, hp, hp1, hp2⟩ := blkK_spec hx
    have hl := hf.1
    have hbn := blkL_len l
    have hkl := get_lt hp
    have hbl := begL_len (blkL l)
    simp only [natRow, hbl] at hbk
    have e1 : IntKind.i64.wrap ((((blkL l).length + 1 : Nat) : Int) - 1) = ((blkL l).length : Int) := by rw [w64 (by omega) (by omega)]; omega
    have e2 : IntKind.i64.wrap (((blkL l).length : Int) - (blkK l x : Int)) = (((blkL l).length - blkK l x : Nat) : Int) := by rw [w64 (by omega) (by omega)]; omega
    by_cases hle : N ≤ (blkL l).length - blkK l x
    · have d : decide ((((blkL l).length - blkK l x : Nat) : Int) < (N : Int)) = false := decide_eq_false (by omega)
      have e3 : IntKind.i64.wrap ((blkK l x : Int) + (N : Int)) = ((blkK l x + N : Nat) : Int) := by rw [w64 (by omega) (by omega)]; omega
      have q1 : (begL (blkL l)).getD (blkK l x) 0 = ((blkL l).getD (blkK l x) (0, 0)).1 := begL_at (blkL_chain l) hkl
      have q2 : (begL (blkL l)).getD (blkK l x + N) 0 = ((blkL l).getD (blkK l x + N - 1) (0, 0)).2 := by rw [← begL_succ]; congr 1; omega
      have hr : innP l x N = some (((blkL l).getD (blkK l x) (0, 0)).1, ((blkL l).getD (blkK l x + N - 1) (0, 0)).2 - 1) := if_pos hle
      have hen := blk_end (l := l) (k := blkK l x + N - 1) (by omega)
      have hwh := obj_whole ((blkL l).getD (blkK l x) (0, 0)).1 ((blkL l).getD (blkK l x + N - 1) (0, 0)).2 (by omega) (by omega)
      simp (config := {maxSteps := 4000000}) only [Try.f11, Gin, blkV, wholeV, natRow, iv, p1, p2, h, hbl, e1, e2, e3, d, q1, q2, hr, G2, G3, G4, ↓ZX, ↓ZY, ZZ, Nat.reduceBNe, A0, A1, Int.reduceLE, Int.reduceLT, A6, A7, A8, A9, AA, AB, AC, AD, AE, AF, AG, AH, AI, AJ, AK, AL, AM, AN, AO, AP, AQ, AR, AS, AT, AU, AV, AX, AY, AZ, B0, B1, B3, B4, B5, B6, B7, B8, B9, BA, BB, BC, BD, BE, BF, BG, BH, BI, BJ, BK, BL, BM, BN, BO, BP, BQ, BR, BS, BT, BU, BV, BW, BX, BY, BZ, C0, C1, C2, C3, C4, C5, C6, C7, C8, C9, CA, CB, CC, CD, CE, CF, CG, CH, CI, CJ, CK, CL, CM, CN, CO, CP, CQ, CR, CS, CT, CU, CV, CW, CX, CY, CZ, D0, D1, D2, D3, D4, D5, D6, D7, DV.isSl, DV.isStr, DV.isBool, D8, D9, DA, DV.agg, DB, DC, DD, DE, DF, DG, DH, DI, DJ, DK, DL, DM, DN, DO, DP, DQ, DR, DS, DT, DU, St.kill, St.app, St.forget, St.newOK, DW, DX, DY, St.unseen, DZ, E0, E1, E3, E5, E6, E7, E8, E9, EA, EB, EC, Value.cells, Value.oneCell', ED, EE, EF, EG, EH, EJ, EK, EL, id, EM, EN, EO, EP, EQ, ER, ES, ET, EU, EV, EW, EX, EY, EZ, F0, F1, F3, F4, F5, F6, F7, F8, F9, FA, reduceCtorEq, ↓reduceIte, Nat.reduceEqDiff, Nat.reduceAdd, Nat.reduceLT, Nat.reduceLeDiff, Nat.reduceBEq, FB, Nat.reduceMul, FC, FD, FE, FF, FG, FH, FI, if_true, if_false, FL, FM, FN, FO, FP, FQ, FR, FS, FT, FU, FV, decide_true, decide_false, FY, FZ, G0, G1]
      exact ⟨hbk, by kernel_rfl, ⟨⟨by omega, by omega⟩, ⟨by omega, by omega⟩, ⟨by omega, by omega⟩, ⟨by omega, by omega⟩, hwh⟩, rfl⟩
    · have d : decide ((((blkL l).length - blkK l x : Nat) : Int) < (N : Int)) = true := decide_eq_true (by omega)
      have hr : innP l x N = none := if_neg hle
      simp (config := {maxSteps := 4000000}) only [Try.f11, Gin, blkV, wholeV, natRow, iv, p1, p2, h, hbl, e1, e2, d, hr, G2, G3, G4, ↓ZX, ↓ZY, ZZ, Nat.reduceBNe, A0, A1, Int.reduceLE, Int.reduceLT, A6, A7, A8, A9, AA, AB, AC, AD, AE, AF, AG, AH, AI, AJ, AK, AL, AM, AN, AO, AP, AQ, AR, AS, AT, AU, AV, AX, AY, AZ, B0, B1, B3, B4, B5, B6, B7, B8, B9, BA, BB, BC, BD, BE, BF, BG, BH, BI, BJ, BK, BL, BM, BN, BO, BP, BQ, BR, BS, BT, BU, BV, BW, BX, BY, BZ, C0, C1, C2, C3, C4, C5, C6, C7, C8, C9, CA, CB, CC, CD, CE, CF, CG, CH, CI, CJ, CK, CL, CM, CN, CO, CP, CQ, CR, CS, CT, CU, CV, CW, CX, CY, CZ, D0, D1, D2, D3, D4, D5, D6, D7, DV.isSl, DV.isStr, DV.isBool, D8, D9, DA, DV.agg, DB, DC, DD, DE, DF, DG, DH, DI, DJ, DK, DL, DM, DN, DO, DP, DQ, DR, DS, DT, DU, St.kill, St.app, St.forget, St.newOK, DW, DX, DY, St.unseen, DZ, E0, E1, E3, E5, E6, E7, E8, E9, EA, EB, EC, Value.cells, Value.oneCell', ED, EE, EF, EG, EH, EJ, EK, EL, id, EM, EN, EO, EP, EQ, ER, ES, ET, EU, EV, EW, EX, EY, EZ, F0, F1, F3, F4, F5, F6, F7, F8, F9, FA, reduceCtorEq, ↓reduceIte, Nat.reduceEqDiff, Nat.reduceAdd, Nat.reduceLT, Nat.reduceLeDiff, Nat.reduceBEq, FB, Nat.reduceMul, FC, FD, FE, FF, FG, FH, FI, if_true, if_false, FL, FM, FN, FO, FP, FQ, FR, FS, FT, FU, FV, decide_true, decide_false, FY, FZ, G0, G1]
      exact ⟨hbk, rfl⟩
  · have hbk := obj_blocks_no l a b n h 0
    simp (config := {maxSteps := 4000000}) only [Try.f11, Gin, blkV, wholeV, iv, p1, p2, h, G2, G3, G4, ↓ZX, ↓ZY, ZZ, Nat.reduceBNe, A0, A1, Int.reduceLE, Int.reduceLT, A6, A7, A8, A9, AA, AB, AC, AD, AE, AF, AG, AH, AI, AJ, AK, AL, AM, AN, AO, AP, AQ, AR, AS, AT, AU, AV, AX, AY, AZ, B0, B1, B3, B4, B5, B6, B7, B8, B9, BA, BB, BC, BD, BE, BF, BG, BH, BI, BJ, BK, BL, BM, BN, BO, BP, BQ, BR, BS, BT, BU, BV, BW, BX, BY, BZ, C0, C1, C2, C3, C4, C5, C6, C7, C8, C9, CA, CB, CC, CD, CE, CF, CG, CH, CI, CJ, CK, CL, CM, CN, CO, CP, CQ, CR, CS, CT, CU, CV, CW, CX, CY, CZ, D0, D1, D2, D3, D4, D5, D6, D7, DV.isSl, DV.isStr, DV.isBool, D8, D9, DA, DV.agg, DB, DC, DD, DE, DF, DG, DH, DI, DJ, DK, DL, DM, DN, DO, DP, DQ, DR, DS, DT, DU, St.kill, St.app, St.forget, St.newOK, DW, DX, DY, St.unseen, DZ, E0, E1, E3, E5, E6, E7, E8, E9, EA, EB, EC, Value.cells, Value.oneCell', ED, EE, EF, EG, EH, EJ, EK, EL, id, EM, EN, EO, EP, EQ, ER, ES, ET, EU, EV, EW, EX, EY, EZ, F0, F1, F3, F4, F5, F6, F7, F8, F9, FA, reduceCtorEq, ↓reduceIte, Nat.reduceEqDiff, Nat.reduceAdd, Nat.reduceLT, Nat.reduceLeDiff, Nat.reduceBEq, FB, Nat.reduceMul, FC, FD, FE, FF, FG, FH, FI, if_true, if_false, FL, FM, FN, FO, FP, FQ, FR, FS, FT, FU, FV, decide_true, decide_false, FY, FZ, G0, G1]
    exact ⟨hbk, rfl⟩

end Go.Ab
