/- Contracts: n sentences on. -/
import Derived.Test.Ytogmnhebobdokab37
import Derived.Test.Ytogmnhebobdokab39
set_option linter.unusedVariables false
set_option linter.unusedSimpArgs false
namespace Go.Ab
open Go Go.RowKit Go.Proofs

def endP (l : List ByteArray) : Nat × Nat := (l.length - 1, sz l (l.length - 1))
/-- Those behind p. -/
def behL (L : List (Nat × Nat)) (p : Nat × Nat) : List (Nat × Nat) := L.filter fun s => okF p s
def sentN (l : List ByteArray) (op : Bool) (p : Nat × Nat) (n : Int) : Option (Nat × Nat) :=
  match (behL (sentL l) p)[(n - 1).toNat]? with
  | some s => some s
  | none => if op = true ∧ n = (behL (sentL l) p).length + 1 ∧ okF p (endP l) = true then some (endP l) else none
def sentNI (l : List ByteArray) (op : Bool) (a b n : Int) : Option (Nat × Nat) := if failsB l a b n = true then none else sentN l op (a.toNat, b.toNat) n

theorem behL_take {L : List (Nat × Nat)} {p s : Nat × Nat} {i : Nat} (hs : L[i]? = some s) : behL (L.take (i + 1)) p = behL (L.take i) p ++ (if okF p s = true then [s] else []) := by
  have hlt : i < L.length := by
    rcases Nat.lt_or_ge i L.length with h | h
    · exact h
    · rw [List.getElem?_eq_none h] at hs; cases hs
  rw [List.getElem?_eq_getElem hlt] at hs
  simp at hs
  unfold behL
  rw [List.take_succ_eq_append_getElem hlt, List.filter_append, hs]
  congr 1
  rw [List.filter_cons]
  split <;> simp
theorem behL_get {L : List (Nat × Nat)} {p s : Nat × Nat} {i : Nat} (hs : L[i]? = some s) (hk : okF p s = true) : (behL L p)[(behL (L.take i) p).length]? = some s := by
  have h1 := behL_take (p := p) hs
  rw [if_pos hk] at h1
  have h2 : behL L p = behL (L.take (i + 1)) p ++ behL (L.drop (i + 1)) p := by
    unfold behL
    rw [← List.filter_append, List.take_append_drop]
  rw [h2, h1, List.append_assoc, List.getElem?_append_right (Nat.le_refl _), Nat.sub_self]
  rfl

def seqV (l : List ByteArray) (args : List V) : Option (List RV) :=
  match args with
  | [_] => some [.row (seqRow (posX (sentL l)))]
  | _ => none
def Gsn (l : List ByteArray) (f : FuncId) (args : List V) : Option (List RV) := if f = 64 then failsV l args else if f = 66 then jumpV args else if f = 35 then seqV l args else if f = 57 then lessV args else none

set_option maxRecDepth 100000 in
set_option maxHeartbeats 2000000 in
theorem para_SentNext (l : List ByteArray) (hf : Fit l) (a b n : Int) (hn : n ≤ 9223372036854775807) (op : Bool) (k : Nat) : CallOK Try.prog 39 [.r k, .v (pos a b), .v (i64 n), .v (.bool op)] [some (EC l), none, none, none] [.v (jumpP (sentNI l op a b n)), .v (.bool (sentNI l op a b n).isSome)] := by
  refine callOK_of_awp (c := cx (Gsn l) 56) (cx_ok _ _) Try.func39 (by kernel_rfl) rfl rfl (by simp [cx]) (by simp [sizesOK, EC]) (awk_of ?_)
  have hfl := para_fails l a b n 0
  have hsq := para_Sentences l hf 0
  unfold sentNI
  rcases h : failsB l a b n with _ | _
  · rw [h] at hfl
    have hpl : placeB l a b = true := by cases hp : placeB l a b <;> simp_all [failsB]
    have hn1 : 1 ≤ n := by simp [failsB] at h; omega
    obtain ⟨x, y, rfl, rfl, hx, hy⟩ := placeB_spec hpl
    have hll := hf.1
    have hsl := sentTo_len l hf l.length
    have hL40 : (sentL l).length ≤ 48000 := by unfold sentL; omega
    simp (config := {maxSteps := 4000000}) only [Try.f39, Gsn, failsV, jumpV, seqV, lessV, iv, bv, p1, p2, h, seqRow, G2, G3, G4, ↓ZX, ↓ZY, ZZ, Nat.reduceBNe, A0, A1, Int.reduceLE, Int.reduceLT, A6, A7, A8, A9, AA, AB, AC, AD, AE, AF, AG, AH, AI, AJ, AK, AL, AM, AN, AO, AP, AQ, AR, AS, AT, AU, AV, AX, AY, AZ, B0, B1, B3, B4, B5, B6, B7, B8, B9, BA, BB, BC, BD, BE, BF, BG, BH, BI, BJ, BK, BL, BM, BN, BO, BP, BQ, BR, BS, BT, BU, BV, BW, BX, BY, BZ, C0, C1, C2, C3, C4, C5, C6, C7, C8, C9, CA, CB, CC, CD, CE, CF, CG, CH, CI, CJ, CK, CL, CM, CN, CO, CP, CQ, CR, CS, CT, CU, CV, CW, CX, CY, CZ, D0, D1, D2, D3, D4, D5, D6, D7, DV.isSl, DV.isStr, DV.isBool, D8, D9, DA, DV.agg, DB, DC, DD, DE, DF, DG, DH, DI, DJ, DK, DL, DM, DN, DO, DP, DQ, DR, DS, DT, DU, St.kill, St.app, St.forget, St.newOK, DW, DX, DY, St.unseen, DZ, E0, E1, E3, E5, E6, E7, E8, E9, EA, EB, EC, Value.cells, Value.oneCell', ED, EE, EF, EG, EH, EJ, EK, EL, id, EM, EN, EO, EP, EQ, ER, ES, ET, EU, EV, EW, EX, EY, EZ, F0, F1, F3, F4, F5, F6, F7, F8, F9, FA, reduceCtorEq, ↓reduceIte, Nat.reduceEqDiff, Nat.reduceAdd, Nat.reduceLT, Nat.reduceLeDiff, Nat.reduceBEq, FB, Nat.reduceMul, FC, FD, FE, FF, FG, FH, FI, if_true, if_false, FL, FM, FN, FO, FP, FQ, FR, FS, FT, FU, FV, decide_true, decide_false, FY, FZ, G0, G1]
    refine ⟨hfl, hsq, ?_⟩
    generalize hRR : sentN l op (x, y) n = RR
    refine AWR_range (cx_ok _ _) rfl rfl rfl rfl [0, 3, 5, 6, 8, 9] (fun i => ⟨[(0, .r 0), (3, .v (.bool op)), (5, .p 5 0), (6, .p 6 0), (8, .p 8 0), (9, .p 9 0)],
        [(5, some [.v (i64 x), .v (i64 y)]), (6, some [.v (i64 (n - (behL ((sentL l).take i) (x, y)).length))]), (8, some [.v (i64 0), .v (i64 0), .v (i64 0), .v (.bool false), .v (i64 0)]), (9, some [.v (.bool false)])], [(0, some (EC l))]⟩)
      (fun i => ((behL ((sentL l).take i) (x, y)).length : Int) < n) (posX (sentL l)) 19 _ rfl rfl rfl ?_ (dom_of fun i => rfl) (by intro p hp; simp at hp; subst hp; exact ⟨show 20 < 56 by decide, rfl⟩) ?_ rfl ?_ ?_ ?_
    · simp (config := {maxSteps := 4000000}) only [EC, G2, G3, G4, ↓ZX, ↓ZY, ZZ, Nat.reduceBNe, A0, A1, Int.reduceLE, Int.reduceLT, A6, A7, A8, A9, AA, AB, AC, AD, AE, AF, AG, AH, AI, AJ, AK, AL, AM, AN, AO, AP, AQ, AR, AS, AT, AU, AV, AX, AY, AZ, B0, B1, B3, B4, B5, B6, B7, B8, B9, BA, BB, BC, BD, BE, BF, BG, BH, BI, BJ, BK, BL, BM, BN, BO, BP, BQ, BR, BS, BT, BU, BV, BW, BX, BY, BZ, C0, C1, C2, C3, C4, C5, C6, C7, C8, C9, CA, CB, CC, CD, CE, CF, CG, CH, CI, CJ, CK, CL, CM, CN, CO, CP, CQ, CR, CS, CT, CU, CV, CW, CX, CY, CZ, D0, D1, D2, D3, D4, D5, D6, D7, DV.isSl, DV.isStr, DV.isBool, D8, D9, DA, DV.agg, DB, DC, DD, DE, DF, DG, DH, DI, DJ, DK, DL, DM, DN, DO, DP, DQ, DR, DS, DT, DU, St.kill, St.app, St.forget, St.newOK, DW, DX, DY, St.unseen, DZ, E0, E1, E3, E5, E6, E7, E8, E9, EA, EB, EC, Value.cells, Value.oneCell', ED, EE, EF, EG, EH, EJ, EK, EL, id, EM, EN, EO, EP, EQ, ER, ES, ET, EU, EV, EW, EX, EY, EZ, F0, F1, F3, F4, F5, F6, F7, F8, F9, FA, reduceCtorEq, ↓reduceIte, Nat.reduceEqDiff, Nat.reduceAdd, Nat.reduceLT, Nat.reduceLeDiff, Nat.reduceBEq, FB, Nat.reduceMul, FC, FD, FE, FF, FG, FH, FI, if_true, if_false, FL, FM, FN, FO, FP, FQ, FR, FS, FT, FU, FV, decide_true, decide_false, FY, FZ, G0, G1]
      all_goals simp [behL]
    · intro x hx
      simp only [posX, List.mem_map] at hx
      obtain ⟨s, _, rfl⟩ := hx
      rfl
    · simp [behL]; omega
    · intro i xv hxi hi R hN hR hE
      obtain ⟨s, hs, rfl⟩ : ∃ s, (sentL l)[i]? = some s ∧ xv = [pos s.1 s.2] := by
        simp only [posX, List.getElem?_map] at hxi
        cases hs : (sentL l)[i]? with
        | none => rw [hs] at hxi; simp at hxi
        | some s => rw [hs] at hxi; simp at hxi; exact ⟨s, rfl, hxi.symm⟩
      have htk := behL_take (p := (x, y)) hs
      have hlen : (behL ((sentL l).take i) (x, y)).length ≤ 48000 := by
        have h1 := List.length_filter_le (fun s => okF (x, y) s) ((sentL l).take i)
        have h2 := List.length_take_le i (sentL l)
        unfold behL; simp only [List.length_take] at *; omega
      have hls := span_Less x y s.1 s.2
      rcases ho : lessI x y s.1 s.2 with _ | _
      · rw [show okF (x, y) s = false from ho, if_neg (by simp), List.append_nil] at htk
        rw [ho] at hls
        simp (config := {maxSteps := 4000000}) only [Gsn, failsV, jumpV, seqV, lessV, iv, bv, p1, p2, ho, EC, H1, H2, H4, H5, H6, H7, H8, H9, HA, St.only, HB, HC, HD, St.sw, GA, GB, GC, GD, sw, G2, G3, G4, ↓ZX, ↓ZY, ZZ, Nat.reduceBNe, A0, A1, Int.reduceLE, Int.reduceLT, A6, A7, A8, A9, AA, AB, AC, AD, AE, AF, AG, AH, AI, AJ, AK, AL, AM, AN, AO, AP, AQ, AR, AS, AT, AU, AV, AX, AY, AZ, B0, B1, B3, B4, B5, B6, B7, B8, B9, BA, BB, BC, BD, BE, BF, BG, BH, BI, BJ, BK, BL, BM, BN, BO, BP, BQ, BR, BS, BT, BU, BV, BW, BX, BY, BZ, C0, C1, C2, C3, C4, C5, C6, C7, C8, C9, CA, CB, CC, CD, CE, CF, CG, CH, CI, CJ, CK, CL, CM, CN, CO, CP, CQ, CR, CS, CT, CU, CV, CW, CX, CY, CZ, D0, D1, D2, D3, D4, D5, D6, D7, DV.isSl, DV.isStr, DV.isBool, D8, D9, DA, DV.agg, DB, DC, DD, DE, DF, DG, DH, DI, DJ, DK, DL, DM, DN, DO, DP, DQ, DR, DS, DT, DU, St.kill, St.app, St.forget, St.newOK, DW, DX, DY, St.unseen, DZ, E0, E1, E3, E5, E6, E7, E8, E9, EA, EB, EC, Value.cells, Value.oneCell', ED, EE, EF, EG, EH, EJ, EK, EL, id, EM, EN, EO, EP, EQ, ER, ES, ET, EU, EV, EW, EX, EY, EZ, F0, F1, F3, F4, F5, F6, F7, F8, F9, FA, reduceCtorEq, ↓reduceIte, Nat.reduceEqDiff, Nat.reduceAdd, Nat.reduceLT, Nat.reduceLeDiff, Nat.reduceBEq, FB, Nat.reduceMul, FC, FD, FE, FF, FG, FH, FI, if_true, if_false, FL, FM, FN, FO, FP, FQ, FR, FS, FT, FU, FV, decide_true, decide_false, FY, FZ, G0, G1]
        refine ⟨hls, hN _ ⟨by rw [htk]; exact hi, [], ?_⟩⟩
        simp (config := {maxSteps := 4000000}) only [EC, htk, H1, H2, H4, H5, H6, H7, H8, H9, HA, St.only, HB, HC, HD, St.sw, GA, GB, GC, GD, sw, G2, G3, G4, ↓ZX, ↓ZY, ZZ, Nat.reduceBNe, A0, A1, Int.reduceLE, Int.reduceLT, A6, A7, A8, A9, AA, AB, AC, AD, AE, AF, AG, AH, AI, AJ, AK, AL, AM, AN, AO, AP, AQ, AR, AS, AT, AU, AV, AX, AY, AZ, B0, B1, B3, B4, B5, B6, B7, B8, B9, BA, BB, BC, BD, BE, BF, BG, BH, BI, BJ, BK, BL, BM, BN, BO, BP, BQ, BR, BS, BT, BU, BV, BW, BX, BY, BZ, C0, C1, C2, C3, C4, C5, C6, C7, C8, C9, CA, CB, CC, CD, CE, CF, CG, CH, CI, CJ, CK, CL, CM, CN, CO, CP, CQ, CR, CS, CT, CU, CV, CW, CX, CY, CZ, D0, D1, D2, D3, D4, D5, D6, D7, DV.isSl, DV.isStr, DV.isBool, D8, D9, DA, DV.agg, DB, DC, DD, DE, DF, DG, DH, DI, DJ, DK, DL, DM, DN, DO, DP, DQ, DR, DS, DT, DU, St.kill, St.app, St.forget, St.newOK, DW, DX, DY, St.unseen, DZ, E0, E1, E3, E5, E6, E7, E8, E9, EA, EB, EC, Value.cells, Value.oneCell', ED, EE, EF, EG, EH, EJ, EK, EL, id, EM, EN, EO, EP, EQ, ER, ES, ET, EU, EV, EW, EX, EY, EZ, F0, F1, F3, F4, F5, F6, F7, F8, F9, FA, reduceCtorEq, ↓reduceIte, Nat.reduceEqDiff, Nat.reduceAdd, Nat.reduceLT, Nat.reduceLeDiff, Nat.reduceBEq, FB, Nat.reduceMul, FC, FD, FE, FF, FG, FH, FI, if_true, if_false, FL, FM, FN, FO, FP, FQ, FR, FS, FT, FU, FV, decide_true, decide_false, FY, FZ, G0, G1]
      · rw [show okF (x, y) s = true from ho, if_pos rfl] at htk
        rw [ho] at hls
        have em : IntKind.i64.wrap (n - ((behL ((sentL l).take i) (x, y)).length : Int) - 1) = n - (behL ((sentL l).take i) (x, y)).length - 1 := w64 (by omega) (by omega)
        rcases hq : (n - ((behL ((sentL l).take i) (x, y)).length : Int) - 1 == 0) with _ | _
        · have hq' : n - ((behL ((sentL l).take i) (x, y)).length : Int) - 1 ≠ 0 := by simpa using hq
          simp (config := {maxSteps := 4000000}) only [Gsn, failsV, jumpV, seqV, lessV, iv, bv, p1, p2, ho, em, hq, EC, H1, H2, H4, H5, H6, H7, H8, H9, HA, St.only, HB, HC, HD, St.sw, GA, GB, GC, GD, sw, G2, G3, G4, ↓ZX, ↓ZY, ZZ, Nat.reduceBNe, A0, A1, Int.reduceLE, Int.reduceLT, A6, A7, A8, A9, AA, AB, AC, AD, AE, AF, AG, AH, AI, AJ, AK, AL, AM, AN, AO, AP, AQ, AR, AS, AT, AU, AV, AX, AY, AZ, B0, B1, B3, B4, B5, B6, B7, B8, B9, BA, BB, BC, BD, BE, BF, BG, BH, BI, BJ, BK, BL, BM, BN, BO, BP, BQ, BR, BS, BT, BU, BV, BW, BX, BY, BZ, C0, C1, C2, C3, C4, C5, C6, C7, C8, C9, CA, CB, CC, CD, CE, CF, CG, CH, CI, CJ, CK, CL, CM, CN, CO, CP, CQ, CR, CS, CT, CU, CV, CW, CX, CY, CZ, D0, D1, D2, D3, D4, D5, D6, D7, DV.isSl, DV.isStr, DV.isBool, D8, D9, DA, DV.agg, DB, DC, DD, DE, DF, DG, DH, DI, DJ, DK, DL, DM, DN, DO, DP, DQ, DR, DS, DT, DU, St.kill, St.app, St.forget, St.newOK, DW, DX, DY, St.unseen, DZ, E0, E1, E3, E5, E6, E7, E8, E9, EA, EB, EC, Value.cells, Value.oneCell', ED, EE, EF, EG, EH, EJ, EK, EL, id, EM, EN, EO, EP, EQ, ER, ES, ET, EU, EV, EW, EX, EY, EZ, F0, F1, F3, F4, F5, F6, F7, F8, F9, FA, reduceCtorEq, ↓reduceIte, Nat.reduceEqDiff, Nat.reduceAdd, Nat.reduceLT, Nat.reduceLeDiff, Nat.reduceBEq, FB, Nat.reduceMul, FC, FD, FE, FF, FG, FH, FI, if_true, if_false, FL, FM, FN, FO, FP, FQ, FR, FS, FT, FU, FV, decide_true, decide_false, FY, FZ, G0, G1]
          refine ⟨hls, hN _ ⟨by rw [htk]; simp; omega, [], ?_⟩⟩
          simp (config := {maxSteps := 4000000}) only [EC, htk, H1, H2, H4, H5, H6, H7, H8, H9, HA, St.only, HB, HC, HD, St.sw, GA, GB, GC, GD, sw, G2, G3, G4, ↓ZX, ↓ZY, ZZ, Nat.reduceBNe, A0, A1, Int.reduceLE, Int.reduceLT, A6, A7, A8, A9, AA, AB, AC, AD, AE, AF, AG, AH, AI, AJ, AK, AL, AM, AN, AO, AP, AQ, AR, AS, AT, AU, AV, AX, AY, AZ, B0, B1, B3, B4, B5, B6, B7, B8, B9, BA, BB, BC, BD, BE, BF, BG, BH, BI, BJ, BK, BL, BM, BN, BO, BP, BQ, BR, BS, BT, BU, BV, BW, BX, BY, BZ, C0, C1, C2, C3, C4, C5, C6, C7, C8, C9, CA, CB, CC, CD, CE, CF, CG, CH, CI, CJ, CK, CL, CM, CN, CO, CP, CQ, CR, CS, CT, CU, CV, CW, CX, CY, CZ, D0, D1, D2, D3, D4, D5, D6, D7, DV.isSl, DV.isStr, DV.isBool, D8, D9, DA, DV.agg, DB, DC, DD, DE, DF, DG, DH, DI, DJ, DK, DL, DM, DN, DO, DP, DQ, DR, DS, DT, DU, St.kill, St.app, St.forget, St.newOK, DW, DX, DY, St.unseen, DZ, E0, E1, E3, E5, E6, E7, E8, E9, EA, EB, EC, Value.cells, Value.oneCell', ED, EE, EF, EG, EH, EJ, EK, EL, id, EM, EN, EO, EP, EQ, ER, ES, ET, EU, EV, EW, EX, EY, EZ, F0, F1, F3, F4, F5, F6, F7, F8, F9, FA, reduceCtorEq, ↓reduceIte, Nat.reduceEqDiff, Nat.reduceAdd, Nat.reduceLT, Nat.reduceLeDiff, Nat.reduceBEq, FB, Nat.reduceMul, FC, FD, FE, FF, FG, FH, FI, if_true, if_false, FL, FM, FN, FO, FP, FQ, FR, FS, FT, FU, FV, decide_true, decide_false, FY, FZ, G0, G1]
          all_goals simp
          all_goals omega
        · have hq' : n = (behL ((sentL l).take i) (x, y)).length + 1 := by
            have : n - ((behL ((sentL l).take i) (x, y)).length : Int) - 1 = 0 := by simpa using hq
            omega
          have hres : RR = some s := by
            rw [← hRR, sentN, show (n - 1).toNat = (behL ((sentL l).take i) (x, y)).length by omega, behL_get (p := (x, y)) hs ho]
          simp (config := {maxSteps := 4000000}) only [Gsn, failsV, jumpV, seqV, lessV, iv, bv, p1, p2, ho, em, hq, EC, H1, H2, H4, H5, H6, H7, H8, H9, HA, St.only, HB, HC, HD, St.sw, GA, GB, GC, GD, sw, G2, G3, G4, ↓ZX, ↓ZY, ZZ, Nat.reduceBNe, A0, A1, Int.reduceLE, Int.reduceLT, A6, A7, A8, A9, AA, AB, AC, AD, AE, AF, AG, AH, AI, AJ, AK, AL, AM, AN, AO, AP, AQ, AR, AS, AT, AU, AV, AX, AY, AZ, B0, B1, B3, B4, B5, B6, B7, B8, B9, BA, BB, BC, BD, BE, BF, BG, BH, BI, BJ, BK, BL, BM, BN, BO, BP, BQ, BR, BS, BT, BU, BV, BW, BX, BY, BZ, C0, C1, C2, C3, C4, C5, C6, C7, C8, C9, CA, CB, CC, CD, CE, CF, CG, CH, CI, CJ, CK, CL, CM, CN, CO, CP, CQ, CR, CS, CT, CU, CV, CW, CX, CY, CZ, D0, D1, D2, D3, D4, D5, D6, D7, DV.isSl, DV.isStr, DV.isBool, D8, D9, DA, DV.agg, DB, DC, DD, DE, DF, DG, DH, DI, DJ, DK, DL, DM, DN, DO, DP, DQ, DR, DS, DT, DU, St.kill, St.app, St.forget, St.newOK, DW, DX, DY, St.unseen, DZ, E0, E1, E3, E5, E6, E7, E8, E9, EA, EB, EC, Value.cells, Value.oneCell', ED, EE, EF, EG, EH, EJ, EK, EL, id, EM, EN, EO, EP, EQ, ER, ES, ET, EU, EV, EW, EX, EY, EZ, F0, F1, F3, F4, F5, F6, F7, F8, F9, FA, reduceCtorEq, ↓reduceIte, Nat.reduceEqDiff, Nat.reduceAdd, Nat.reduceLT, Nat.reduceLeDiff, Nat.reduceBEq, FB, Nat.reduceMul, FC, FD, FE, FF, FG, FH, FI, if_true, if_false, FL, FM, FN, FO, FP, FQ, FR, FS, FT, FU, FV, decide_true, decide_false, FY, FZ, G0, G1]
          refine ⟨hls, para_jump s.1 s.2, hR _ ?_⟩
          simp (config := {maxSteps := 4000000}) only [hres, H1, H2, H4, H5, H6, H7, H8, H9, HA, St.only, HB, HC, HD, St.sw, GA, GB, GC, GD, sw, G2, G3, G4, ↓ZX, ↓ZY, ZZ, Nat.reduceBNe, A0, A1, Int.reduceLE, Int.reduceLT, A6, A7, A8, A9, AA, AB, AC, AD, AE, AF, AG, AH, AI, AJ, AK, AL, AM, AN, AO, AP, AQ, AR, AS, AT, AU, AV, AX, AY, AZ, B0, B1, B3, B4, B5, B6, B7, B8, B9, BA, BB, BC, BD, BE, BF, BG, BH, BI, BJ, BK, BL, BM, BN, BO, BP, BQ, BR, BS, BT, BU, BV, BW, BX, BY, BZ, C0, C1, C2, C3, C4, C5, C6, C7, C8, C9, CA, CB, CC, CD, CE, CF, CG, CH, CI, CJ, CK, CL, CM, CN, CO, CP, CQ, CR, CS, CT, CU, CV, CW, CX, CY, CZ, D0, D1, D2, D3, D4, D5, D6, D7, DV.isSl, DV.isStr, DV.isBool, D8, D9, DA, DV.agg, DB, DC, DD, DE, DF, DG, DH, DI, DJ, DK, DL, DM, DN, DO, DP, DQ, DR, DS, DT, DU, St.kill, St.app, St.forget, St.newOK, DW, DX, DY, St.unseen, DZ, E0, E1, E3, E5, E6, E7, E8, E9, EA, EB, EC, Value.cells, Value.oneCell', ED, EE, EF, EG, EH, EJ, EK, EL, id, EM, EN, EO, EP, EQ, ER, ES, ET, EU, EV, EW, EX, EY, EZ, F0, F1, F3, F4, F5, F6, F7, F8, F9, FA, reduceCtorEq, ↓reduceIte, Nat.reduceEqDiff, Nat.reduceAdd, Nat.reduceLT, Nat.reduceLeDiff, Nat.reduceBEq, FB, Nat.reduceMul, FC, FD, FE, FF, FG, FH, FI, if_true, if_false, FL, FM, FN, FO, FP, FQ, FR, FS, FT, FU, FV, decide_true, decide_false, FY, FZ, G0, G1]
          rfl
    · intro hi
      have e0 : (sentL l).take (posX (sentL l)).length = sentL l := by simp [posX]
      rw [e0] at hi ⊢
      have hnone : (behL (sentL l) (x, y))[(n - 1).toNat]? = none := List.getElem?_eq_none (by omega)
      rw [sentN, hnone] at hRR
      dsimp only at hRR
      have hs := hf.2 (l.length - 1)
      have e2 : IntKind.i64.wrap ((l.length : Int) - 1) = ((l.length - 1 : Nat) : Int) := by rw [w64 (by omega) (by omega)]; omega
      have hls := span_Less x y (l.length - 1 : Nat) (sz l (l.length - 1))
      generalize hM : (behL (sentL l) (x, y)).length = M at hi hRR
      cases op with
      | false =>
        rw [if_neg (by simp)] at hRR
        simp (config := {maxSteps := 4000000}) only [Gsn, failsV, jumpV, seqV, lessV, iv, bv, p1, p2, e2, EC, hM, ← hRR, G2, G3, G4, ↓ZX, ↓ZY, ZZ, Nat.reduceBNe, A0, A1, Int.reduceLE, Int.reduceLT, A6, A7, A8, A9, AA, AB, AC, AD, AE, AF, AG, AH, AI, AJ, AK, AL, AM, AN, AO, AP, AQ, AR, AS, AT, AU, AV, AX, AY, AZ, B0, B1, B3, B4, B5, B6, B7, B8, B9, BA, BB, BC, BD, BE, BF, BG, BH, BI, BJ, BK, BL, BM, BN, BO, BP, BQ, BR, BS, BT, BU, BV, BW, BX, BY, BZ, C0, C1, C2, C3, C4, C5, C6, C7, C8, C9, CA, CB, CC, CD, CE, CF, CG, CH, CI, CJ, CK, CL, CM, CN, CO, CP, CQ, CR, CS, CT, CU, CV, CW, CX, CY, CZ, D0, D1, D2, D3, D4, D5, D6, D7, DV.isSl, DV.isStr, DV.isBool, D8, D9, DA, DV.agg, DB, DC, DD, DE, DF, DG, DH, DI, DJ, DK, DL, DM, DN, DO, DP, DQ, DR, DS, DT, DU, St.kill, St.app, St.forget, St.newOK, DW, DX, DY, St.unseen, DZ, E0, E1, E3, E5, E6, E7, E8, E9, EA, EB, EC, Value.cells, Value.oneCell', ED, EE, EF, EG, EH, EJ, EK, EL, id, EM, EN, EO, EP, EQ, ER, ES, ET, EU, EV, EW, EX, EY, EZ, F0, F1, F3, F4, F5, F6, F7, F8, F9, FA, reduceCtorEq, ↓reduceIte, Nat.reduceEqDiff, Nat.reduceAdd, Nat.reduceLT, Nat.reduceLeDiff, Nat.reduceBEq, FB, Nat.reduceMul, FC, FD, FE, FF, FG, FH, FI, if_true, if_false, FL, FM, FN, FO, FP, FQ, FR, FS, FT, FU, FV, decide_true, decide_false, FY, FZ, G0, G1]
        exact ⟨⟨⟨by omega, by omega⟩, by omega, by omega⟩, rfl⟩
      | true =>
        rcases hq : (n - (M : Int) == 1) with _ | _
        · have hq' : n ≠ (M : Int) + 1 := by simp at hq; omega
          rw [if_neg (by simp [hq'])] at hRR
          simp (config := {maxSteps := 4000000}) only [Gsn, failsV, jumpV, seqV, lessV, iv, bv, p1, p2, e2, EC, hM, ← hRR, bne, hq, G2, G3, G4, ↓ZX, ↓ZY, ZZ, Nat.reduceBNe, A0, A1, Int.reduceLE, Int.reduceLT, A6, A7, A8, A9, AA, AB, AC, AD, AE, AF, AG, AH, AI, AJ, AK, AL, AM, AN, AO, AP, AQ, AR, AS, AT, AU, AV, AX, AY, AZ, B0, B1, B3, B4, B5, B6, B7, B8, B9, BA, BB, BC, BD, BE, BF, BG, BH, BI, BJ, BK, BL, BM, BN, BO, BP, BQ, BR, BS, BT, BU, BV, BW, BX, BY, BZ, C0, C1, C2, C3, C4, C5, C6, C7, C8, C9, CA, CB, CC, CD, CE, CF, CG, CH, CI, CJ, CK, CL, CM, CN, CO, CP, CQ, CR, CS, CT, CU, CV, CW, CX, CY, CZ, D0, D1, D2, D3, D4, D5, D6, D7, DV.isSl, DV.isStr, DV.isBool, D8, D9, DA, DV.agg, DB, DC, DD, DE, DF, DG, DH, DI, DJ, DK, DL, DM, DN, DO, DP, DQ, DR, DS, DT, DU, St.kill, St.app, St.forget, St.newOK, DW, DX, DY, St.unseen, DZ, E0, E1, E3, E5, E6, E7, E8, E9, EA, EB, EC, Value.cells, Value.oneCell', ED, EE, EF, EG, EH, EJ, EK, EL, id, EM, EN, EO, EP, EQ, ER, ES, ET, EU, EV, EW, EX, EY, EZ, F0, F1, F3, F4, F5, F6, F7, F8, F9, FA, reduceCtorEq, ↓reduceIte, Nat.reduceEqDiff, Nat.reduceAdd, Nat.reduceLT, Nat.reduceLeDiff, Nat.reduceBEq, FB, Nat.reduceMul, FC, FD, FE, FF, FG, FH, FI, if_true, if_false, FL, FM, FN, FO, FP, FQ, FR, FS, FT, FU, FV, decide_true, decide_false, FY, FZ, G0, G1]
          exact ⟨⟨⟨by omega, by omega⟩, by omega, by omega⟩, rfl⟩
        · have hq' : n = (M : Int) + 1 := by simp at hq; omega
          rcases ho : lessI x y (l.length - 1 : Nat) (sz l (l.length - 1)) with _ | _
          · rw [ho] at hls
            rw [if_neg (by simp [okF, endP, ho])] at hRR
            simp (config := {maxSteps := 4000000}) only [Gsn, failsV, jumpV, seqV, lessV, iv, bv, p1, p2, e2, EC, hM, ← hRR, bne, hq, ho, G2, G3, G4, ↓ZX, ↓ZY, ZZ, Nat.reduceBNe, A0, A1, Int.reduceLE, Int.reduceLT, A6, A7, A8, A9, AA, AB, AC, AD, AE, AF, AG, AH, AI, AJ, AK, AL, AM, AN, AO, AP, AQ, AR, AS, AT, AU, AV, AX, AY, AZ, B0, B1, B3, B4, B5, B6, B7, B8, B9, BA, BB, BC, BD, BE, BF, BG, BH, BI, BJ, BK, BL, BM, BN, BO, BP, BQ, BR, BS, BT, BU, BV, BW, BX, BY, BZ, C0, C1, C2, C3, C4, C5, C6, C7, C8, C9, CA, CB, CC, CD, CE, CF, CG, CH, CI, CJ, CK, CL, CM, CN, CO, CP, CQ, CR, CS, CT, CU, CV, CW, CX, CY, CZ, D0, D1, D2, D3, D4, D5, D6, D7, DV.isSl, DV.isStr, DV.isBool, D8, D9, DA, DV.agg, DB, DC, DD, DE, DF, DG, DH, DI, DJ, DK, DL, DM, DN, DO, DP, DQ, DR, DS, DT, DU, St.kill, St.app, St.forget, St.newOK, DW, DX, DY, St.unseen, DZ, E0, E1, E3, E5, E6, E7, E8, E9, EA, EB, EC, Value.cells, Value.oneCell', ED, EE, EF, EG, EH, EJ, EK, EL, id, EM, EN, EO, EP, EQ, ER, ES, ET, EU, EV, EW, EX, EY, EZ, F0, F1, F3, F4, F5, F6, F7, F8, F9, FA, reduceCtorEq, ↓reduceIte, Nat.reduceEqDiff, Nat.reduceAdd, Nat.reduceLT, Nat.reduceLeDiff, Nat.reduceBEq, FB, Nat.reduceMul, FC, FD, FE, FF, FG, FH, FI, if_true, if_false, FL, FM, FN, FO, FP, FQ, FR, FS, FT, FU, FV, decide_true, decide_false, FY, FZ, G0, G1]
            exact ⟨⟨⟨by omega, by omega⟩, by omega, by omega⟩, hls, rfl⟩
          · rw [ho] at hls
            rw [if_pos ⟨rfl, hq', ho⟩] at hRR
            simp (config := {maxSteps := 4000000}) only [Gsn, failsV, jumpV, seqV, lessV, iv, bv, p1, p2, e2, EC, hM, ← hRR, bne, hq, ho, G2, G3, G4, ↓ZX, ↓ZY, ZZ, Nat.reduceBNe, A0, A1, Int.reduceLE, Int.reduceLT, A6, A7, A8, A9, AA, AB, AC, AD, AE, AF, AG, AH, AI, AJ, AK, AL, AM, AN, AO, AP, AQ, AR, AS, AT, AU, AV, AX, AY, AZ, B0, B1, B3, B4, B5, B6, B7, B8, B9, BA, BB, BC, BD, BE, BF, BG, BH, BI, BJ, BK, BL, BM, BN, BO, BP, BQ, BR, BS, BT, BU, BV, BW, BX, BY, BZ, C0, C1, C2, C3, C4, C5, C6, C7, C8, C9, CA, CB, CC, CD, CE, CF, CG, CH, CI, CJ, CK, CL, CM, CN, CO, CP, CQ, CR, CS, CT, CU, CV, CW, CX, CY, CZ, D0, D1, D2, D3, D4, D5, D6, D7, DV.isSl, DV.isStr, DV.isBool, D8, D9, DA, DV.agg, DB, DC, DD, DE, DF, DG, DH, DI, DJ, DK, DL, DM, DN, DO, DP, DQ, DR, DS, DT, DU, St.kill, St.app, St.forget, St.newOK, DW, DX, DY, St.unseen, DZ, E0, E1, E3, E5, E6, E7, E8, E9, EA, EB, EC, Value.cells, Value.oneCell', ED, EE, EF, EG, EH, EJ, EK, EL, id, EM, EN, EO, EP, EQ, ER, ES, ET, EU, EV, EW, EX, EY, EZ, F0, F1, F3, F4, F5, F6, F7, F8, F9, FA, reduceCtorEq, ↓reduceIte, Nat.reduceEqDiff, Nat.reduceAdd, Nat.reduceLT, Nat.reduceLeDiff, Nat.reduceBEq, FB, Nat.reduceMul, FC, FD, FE, FF, FG, FH, FI, if_true, if_false, FL, FM, FN, FO, FP, FQ, FR, FS, FT, FU, FV, decide_true, decide_false, FY, FZ, G0, G1]
            exact ⟨⟨⟨by omega, by omega⟩, by omega, by omega⟩, hls, para_jump _ _, rfl⟩
  · rw [h] at hfl
    simp (config := {maxSteps := 4000000}) only [Try.f39, Gsn, failsV, jumpV, seqV, lessV, iv, bv, p1, p2, h, G2, G3, G4, ↓ZX, ↓ZY, ZZ, Nat.reduceBNe, A0, A1, Int.reduceLE, Int.reduceLT, A6, A7, A8, A9, AA, AB, AC, AD, AE, AF, AG, AH, AI, AJ, AK, AL, AM, AN, AO, AP, AQ, AR, AS, AT, AU, AV, AX, AY, AZ, B0, B1, B3, B4, B5, B6, B7, B8, B9, BA, BB, BC, BD, BE, BF, BG, BH, BI, BJ, BK, BL, BM, BN, BO, BP, BQ, BR, BS, BT, BU, BV, BW, BX, BY, BZ, C0, C1, C2, C3, C4, C5, C6, C7, C8, C9, CA, CB, CC, CD, CE, CF, CG, CH, CI, CJ, CK, CL, CM, CN, CO, CP, CQ, CR, CS, CT, CU, CV, CW, CX, CY, CZ, D0, D1, D2, D3, D4, D5, D6, D7, DV.isSl, DV.isStr, DV.isBool, D8, D9, DA, DV.agg, DB, DC, DD, DE, DF, DG, DH, DI, DJ, DK, DL, DM, DN, DO, DP, DQ, DR, DS, DT, DU, St.kill, St.app, St.forget, St.newOK, DW, DX, DY, St.unseen, DZ, E0, E1, E3, E5, E6, E7, E8, E9, EA, EB, EC, Value.cells, Value.oneCell', ED, EE, EF, EG, EH, EJ, EK, EL, id, EM, EN, EO, EP, EQ, ER, ES, ET, EU, EV, EW, EX, EY, EZ, F0, F1, F3, F4, F5, F6, F7, F8, F9, FA, reduceCtorEq, ↓reduceIte, Nat.reduceEqDiff, Nat.reduceAdd, Nat.reduceLT, Nat.reduceLeDiff, Nat.reduceBEq, FB, Nat.reduceMul, FC, FD, FE, FF, FG, FH, FI, if_true, if_false, FL, FM, FN, FO, FP, FQ, FR, FS, FT, FU, FV, decide_true, decide_false, FY, FZ, G0, G1]
    exact ⟨hfl, rfl⟩

end Go.Ab
