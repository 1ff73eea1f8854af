/- The law SentOrder, walked. -/
import Derived.Test.Ytogmnhebobdokab43
import Derived.Test.Ytogmnhebobdokab47
import Derived.Test.YtogmnhebobdokabSo
import Derived.Test.Ytogmnhebobdokab17
set_option linter.unusedVariables false
set_option linter.unusedSimpArgs false
namespace Go.Ab
open Go Go.RowKit Go.Proofs

theorem sentN_get {l : List ByteArray} {op : Bool} {p : Nat × Nat} {n : Int} {B : List (Nat × Nat)} (h : behL (sentL l) p = B) : sentN l op p n = match B[(n - 1).toNat]? with
    | some s => some s
    | none => if op = true ∧ n = B.length + 1 ∧ okF p (endP l) = true then some (endP l) else none := by subst h; rfl
theorem sent_place {l : List ByteArray} {p : Nat × Nat} (h : p ∈ sentL l) : placeB l p.1 p.2 = true := by
  have := sentL_mem h
  have h2 : p.2 ≤ sz l p.1 := by omega
  unfold placeB
  rw [decide_eq_true (by omega), decide_eq_true (by omega), decide_eq_true (by omega), decide_eq_true (by show (p.2 : Int) ≤ ((sz l p.1 : Nat) : Int); omega)]
  rfl
theorem sent_fails {l : List ByteArray} {p : Nat × Nat} (h : p ∈ sentL l) {n : Int} (hn : 1 ≤ n) : failsB l p.1 p.2 n = false := by
  rw [failsB, sent_place h, decide_eq_false (by omega)]; rfl
theorem sent_nx {l : List ByteArray} {i : Nat} {p : Nat × Nat} (h : (sentL l)[i]? = some p) : sentNI l false p.1 p.2 1 = (sentL l)[i + 1]? := by
  rw [sentNI, if_neg (by rw [sent_fails (List.mem_of_getElem? h) (by omega)]; simp)]
  simp only [Int.toNat_natCast]
  rw [sentN_get (beh_at (sentL_sorted l) h)]
  simp
  cases (sentL l)[i + 1]? <;> rfl
theorem sent_bk {l : List ByteArray} {i : Nat} {p : Nat × Nat} (h : (sentL l)[i]? = some p) : sentBI l p.1 p.2 1 = if i = 0 then none else (sentL l)[i - 1]? := by
  rw [sentBI, if_neg (by rw [sent_fails (List.mem_of_getElem? h) (by omega)]; simp), sentB]
  simp only [Int.toNat_natCast]
  rw [ahe_at (sentL_sorted l) h]
  have hlt := List.getElem?_eq_some_iff.1 h
  obtain ⟨hlt, _⟩ := hlt
  have e : ((sentL l).take i).length = i := by rw [List.length_take]; omega
  rw [e]
  by_cases h0 : i = 0
  · rw [if_pos (by omega), if_pos h0]
  · rw [if_neg (by omega), if_neg h0, show (1 : Int).toNat = 1 from rfl, List.getElem?_take, if_pos (by omega)]
theorem sent_far {l : List ByteArray} {i : Nat} {p : Nat × Nat} (h : (sentL l)[i]? = some p) : sentNI l true p.1 p.2 (((sentL l).length : Int) - i) = if okF p (endP l) = true then some (endP l) else none := by
  obtain ⟨hlt, _⟩ := List.getElem?_eq_some_iff.1 h
  rw [sentNI, if_neg (by rw [sent_fails (List.mem_of_getElem? h) (by omega)]; simp)]
  simp only [Int.toNat_natCast]
  rw [sentN_get (beh_at (sentL_sorted l) h)]
  rw [List.getElem?_eq_none (by rw [List.length_drop]; omega)]
  dsimp only
  rw [List.length_drop]
  by_cases hk : okF p (endP l) = true
  · rw [if_pos ⟨by trivial, by omega, hk⟩, if_pos hk]
  · rw [if_neg (fun g => hk g.2.2), if_neg hk]

def Gso (l : List ByteArray) (f : FuncId) (args : List V) : Option (List RV) :=
  if f = 27 then some [.v (.bool true)]
  else if f = 20 then some [.v (.bool (textB l))]
  else if f = 36 then (match args with | [_] => some [.row (posRow (sentL l))] | _ => none)
  else if f = 39 then nxV (sentNI l) args
  else if f = 41 then bxV (sentBI l) args else none

set_option maxRecDepth 100000 in
set_option maxHeartbeats 4000000 in
theorem law_SentOrder (l : List ByteArray) (hw : ∀ a, sz l a ≤ 4611686018427387904) (k : Nat) :
    CallOK Try.prog 11 [.r k] [some (EC l)] [.v (.bool true)] := by
  refine callOK_of_awp (c := cx (Gso l) 109) (cx_ok _ _) Try.func11 (by kernel_rfl) rfl rfl (by simp [cx]) (by simp [sizesOK, EC]) (awk_of ?_)
  have hT := help_Text l hw 0
  rcases ht : textB l with _ | _
  · rw [ht] at hT
    simp (config := {maxSteps := 4000000}) only [Try.f11, Gso, ht, G2, G3, G4, ↓ZX, ↓ZY, ZZ, Nat.reduceBNe, A0, A1, Int.reduceLE, Int.reduceLT, A6, A7, A8, A9, AA, AB, AC, AD, AE, AF, AG, AH, AI, AJ, AK, AL, AM, AN, AO, AP, AQ, AR, AS, AT, AU, AV, AX, AY, AZ, B0, B1, B3, B4, B5, B6, B7, B8, B9, BA, BB, BC, BD, BE, BF, BG, BH, BI, BJ, BK, BL, BM, BN, BO, BP, BQ, BR, BS, BT, BU, BV, BW, BX, BY, BZ, C0, C1, C2, C3, C4, C5, C6, C7, C8, C9, CA, CB, CC, CD, CE, CF, CG, CH, CI, CJ, CK, CL, CM, CN, CO, CP, CQ, CR, CS, CT, CU, CV, CW, CX, CY, CZ, D0, D1, D2, D3, D4, D5, D6, D7, DV.isSl, DV.isStr, DV.isBool, D8, D9, DA, DV.agg, DB, DC, DD, DE, DF, DG, DH, DI, DJ, DK, DL, DM, DN, DO, DP, DQ, DR, DS, DT, DU, St.kill, St.app, St.forget, St.newOK, DW, DX, DY, St.unseen, DZ, E0, E1, E3, E5, E6, E7, E8, E9, EA, EB, EC, Value.cells, Value.oneCell', ED, EE, EF, EG, EH, EJ, EK, EL, id, EM, EN, EO, EP, EQ, ER, ES, ET, EU, EV, EW, EX, EY, EZ, F0, F1, F3, F4, F5, F6, F7, F8, F9, FA, reduceCtorEq, ↓reduceIte, Nat.reduceEqDiff, Nat.reduceAdd, Nat.reduceLT, Nat.reduceLeDiff, Nat.reduceBEq, FB, Nat.reduceMul, FC, FD, FE, FF, FG, FH, FI, if_true, if_false, FL, FM, FN, FO, FP, FQ, FR, FS, FT, FU, FV, decide_true, decide_false, FY, FZ, G0, G1]
    exact ⟨law10_known, hT⟩
  · rw [ht] at hT
    obtain ⟨hf, hl⟩ := fit_of_text ht
    have hl40 := hf.1
    have hsl := sentTo_len l hf l.length
    have hL40 : (sentL l).length ≤ 48000 := by unfold sentL; omega
    simp (config := {maxSteps := 4000000}) only [Try.f11, Gso, posRow, ht, G2, G3, G4, ↓ZX, ↓ZY, ZZ, Nat.reduceBNe, A0, A1, Int.reduceLE, Int.reduceLT, A6, A7, A8, A9, AA, AB, AC, AD, AE, AF, AG, AH, AI, AJ, AK, AL, AM, AN, AO, AP, AQ, AR, AS, AT, AU, AV, AX, AY, AZ, B0, B1, B3, B4, B5, B6, B7, B8, B9, BA, BB, BC, BD, BE, BF, BG, BH, BI, BJ, BK, BL, BM, BN, BO, BP, BQ, BR, BS, BT, BU, BV, BW, BX, BY, BZ, C0, C1, C2, C3, C4, C5, C6, C7, C8, C9, CA, CB, CC, CD, CE, CF, CG, CH, CI, CJ, CK, CL, CM, CN, CO, CP, CQ, CR, CS, CT, CU, CV, CW, CX, CY, CZ, D0, D1, D2, D3, D4, D5, D6, D7, DV.isSl, DV.isStr, DV.isBool, D8, D9, DA, DV.agg, DB, DC, DD, DE, DF, DG, DH, DI, DJ, DK, DL, DM, DN, DO, DP, DQ, DR, DS, DT, DU, St.kill, St.app, St.forget, St.newOK, DW, DX, DY, St.unseen, DZ, E0, E1, E3, E5, E6, E7, E8, E9, EA, EB, EC, Value.cells, Value.oneCell', ED, EE, EF, EG, EH, EJ, EK, EL, id, EM, EN, EO, EP, EQ, ER, ES, ET, EU, EV, EW, EX, EY, EZ, F0, F1, F3, F4, F5, F6, F7, F8, F9, FA, reduceCtorEq, ↓reduceIte, Nat.reduceEqDiff, Nat.reduceAdd, Nat.reduceLT, Nat.reduceLeDiff, Nat.reduceBEq, FB, Nat.reduceMul, FC, FD, FE, FF, FG, FH, FI, if_true, if_false, FL, FM, FN, FO, FP, FQ, FR, FS, FT, FU, FV, decide_true, decide_false, FY, FZ, G0, G1]
    refine ⟨law10_known, hT, ref_Sentences l hf 0, ?_⟩
    refine AWL_loop (cx_ok _ _) (fun i : Nat => ⟨[(0, .r 0), (3, .r 18), (4, .v (i64 i))], [], [(0, some (EC l)), (18, some { posRow (sentL l) with new := true })]⟩)
      (fun i => i ≤ (sentL l).length) (fun i => (sentL l).length - i) 0 ?_ (by omega) ?_
    · simp (config := {maxSteps := 4000000}) only [posRow, EC, G2, G3, G4, ↓ZX, ↓ZY, ZZ, Nat.reduceBNe, A0, A1, Int.reduceLE, Int.reduceLT, A6, A7, A8, A9, AA, AB, AC, AD, AE, AF, AG, AH, AI, AJ, AK, AL, AM, AN, AO, AP, AQ, AR, AS, AT, AU, AV, AX, AY, AZ, B0, B1, B3, B4, B5, B6, B7, B8, B9, BA, BB, BC, BD, BE, BF, BG, BH, BI, BJ, BK, BL, BM, BN, BO, BP, BQ, BR, BS, BT, BU, BV, BW, BX, BY, BZ, C0, C1, C2, C3, C4, C5, C6, C7, C8, C9, CA, CB, CC, CD, CE, CF, CG, CH, CI, CJ, CK, CL, CM, CN, CO, CP, CQ, CR, CS, CT, CU, CV, CW, CX, CY, CZ, D0, D1, D2, D3, D4, D5, D6, D7, DV.isSl, DV.isStr, DV.isBool, D8, D9, DA, DV.agg, DB, DC, DD, DE, DF, DG, DH, DI, DJ, DK, DL, DM, DN, DO, DP, DQ, DR, DS, DT, DU, St.kill, St.app, St.forget, St.newOK, DW, DX, DY, St.unseen, DZ, E0, E1, E3, E5, E6, E7, E8, E9, EA, EB, EC, Value.cells, Value.oneCell', ED, EE, EF, EG, EH, EJ, EK, EL, id, EM, EN, EO, EP, EQ, ER, ES, ET, EU, EV, EW, EX, EY, EZ, F0, F1, F3, F4, F5, F6, F7, F8, F9, FA, reduceCtorEq, ↓reduceIte, Nat.reduceEqDiff, Nat.reduceAdd, Nat.reduceLT, Nat.reduceLeDiff, Nat.reduceBEq, FB, Nat.reduceMul, FC, FD, FE, FF, FG, FH, FI, if_true, if_false, FL, FM, FN, FO, FP, FQ, FR, FS, FT, FU, FV, decide_true, decide_false, FY, FZ, G0, G1]
      all_goals simp
    · rintro i hi R hN hR hE
      by_cases hil : i < (sentL l).length
      · obtain ⟨s, hs⟩ : ∃ s, (sentL l)[i]? = some s := ⟨_, List.getElem?_eq_getElem hil⟩
        have hsd : (sentL l).getD i (0, 0) = s := by rw [List.getD_eq_getElem?_getD, hs]; rfl
        have d : decide ((i : Int) < ((sentL l).length : Int)) = true := decide_eq_true (by omega)
        have ei : IntKind.i64.wrap ((i : Int) + 1) = ((i + 1 : Nat) : Int) := by rw [w64 (by omega) (by omega)]; omega
        have em : IntKind.i64.wrap (((sentL l).length : Int) - i) = ((sentL l).length : Int) - i := w64 (by omega) (by omega)
        have el : IntKind.i64.wrap ((l.length : Int) - 1) = ((l.length - 1 : Nat) : Int) := by rw [w64 (by omega) (by omega)]; omega
        have c1 := para_SentNext l hf s.1 s.2 1 (by omega) false 0
        have c2 := para_SentBack l hf s.1 s.2 1 (by omega) 0
        have c3 := para_SentNext l hf s.1 s.2 (((sentL l).length : Int) - i) (by omega) true 0
        have n1 := sent_nx hs
        have n2 := sent_bk hs
        have n3 := sent_far hs
        have c4 : CallOK Try.prog 39 [.r 0, .v (pos s.1 s.2), .v (i64 (((sentL l).length : Int) - i)), .v (.bool true)] [some (EC l), none, none, none] [.v (jumpP (sentNI l true s.1 s.2 (((sentL l).length : Int) - i))), .v (.bool (sentNI l true s.1 s.2 (((sentL l).length : Int) - i)).isSome)] := c3
        rw [n1] at c1
        rw [n2] at c2
        rw [n3] at c4
        have hs1 := hf.2 (l.length - 1)
        have qA : (sentL l).getD (i + 1) (0, 0) = ((sentL l)[i + 1]?).getD (0, 0) := List.getD_eq_getElem?_getD ..
        have dA : decide (((i + 1 : Nat) : Int) < ((sentL l).length : Int)) = ((sentL l)[i + 1]?).isSome := by
          by_cases g : i + 1 < (sentL l).length
          · rw [List.getElem?_eq_getElem g, decide_eq_true (by omega)]; rfl
          · rw [List.getElem?_eq_none (by omega), decide_eq_false (by omega)]; rfl
        have hE0 : ∀ e, (if okF s (endP l) = true then some (endP l) else none) = some e → e = endP l := by
          intro e he
          split at he
          · simpa using he.symm
          · cases he
        have hlt : ∀ u, (sentL l)[i + 1]? = some u → i + 1 < (sentL l).length := fun u hu => (List.getElem?_eq_some_iff.1 hu).1
        generalize (sentL l)[i + 1]? = A at *
        generalize (if okF s (endP l) = true then some (endP l) else none) = E at *
        by_cases h0 : i = 0
        · have d0 : decide (0 < (i : Int)) = false := decide_eq_false (by omega)
          rw [if_pos h0] at n2 c2
          cases A with
            | none => cases E with
              | none =>
                simp (config := {maxSteps := 4000000}) only [Gso, nxV, bxV, iv, bv, p1, p2, posRow, EC, d, hsd, ei, em, el, n1, n2, n3, qA, dA, d0, endP, bne, beq_self_eq_true, AA, G2, G3, G4, ↓ZX, ↓ZY, ZZ, Nat.reduceBNe, A0, A1, Int.reduceLE, Int.reduceLT, A6, A7, A8, A9, AA, AB, AC, AD, AE, AF, AG, AH, AI, AJ, AK, AL, AM, AN, AO, AP, AQ, AR, AS, AT, AU, AV, AX, AY, AZ, B0, B1, B3, B4, B5, B6, B7, B8, B9, BA, BB, BC, BD, BE, BF, BG, BH, BI, BJ, BK, BL, BM, BN, BO, BP, BQ, BR, BS, BT, BU, BV, BW, BX, BY, BZ, C0, C1, C2, C3, C4, C5, C6, C7, C8, C9, CA, CB, CC, CD, CE, CF, CG, CH, CI, CJ, CK, CL, CM, CN, CO, CP, CQ, CR, CS, CT, CU, CV, CW, CX, CY, CZ, D0, D1, D2, D3, D4, D5, D6, D7, DV.isSl, DV.isStr, DV.isBool, D8, D9, DA, DV.agg, DB, DC, DD, DE, DF, DG, DH, DI, DJ, DK, DL, DM, DN, DO, DP, DQ, DR, DS, DT, DU, St.kill, St.app, St.forget, St.newOK, DW, DX, DY, St.unseen, DZ, E0, E1, E3, E5, E6, E7, E8, E9, EA, EB, EC, Value.cells, Value.oneCell', ED, EE, EF, EG, EH, EJ, EK, EL, id, EM, EN, EO, EP, EQ, ER, ES, ET, EU, EV, EW, EX, EY, EZ, F0, F1, F3, F4, F5, F6, F7, F8, F9, FA, reduceCtorEq, ↓reduceIte, Nat.reduceEqDiff, Nat.reduceAdd, Nat.reduceLT, Nat.reduceLeDiff, Nat.reduceBEq, FB, Nat.reduceMul, FC, FD, FE, FF, FG, FH, FI, if_true, if_false, FL, FM, FN, FO, FP, FQ, FR, FS, FT, FU, FV, decide_true, decide_false, FY, FZ, G0, G1]
                repeat' (first | with_reducible apply And.intro | intro _)
                all_goals first
                  | exact c1
                  | exact c2
                  | exact c4
                  | omega
                  | kernel_rfl
                  | refine hN _ ⟨i + 1, by omega, by dsimp only; omega, ?_⟩
                simp (config := {maxSteps := 4000000}) only [posRow, EC, G2, G3, G4, ↓ZX, ↓ZY, ZZ, Nat.reduceBNe, A0, A1, Int.reduceLE, Int.reduceLT, A6, A7, A8, A9, AA, AB, AC, AD, AE, AF, AG, AH, AI, AJ, AK, AL, AM, AN, AO, AP, AQ, AR, AS, AT, AU, AV, AX, AY, AZ, B0, B1, B3, B4, B5, B6, B7, B8, B9, BA, BB, BC, BD, BE, BF, BG, BH, BI, BJ, BK, BL, BM, BN, BO, BP, BQ, BR, BS, BT, BU, BV, BW, BX, BY, BZ, C0, C1, C2, C3, C4, C5, C6, C7, C8, C9, CA, CB, CC, CD, CE, CF, CG, CH, CI, CJ, CK, CL, CM, CN, CO, CP, CQ, CR, CS, CT, CU, CV, CW, CX, CY, CZ, D0, D1, D2, D3, D4, D5, D6, D7, DV.isSl, DV.isStr, DV.isBool, D8, D9, DA, DV.agg, DB, DC, DD, DE, DF, DG, DH, DI, DJ, DK, DL, DM, DN, DO, DP, DQ, DR, DS, DT, DU, St.kill, St.app, St.forget, St.newOK, DW, DX, DY, St.unseen, DZ, E0, E1, E3, E5, E6, E7, E8, E9, EA, EB, EC, Value.cells, Value.oneCell', ED, EE, EF, EG, EH, EJ, EK, EL, id, EM, EN, EO, EP, EQ, ER, ES, ET, EU, EV, EW, EX, EY, EZ, F0, F1, F3, F4, F5, F6, F7, F8, F9, FA, reduceCtorEq, ↓reduceIte, Nat.reduceEqDiff, Nat.reduceAdd, Nat.reduceLT, Nat.reduceLeDiff, Nat.reduceBEq, FB, Nat.reduceMul, FC, FD, FE, FF, FG, FH, FI, if_true, if_false, FL, FM, FN, FO, FP, FQ, FR, FS, FT, FU, FV, decide_true, decide_false, FY, FZ, G0, G1]
                all_goals simp
              | some e =>
                obtain rfl := hE0 e rfl
                simp (config := {maxSteps := 4000000}) only [Gso, nxV, bxV, iv, bv, p1, p2, posRow, EC, d, hsd, ei, em, el, n1, n2, n3, qA, dA, d0, endP, bne, beq_self_eq_true, AA, G2, G3, G4, ↓ZX, ↓ZY, ZZ, Nat.reduceBNe, A0, A1, Int.reduceLE, Int.reduceLT, A6, A7, A8, A9, AA, AB, AC, AD, AE, AF, AG, AH, AI, AJ, AK, AL, AM, AN, AO, AP, AQ, AR, AS, AT, AU, AV, AX, AY, AZ, B0, B1, B3, B4, B5, B6, B7, B8, B9, BA, BB, BC, BD, BE, BF, BG, BH, BI, BJ, BK, BL, BM, BN, BO, BP, BQ, BR, BS, BT, BU, BV, BW, BX, BY, BZ, C0, C1, C2, C3, C4, C5, C6, C7, C8, C9, CA, CB, CC, CD, CE, CF, CG, CH, CI, CJ, CK, CL, CM, CN, CO, CP, CQ, CR, CS, CT, CU, CV, CW, CX, CY, CZ, D0, D1, D2, D3, D4, D5, D6, D7, DV.isSl, DV.isStr, DV.isBool, D8, D9, DA, DV.agg, DB, DC, DD, DE, DF, DG, DH, DI, DJ, DK, DL, DM, DN, DO, DP, DQ, DR, DS, DT, DU, St.kill, St.app, St.forget, St.newOK, DW, DX, DY, St.unseen, DZ, E0, E1, E3, E5, E6, E7, E8, E9, EA, EB, EC, Value.cells, Value.oneCell', ED, EE, EF, EG, EH, EJ, EK, EL, id, EM, EN, EO, EP, EQ, ER, ES, ET, EU, EV, EW, EX, EY, EZ, F0, F1, F3, F4, F5, F6, F7, F8, F9, FA, reduceCtorEq, ↓reduceIte, Nat.reduceEqDiff, Nat.reduceAdd, Nat.reduceLT, Nat.reduceLeDiff, Nat.reduceBEq, FB, Nat.reduceMul, FC, FD, FE, FF, FG, FH, FI, if_true, if_false, FL, FM, FN, FO, FP, FQ, FR, FS, FT, FU, FV, decide_true, decide_false, FY, FZ, G0, G1]
                repeat' (first | with_reducible apply And.intro | intro _)
                all_goals first
                  | exact c1
                  | exact c2
                  | exact c4
                  | omega
                  | kernel_rfl
                  | refine hN _ ⟨i + 1, by omega, by dsimp only; omega, ?_⟩
                simp (config := {maxSteps := 4000000}) only [posRow, EC, G2, G3, G4, ↓ZX, ↓ZY, ZZ, Nat.reduceBNe, A0, A1, Int.reduceLE, Int.reduceLT, A6, A7, A8, A9, AA, AB, AC, AD, AE, AF, AG, AH, AI, AJ, AK, AL, AM, AN, AO, AP, AQ, AR, AS, AT, AU, AV, AX, AY, AZ, B0, B1, B3, B4, B5, B6, B7, B8, B9, BA, BB, BC, BD, BE, BF, BG, BH, BI, BJ, BK, BL, BM, BN, BO, BP, BQ, BR, BS, BT, BU, BV, BW, BX, BY, BZ, C0, C1, C2, C3, C4, C5, C6, C7, C8, C9, CA, CB, CC, CD, CE, CF, CG, CH, CI, CJ, CK, CL, CM, CN, CO, CP, CQ, CR, CS, CT, CU, CV, CW, CX, CY, CZ, D0, D1, D2, D3, D4, D5, D6, D7, DV.isSl, DV.isStr, DV.isBool, D8, D9, DA, DV.agg, DB, DC, DD, DE, DF, DG, DH, DI, DJ, DK, DL, DM, DN, DO, DP, DQ, DR, DS, DT, DU, St.kill, St.app, St.forget, St.newOK, DW, DX, DY, St.unseen, DZ, E0, E1, E3, E5, E6, E7, E8, E9, EA, EB, EC, Value.cells, Value.oneCell', ED, EE, EF, EG, EH, EJ, EK, EL, id, EM, EN, EO, EP, EQ, ER, ES, ET, EU, EV, EW, EX, EY, EZ, F0, F1, F3, F4, F5, F6, F7, F8, F9, FA, reduceCtorEq, ↓reduceIte, Nat.reduceEqDiff, Nat.reduceAdd, Nat.reduceLT, Nat.reduceLeDiff, Nat.reduceBEq, FB, Nat.reduceMul, FC, FD, FE, FF, FG, FH, FI, if_true, if_false, FL, FM, FN, FO, FP, FQ, FR, FS, FT, FU, FV, decide_true, decide_false, FY, FZ, G0, G1]
                all_goals simp
            | some u => cases E with
              | none =>
                have hu := hlt u rfl
                simp (config := {maxSteps := 4000000}) only [Gso, nxV, bxV, iv, bv, p1, p2, posRow, EC, d, hsd, ei, em, el, n1, n2, n3, qA, dA, d0, endP, bne, beq_self_eq_true, AA, G2, G3, G4, ↓ZX, ↓ZY, ZZ, Nat.reduceBNe, A0, A1, Int.reduceLE, Int.reduceLT, A6, A7, A8, A9, AA, AB, AC, AD, AE, AF, AG, AH, AI, AJ, AK, AL, AM, AN, AO, AP, AQ, AR, AS, AT, AU, AV, AX, AY, AZ, B0, B1, B3, B4, B5, B6, B7, B8, B9, BA, BB, BC, BD, BE, BF, BG, BH, BI, BJ, BK, BL, BM, BN, BO, BP, BQ, BR, BS, BT, BU, BV, BW, BX, BY, BZ, C0, C1, C2, C3, C4, C5, C6, C7, C8, C9, CA, CB, CC, CD, CE, CF, CG, CH, CI, CJ, CK, CL, CM, CN, CO, CP, CQ, CR, CS, CT, CU, CV, CW, CX, CY, CZ, D0, D1, D2, D3, D4, D5, D6, D7, DV.isSl, DV.isStr, DV.isBool, D8, D9, DA, DV.agg, DB, DC, DD, DE, DF, DG, DH, DI, DJ, DK, DL, DM, DN, DO, DP, DQ, DR, DS, DT, DU, St.kill, St.app, St.forget, St.newOK, DW, DX, DY, St.unseen, DZ, E0, E1, E3, E5, E6, E7, E8, E9, EA, EB, EC, Value.cells, Value.oneCell', ED, EE, EF, EG, EH, EJ, EK, EL, id, EM, EN, EO, EP, EQ, ER, ES, ET, EU, EV, EW, EX, EY, EZ, F0, F1, F3, F4, F5, F6, F7, F8, F9, FA, reduceCtorEq, ↓reduceIte, Nat.reduceEqDiff, Nat.reduceAdd, Nat.reduceLT, Nat.reduceLeDiff, Nat.reduceBEq, FB, Nat.reduceMul, FC, FD, FE, FF, FG, FH, FI, if_true, if_false, FL, FM, FN, FO, FP, FQ, FR, FS, FT, FU, FV, decide_true, decide_false, FY, FZ, G0, G1]
                repeat' (first | with_reducible apply And.intro | intro _)
                all_goals first
                  | exact c1
                  | exact c2
                  | exact c4
                  | omega
                  | kernel_rfl
                  | refine hN _ ⟨i + 1, by omega, by dsimp only; omega, ?_⟩
                simp (config := {maxSteps := 4000000}) only [posRow, EC, G2, G3, G4, ↓ZX, ↓ZY, ZZ, Nat.reduceBNe, A0, A1, Int.reduceLE, Int.reduceLT, A6, A7, A8, A9, AA, AB, AC, AD, AE, AF, AG, AH, AI, AJ, AK, AL, AM, AN, AO, AP, AQ, AR, AS, AT, AU, AV, AX, AY, AZ, B0, B1, B3, B4, B5, B6, B7, B8, B9, BA, BB, BC, BD, BE, BF, BG, BH, BI, BJ, BK, BL, BM, BN, BO, BP, BQ, BR, BS, BT, BU, BV, BW, BX, BY, BZ, C0, C1, C2, C3, C4, C5, C6, C7, C8, C9, CA, CB, CC, CD, CE, CF, CG, CH, CI, CJ, CK, CL, CM, CN, CO, CP, CQ, CR, CS, CT, CU, CV, CW, CX, CY, CZ, D0, D1, D2, D3, D4, D5, D6, D7, DV.isSl, DV.isStr, DV.isBool, D8, D9, DA, DV.agg, DB, DC, DD, DE, DF, DG, DH, DI, DJ, DK, DL, DM, DN, DO, DP, DQ, DR, DS, DT, DU, St.kill, St.app, St.forget, St.newOK, DW, DX, DY, St.unseen, DZ, E0, E1, E3, E5, E6, E7, E8, E9, EA, EB, EC, Value.cells, Value.oneCell', ED, EE, EF, EG, EH, EJ, EK, EL, id, EM, EN, EO, EP, EQ, ER, ES, ET, EU, EV, EW, EX, EY, EZ, F0, F1, F3, F4, F5, F6, F7, F8, F9, FA, reduceCtorEq, ↓reduceIte, Nat.reduceEqDiff, Nat.reduceAdd, Nat.reduceLT, Nat.reduceLeDiff, Nat.reduceBEq, FB, Nat.reduceMul, FC, FD, FE, FF, FG, FH, FI, if_true, if_false, FL, FM, FN, FO, FP, FQ, FR, FS, FT, FU, FV, decide_true, decide_false, FY, FZ, G0, G1]
                all_goals simp
              | some e =>
                have hu := hlt u rfl
                obtain rfl := hE0 e rfl
                simp (config := {maxSteps := 4000000}) only [Gso, nxV, bxV, iv, bv, p1, p2, posRow, EC, d, hsd, ei, em, el, n1, n2, n3, qA, dA, d0, endP, bne, beq_self_eq_true, AA, G2, G3, G4, ↓ZX, ↓ZY, ZZ, Nat.reduceBNe, A0, A1, Int.reduceLE, Int.reduceLT, A6, A7, A8, A9, AA, AB, AC, AD, AE, AF, AG, AH, AI, AJ, AK, AL, AM, AN, AO, AP, AQ, AR, AS, AT, AU, AV, AX, AY, AZ, B0, B1, B3, B4, B5, B6, B7, B8, B9, BA, BB, BC, BD, BE, BF, BG, BH, BI, BJ, BK, BL, BM, BN, BO, BP, BQ, BR, BS, BT, BU, BV, BW, BX, BY, BZ, C0, C1, C2, C3, C4, C5, C6, C7, C8, C9, CA, CB, CC, CD, CE, CF, CG, CH, CI, CJ, CK, CL, CM, CN, CO, CP, CQ, CR, CS, CT, CU, CV, CW, CX, CY, CZ, D0, D1, D2, D3, D4, D5, D6, D7, DV.isSl, DV.isStr, DV.isBool, D8, D9, DA, DV.agg, DB, DC, DD, DE, DF, DG, DH, DI, DJ, DK, DL, DM, DN, DO, DP, DQ, DR, DS, DT, DU, St.kill, St.app, St.forget, St.newOK, DW, DX, DY, St.unseen, DZ, E0, E1, E3, E5, E6, E7, E8, E9, EA, EB, EC, Value.cells, Value.oneCell', ED, EE, EF, EG, EH, EJ, EK, EL, id, EM, EN, EO, EP, EQ, ER, ES, ET, EU, EV, EW, EX, EY, EZ, F0, F1, F3, F4, F5, F6, F7, F8, F9, FA, reduceCtorEq, ↓reduceIte, Nat.reduceEqDiff, Nat.reduceAdd, Nat.reduceLT, Nat.reduceLeDiff, Nat.reduceBEq, FB, Nat.reduceMul, FC, FD, FE, FF, FG, FH, FI, if_true, if_false, FL, FM, FN, FO, FP, FQ, FR, FS, FT, FU, FV, decide_true, decide_false, FY, FZ, G0, G1]
                repeat' (first | with_reducible apply And.intro | intro _)
                all_goals first
                  | exact c1
                  | exact c2
                  | exact c4
                  | omega
                  | kernel_rfl
                  | refine hN _ ⟨i + 1, by omega, by dsimp only; omega, ?_⟩
                simp (config := {maxSteps := 4000000}) only [posRow, EC, G2, G3, G4, ↓ZX, ↓ZY, ZZ, Nat.reduceBNe, A0, A1, Int.reduceLE, Int.reduceLT, A6, A7, A8, A9, AA, AB, AC, AD, AE, AF, AG, AH, AI, AJ, AK, AL, AM, AN, AO, AP, AQ, AR, AS, AT, AU, AV, AX, AY, AZ, B0, B1, B3, B4, B5, B6, B7, B8, B9, BA, BB, BC, BD, BE, BF, BG, BH, BI, BJ, BK, BL, BM, BN, BO, BP, BQ, BR, BS, BT, BU, BV, BW, BX, BY, BZ, C0, C1, C2, C3, C4, C5, C6, C7, C8, C9, CA, CB, CC, CD, CE, CF, CG, CH, CI, CJ, CK, CL, CM, CN, CO, CP, CQ, CR, CS, CT, CU, CV, CW, CX, CY, CZ, D0, D1, D2, D3, D4, D5, D6, D7, DV.isSl, DV.isStr, DV.isBool, D8, D9, DA, DV.agg, DB, DC, DD, DE, DF, DG, DH, DI, DJ, DK, DL, DM, DN, DO, DP, DQ, DR, DS, DT, DU, St.kill, St.app, St.forget, St.newOK, DW, DX, DY, St.unseen, DZ, E0, E1, E3, E5, E6, E7, E8, E9, EA, EB, EC, Value.cells, Value.oneCell', ED, EE, EF, EG, EH, EJ, EK, EL, id, EM, EN, EO, EP, EQ, ER, ES, ET, EU, EV, EW, EX, EY, EZ, F0, F1, F3, F4, F5, F6, F7, F8, F9, FA, reduceCtorEq, ↓reduceIte, Nat.reduceEqDiff, Nat.reduceAdd, Nat.reduceLT, Nat.reduceLeDiff, Nat.reduceBEq, FB, Nat.reduceMul, FC, FD, FE, FF, FG, FH, FI, if_true, if_false, FL, FM, FN, FO, FP, FQ, FR, FS, FT, FU, FV, decide_true, decide_false, FY, FZ, G0, G1]
                all_goals simp
        · have d0 : decide (0 < (i : Int)) = true := decide_eq_true (by omega)
          obtain ⟨w, hw'⟩ : ∃ w, (sentL l)[i - 1]? = some w := ⟨_, List.getElem?_eq_getElem (by omega)⟩
          have qB : (sentL l).getD (i - 1) (0, 0) = w := by rw [List.getD_eq_getElem?_getD, hw']; rfl
          have e0 : IntKind.i64.wrap ((i : Int) - 1) = ((i - 1 : Nat) : Int) := by rw [w64 (by omega) (by omega)]; omega
          rw [if_neg h0, hw'] at n2 c2
          cases A with
            | none => cases E with
              | none =>
                simp (config := {maxSteps := 4000000}) only [Gso, nxV, bxV, iv, bv, p1, p2, posRow, EC, d, hsd, ei, em, el, n1, n2, n3, qA, dA, d0, qB, e0, endP, bne, beq_self_eq_true, AA, G2, G3, G4, ↓ZX, ↓ZY, ZZ, Nat.reduceBNe, A0, A1, Int.reduceLE, Int.reduceLT, A6, A7, A8, A9, AA, AB, AC, AD, AE, AF, AG, AH, AI, AJ, AK, AL, AM, AN, AO, AP, AQ, AR, AS, AT, AU, AV, AX, AY, AZ, B0, B1, B3, B4, B5, B6, B7, B8, B9, BA, BB, BC, BD, BE, BF, BG, BH, BI, BJ, BK, BL, BM, BN, BO, BP, BQ, BR, BS, BT, BU, BV, BW, BX, BY, BZ, C0, C1, C2, C3, C4, C5, C6, C7, C8, C9, CA, CB, CC, CD, CE, CF, CG, CH, CI, CJ, CK, CL, CM, CN, CO, CP, CQ, CR, CS, CT, CU, CV, CW, CX, CY, CZ, D0, D1, D2, D3, D4, D5, D6, D7, DV.isSl, DV.isStr, DV.isBool, D8, D9, DA, DV.agg, DB, DC, DD, DE, DF, DG, DH, DI, DJ, DK, DL, DM, DN, DO, DP, DQ, DR, DS, DT, DU, St.kill, St.app, St.forget, St.newOK, DW, DX, DY, St.unseen, DZ, E0, E1, E3, E5, E6, E7, E8, E9, EA, EB, EC, Value.cells, Value.oneCell', ED, EE, EF, EG, EH, EJ, EK, EL, id, EM, EN, EO, EP, EQ, ER, ES, ET, EU, EV, EW, EX, EY, EZ, F0, F1, F3, F4, F5, F6, F7, F8, F9, FA, reduceCtorEq, ↓reduceIte, Nat.reduceEqDiff, Nat.reduceAdd, Nat.reduceLT, Nat.reduceLeDiff, Nat.reduceBEq, FB, Nat.reduceMul, FC, FD, FE, FF, FG, FH, FI, if_true, if_false, FL, FM, FN, FO, FP, FQ, FR, FS, FT, FU, FV, decide_true, decide_false, FY, FZ, G0, G1]
                repeat' (first | with_reducible apply And.intro | intro _)
                all_goals first
                  | exact c1
                  | exact c2
                  | exact c4
                  | omega
                  | kernel_rfl
                  | refine hN _ ⟨i + 1, by omega, by dsimp only; omega, ?_⟩
                simp (config := {maxSteps := 4000000}) only [posRow, EC, G2, G3, G4, ↓ZX, ↓ZY, ZZ, Nat.reduceBNe, A0, A1, Int.reduceLE, Int.reduceLT, A6, A7, A8, A9, AA, AB, AC, AD, AE, AF, AG, AH, AI, AJ, AK, AL, AM, AN, AO, AP, AQ, AR, AS, AT, AU, AV, AX, AY, AZ, B0, B1, B3, B4, B5, B6, B7, B8, B9, BA, BB, BC, BD, BE, BF, BG, BH, BI, BJ, BK, BL, BM, BN, BO, BP, BQ, BR, BS, BT, BU, BV, BW, BX, BY, BZ, C0, C1, C2, C3, C4, C5, C6, C7, C8, C9, CA, CB, CC, CD, CE, CF, CG, CH, CI, CJ, CK, CL, CM, CN, CO, CP, CQ, CR, CS, CT, CU, CV, CW, CX, CY, CZ, D0, D1, D2, D3, D4, D5, D6, D7, DV.isSl, DV.isStr, DV.isBool, D8, D9, DA, DV.agg, DB, DC, DD, DE, DF, DG, DH, DI, DJ, DK, DL, DM, DN, DO, DP, DQ, DR, DS, DT, DU, St.kill, St.app, St.forget, St.newOK, DW, DX, DY, St.unseen, DZ, E0, E1, E3, E5, E6, E7, E8, E9, EA, EB, EC, Value.cells, Value.oneCell', ED, EE, EF, EG, EH, EJ, EK, EL, id, EM, EN, EO, EP, EQ, ER, ES, ET, EU, EV, EW, EX, EY, EZ, F0, F1, F3, F4, F5, F6, F7, F8, F9, FA, reduceCtorEq, ↓reduceIte, Nat.reduceEqDiff, Nat.reduceAdd, Nat.reduceLT, Nat.reduceLeDiff, Nat.reduceBEq, FB, Nat.reduceMul, FC, FD, FE, FF, FG, FH, FI, if_true, if_false, FL, FM, FN, FO, FP, FQ, FR, FS, FT, FU, FV, decide_true, decide_false, FY, FZ, G0, G1]
                all_goals simp
              | some e =>
                obtain rfl := hE0 e rfl
                simp (config := {maxSteps := 4000000}) only [Gso, nxV, bxV, iv, bv, p1, p2, posRow, EC, d, hsd, ei, em, el, n1, n2, n3, qA, dA, d0, qB, e0, endP, bne, beq_self_eq_true, AA, G2, G3, G4, ↓ZX, ↓ZY, ZZ, Nat.reduceBNe, A0, A1, Int.reduceLE, Int.reduceLT, A6, A7, A8, A9, AA, AB, AC, AD, AE, AF, AG, AH, AI, AJ, AK, AL, AM, AN, AO, AP, AQ, AR, AS, AT, AU, AV, AX, AY, AZ, B0, B1, B3, B4, B5, B6, B7, B8, B9, BA, BB, BC, BD, BE, BF, BG, BH, BI, BJ, BK, BL, BM, BN, BO, BP, BQ, BR, BS, BT, BU, BV, BW, BX, BY, BZ, C0, C1, C2, C3, C4, C5, C6, C7, C8, C9, CA, CB, CC, CD, CE, CF, CG, CH, CI, CJ, CK, CL, CM, CN, CO, CP, CQ, CR, CS, CT, CU, CV, CW, CX, CY, CZ, D0, D1, D2, D3, D4, D5, D6, D7, DV.isSl, DV.isStr, DV.isBool, D8, D9, DA, DV.agg, DB, DC, DD, DE, DF, DG, DH, DI, DJ, DK, DL, DM, DN, DO, DP, DQ, DR, DS, DT, DU, St.kill, St.app, St.forget, St.newOK, DW, DX, DY, St.unseen, DZ, E0, E1, E3, E5, E6, E7, E8, E9, EA, EB, EC, Value.cells, Value.oneCell', ED, EE, EF, EG, EH, EJ, EK, EL, id, EM, EN, EO, EP, EQ, ER, ES, ET, EU, EV, EW, EX, EY, EZ, F0, F1, F3, F4, F5, F6, F7, F8, F9, FA, reduceCtorEq, ↓reduceIte, Nat.reduceEqDiff, Nat.reduceAdd, Nat.reduceLT, Nat.reduceLeDiff, Nat.reduceBEq, FB, Nat.reduceMul, FC, FD, FE, FF, FG, FH, FI, if_true, if_false, FL, FM, FN, FO, FP, FQ, FR, FS, FT, FU, FV, decide_true, decide_false, FY, FZ, G0, G1]
                repeat' (first | with_reducible apply And.intro | intro _)
                all_goals first
                  | exact c1
                  | exact c2
                  | exact c4
                  | omega
                  | kernel_rfl
                  | refine hN _ ⟨i + 1, by omega, by dsimp only; omega, ?_⟩
                simp (config := {maxSteps := 4000000}) only [posRow, EC, G2, G3, G4, ↓ZX, ↓ZY, ZZ, Nat.reduceBNe, A0, A1, Int.reduceLE, Int.reduceLT, A6, A7, A8, A9, AA, AB, AC, AD, AE, AF, AG, AH, AI, AJ, AK, AL, AM, AN, AO, AP, AQ, AR, AS, AT, AU, AV, AX, AY, AZ, B0, B1, B3, B4, B5, B6, B7, B8, B9, BA, BB, BC, BD, BE, BF, BG, BH, BI, BJ, BK, BL, BM, BN, BO, BP, BQ, BR, BS, BT, BU, BV, BW, BX, BY, BZ, C0, C1, C2, C3, C4, C5, C6, C7, C8, C9, CA, CB, CC, CD, CE, CF, CG, CH, CI, CJ, CK, CL, CM, CN, CO, CP, CQ, CR, CS, CT, CU, CV, CW, CX, CY, CZ, D0, D1, D2, D3, D4, D5, D6, D7, DV.isSl, DV.isStr, DV.isBool, D8, D9, DA, DV.agg, DB, DC, DD, DE, DF, DG, DH, DI, DJ, DK, DL, DM, DN, DO, DP, DQ, DR, DS, DT, DU, St.kill, St.app, St.forget, St.newOK, DW, DX, DY, St.unseen, DZ, E0, E1, E3, E5, E6, E7, E8, E9, EA, EB, EC, Value.cells, Value.oneCell', ED, EE, EF, EG, EH, EJ, EK, EL, id, EM, EN, EO, EP, EQ, ER, ES, ET, EU, EV, EW, EX, EY, EZ, F0, F1, F3, F4, F5, F6, F7, F8, F9, FA, reduceCtorEq, ↓reduceIte, Nat.reduceEqDiff, Nat.reduceAdd, Nat.reduceLT, Nat.reduceLeDiff, Nat.reduceBEq, FB, Nat.reduceMul, FC, FD, FE, FF, FG, FH, FI, if_true, if_false, FL, FM, FN, FO, FP, FQ, FR, FS, FT, FU, FV, decide_true, decide_false, FY, FZ, G0, G1]
                all_goals simp
            | some u => cases E with
              | none =>
                have hu := hlt u rfl
                simp (config := {maxSteps := 4000000}) only [Gso, nxV, bxV, iv, bv, p1, p2, posRow, EC, d, hsd, ei, em, el, n1, n2, n3, qA, dA, d0, qB, e0, endP, bne, beq_self_eq_true, AA, G2, G3, G4, ↓ZX, ↓ZY, ZZ, Nat.reduceBNe, A0, A1, Int.reduceLE, Int.reduceLT, A6, A7, A8, A9, AA, AB, AC, AD, AE, AF, AG, AH, AI, AJ, AK, AL, AM, AN, AO, AP, AQ, AR, AS, AT, AU, AV, AX, AY, AZ, B0, B1, B3, B4, B5, B6, B7, B8, B9, BA, BB, BC, BD, BE, BF, BG, BH, BI, BJ, BK, BL, BM, BN, BO, BP, BQ, BR, BS, BT, BU, BV, BW, BX, BY, BZ, C0, C1, C2, C3, C4, C5, C6, C7, C8, C9, CA, CB, CC, CD, CE, CF, CG, CH, CI, CJ, CK, CL, CM, CN, CO, CP, CQ, CR, CS, CT, CU, CV, CW, CX, CY, CZ, D0, D1, D2, D3, D4, D5, D6, D7, DV.isSl, DV.isStr, DV.isBool, D8, D9, DA, DV.agg, DB, DC, DD, DE, DF, DG, DH, DI, DJ, DK, DL, DM, DN, DO, DP, DQ, DR, DS, DT, DU, St.kill, St.app, St.forget, St.newOK, DW, DX, DY, St.unseen, DZ, E0, E1, E3, E5, E6, E7, E8, E9, EA, EB, EC, Value.cells, Value.oneCell', ED, EE, EF, EG, EH, EJ, EK, EL, id, EM, EN, EO, EP, EQ, ER, ES, ET, EU, EV, EW, EX, EY, EZ, F0, F1, F3, F4, F5, F6, F7, F8, F9, FA, reduceCtorEq, ↓reduceIte, Nat.reduceEqDiff, Nat.reduceAdd, Nat.reduceLT, Nat.reduceLeDiff, Nat.reduceBEq, FB, Nat.reduceMul, FC, FD, FE, FF, FG, FH, FI, if_true, if_false, FL, FM, FN, FO, FP, FQ, FR, FS, FT, FU, FV, decide_true, decide_false, FY, FZ, G0, G1]
                repeat' (first | with_reducible apply And.intro | intro _)
                all_goals first
                  | exact c1
                  | exact c2
                  | exact c4
                  | omega
                  | kernel_rfl
                  | refine hN _ ⟨i + 1, by omega, by dsimp only; omega, ?_⟩
                simp (config := {maxSteps := 4000000}) only [posRow, EC, G2, G3, G4, ↓ZX, ↓ZY, ZZ, Nat.reduceBNe, A0, A1, Int.reduceLE, Int.reduceLT, A6, A7, A8, A9, AA, AB, AC, AD, AE, AF, AG, AH, AI, AJ, AK, AL, AM, AN, AO, AP, AQ, AR, AS, AT, AU, AV, AX, AY, AZ, B0, B1, B3, B4, B5, B6, B7, B8, B9, BA, BB, BC, BD, BE, BF, BG, BH, BI, BJ, BK, BL, BM, BN, BO, BP, BQ, BR, BS, BT, BU, BV, BW, BX, BY, BZ, C0, C1, C2, C3, C4, C5, C6, C7, C8, C9, CA, CB, CC, CD, CE, CF, CG, CH, CI, CJ, CK, CL, CM, CN, CO, CP, CQ, CR, CS, CT, CU, CV, CW, CX, CY, CZ, D0, D1, D2, D3, D4, D5, D6, D7, DV.isSl, DV.isStr, DV.isBool, D8, D9, DA, DV.agg, DB, DC, DD, DE, DF, DG, DH, DI, DJ, DK, DL, DM, DN, DO, DP, DQ, DR, DS, DT, DU, St.kill, St.app, St.forget, St.newOK, DW, DX, DY, St.unseen, DZ, E0, E1, E3, E5, E6, E7, E8, E9, EA, EB, EC, Value.cells, Value.oneCell', ED, EE, EF, EG, EH, EJ, EK, EL, id, EM, EN, EO, EP, EQ, ER, ES, ET, EU, EV, EW, EX, EY, EZ, F0, F1, F3, F4, F5, F6, F7, F8, F9, FA, reduceCtorEq, ↓reduceIte, Nat.reduceEqDiff, Nat.reduceAdd, Nat.reduceLT, Nat.reduceLeDiff, Nat.reduceBEq, FB, Nat.reduceMul, FC, FD, FE, FF, FG, FH, FI, if_true, if_false, FL, FM, FN, FO, FP, FQ, FR, FS, FT, FU, FV, decide_true, decide_false, FY, FZ, G0, G1]
                all_goals simp
              | some e =>
                have hu := hlt u rfl
                obtain rfl := hE0 e rfl
                simp (config := {maxSteps := 4000000}) only [Gso, nxV, bxV, iv, bv, p1, p2, posRow, EC, d, hsd, ei, em, el, n1, n2, n3, qA, dA, d0, qB, e0, endP, bne, beq_self_eq_true, AA, G2, G3, G4, ↓ZX, ↓ZY, ZZ, Nat.reduceBNe, A0, A1, Int.reduceLE, Int.reduceLT, A6, A7, A8, A9, AA, AB, AC, AD, AE, AF, AG, AH, AI, AJ, AK, AL, AM, AN, AO, AP, AQ, AR, AS, AT, AU, AV, AX, AY, AZ, B0, B1, B3, B4, B5, B6, B7, B8, B9, BA, BB, BC, BD, BE, BF, BG, BH, BI, BJ, BK, BL, BM, BN, BO, BP, BQ, BR, BS, BT, BU, BV, BW, BX, BY, BZ, C0, C1, C2, C3, C4, C5, C6, C7, C8, C9, CA, CB, CC, CD, CE, CF, CG, CH, CI, CJ, CK, CL, CM, CN, CO, CP, CQ, CR, CS, CT, CU, CV, CW, CX, CY, CZ, D0, D1, D2, D3, D4, D5, D6, D7, DV.isSl, DV.isStr, DV.isBool, D8, D9, DA, DV.agg, DB, DC, DD, DE, DF, DG, DH, DI, DJ, DK, DL, DM, DN, DO, DP, DQ, DR, DS, DT, DU, St.kill, St.app, St.forget, St.newOK, DW, DX, DY, St.unseen, DZ, E0, E1, E3, E5, E6, E7, E8, E9, EA, EB, EC, Value.cells, Value.oneCell', ED, EE, EF, EG, EH, EJ, EK, EL, id, EM, EN, EO, EP, EQ, ER, ES, ET, EU, EV, EW, EX, EY, EZ, F0, F1, F3, F4, F5, F6, F7, F8, F9, FA, reduceCtorEq, ↓reduceIte, Nat.reduceEqDiff, Nat.reduceAdd, Nat.reduceLT, Nat.reduceLeDiff, Nat.reduceBEq, FB, Nat.reduceMul, FC, FD, FE, FF, FG, FH, FI, if_true, if_false, FL, FM, FN, FO, FP, FQ, FR, FS, FT, FU, FV, decide_true, decide_false, FY, FZ, G0, G1]
                repeat' (first | with_reducible apply And.intro | intro _)
                all_goals first
                  | exact c1
                  | exact c2
                  | exact c4
                  | omega
                  | kernel_rfl
                  | refine hN _ ⟨i + 1, by omega, by dsimp only; omega, ?_⟩
                simp (config := {maxSteps := 4000000}) only [posRow, EC, G2, G3, G4, ↓ZX, ↓ZY, ZZ, Nat.reduceBNe, A0, A1, Int.reduceLE, Int.reduceLT, A6, A7, A8, A9, AA, AB, AC, AD, AE, AF, AG, AH, AI, AJ, AK, AL, AM, AN, AO, AP, AQ, AR, AS, AT, AU, AV, AX, AY, AZ, B0, B1, B3, B4, B5, B6, B7, B8, B9, BA, BB, BC, BD, BE, BF, BG, BH, BI, BJ, BK, BL, BM, BN, BO, BP, BQ, BR, BS, BT, BU, BV, BW, BX, BY, BZ, C0, C1, C2, C3, C4, C5, C6, C7, C8, C9, CA, CB, CC, CD, CE, CF, CG, CH, CI, CJ, CK, CL, CM, CN, CO, CP, CQ, CR, CS, CT, CU, CV, CW, CX, CY, CZ, D0, D1, D2, D3, D4, D5, D6, D7, DV.isSl, DV.isStr, DV.isBool, D8, D9, DA, DV.agg, DB, DC, DD, DE, DF, DG, DH, DI, DJ, DK, DL, DM, DN, DO, DP, DQ, DR, DS, DT, DU, St.kill, St.app, St.forget, St.newOK, DW, DX, DY, St.unseen, DZ, E0, E1, E3, E5, E6, E7, E8, E9, EA, EB, EC, Value.cells, Value.oneCell', ED, EE, EF, EG, EH, EJ, EK, EL, id, EM, EN, EO, EP, EQ, ER, ES, ET, EU, EV, EW, EX, EY, EZ, F0, F1, F3, F4, F5, F6, F7, F8, F9, FA, reduceCtorEq, ↓reduceIte, Nat.reduceEqDiff, Nat.reduceAdd, Nat.reduceLT, Nat.reduceLeDiff, Nat.reduceBEq, FB, Nat.reduceMul, FC, FD, FE, FF, FG, FH, FI, if_true, if_false, FL, FM, FN, FO, FP, FQ, FR, FS, FT, FU, FV, decide_true, decide_false, FY, FZ, G0, G1]
                all_goals simp
      · have d : decide ((i : Int) < ((sentL l).length : Int)) = false := decide_eq_false (by omega)
        simp (config := {maxSteps := 4000000}) only [posRow, EC, d, G2, G3, G4, ↓ZX, ↓ZY, ZZ, Nat.reduceBNe, A0, A1, Int.reduceLE, Int.reduceLT, A6, A7, A8, A9, AA, AB, AC, AD, AE, AF, AG, AH, AI, AJ, AK, AL, AM, AN, AO, AP, AQ, AR, AS, AT, AU, AV, AX, AY, AZ, B0, B1, B3, B4, B5, B6, B7, B8, B9, BA, BB, BC, BD, BE, BF, BG, BH, BI, BJ, BK, BL, BM, BN, BO, BP, BQ, BR, BS, BT, BU, BV, BW, BX, BY, BZ, C0, C1, C2, C3, C4, C5, C6, C7, C8, C9, CA, CB, CC, CD, CE, CF, CG, CH, CI, CJ, CK, CL, CM, CN, CO, CP, CQ, CR, CS, CT, CU, CV, CW, CX, CY, CZ, D0, D1, D2, D3, D4, D5, D6, D7, DV.isSl, DV.isStr, DV.isBool, D8, D9, DA, DV.agg, DB, DC, DD, DE, DF, DG, DH, DI, DJ, DK, DL, DM, DN, DO, DP, DQ, DR, DS, DT, DU, St.kill, St.app, St.forget, St.newOK, DW, DX, DY, St.unseen, DZ, E0, E1, E3, E5, E6, E7, E8, E9, EA, EB, EC, Value.cells, Value.oneCell', ED, EE, EF, EG, EH, EJ, EK, EL, id, EM, EN, EO, EP, EQ, ER, ES, ET, EU, EV, EW, EX, EY, EZ, F0, F1, F3, F4, F5, F6, F7, F8, F9, FA, reduceCtorEq, ↓reduceIte, Nat.reduceEqDiff, Nat.reduceAdd, Nat.reduceLT, Nat.reduceLeDiff, Nat.reduceBEq, FB, Nat.reduceMul, FC, FD, FE, FF, FG, FH, FI, if_true, if_false, FL, FM, FN, FO, FP, FQ, FR, FS, FT, FU, FV, decide_true, decide_false, FY, FZ, G0, G1]
        refine hE _ _ ?_
        simp (config := {maxSteps := 4000000}) only [G2, G3, G4, ↓ZX, ↓ZY, ZZ, Nat.reduceBNe, A0, A1, Int.reduceLE, Int.reduceLT, A6, A7, A8, A9, AA, AB, AC, AD, AE, AF, AG, AH, AI, AJ, AK, AL, AM, AN, AO, AP, AQ, AR, AS, AT, AU, AV, AX, AY, AZ, B0, B1, B3, B4, B5, B6, B7, B8, B9, BA, BB, BC, BD, BE, BF, BG, BH, BI, BJ, BK, BL, BM, BN, BO, BP, BQ, BR, BS, BT, BU, BV, BW, BX, BY, BZ, C0, C1, C2, C3, C4, C5, C6, C7, C8, C9, CA, CB, CC, CD, CE, CF, CG, CH, CI, CJ, CK, CL, CM, CN, CO, CP, CQ, CR, CS, CT, CU, CV, CW, CX, CY, CZ, D0, D1, D2, D3, D4, D5, D6, D7, DV.isSl, DV.isStr, DV.isBool, D8, D9, DA, DV.agg, DB, DC, DD, DE, DF, DG, DH, DI, DJ, DK, DL, DM, DN, DO, DP, DQ, DR, DS, DT, DU, St.kill, St.app, St.forget, St.newOK, DW, DX, DY, St.unseen, DZ, E0, E1, E3, E5, E6, E7, E8, E9, EA, EB, EC, Value.cells, Value.oneCell', ED, EE, EF, EG, EH, EJ, EK, EL, id, EM, EN, EO, EP, EQ, ER, ES, ET, EU, EV, EW, EX, EY, EZ, F0, F1, F3, F4, F5, F6, F7, F8, F9, FA, reduceCtorEq, ↓reduceIte, Nat.reduceEqDiff, Nat.reduceAdd, Nat.reduceLT, Nat.reduceLeDiff, Nat.reduceBEq, FB, Nat.reduceMul, FC, FD, FE, FF, FG, FH, FI, if_true, if_false, FL, FM, FN, FO, FP, FQ, FR, FS, FT, FU, FV, decide_true, decide_false, FY, FZ, G0, G1]

end Go.Ab
