/- Contracts: n sentences back. -/
import Derived.Test.Ytogmnhebobdokab41
import Derived.Test.Ytogmnhebobdokab40
set_option linter.unusedVariables false
set_option linter.unusedSimpArgs false
namespace Go.Ab
open Go Go.RowKit Go.Proofs

def posRow (L : List (Nat × Nat)) : Row := { ty := 26, size := 2, len := L.length, get := fun i => [i64 (L.getD i.toNat (0, 0)).1, i64 (L.getD i.toNat (0, 0)).2] }
theorem pos_snoc (L : List (Nat × Nat)) (s : Nat × Nat) (i : Nat) (h : i < L.length + 1) : (if (i : Int) = (L.length : Int) then [i64 (s.1 : Int), i64 (s.2 : Int)] else [i64 ((L.getD i (0, 0)).1 : Int), i64 ((L.getD i (0, 0)).2 : Int)]) = [i64 (((L ++ [s]).getD i (0, 0)).1 : Int), i64 (((L ++ [s]).getD i (0, 0)).2 : Int)] := by
  split
  · rename_i e
    obtain rfl : i = L.length := by omega
    simp
  · rename_i e
    have : i < L.length := by omega
    simp [List.getD_eq_getElem?_getD, List.getElem?_append_left this]

/-- Those ahead of p, up to the first that isn't. -/
def aheL (L : List (Nat × Nat)) (p : Nat × Nat) : List (Nat × Nat) := L.takeWhile fun s => okB p s
def sentB (l : List ByteArray) (p : Nat × Nat) (n : Int) : Option (Nat × Nat) :=
  if ((aheL (sentL l) p).length : Int) < n then none else (aheL (sentL l) p)[(aheL (sentL l) p).length - n.toNat]?
def sentBI (l : List ByteArray) (a b n : Int) : Option (Nat × Nat) := if failsB l a b n = true then none else sentB l (a.toNat, b.toNat) n
theorem takeWhile_take {α : Type} {f : α → Bool} : ∀ {L : List α} {i : Nat}, (∀ s ∈ L.take i, f s = true) → (∀ s, L[i]? = some s → f s = false) → L.takeWhile f = L.take i
  | [], i, _, _ => by simp
  | x :: L, 0, _, h2 => by
    have := h2 x rfl
    simp [List.takeWhile_cons, this]
  | x :: L, i + 1, h1, h2 => by
    have hx := h1 x (by simp)
    rw [List.takeWhile_cons, hx, if_pos rfl, List.take_succ_cons, takeWhile_take (L := L) (i := i) (fun s hs => h1 s (by simp [hs])) (fun s hs => h2 s (by simpa using hs))]

set_option maxRecDepth 100000 in
set_option maxHeartbeats 2000000 in
theorem para_SentBack (l : List ByteArray) (hf : Fit l) (a b n : Int) (hn : n ≤ 9223372036854775807) (k : Nat) : CallOK Try.prog 41 [.r k, .v (pos a b), .v (i64 n)] [some (EC l), none, none] [.v (jumpP (sentBI l a b n)), .v (.bool (sentBI l a b n).isSome)] := by
  refine callOK_of_awp (c := cx (Gsn l) 39) (cx_ok _ _) Try.func41 (by kernel_rfl) rfl rfl (by simp [cx]) (by simp [sizesOK, EC]) (awk_of ?_)
  have hfl := para_fails l a b n 0
  have hsq := para_Sentences l hf 0
  unfold sentBI
  rcases h : failsB l a b n with _ | _
  · rw [h] at hfl
    have hpl : placeB l a b = true := by cases hp : placeB l a b <;> simp_all [failsB]
    have hn1 : 1 ≤ n := by simp [failsB] at h; omega
    obtain ⟨x, y, rfl, rfl, hx, hy⟩ := placeB_spec hpl
    have hll := hf.1
    have hsl := sentTo_len l hf l.length
    have hL40 : (sentL l).length ≤ 48000 := by unfold sentL; omega
    simp (config := {maxSteps := 4000000}) only [Try.f41, Gsn, failsV, jumpV, seqV, lessV, iv, bv, p1, p2, h, seqRow, G2, G3, G4, ↓ZX, ↓ZY, ZZ, Nat.reduceBNe, A0, A1, Int.reduceLE, Int.reduceLT, A6, A7, A8, A9, AA, AB, AC, AD, AE, AF, AG, AH, AI, AJ, AK, AL, AM, AN, AO, AP, AQ, AR, AS, AT, AU, AV, AX, AY, AZ, B0, B1, B3, B4, B5, B6, B7, B8, B9, BA, BB, BC, BD, BE, BF, BG, BH, BI, BJ, BK, BL, BM, BN, BO, BP, BQ, BR, BS, BT, BU, BV, BW, BX, BY, BZ, C0, C1, C2, C3, C4, C5, C6, C7, C8, C9, CA, CB, CC, CD, CE, CF, CG, CH, CI, CJ, CK, CL, CM, CN, CO, CP, CQ, CR, CS, CT, CU, CV, CW, CX, CY, CZ, D0, D1, D2, D3, D4, D5, D6, D7, DV.isSl, DV.isStr, DV.isBool, D8, D9, DA, DV.agg, DB, DC, DD, DE, DF, DG, DH, DI, DJ, DK, DL, DM, DN, DO, DP, DQ, DR, DS, DT, DU, St.kill, St.app, St.forget, St.newOK, DW, DX, DY, St.unseen, DZ, E0, E1, E3, E5, E6, E7, E8, E9, EA, EB, EC, Value.cells, Value.oneCell', ED, EE, EF, EG, EH, EJ, EK, EL, id, EM, EN, EO, EP, EQ, ER, ES, ET, EU, EV, EW, EX, EY, EZ, F0, F1, F3, F4, F5, F6, F7, F8, F9, FA, reduceCtorEq, ↓reduceIte, Nat.reduceEqDiff, Nat.reduceAdd, Nat.reduceLT, Nat.reduceLeDiff, Nat.reduceBEq, FB, Nat.reduceMul, FC, FD, FE, FF, FG, FH, FI, if_true, if_false, FL, FM, FN, FO, FP, FQ, FR, FS, FT, FU, FV, decide_true, decide_false, FY, FZ, G0, G1]
    refine ⟨hfl, hsq, ?_⟩
    generalize hRR : sentB l (x, y) n = RR
    refine AWR_into rfl rfl [.nilB 8 1000 26 2] ⟨[(16, .r 16), (0, .r 0), (2, .v (i64 n)), (4, .p 4 0), (6, .p 6 0), (8, .p 8 0)], [(4, some [.v (i64 x), .v (i64 y)]), (6, some [.v (i64 0), .v (i64 0), .v (i64 0), .v (.bool false), .v (i64 0)]), (8, some [.r 1000])], [(16, some { seqRow (posX (sentL l)) with new := true }), (0, some (EC l)), (1000, some { posRow ((sentL l).take 0) with own := true, new := true })]⟩ ?_ ?_
    · simp (config := {maxSteps := 4000000}) only [EC, seqRow, posRow, List.take_zero, into, G5, G6, G7, G8, G9, St.sw, GA, GB, GC, GD, sw, G2, G3, G4, ↓ZX, ↓ZY, ZZ, Nat.reduceBNe, A0, A1, Int.reduceLE, Int.reduceLT, A6, A7, A8, A9, AA, AB, AC, AD, AE, AF, AG, AH, AI, AJ, AK, AL, AM, AN, AO, AP, AQ, AR, AS, AT, AU, AV, AX, AY, AZ, B0, B1, B3, B4, B5, B6, B7, B8, B9, BA, BB, BC, BD, BE, BF, BG, BH, BI, BJ, BK, BL, BM, BN, BO, BP, BQ, BR, BS, BT, BU, BV, BW, BX, BY, BZ, C0, C1, C2, C3, C4, C5, C6, C7, C8, C9, CA, CB, CC, CD, CE, CF, CG, CH, CI, CJ, CK, CL, CM, CN, CO, CP, CQ, CR, CS, CT, CU, CV, CW, CX, CY, CZ, D0, D1, D2, D3, D4, D5, D6, D7, DV.isSl, DV.isStr, DV.isBool, D8, D9, DA, DV.agg, DB, DC, DD, DE, DF, DG, DH, DI, DJ, DK, DL, DM, DN, DO, DP, DQ, DR, DS, DT, DU, St.kill, St.app, St.forget, St.newOK, DW, DX, DY, St.unseen, DZ, E0, E1, E3, E5, E6, E7, E8, E9, EA, EB, EC, Value.cells, Value.oneCell', ED, EE, EF, EG, EH, EJ, EK, EL, id, EM, EN, EO, EP, EQ, ER, ES, ET, EU, EV, EW, EX, EY, EZ, F0, F1, F3, F4, F5, F6, F7, F8, F9, FA, reduceCtorEq, ↓reduceIte, Nat.reduceEqDiff, Nat.reduceAdd, Nat.reduceLT, Nat.reduceLeDiff, Nat.reduceBEq, FB, Nat.reduceMul, FC, FD, FE, FF, FG, FH, FI, if_true, if_false, FL, FM, FN, FO, FP, FQ, FR, FS, FT, FU, FV, decide_true, decide_false, FY, FZ, G0, G1]
      all_goals simp
    · refine AWR_range (cx_ok _ _) rfl rfl rfl rfl [0, 2, 4, 6, 8] (fun i => ⟨[(0, .r 0), (2, .v (i64 n)), (4, .p 4 0), (6, .p 6 0), (8, .p 8 0)], [(4, some [.v (i64 x), .v (i64 y)]), (6, some [.v (i64 0), .v (i64 0), .v (i64 0), .v (.bool false), .v (i64 0)]), (8, some [.r 1000])], [(0, some (EC l)), (1000, some { posRow ((sentL l).take i) with own := true, new := true })]⟩)
        (fun i => ∀ s ∈ (sentL l).take i, okB (x, y) s = true) (posX (sentL l)) 16 _ rfl rfl rfl ?_ (dom_of fun i => rfl) (by intro p hp; simp at hp; subst hp; exact ⟨show 17 < 39 by decide, rfl⟩) ?_ rfl ?_ ?_ ?_
      · simp (config := {maxSteps := 4000000}) only [EC, posRow, G2, G3, G4, ↓ZX, ↓ZY, ZZ, Nat.reduceBNe, A0, A1, Int.reduceLE, Int.reduceLT, A6, A7, A8, A9, AA, AB, AC, AD, AE, AF, AG, AH, AI, AJ, AK, AL, AM, AN, AO, AP, AQ, AR, AS, AT, AU, AV, AX, AY, AZ, B0, B1, B3, B4, B5, B6, B7, B8, B9, BA, BB, BC, BD, BE, BF, BG, BH, BI, BJ, BK, BL, BM, BN, BO, BP, BQ, BR, BS, BT, BU, BV, BW, BX, BY, BZ, C0, C1, C2, C3, C4, C5, C6, C7, C8, C9, CA, CB, CC, CD, CE, CF, CG, CH, CI, CJ, CK, CL, CM, CN, CO, CP, CQ, CR, CS, CT, CU, CV, CW, CX, CY, CZ, D0, D1, D2, D3, D4, D5, D6, D7, DV.isSl, DV.isStr, DV.isBool, D8, D9, DA, DV.agg, DB, DC, DD, DE, DF, DG, DH, DI, DJ, DK, DL, DM, DN, DO, DP, DQ, DR, DS, DT, DU, St.kill, St.app, St.forget, St.newOK, DW, DX, DY, St.unseen, DZ, E0, E1, E3, E5, E6, E7, E8, E9, EA, EB, EC, Value.cells, Value.oneCell', ED, EE, EF, EG, EH, EJ, EK, EL, id, EM, EN, EO, EP, EQ, ER, ES, ET, EU, EV, EW, EX, EY, EZ, F0, F1, F3, F4, F5, F6, F7, F8, F9, FA, reduceCtorEq, ↓reduceIte, Nat.reduceEqDiff, Nat.reduceAdd, Nat.reduceLT, Nat.reduceLeDiff, Nat.reduceBEq, FB, Nat.reduceMul, FC, FD, FE, FF, FG, FH, FI, if_true, if_false, FL, FM, FN, FO, FP, FQ, FR, FS, FT, FU, FV, decide_true, decide_false, FY, FZ, G0, G1]
        all_goals simp
      · intro x hx
        simp only [posX, List.mem_map] at hx
        obtain ⟨s, _, rfl⟩ := hx
        rfl
      · intro s hs; simp at hs
      · intro i xv hxi hi R hN hR hE
        obtain ⟨s, hs, rfl⟩ : ∃ s, (sentL l)[i]? = some s ∧ xv = [pos s.1 s.2] := by
          simp only [posX, List.getElem?_map] at hxi
          cases hs : (sentL l)[i]? with
          | none => rw [hs] at hxi; simp at hxi
          | some s => rw [hs] at hxi; simp at hxi; exact ⟨s, rfl, hxi.symm⟩
        have hil : i < (sentL l).length := by
          rcases Nat.lt_or_ge i (sentL l).length with h | h
          · exact h
          · rw [List.getElem?_eq_none h] at hs; cases hs
        have hs' : (sentL l)[i] = s := by rw [List.getElem?_eq_getElem hil] at hs; simpa using hs
        have htk : (sentL l).take (i + 1) = (sentL l).take i ++ [s] := by rw [List.take_succ_eq_append_getElem hil, hs']
        have hlen : ((sentL l).take i).length = i := by rw [List.length_take]; omega
        have hls := span_Less s.1 s.2 x y
        rcases ho : lessI s.1 s.2 x y with _ | _
        · rw [ho] at hls
          have hA : aheL (sentL l) (x, y) = (sentL l).take i := takeWhile_take hi (fun t ht => by rw [hs] at ht; simp at ht; subst ht; exact ho)
          generalize hTK : (sentL l).take i = A at *
          simp (config := {maxSteps := 4000000}) only [Gsn, failsV, jumpV, seqV, lessV, iv, bv, p1, p2, ho, EC, posRow, H1, H2, H4, H5, H6, H7, H8, H9, HA, St.only, HB, HC, HD, St.sw, GA, GB, GC, GD, sw, G2, G3, G4, ↓ZX, ↓ZY, ZZ, Nat.reduceBNe, A0, A1, Int.reduceLE, Int.reduceLT, A6, A7, A8, A9, AA, AB, AC, AD, AE, AF, AG, AH, AI, AJ, AK, AL, AM, AN, AO, AP, AQ, AR, AS, AT, AU, AV, AX, AY, AZ, B0, B1, B3, B4, B5, B6, B7, B8, B9, BA, BB, BC, BD, BE, BF, BG, BH, BI, BJ, BK, BL, BM, BN, BO, BP, BQ, BR, BS, BT, BU, BV, BW, BX, BY, BZ, C0, C1, C2, C3, C4, C5, C6, C7, C8, C9, CA, CB, CC, CD, CE, CF, CG, CH, CI, CJ, CK, CL, CM, CN, CO, CP, CQ, CR, CS, CT, CU, CV, CW, CX, CY, CZ, D0, D1, D2, D3, D4, D5, D6, D7, DV.isSl, DV.isStr, DV.isBool, D8, D9, DA, DV.agg, DB, DC, DD, DE, DF, DG, DH, DI, DJ, DK, DL, DM, DN, DO, DP, DQ, DR, DS, DT, DU, St.kill, St.app, St.forget, St.newOK, DW, DX, DY, St.unseen, DZ, E0, E1, E3, E5, E6, E7, E8, E9, EA, EB, EC, Value.cells, Value.oneCell', ED, EE, EF, EG, EH, EJ, EK, EL, id, EM, EN, EO, EP, EQ, ER, ES, ET, EU, EV, EW, EX, EY, EZ, F0, F1, F3, F4, F5, F6, F7, F8, F9, FA, reduceCtorEq, ↓reduceIte, Nat.reduceEqDiff, Nat.reduceAdd, Nat.reduceLT, Nat.reduceLeDiff, Nat.reduceBEq, FB, Nat.reduceMul, FC, FD, FE, FF, FG, FH, FI, if_true, if_false, FL, FM, FN, FO, FP, FQ, FR, FS, FT, FU, FV, decide_true, decide_false, FY, FZ, G0, G1]
          refine ⟨hls, hE _ _ ?_⟩
          have hAl : A.length ≤ 48000 := by rw [← hA]; exact Nat.le_trans (List.takeWhile_prefix _).length_le hL40
          rw [sentB, hA] at hRR
          by_cases hgt : (A.length : Int) < n
          · have d : decide ((A.length : Int) < n) = true := decide_eq_true hgt
            rw [if_pos hgt] at hRR
            simp (config := {maxSteps := 4000000}) only [ Gsn, failsV, jumpV, seqV, lessV, iv, bv, p1, p2, posRow, EC, d, ← hRR, H1, H2, H4, H5, H6, H7, H8, H9, HA, St.only, HB, HC, HD, St.sw, GA, GB, GC, GD, sw, G2, G3, G4, ↓ZX, ↓ZY, ZZ, Nat.reduceBNe, A0, A1, Int.reduceLE, Int.reduceLT, A6, A7, A8, A9, AA, AB, AC, AD, AE, AF, AG, AH, AI, AJ, AK, AL, AM, AN, AO, AP, AQ, AR, AS, AT, AU, AV, AX, AY, AZ, B0, B1, B3, B4, B5, B6, B7, B8, B9, BA, BB, BC, BD, BE, BF, BG, BH, BI, BJ, BK, BL, BM, BN, BO, BP, BQ, BR, BS, BT, BU, BV, BW, BX, BY, BZ, C0, C1, C2, C3, C4, C5, C6, C7, C8, C9, CA, CB, CC, CD, CE, CF, CG, CH, CI, CJ, CK, CL, CM, CN, CO, CP, CQ, CR, CS, CT, CU, CV, CW, CX, CY, CZ, D0, D1, D2, D3, D4, D5, D6, D7, DV.isSl, DV.isStr, DV.isBool, D8, D9, DA, DV.agg, DB, DC, DD, DE, DF, DG, DH, DI, DJ, DK, DL, DM, DN, DO, DP, DQ, DR, DS, DT, DU, St.kill, St.app, St.forget, St.newOK, DW, DX, DY, St.unseen, DZ, E0, E1, E3, E5, E6, E7, E8, E9, EA, EB, EC, Value.cells, Value.oneCell', ED, EE, EF, EG, EH, EJ, EK, EL, id, EM, EN, EO, EP, EQ, ER, ES, ET, EU, EV, EW, EX, EY, EZ, F0, F1, F3, F4, F5, F6, F7, F8, F9, FA, reduceCtorEq, ↓reduceIte, Nat.reduceEqDiff, Nat.reduceAdd, Nat.reduceLT, Nat.reduceLeDiff, Nat.reduceBEq, FB, Nat.reduceMul, FC, FD, FE, FF, FG, FH, FI, if_true, if_false, FL, FM, FN, FO, FP, FQ, FR, FS, FT, FU, FV, decide_true, decide_false, FY, FZ, G0, G1]
            rfl
          · have d : decide ((A.length : Int) < n) = false := decide_eq_false hgt
            have e1 : IntKind.i64.wrap ((A.length : Int) - n) = ((A.length - n.toNat : Nat) : Int) := by rw [w64 (by omega) (by omega)]; omega
            have hlt : A.length - n.toNat < A.length := by omega
            obtain ⟨s, hs⟩ : ∃ s, A[A.length - n.toNat]? = some s := ⟨_, List.getElem?_eq_getElem hlt⟩
            have hsd : A.getD (A.length - n.toNat) (0, 0) = s := by rw [List.getD_eq_getElem?_getD, hs]; rfl
            rw [if_neg hgt, hs] at hRR
            simp (config := {maxSteps := 4000000}) only [ Gsn, failsV, jumpV, seqV, lessV, iv, bv, p1, p2, posRow, EC, d, e1, hsd, ← hRR, H1, H2, H4, H5, H6, H7, H8, H9, HA, St.only, HB, HC, HD, St.sw, GA, GB, GC, GD, sw, G2, G3, G4, ↓ZX, ↓ZY, ZZ, Nat.reduceBNe, A0, A1, Int.reduceLE, Int.reduceLT, A6, A7, A8, A9, AA, AB, AC, AD, AE, AF, AG, AH, AI, AJ, AK, AL, AM, AN, AO, AP, AQ, AR, AS, AT, AU, AV, AX, AY, AZ, B0, B1, B3, B4, B5, B6, B7, B8, B9, BA, BB, BC, BD, BE, BF, BG, BH, BI, BJ, BK, BL, BM, BN, BO, BP, BQ, BR, BS, BT, BU, BV, BW, BX, BY, BZ, C0, C1, C2, C3, C4, C5, C6, C7, C8, C9, CA, CB, CC, CD, CE, CF, CG, CH, CI, CJ, CK, CL, CM, CN, CO, CP, CQ, CR, CS, CT, CU, CV, CW, CX, CY, CZ, D0, D1, D2, D3, D4, D5, D6, D7, DV.isSl, DV.isStr, DV.isBool, D8, D9, DA, DV.agg, DB, DC, DD, DE, DF, DG, DH, DI, DJ, DK, DL, DM, DN, DO, DP, DQ, DR, DS, DT, DU, St.kill, St.app, St.forget, St.newOK, DW, DX, DY, St.unseen, DZ, E0, E1, E3, E5, E6, E7, E8, E9, EA, EB, EC, Value.cells, Value.oneCell', ED, EE, EF, EG, EH, EJ, EK, EL, id, EM, EN, EO, EP, EQ, ER, ES, ET, EU, EV, EW, EX, EY, EZ, F0, F1, F3, F4, F5, F6, F7, F8, F9, FA, reduceCtorEq, ↓reduceIte, Nat.reduceEqDiff, Nat.reduceAdd, Nat.reduceLT, Nat.reduceLeDiff, Nat.reduceBEq, FB, Nat.reduceMul, FC, FD, FE, FF, FG, FH, FI, if_true, if_false, FL, FM, FN, FO, FP, FQ, FR, FS, FT, FU, FV, decide_true, decide_false, FY, FZ, G0, G1]
            exact ⟨⟨⟨by omega, by omega⟩, ⟨by omega, by omega⟩, para_jump _ _⟩, rfl⟩
        · rw [ho] at hls
          simp (config := {maxSteps := 4000000}) only [Gsn, failsV, jumpV, seqV, lessV, iv, bv, p1, p2, ho, EC, posRow, GE, GF, GG, H1, H2, H4, H5, H6, H7, H8, H9, HA, St.only, HB, HC, HD, St.sw, GA, GB, GC, GD, sw, G2, G3, G4, ↓ZX, ↓ZY, ZZ, Nat.reduceBNe, A0, A1, Int.reduceLE, Int.reduceLT, A6, A7, A8, A9, AA, AB, AC, AD, AE, AF, AG, AH, AI, AJ, AK, AL, AM, AN, AO, AP, AQ, AR, AS, AT, AU, AV, AX, AY, AZ, B0, B1, B3, B4, B5, B6, B7, B8, B9, BA, BB, BC, BD, BE, BF, BG, BH, BI, BJ, BK, BL, BM, BN, BO, BP, BQ, BR, BS, BT, BU, BV, BW, BX, BY, BZ, C0, C1, C2, C3, C4, C5, C6, C7, C8, C9, CA, CB, CC, CD, CE, CF, CG, CH, CI, CJ, CK, CL, CM, CN, CO, CP, CQ, CR, CS, CT, CU, CV, CW, CX, CY, CZ, D0, D1, D2, D3, D4, D5, D6, D7, DV.isSl, DV.isStr, DV.isBool, D8, D9, DA, DV.agg, DB, DC, DD, DE, DF, DG, DH, DI, DJ, DK, DL, DM, DN, DO, DP, DQ, DR, DS, DT, DU, St.kill, St.app, St.forget, St.newOK, DW, DX, DY, St.unseen, DZ, E0, E1, E3, E5, E6, E7, E8, E9, EA, EB, EC, Value.cells, Value.oneCell', ED, EE, EF, EG, EH, EJ, EK, EL, id, EM, EN, EO, EP, EQ, ER, ES, ET, EU, EV, EW, EX, EY, EZ, F0, F1, F3, F4, F5, F6, F7, F8, F9, FA, reduceCtorEq, ↓reduceIte, Nat.reduceEqDiff, Nat.reduceAdd, Nat.reduceLT, Nat.reduceLeDiff, Nat.reduceBEq, FB, Nat.reduceMul, FC, FD, FE, FF, FG, FH, FI, if_true, if_false, FL, FM, FN, FO, FP, FQ, FR, FS, FT, FU, FV, decide_true, decide_false, FY, FZ, G0, G1]
          refine ⟨hls, by omega, hN _ ⟨?_, [(1000, 25)], ?_⟩⟩
          · rw [htk]
            intro t ht
            rcases List.mem_append.1 ht with ht | ht
            · exact hi t ht
            · simp at ht; subst ht; exact ho
          · simp (config := {maxSteps := 4000000}) only [EC, posRow, htk, GE, GF, GG, H1, H2, H4, H5, H6, H7, H8, H9, HA, St.only, HB, HC, HD, St.sw, GA, GB, GC, GD, sw, G2, G3, G4, ↓ZX, ↓ZY, ZZ, Nat.reduceBNe, A0, A1, Int.reduceLE, Int.reduceLT, A6, A7, A8, A9, AA, AB, AC, AD, AE, AF, AG, AH, AI, AJ, AK, AL, AM, AN, AO, AP, AQ, AR, AS, AT, AU, AV, AX, AY, AZ, B0, B1, B3, B4, B5, B6, B7, B8, B9, BA, BB, BC, BD, BE, BF, BG, BH, BI, BJ, BK, BL, BM, BN, BO, BP, BQ, BR, BS, BT, BU, BV, BW, BX, BY, BZ, C0, C1, C2, C3, C4, C5, C6, C7, C8, C9, CA, CB, CC, CD, CE, CF, CG, CH, CI, CJ, CK, CL, CM, CN, CO, CP, CQ, CR, CS, CT, CU, CV, CW, CX, CY, CZ, D0, D1, D2, D3, D4, D5, D6, D7, DV.isSl, DV.isStr, DV.isBool, D8, D9, DA, DV.agg, DB, DC, DD, DE, DF, DG, DH, DI, DJ, DK, DL, DM, DN, DO, DP, DQ, DR, DS, DT, DU, St.kill, St.app, St.forget, St.newOK, DW, DX, DY, St.unseen, DZ, E0, E1, E3, E5, E6, E7, E8, E9, EA, EB, EC, Value.cells, Value.oneCell', ED, EE, EF, EG, EH, EJ, EK, EL, id, EM, EN, EO, EP, EQ, ER, ES, ET, EU, EV, EW, EX, EY, EZ, F0, F1, F3, F4, F5, F6, F7, F8, F9, FA, reduceCtorEq, ↓reduceIte, Nat.reduceEqDiff, Nat.reduceAdd, Nat.reduceLT, Nat.reduceLeDiff, Nat.reduceBEq, FB, Nat.reduceMul, FC, FD, FE, FF, FG, FH, FI, if_true, if_false, FL, FM, FN, FO, FP, FQ, FR, FS, FT, FU, FV, decide_true, decide_false, FY, FZ, G0, G1]
            exact pos_snoc _ _
      · intro hi
        have e0 : (sentL l).take (posX (sentL l)).length = sentL l := by simp [posX]
        rw [e0] at hi ⊢
        have hA : aheL (sentL l) (x, y) = sentL l := by
          have := takeWhile_take (L := sentL l) (i := (sentL l).length) (f := fun s => okB (x, y) s) (by simpa using hi) (fun s hs => by simp at hs)
          rw [List.take_length] at this
          exact this
        generalize hTK : sentL l = A at *
        have hAl : A.length ≤ 48000 := by rw [← hA]; exact Nat.le_trans (List.takeWhile_prefix _).length_le hL40
        rw [sentB, hTK, hA] at hRR
        by_cases hgt : (A.length : Int) < n
        · have d : decide ((A.length : Int) < n) = true := decide_eq_true hgt
          rw [if_pos hgt] at hRR
          simp (config := {maxSteps := 4000000}) only [ Gsn, failsV, jumpV, seqV, lessV, iv, bv, p1, p2, posRow, EC, d, ← hRR, H1, H2, H4, H5, H6, H7, H8, H9, HA, St.only, HB, HC, HD, St.sw, GA, GB, GC, GD, sw, G2, G3, G4, ↓ZX, ↓ZY, ZZ, Nat.reduceBNe, A0, A1, Int.reduceLE, Int.reduceLT, A6, A7, A8, A9, AA, AB, AC, AD, AE, AF, AG, AH, AI, AJ, AK, AL, AM, AN, AO, AP, AQ, AR, AS, AT, AU, AV, AX, AY, AZ, B0, B1, B3, B4, B5, B6, B7, B8, B9, BA, BB, BC, BD, BE, BF, BG, BH, BI, BJ, BK, BL, BM, BN, BO, BP, BQ, BR, BS, BT, BU, BV, BW, BX, BY, BZ, C0, C1, C2, C3, C4, C5, C6, C7, C8, C9, CA, CB, CC, CD, CE, CF, CG, CH, CI, CJ, CK, CL, CM, CN, CO, CP, CQ, CR, CS, CT, CU, CV, CW, CX, CY, CZ, D0, D1, D2, D3, D4, D5, D6, D7, DV.isSl, DV.isStr, DV.isBool, D8, D9, DA, DV.agg, DB, DC, DD, DE, DF, DG, DH, DI, DJ, DK, DL, DM, DN, DO, DP, DQ, DR, DS, DT, DU, St.kill, St.app, St.forget, St.newOK, DW, DX, DY, St.unseen, DZ, E0, E1, E3, E5, E6, E7, E8, E9, EA, EB, EC, Value.cells, Value.oneCell', ED, EE, EF, EG, EH, EJ, EK, EL, id, EM, EN, EO, EP, EQ, ER, ES, ET, EU, EV, EW, EX, EY, EZ, F0, F1, F3, F4, F5, F6, F7, F8, F9, FA, reduceCtorEq, ↓reduceIte, Nat.reduceEqDiff, Nat.reduceAdd, Nat.reduceLT, Nat.reduceLeDiff, Nat.reduceBEq, FB, Nat.reduceMul, FC, FD, FE, FF, FG, FH, FI, if_true, if_false, FL, FM, FN, FO, FP, FQ, FR, FS, FT, FU, FV, decide_true, decide_false, FY, FZ, G0, G1]
          rfl
        · have d : decide ((A.length : Int) < n) = false := decide_eq_false hgt
          have e1 : IntKind.i64.wrap ((A.length : Int) - n) = ((A.length - n.toNat : Nat) : Int) := by rw [w64 (by omega) (by omega)]; omega
          have hlt : A.length - n.toNat < A.length := by omega
          obtain ⟨s, hs⟩ : ∃ s, A[A.length - n.toNat]? = some s := ⟨_, List.getElem?_eq_getElem hlt⟩
          have hsd : A.getD (A.length - n.toNat) (0, 0) = s := by rw [List.getD_eq_getElem?_getD, hs]; rfl
          rw [if_neg hgt, hs] at hRR
          simp (config := {maxSteps := 4000000}) only [ Gsn, failsV, jumpV, seqV, lessV, iv, bv, p1, p2, posRow, EC, d, e1, hsd, ← hRR, H1, H2, H4, H5, H6, H7, H8, H9, HA, St.only, HB, HC, HD, St.sw, GA, GB, GC, GD, sw, G2, G3, G4, ↓ZX, ↓ZY, ZZ, Nat.reduceBNe, A0, A1, Int.reduceLE, Int.reduceLT, A6, A7, A8, A9, AA, AB, AC, AD, AE, AF, AG, AH, AI, AJ, AK, AL, AM, AN, AO, AP, AQ, AR, AS, AT, AU, AV, AX, AY, AZ, B0, B1, B3, B4, B5, B6, B7, B8, B9, BA, BB, BC, BD, BE, BF, BG, BH, BI, BJ, BK, BL, BM, BN, BO, BP, BQ, BR, BS, BT, BU, BV, BW, BX, BY, BZ, C0, C1, C2, C3, C4, C5, C6, C7, C8, C9, CA, CB, CC, CD, CE, CF, CG, CH, CI, CJ, CK, CL, CM, CN, CO, CP, CQ, CR, CS, CT, CU, CV, CW, CX, CY, CZ, D0, D1, D2, D3, D4, D5, D6, D7, DV.isSl, DV.isStr, DV.isBool, D8, D9, DA, DV.agg, DB, DC, DD, DE, DF, DG, DH, DI, DJ, DK, DL, DM, DN, DO, DP, DQ, DR, DS, DT, DU, St.kill, St.app, St.forget, St.newOK, DW, DX, DY, St.unseen, DZ, E0, E1, E3, E5, E6, E7, E8, E9, EA, EB, EC, Value.cells, Value.oneCell', ED, EE, EF, EG, EH, EJ, EK, EL, id, EM, EN, EO, EP, EQ, ER, ES, ET, EU, EV, EW, EX, EY, EZ, F0, F1, F3, F4, F5, F6, F7, F8, F9, FA, reduceCtorEq, ↓reduceIte, Nat.reduceEqDiff, Nat.reduceAdd, Nat.reduceLT, Nat.reduceLeDiff, Nat.reduceBEq, FB, Nat.reduceMul, FC, FD, FE, FF, FG, FH, FI, if_true, if_false, FL, FM, FN, FO, FP, FQ, FR, FS, FT, FU, FV, decide_true, decide_false, FY, FZ, G0, G1]
          exact ⟨⟨⟨by omega, by omega⟩, ⟨by omega, by omega⟩, para_jump _ _⟩, rfl⟩
  · rw [h] at hfl
    simp (config := {maxSteps := 4000000}) only [Try.f41, Gsn, failsV, jumpV, seqV, lessV, iv, bv, p1, p2, h, G2, G3, G4, ↓ZX, ↓ZY, ZZ, Nat.reduceBNe, A0, A1, Int.reduceLE, Int.reduceLT, A6, A7, A8, A9, AA, AB, AC, AD, AE, AF, AG, AH, AI, AJ, AK, AL, AM, AN, AO, AP, AQ, AR, AS, AT, AU, AV, AX, AY, AZ, B0, B1, B3, B4, B5, B6, B7, B8, B9, BA, BB, BC, BD, BE, BF, BG, BH, BI, BJ, BK, BL, BM, BN, BO, BP, BQ, BR, BS, BT, BU, BV, BW, BX, BY, BZ, C0, C1, C2, C3, C4, C5, C6, C7, C8, C9, CA, CB, CC, CD, CE, CF, CG, CH, CI, CJ, CK, CL, CM, CN, CO, CP, CQ, CR, CS, CT, CU, CV, CW, CX, CY, CZ, D0, D1, D2, D3, D4, D5, D6, D7, DV.isSl, DV.isStr, DV.isBool, D8, D9, DA, DV.agg, DB, DC, DD, DE, DF, DG, DH, DI, DJ, DK, DL, DM, DN, DO, DP, DQ, DR, DS, DT, DU, St.kill, St.app, St.forget, St.newOK, DW, DX, DY, St.unseen, DZ, E0, E1, E3, E5, E6, E7, E8, E9, EA, EB, EC, Value.cells, Value.oneCell', ED, EE, EF, EG, EH, EJ, EK, EL, id, EM, EN, EO, EP, EQ, ER, ES, ET, EU, EV, EW, EX, EY, EZ, F0, F1, F3, F4, F5, F6, F7, F8, F9, FA, reduceCtorEq, ↓reduceIte, Nat.reduceEqDiff, Nat.reduceAdd, Nat.reduceLT, Nat.reduceLeDiff, Nat.reduceBEq, FB, Nat.reduceMul, FC, FD, FE, FF, FG, FH, FI, if_true, if_false, FL, FM, FN, FO, FP, FQ, FR, FS, FT, FU, FV, decide_true, decide_false, FY, FZ, G0, G1]
    exact ⟨hfl, rfl⟩

end Go.Ab
