/- Contracts: words of a place. -/
import Derived.Test.Ytogmnhebobdokaa80
import Derived.Test.Ytogmnhebobdokaa71
set_option linter.unusedVariables false
set_option linter.unusedSimpArgs false
namespace Go.Ab
open Go Go.RowKit Go.Proofs

def wrdRow (s : ByteArray) (L : List (Nat × Nat)) : Row := { ty := 87, size := 3, len := L.length, get := fun i => [i64 (L.getD i.toNat (0, 0)).1, i64 (L.getD i.toNat (0, 0)).2, .bool (blankB s (L.getD i.toNat (0, 0)).1)] }
theorem wrd_snoc (s : ByteArray) (L : List (Nat × Nat)) (t : Nat × Nat) (i : Nat) (h : i < L.length + 1) : (if (i : Int) = (L.length : Int) then [i64 (t.1 : Int), i64 (t.2 : Int), .bool (blankB s t.1)] else [i64 ((L.getD i (0, 0)).1 : Int), i64 ((L.getD i (0, 0)).2 : Int), .bool (blankB s (L.getD i (0, 0)).1)]) = [i64 (((L ++ [t]).getD i (0, 0)).1 : Int), i64 (((L ++ [t]).getD i (0, 0)).2 : Int), .bool (blankB s ((L ++ [t]).getD i (0, 0)).1)] := by
  split
  · rename_i e
    obtain rfl : i = L.length := by omega
    simp
  · rename_i e
    have : i < L.length := by omega
    simp [List.getD_eq_getElem?_getD, List.getElem?_append_left this]

theorem wrdL_chain (s : ByteArray) (big : Bool) : Chain 0 (wrdL s big) s.size := runsL_chain _ _
theorem wrdL_len (s : ByteArray) (big : Bool) : (wrdL s big).length ≤ s.size := runsL_len _ _
/-- No count, no place of a byte, or an empty line. -/
def wrdF (l : List ByteArray) (a b n : Int) : Bool := bif (bif decide (n < 1) then true else !onB l a b) then true else sz l a.toNat == 0
def wrdK (l : List ByteArray) (big : Bool) (a b : Int) : Nat := lastI (wrdL (l.getD a.toNat ⟨#[]⟩) big) b (wrdL (l.getD a.toNat ⟨#[]⟩) big).length
theorem wrdF_no {l : List ByteArray} {a b n : Int} (h : wrdF l a b n = false) : decide (n < 1) = false ∧ onB l a b = true ∧ (sz l a.toNat == 0) = false := by
  unfold wrdF at h
  cases h1 : decide (n < 1) <;> cases h2 : onB l a b <;> cases h3 : (sz l a.toNat == 0) <;> simp_all
def Gwo (l : List ByteArray) (f : FuncId) (args : List V) : Option (List RV) :=
  if f = 74 then byteV l args
  else if f = 54 then clsV args
  else if f = 27 then (match args with | [.v (.string s), .v big] => some [.row (seqRow (runX (wrdL s (bv big))))] | _ => none) else none
theorem str_nilI (l : List ByteArray) (a : Nat) : ((l.getD a ⟨#[]⟩).toList == (⟨#[]⟩ : ByteArray).toList) = (sz l a == 0) := str_nil _

set_option maxRecDepth 100000 in
set_option maxHeartbeats 2000000 in
theorem word_runs_no (l : List ByteArray) (a b n : Int) (big : Bool) (h : wrdF l a b n = true) (k : Nat) : CallOK Try.prog 56 [.r k, .v (pos a b), .v (i64 n), .v (.bool big)] [some (EC l), none, none, none] [.v (.slice none 0 0), .v (i64 0), .v (.bool false)] := by
  refine callOK_of_awp (c := cx (Gwo l) 63) (cx_ok _ _) Try.func56 (by kernel_rfl) rfl rfl (by simp [cx]) (by simp [sizesOK, EC]) (awk_of ?_)
  have hby := class_Byte l a b 0
  rcases h1 : decide (n < 1) with _ | _
  · rcases h2 : onB l a b with _ | _
    · rw [h2] at hby
      simp (config := {maxSteps := 4000000}) only [Try.f56, Gwo, byteV, iv, p1, p2, h1, h2, G2, G3, G4, ↓ZX, ↓ZY, ZZ, Nat.reduceBNe, A0, A1, Int.reduceLE, Int.reduceLT, A6, A7, A8, A9, AA, AB, AC, AD, AE, AF, AG, AH, AI, AJ, AK, AL, AM, AN, AO, AP, AQ, AR, AS, AT, AU, AV, AX, AY, AZ, B0, B1, B3, B4, B5, B6, B7, B8, B9, BA, BB, BC, BD, BE, BF, BG, BH, BI, BJ, BK, BL, BM, BN, BO, BP, BQ, BR, BS, BT, BU, BV, BW, BX, BY, BZ, C0, C1, C2, C3, C4, C5, C6, C7, C8, C9, CA, CB, CC, CD, CE, CF, CG, CH, CI, CJ, CK, CL, CM, CN, CO, CP, CQ, CR, CS, CT, CU, CV, CW, CX, CY, CZ, D0, D1, D2, D3, D4, D5, D6, D7, DV.isSl, DV.isStr, DV.isBool, D8, D9, DA, DV.agg, DB, DC, DD, DE, DF, DG, DH, DI, DJ, DK, DL, DM, DN, DO, DP, DQ, DR, DS, DT, DU, St.kill, St.app, St.forget, St.newOK, DW, DX, DY, St.unseen, DZ, E0, E1, E3, E5, E6, E7, E8, E9, EA, EB, EC, Value.cells, Value.oneCell', ED, EE, EF, EG, EH, EJ, EK, EL, id, EM, EN, EO, EP, EQ, ER, ES, ET, EU, EV, EW, EX, EY, EZ, F0, F1, F3, F4, F5, F6, F7, F8, F9, FA, reduceCtorEq, ↓reduceIte, Nat.reduceEqDiff, Nat.reduceAdd, Nat.reduceLT, Nat.reduceLeDiff, Nat.reduceBEq, FB, Nat.reduceMul, FC, FD, FE, FF, FG, FH, FI, if_true, if_false, FL, FM, FN, FO, FP, FQ, FR, FS, FT, FU, FV, decide_true, decide_false, FY, FZ, G0, G1]
      exact hby
    · rw [h2] at hby
      obtain ⟨x, y, rfl, rfl, hx, hy⟩ := onB_place h2
      have h3 : (sz l x == 0) = true := by
        unfold wrdF at h
        rw [h1, h2] at h
        simpa using h
      simp (config := {maxSteps := 4000000}) only [Try.f56, Gwo, byteV, iv, p1, p2, h1, h2, str_nilI, h3, G2, G3, G4, ↓ZX, ↓ZY, ZZ, Nat.reduceBNe, A0, A1, Int.reduceLE, Int.reduceLT, A6, A7, A8, A9, AA, AB, AC, AD, AE, AF, AG, AH, AI, AJ, AK, AL, AM, AN, AO, AP, AQ, AR, AS, AT, AU, AV, AX, AY, AZ, B0, B1, B3, B4, B5, B6, B7, B8, B9, BA, BB, BC, BD, BE, BF, BG, BH, BI, BJ, BK, BL, BM, BN, BO, BP, BQ, BR, BS, BT, BU, BV, BW, BX, BY, BZ, C0, C1, C2, C3, C4, C5, C6, C7, C8, C9, CA, CB, CC, CD, CE, CF, CG, CH, CI, CJ, CK, CL, CM, CN, CO, CP, CQ, CR, CS, CT, CU, CV, CW, CX, CY, CZ, D0, D1, D2, D3, D4, D5, D6, D7, DV.isSl, DV.isStr, DV.isBool, D8, D9, DA, DV.agg, DB, DC, DD, DE, DF, DG, DH, DI, DJ, DK, DL, DM, DN, DO, DP, DQ, DR, DS, DT, DU, St.kill, St.app, St.forget, St.newOK, DW, DX, DY, St.unseen, DZ, E0, E1, E3, E5, E6, E7, E8, E9, EA, EB, EC, Value.cells, Value.oneCell', ED, EE, EF, EG, EH, EJ, EK, EL, id, EM, EN, EO, EP, EQ, ER, ES, ET, EU, EV, EW, EX, EY, EZ, F0, F1, F3, F4, F5, F6, F7, F8, F9, FA, reduceCtorEq, ↓reduceIte, Nat.reduceEqDiff, Nat.reduceAdd, Nat.reduceLT, Nat.reduceLeDiff, Nat.reduceBEq, FB, Nat.reduceMul, FC, FD, FE, FF, FG, FH, FI, if_true, if_false, FL, FM, FN, FO, FP, FQ, FR, FS, FT, FU, FV, decide_true, decide_false, FY, FZ, G0, G1]
      repeat' (first | with_reducible apply And.intro)
      all_goals first | exact hby | omega
  · simp (config := {maxSteps := 4000000}) only [Try.f56, Gwo, byteV, iv, p1, p2, h1, G2, G3, G4, ↓ZX, ↓ZY, ZZ, Nat.reduceBNe, A0, A1, Int.reduceLE, Int.reduceLT, A6, A7, A8, A9, AA, AB, AC, AD, AE, AF, AG, AH, AI, AJ, AK, AL, AM, AN, AO, AP, AQ, AR, AS, AT, AU, AV, AX, AY, AZ, B0, B1, B3, B4, B5, B6, B7, B8, B9, BA, BB, BC, BD, BE, BF, BG, BH, BI, BJ, BK, BL, BM, BN, BO, BP, BQ, BR, BS, BT, BU, BV, BW, BX, BY, BZ, C0, C1, C2, C3, C4, C5, C6, C7, C8, C9, CA, CB, CC, CD, CE, CF, CG, CH, CI, CJ, CK, CL, CM, CN, CO, CP, CQ, CR, CS, CT, CU, CV, CW, CX, CY, CZ, D0, D1, D2, D3, D4, D5, D6, D7, DV.isSl, DV.isStr, DV.isBool, D8, D9, DA, DV.agg, DB, DC, DD, DE, DF, DG, DH, DI, DJ, DK, DL, DM, DN, DO, DP, DQ, DR, DS, DT, DU, St.kill, St.app, St.forget, St.newOK, DW, DX, DY, St.unseen, DZ, E0, E1, E3, E5, E6, E7, E8, E9, EA, EB, EC, Value.cells, Value.oneCell', ED, EE, EF, EG, EH, EJ, EK, EL, id, EM, EN, EO, EP, EQ, ER, ES, ET, EU, EV, EW, EX, EY, EZ, F0, F1, F3, F4, F5, F6, F7, F8, F9, FA, reduceCtorEq, ↓reduceIte, Nat.reduceEqDiff, Nat.reduceAdd, Nat.reduceLT, Nat.reduceLeDiff, Nat.reduceBEq, FB, Nat.reduceMul, FC, FD, FE, FF, FG, FH, FI, if_true, if_false, FL, FM, FN, FO, FP, FQ, FR, FS, FT, FU, FV, decide_true, decide_false, FY, FZ, G0, G1]

set_option maxRecDepth 100000 in
set_option maxHeartbeats 4000000 in
theorem word_runs (l : List ByteArray) (hf : Fit l) (x y : Nat) (n : Int) (big : Bool) (h : wrdF l x y n = false) (k : Nat) : CallOK Try.prog 56 [.r k, .v (pos x y), .v (i64 n), .v (.bool big)] [some (EC l), none, none, none] [.row (wrdRow (l.getD x ⟨#[]⟩) (wrdL (l.getD x ⟨#[]⟩) big)), .v (i64 (wrdK l big x y)), .v (.bool true)] := by
  refine callOK_of_awp (c := cx (Gwo l) 63) (cx_ok _ _) Try.func56 (by kernel_rfl) rfl rfl (by simp [cx]) (by simp [sizesOK, EC]) (awk_of ?_)
  have hby := class_Byte l x y 0
  obtain ⟨h1, h2, h3⟩ := wrdF_no h
  rw [Int.toNat_natCast] at h3
  rw [h2] at hby
  obtain ⟨x', y', ex, ey, hx, hy⟩ := onB_place h2
  obtain rfl : x = x' := by omega
  obtain rfl : y = y' := by omega
  have hs := hf.2 x
  have hss : (l.getD x ⟨#[]⟩).size = sz l x := rfl
  have hru := word_Runs (l.getD x ⟨#[]⟩) hs big
  have hbn := wrdL_len (l.getD x ⟨#[]⟩) big
  have hch := wrdL_chain (l.getD x ⟨#[]⟩) big
  rw [hss] at hbn hch
  unfold wrdK
  rw [Int.toNat_natCast]
  simp (config := {maxSteps := 4000000}) only [Try.f56, Gwo, byteV, seqRow, iv, bv, p1, p2, h1, h2, str_nilI, h3, G2, G3, G4, ↓ZX, ↓ZY, ZZ, Nat.reduceBNe, A0, A1, Int.reduceLE, Int.reduceLT, A6, A7, A8, A9, AA, AB, AC, AD, AE, AF, AG, AH, AI, AJ, AK, AL, AM, AN, AO, AP, AQ, AR, AS, AT, AU, AV, AX, AY, AZ, B0, B1, B3, B4, B5, B6, B7, B8, B9, BA, BB, BC, BD, BE, BF, BG, BH, BI, BJ, BK, BL, BM, BN, BO, BP, BQ, BR, BS, BT, BU, BV, BW, BX, BY, BZ, C0, C1, C2, C3, C4, C5, C6, C7, C8, C9, CA, CB, CC, CD, CE, CF, CG, CH, CI, CJ, CK, CL, CM, CN, CO, CP, CQ, CR, CS, CT, CU, CV, CW, CX, CY, CZ, D0, D1, D2, D3, D4, D5, D6, D7, DV.isSl, DV.isStr, DV.isBool, D8, D9, DA, DV.agg, DB, DC, DD, DE, DF, DG, DH, DI, DJ, DK, DL, DM, DN, DO, DP, DQ, DR, DS, DT, DU, St.kill, St.app, St.forget, St.newOK, DW, DX, DY, St.unseen, DZ, E0, E1, E3, E5, E6, E7, E8, E9, EA, EB, EC, Value.cells, Value.oneCell', ED, EE, EF, EG, EH, EJ, EK, EL, id, EM, EN, EO, EP, EQ, ER, ES, ET, EU, EV, EW, EX, EY, EZ, F0, F1, F3, F4, F5, F6, F7, F8, F9, FA, reduceCtorEq, ↓reduceIte, Nat.reduceEqDiff, Nat.reduceAdd, Nat.reduceLT, Nat.reduceLeDiff, Nat.reduceBEq, FB, Nat.reduceMul, FC, FD, FE, FF, FG, FH, FI, if_true, if_false, FL, FM, FN, FO, FP, FQ, FR, FS, FT, FU, FV, decide_true, decide_false, FY, FZ, G0, G1]
  refine ⟨⟨hby, ⟨by omega, by omega⟩, by omega, by omega⟩, ⟨⟨by omega, by omega⟩, ⟨by omega, by omega⟩, hru⟩, ?_⟩
  clear hru
  generalize wrdL (l.getD x ⟨#[]⟩) big = L at *
  refine AWR_into rfl rfl [.nilB 11 1000 87 3] ⟨[(37, .r 37), (4, .p 4 0), (5, .p 5 0), (11, .p 11 0), (12, .p 12 0)], [(4, some [.r 0]), (5, some [.v (i64 x), .v (i64 y)]), (11, some [.r 1000]), (12, some [.v (i64 (lastI L y 0 : Nat))])], [(0, some (EC l)), (37, some { seqRow (runX L) with new := true }), (1000, some { wrdRow (l.getD x ⟨#[]⟩) (L.take 0) with own := true, new := true })]⟩ ?_ ?_
  · simp (config := {maxSteps := 4000000}) only [seqRow, EC, wrdRow, lastI, List.take_zero, into, G5, G6, G7, G8, G9, St.sw, GA, GB, GC, GD, sw, G2, G3, G4, ↓ZX, ↓ZY, ZZ, Nat.reduceBNe, A0, A1, Int.reduceLE, Int.reduceLT, A6, A7, A8, A9, AA, AB, AC, AD, AE, AF, AG, AH, AI, AJ, AK, AL, AM, AN, AO, AP, AQ, AR, AS, AT, AU, AV, AX, AY, AZ, B0, B1, B3, B4, B5, B6, B7, B8, B9, BA, BB, BC, BD, BE, BF, BG, BH, BI, BJ, BK, BL, BM, BN, BO, BP, BQ, BR, BS, BT, BU, BV, BW, BX, BY, BZ, C0, C1, C2, C3, C4, C5, C6, C7, C8, C9, CA, CB, CC, CD, CE, CF, CG, CH, CI, CJ, CK, CL, CM, CN, CO, CP, CQ, CR, CS, CT, CU, CV, CW, CX, CY, CZ, D0, D1, D2, D3, D4, D5, D6, D7, DV.isSl, DV.isStr, DV.isBool, D8, D9, DA, DV.agg, DB, DC, DD, DE, DF, DG, DH, DI, DJ, DK, DL, DM, DN, DO, DP, DQ, DR, DS, DT, DU, St.kill, St.app, St.forget, St.newOK, DW, DX, DY, St.unseen, DZ, E0, E1, E3, E5, E6, E7, E8, E9, EA, EB, EC, Value.cells, Value.oneCell', ED, EE, EF, EG, EH, EJ, EK, EL, id, EM, EN, EO, EP, EQ, ER, ES, ET, EU, EV, EW, EX, EY, EZ, F0, F1, F3, F4, F5, F6, F7, F8, F9, FA, reduceCtorEq, ↓reduceIte, Nat.reduceEqDiff, Nat.reduceAdd, Nat.reduceLT, Nat.reduceLeDiff, Nat.reduceBEq, FB, Nat.reduceMul, FC, FD, FE, FF, FG, FH, FI, if_true, if_false, FL, FM, FN, FO, FP, FQ, FR, FS, FT, FU, FV, decide_true, decide_false, FY, FZ, G0, G1]
    all_goals simp
  · refine AWR_range (cx_ok _ _) rfl rfl rfl rfl [4, 5, 11, 12] (fun i => ⟨[(4, .p 4 0), (5, .p 5 0), (11, .p 11 0), (12, .p 12 0)], [(4, some [.r 0]), (5, some [.v (i64 x), .v (i64 y)]), (11, some [.r 1000]), (12, some [.v (i64 (lastI L y i : Nat))])], [(0, some (EC l)), (1000, some { wrdRow (l.getD x ⟨#[]⟩) (L.take i) with own := true, new := true })]⟩)
      (fun i => True) (runX L) 37 _ rfl rfl rfl ?_ (dom_of fun i => rfl) (by intro p hp; simp at hp; rcases hp with rfl | rfl <;> first | exact ⟨show 38 < 63 by decide, rfl⟩ | exact ⟨show 39 < 63 by decide, rfl⟩) ?_ rfl trivial ?_ ?_
    · simp (config := {maxSteps := 4000000}) only [wrdRow, EC, G2, G3, G4, ↓ZX, ↓ZY, ZZ, Nat.reduceBNe, A0, A1, Int.reduceLE, Int.reduceLT, A6, A7, A8, A9, AA, AB, AC, AD, AE, AF, AG, AH, AI, AJ, AK, AL, AM, AN, AO, AP, AQ, AR, AS, AT, AU, AV, AX, AY, AZ, B0, B1, B3, B4, B5, B6, B7, B8, B9, BA, BB, BC, BD, BE, BF, BG, BH, BI, BJ, BK, BL, BM, BN, BO, BP, BQ, BR, BS, BT, BU, BV, BW, BX, BY, BZ, C0, C1, C2, C3, C4, C5, C6, C7, C8, C9, CA, CB, CC, CD, CE, CF, CG, CH, CI, CJ, CK, CL, CM, CN, CO, CP, CQ, CR, CS, CT, CU, CV, CW, CX, CY, CZ, D0, D1, D2, D3, D4, D5, D6, D7, DV.isSl, DV.isStr, DV.isBool, D8, D9, DA, DV.agg, DB, DC, DD, DE, DF, DG, DH, DI, DJ, DK, DL, DM, DN, DO, DP, DQ, DR, DS, DT, DU, St.kill, St.app, St.forget, St.newOK, DW, DX, DY, St.unseen, DZ, E0, E1, E3, E5, E6, E7, E8, E9, EA, EB, EC, Value.cells, Value.oneCell', ED, EE, EF, EG, EH, EJ, EK, EL, id, EM, EN, EO, EP, EQ, ER, ES, ET, EU, EV, EW, EX, EY, EZ, F0, F1, F3, F4, F5, F6, F7, F8, F9, FA, reduceCtorEq, ↓reduceIte, Nat.reduceEqDiff, Nat.reduceAdd, Nat.reduceLT, Nat.reduceLeDiff, Nat.reduceBEq, FB, Nat.reduceMul, FC, FD, FE, FF, FG, FH, FI, if_true, if_false, FL, FM, FN, FO, FP, FQ, FR, FS, FT, FU, FV, decide_true, decide_false, FY, FZ, G0, G1]
      all_goals simp
    · intro x hx
      simp only [runX, List.mem_map] at hx
      obtain ⟨s, _, rfl⟩ := hx
      rfl
    · intro i xv hxi _ R hN hR hE
      obtain ⟨s, hsi, rfl⟩ : ∃ s, L[i]? = some s ∧ xv = [i64 s.1, i64 s.2] := by
        simp only [runX, List.getElem?_map] at hxi
        cases hs : L[i]? with
        | none => rw [hs] at hxi; simp at hxi
        | some s => rw [hs] at hxi; simp at hxi; exact ⟨s, rfl, hxi.symm⟩
      have hil : i < L.length := (List.getElem?_eq_some_iff.1 hsi).1
      have htk : L.take (i + 1) = L.take i ++ [s] := by rw [List.take_succ_eq_append_getElem hil, (List.getElem?_eq_some_iff.1 hsi).2]
      have hlen : (L.take i).length = i := by rw [List.length_take]; omega
      have hsd : L.getD i (0, 0) = s := getD_some hsi
      have hse := hch.get hsi
      have ho := class_Of (byteAt l x s.1) true
      have hb : (clsI (byteAt l x s.1) true == 0) = blankB (l.getD x ⟨#[]⟩) s.1 := blank_cls (l.getD x ⟨#[]⟩) s.1
      have hsn := wrd_snoc (l.getD x ⟨#[]⟩) (L.take i) s
      rw [hlen] at hsn
      rcases h4 : decide ((s.1 : Int) ≤ (y : Int)) with _ | _
      · have hla : lastI L y (i + 1) = lastI L y i := by rw [lastI, hsd, if_neg (of_decide_eq_false h4)]
        simp (config := {maxSteps := 4000000}) only [notApp, List.takeWhile_cons, List.takeWhile_nil, List.dropWhile_cons, Gwo, clsV, iv, bv, wrdRow, EC, hlen, h4, hb, GE, GF, GG, H1, H2, H4, H5, H6, H7, H8, H9, HA, St.only, HB, HC, HD, St.sw, GA, GB, GC, GD, sw, G2, G3, G4, ↓ZX, ↓ZY, ZZ, Nat.reduceBNe, A0, A1, Int.reduceLE, Int.reduceLT, A6, A7, A8, A9, AA, AB, AC, AD, AE, AF, AG, AH, AI, AJ, AK, AL, AM, AN, AO, AP, AQ, AR, AS, AT, AU, AV, AX, AY, AZ, B0, B1, B3, B4, B5, B6, B7, B8, B9, BA, BB, BC, BD, BE, BF, BG, BH, BI, BJ, BK, BL, BM, BN, BO, BP, BQ, BR, BS, BT, BU, BV, BW, BX, BY, BZ, C0, C1, C2, C3, C4, C5, C6, C7, C8, C9, CA, CB, CC, CD, CE, CF, CG, CH, CI, CJ, CK, CL, CM, CN, CO, CP, CQ, CR, CS, CT, CU, CV, CW, CX, CY, CZ, D0, D1, D2, D3, D4, D5, D6, D7, DV.isSl, DV.isStr, DV.isBool, D8, D9, DA, DV.agg, DB, DC, DD, DE, DF, DG, DH, DI, DJ, DK, DL, DM, DN, DO, DP, DQ, DR, DS, DT, DU, St.kill, St.app, St.forget, St.newOK, DW, DX, DY, St.unseen, DZ, E0, E1, E3, E5, E6, E7, E8, E9, EA, EB, EC, Value.cells, Value.oneCell', ED, EE, EF, EG, EH, EJ, EK, EL, id, EM, EN, EO, EP, EQ, ER, ES, ET, EU, EV, EW, EX, EY, EZ, F0, F1, F3, F4, F5, F6, F7, F8, F9, FA, reduceCtorEq, ↓reduceIte, Nat.reduceEqDiff, Nat.reduceAdd, Nat.reduceLT, Nat.reduceLeDiff, Nat.reduceBEq, FB, Nat.reduceMul, FC, FD, FE, FF, FG, FH, FI, if_true, if_false, FL, FM, FN, FO, FP, FQ, FR, FS, FT, FU, FV, decide_true, decide_false, FY, FZ, G0, G1]
        repeat' (first | with_reducible apply And.intro)
        any_goals first | exact ho | omega | (kernel_rfl; done)
        refine hN _ ⟨trivial, [(1000, 60)], ?_⟩
        simp (config := {maxSteps := 4000000}) only [wrdRow, EC, htk, hlen, hla, GE, GF, GG, H1, H2, H4, H5, H6, H7, H8, H9, HA, St.only, HB, HC, HD, St.sw, GA, GB, GC, GD, sw, G2, G3, G4, ↓ZX, ↓ZY, ZZ, Nat.reduceBNe, A0, A1, Int.reduceLE, Int.reduceLT, A6, A7, A8, A9, AA, AB, AC, AD, AE, AF, AG, AH, AI, AJ, AK, AL, AM, AN, AO, AP, AQ, AR, AS, AT, AU, AV, AX, AY, AZ, B0, B1, B3, B4, B5, B6, B7, B8, B9, BA, BB, BC, BD, BE, BF, BG, BH, BI, BJ, BK, BL, BM, BN, BO, BP, BQ, BR, BS, BT, BU, BV, BW, BX, BY, BZ, C0, C1, C2, C3, C4, C5, C6, C7, C8, C9, CA, CB, CC, CD, CE, CF, CG, CH, CI, CJ, CK, CL, CM, CN, CO, CP, CQ, CR, CS, CT, CU, CV, CW, CX, CY, CZ, D0, D1, D2, D3, D4, D5, D6, D7, DV.isSl, DV.isStr, DV.isBool, D8, D9, DA, DV.agg, DB, DC, DD, DE, DF, DG, DH, DI, DJ, DK, DL, DM, DN, DO, DP, DQ, DR, DS, DT, DU, St.kill, St.app, St.forget, St.newOK, DW, DX, DY, St.unseen, DZ, E0, E1, E3, E5, E6, E7, E8, E9, EA, EB, EC, Value.cells, Value.oneCell', ED, EE, EF, EG, EH, EJ, EK, EL, id, EM, EN, EO, EP, EQ, ER, ES, ET, EU, EV, EW, EX, EY, EZ, F0, F1, F3, F4, F5, F6, F7, F8, F9, FA, reduceCtorEq, ↓reduceIte, Nat.reduceEqDiff, Nat.reduceAdd, Nat.reduceLT, Nat.reduceLeDiff, Nat.reduceBEq, FB, Nat.reduceMul, FC, FD, FE, FF, FG, FH, FI, if_true, if_false, FL, FM, FN, FO, FP, FQ, FR, FS, FT, FU, FV, decide_true, decide_false, FY, FZ, G0, G1]
        first | exact hsn | exact ⟨by simp, hsn⟩
      · have hla : lastI L y (i + 1) = i := by rw [lastI, hsd, if_pos (of_decide_eq_true h4)]
        simp (config := {maxSteps := 4000000}) only [notApp, List.takeWhile_cons, List.takeWhile_nil, List.dropWhile_cons, Gwo, clsV, iv, bv, wrdRow, EC, hlen, h4, hb, GE, GF, GG, H1, H2, H4, H5, H6, H7, H8, H9, HA, St.only, HB, HC, HD, St.sw, GA, GB, GC, GD, sw, G2, G3, G4, ↓ZX, ↓ZY, ZZ, Nat.reduceBNe, A0, A1, Int.reduceLE, Int.reduceLT, A6, A7, A8, A9, AA, AB, AC, AD, AE, AF, AG, AH, AI, AJ, AK, AL, AM, AN, AO, AP, AQ, AR, AS, AT, AU, AV, AX, AY, AZ, B0, B1, B3, B4, B5, B6, B7, B8, B9, BA, BB, BC, BD, BE, BF, BG, BH, BI, BJ, BK, BL, BM, BN, BO, BP, BQ, BR, BS, BT, BU, BV, BW, BX, BY, BZ, C0, C1, C2, C3, C4, C5, C6, C7, C8, C9, CA, CB, CC, CD, CE, CF, CG, CH, CI, CJ, CK, CL, CM, CN, CO, CP, CQ, CR, CS, CT, CU, CV, CW, CX, CY, CZ, D0, D1, D2, D3, D4, D5, D6, D7, DV.isSl, DV.isStr, DV.isBool, D8, D9, DA, DV.agg, DB, DC, DD, DE, DF, DG, DH, DI, DJ, DK, DL, DM, DN, DO, DP, DQ, DR, DS, DT, DU, St.kill, St.app, St.forget, St.newOK, DW, DX, DY, St.unseen, DZ, E0, E1, E3, E5, E6, E7, E8, E9, EA, EB, EC, Value.cells, Value.oneCell', ED, EE, EF, EG, EH, EJ, EK, EL, id, EM, EN, EO, EP, EQ, ER, ES, ET, EU, EV, EW, EX, EY, EZ, F0, F1, F3, F4, F5, F6, F7, F8, F9, FA, reduceCtorEq, ↓reduceIte, Nat.reduceEqDiff, Nat.reduceAdd, Nat.reduceLT, Nat.reduceLeDiff, Nat.reduceBEq, FB, Nat.reduceMul, FC, FD, FE, FF, FG, FH, FI, if_true, if_false, FL, FM, FN, FO, FP, FQ, FR, FS, FT, FU, FV, decide_true, decide_false, FY, FZ, G0, G1]
        repeat' (first | with_reducible apply And.intro)
        any_goals first | exact ho | omega | (kernel_rfl; done)
        refine hN _ ⟨trivial, [(1000, 60)], ?_⟩
        simp (config := {maxSteps := 4000000}) only [wrdRow, EC, htk, hlen, hla, GE, GF, GG, H1, H2, H4, H5, H6, H7, H8, H9, HA, St.only, HB, HC, HD, St.sw, GA, GB, GC, GD, sw, G2, G3, G4, ↓ZX, ↓ZY, ZZ, Nat.reduceBNe, A0, A1, Int.reduceLE, Int.reduceLT, A6, A7, A8, A9, AA, AB, AC, AD, AE, AF, AG, AH, AI, AJ, AK, AL, AM, AN, AO, AP, AQ, AR, AS, AT, AU, AV, AX, AY, AZ, B0, B1, B3, B4, B5, B6, B7, B8, B9, BA, BB, BC, BD, BE, BF, BG, BH, BI, BJ, BK, BL, BM, BN, BO, BP, BQ, BR, BS, BT, BU, BV, BW, BX, BY, BZ, C0, C1, C2, C3, C4, C5, C6, C7, C8, C9, CA, CB, CC, CD, CE, CF, CG, CH, CI, CJ, CK, CL, CM, CN, CO, CP, CQ, CR, CS, CT, CU, CV, CW, CX, CY, CZ, D0, D1, D2, D3, D4, D5, D6, D7, DV.isSl, DV.isStr, DV.isBool, D8, D9, DA, DV.agg, DB, DC, DD, DE, DF, DG, DH, DI, DJ, DK, DL, DM, DN, DO, DP, DQ, DR, DS, DT, DU, St.kill, St.app, St.forget, St.newOK, DW, DX, DY, St.unseen, DZ, E0, E1, E3, E5, E6, E7, E8, E9, EA, EB, EC, Value.cells, Value.oneCell', ED, EE, EF, EG, EH, EJ, EK, EL, id, EM, EN, EO, EP, EQ, ER, ES, ET, EU, EV, EW, EX, EY, EZ, F0, F1, F3, F4, F5, F6, F7, F8, F9, FA, reduceCtorEq, ↓reduceIte, Nat.reduceEqDiff, Nat.reduceAdd, Nat.reduceLT, Nat.reduceLeDiff, Nat.reduceBEq, FB, Nat.reduceMul, FC, FD, FE, FF, FG, FH, FI, if_true, if_false, FL, FM, FN, FO, FP, FQ, FR, FS, FT, FU, FV, decide_true, decide_false, FY, FZ, G0, G1]
        first | exact hsn | exact ⟨by simp, hsn⟩
    · intro _
      have e0 : (runX L).length = L.length := by simp [runX]
      rw [e0]
      simp (config := {maxSteps := 4000000}) only [wrdRow, List.take_length, G2, G3, G4, ↓ZX, ↓ZY, ZZ, Nat.reduceBNe, A0, A1, Int.reduceLE, Int.reduceLT, A6, A7, A8, A9, AA, AB, AC, AD, AE, AF, AG, AH, AI, AJ, AK, AL, AM, AN, AO, AP, AQ, AR, AS, AT, AU, AV, AX, AY, AZ, B0, B1, B3, B4, B5, B6, B7, B8, B9, BA, BB, BC, BD, BE, BF, BG, BH, BI, BJ, BK, BL, BM, BN, BO, BP, BQ, BR, BS, BT, BU, BV, BW, BX, BY, BZ, C0, C1, C2, C3, C4, C5, C6, C7, C8, C9, CA, CB, CC, CD, CE, CF, CG, CH, CI, CJ, CK, CL, CM, CN, CO, CP, CQ, CR, CS, CT, CU, CV, CW, CX, CY, CZ, D0, D1, D2, D3, D4, D5, D6, D7, DV.isSl, DV.isStr, DV.isBool, D8, D9, DA, DV.agg, DB, DC, DD, DE, DF, DG, DH, DI, DJ, DK, DL, DM, DN, DO, DP, DQ, DR, DS, DT, DU, St.kill, St.app, St.forget, St.newOK, DW, DX, DY, St.unseen, DZ, E0, E1, E3, E5, E6, E7, E8, E9, EA, EB, EC, Value.cells, Value.oneCell', ED, EE, EF, EG, EH, EJ, EK, EL, id, EM, EN, EO, EP, EQ, ER, ES, ET, EU, EV, EW, EX, EY, EZ, F0, F1, F3, F4, F5, F6, F7, F8, F9, FA, reduceCtorEq, ↓reduceIte, Nat.reduceEqDiff, Nat.reduceAdd, Nat.reduceLT, Nat.reduceLeDiff, Nat.reduceBEq, FB, Nat.reduceMul, FC, FD, FE, FF, FG, FH, FI, if_true, if_false, FL, FM, FN, FO, FP, FQ, FR, FS, FT, FU, FV, decide_true, decide_false, FY, FZ, G0, G1]
      show chk _ _ = true
      kernel_rfl

end Go.Ab
