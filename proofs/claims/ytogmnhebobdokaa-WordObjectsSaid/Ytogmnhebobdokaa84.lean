/- Contracts: words inside, as the document says. -/
import Derived.Test.Ytogmnhebobdokaa83
import Derived.Test.YtogmnhebobdokaaInR
import Derived.Test.YtogmnhebobdokaaFd
set_option linter.unusedVariables false
set_option linter.unusedSimpArgs false
namespace Go.Ab
open Go Go.RowKit Go.Proofs

def Gwx (l : List ByteArray) (f : FuncId) (args : List V) : Option (List RV) :=
  if f = 52 then (match args with | [_, .v p, .v n] => some [.v (.bool (onN l (p1 p) (p2 p) (iv n)))] | _ => none)
  else if f = 53 then inV args
  else if f = 39 then clsV args
  else if f = 28 then (match args with | [.v (.string s), .v big] => some [.row (runRow (wrdL s (bv big)))] | _ => none) else none
def Gwy (l : List ByteArray) (L : List (Nat × Nat)) (f : FuncId) (args : List V) : Option (List RV) :=
  if f = 58 then (match args with | [_, .v x] => some [.v (i64 (fndI L (iv x)))] | _ => none) else Gwx l f args
theorem wrd_fnd {l : List ByteArray} {big : Bool} {x y : Nat} (hy : y < sz l x) : fndI (wrdL (l.getD x ⟨#[]⟩) big) y = wrdK l big x y := by
  obtain ⟨k, p, hk, h1, h2⟩ := chain_find (wrdL_chain (l.getD x ⟨#[]⟩) big) (Nat.zero_le y) hy
  have e1 := lastI_eq (wrdL_chain (l.getD x ⟨#[]⟩) big) hk h1 h2 _ (get_lt hk) (Nat.le_refl _)
  have e2 := findI_eq (wrdL_chain (l.getD x ⟨#[]⟩) big) hk h1 h2 (wrdL (l.getD x ⟨#[]⟩) big).length 0 (Nat.zero_le _) (by have := get_lt hk; omega)
  rw [fndI_some e2]
  unfold wrdK
  rw [Int.toNat_natCast, e1]
theorem wrdF_yes {l : List ByteArray} {a b n : Int} (h : wrdF l a b n = true) : onN l a b n = false ∨ onN l a b n = true ∧ ∃ x y : Nat, a = x ∧ b = y ∧ x < l.length ∧ (sz l x == 0) = true := by
  unfold wrdF at h
  unfold onN
  rcases h1 : onB l a b with _ | _
  · left; rfl
  · by_cases hn : 1 ≤ n
    · right
      obtain ⟨x, y, rfl, rfl, hx, hy⟩ := onB_place h1
      rw [h1, decide_eq_false (by omega), Int.toNat_natCast] at h
      exact ⟨by simp [hn], x, y, rfl, rfl, hx, by simpa using h⟩
    · left; simp [hn]
theorem wrdF_on {l : List ByteArray} {a b n : Int} (h : wrdF l a b n = false) : onN l a b n = true := by
  obtain ⟨h1, h2, _⟩ := wrdF_no h
  simp at h1
  simp [onN, h2]; omega

set_option maxRecDepth 100000 in
set_option maxHeartbeats 2000000 in
theorem ref_WordInner (l : List ByteArray) (hf : Fit l) (a b n : Int) (hn : n ≤ 9223372036854775807) (big : Bool) (k : Nat) : CallOK Try.prog 31 [.r k, .v (pos a b), .v (i64 n), .v (.bool big)] [some (EC l), none, none, none] [.v (rangeV (winI l big a b n)), .v (.bool (winI l big a b n).isSome)] := by
  refine callOK_of_awp (c := cx (Gwy l (wrdL (l.getD a.toNat ⟨#[]⟩) big)) 62) (cx_ok _ _) Try.func31 (by kernel_rfl) rfl rfl (by simp [cx]) (by simp [sizesOK, EC]) (awk_of ?_)
  have hon := ref_on l a b n 0
  unfold winI
  rcases h : wrdF l a b n with _ | _
  · have hq := wrdF_on h
    obtain ⟨x, y, rfl, rfl, _, _⟩ := onB_place (wrdF_no h).2.1
    obtain ⟨hn1, hx, hy, _, hne⟩ := wrdF_at h
    rw [hq] at hon
    obtain ⟨N, rfl⟩ : ∃ N : Nat, n = N := ⟨n.toNat, by omega⟩
    obtain ⟨p, hp, hp1, hp2⟩ := wrdK_spec (big := big) hy
    have hs := hf.2 x
    have hss : (l.getD x ⟨#[]⟩).size = sz l x := rfl
    have hbn := wrdL_len (l.getD x ⟨#[]⟩) big
    rw [hss] at hbn
    have hkl := get_lt hp
    have hru := ref_Runs (l.getD x ⟨#[]⟩) hs big
    have hfd := (ref_find (wrdL (l.getD x ⟨#[]⟩) big) (by omega) y 32).row (S := { runRow (wrdL (l.getD x ⟨#[]⟩) big) with new := true }) rfl rfl (fun _ _ => rfl)
    have hfx := wrd_fnd (big := big) hy
    rw [hfx] at hfd
    rw [Int.toNat_natCast]
    have hwin : winP l big x y N = if N ≤ (wrdL (l.getD x ⟨#[]⟩) big).length - wrdK l big x y then some ((x, ((wrdL (l.getD x ⟨#[]⟩) big).getD (wrdK l big x y) (0, 0)).1), (x, ((wrdL (l.getD x ⟨#[]⟩) big).getD (wrdK l big x y + N - 1) (0, 0)).2)) else none := rfl
    generalize hW : winP l big x y N = W' at hwin
    generalize hKK : wrdK l big x y = K at *
    generalize hLL : wrdL (l.getD x ⟨#[]⟩) big = L at *
    have e2 : IntKind.i64.wrap ((L.length : Int) - (K : Int)) = ((L.length - K : Nat) : Int) := by rw [w64 (by omega) (by omega)]; omega
    by_cases hle : N ≤ L.length - K
    · rw [if_pos hle] at hwin
      have d : decide (((L.length - K : Nat) : Int) < (N : Int)) = false := decide_eq_false (by omega)
      have e3 : IntKind.i64.wrap ((K : Int) + (N : Int)) = ((K + N : Nat) : Int) := by rw [w64 (by omega) (by omega)]; omega
      have e4 : IntKind.i64.wrap (((K + N : Nat) : Int) - 1) = ((K + N - 1 : Nat) : Int) := by rw [w64 (by omega) (by omega)]; omega
      simp (config := {maxSteps := 4000000}) only [Try.f31, Gwy, Gwx, inV, runRow, iv, bv, p1, p2, hq, h, hne, str_nilI, hLL, hfx, hW, hwin, e2, e3, e4, d, G2, G3, G4, ↓ZX, ↓ZY, ZZ, Nat.reduceBNe, A0, A1, Int.reduceLE, Int.reduceLT, A6, A7, A8, A9, AA, AB, AC, AD, AE, AF, AG, AH, AI, AJ, AK, AL, AM, AN, AO, AP, AQ, AR, AS, AT, AU, AV, AX, AY, AZ, B0, B1, B3, B4, B5, B6, B7, B8, B9, BA, BB, BC, BD, BE, BF, BG, BH, BI, BJ, BK, BL, BM, BN, BO, BP, BQ, BR, BS, BT, BU, BV, BW, BX, BY, BZ, C0, C1, C2, C3, C4, C5, C6, C7, C8, C9, CA, CB, CC, CD, CE, CF, CG, CH, CI, CJ, CK, CL, CM, CN, CO, CP, CQ, CR, CS, CT, CU, CV, CW, CX, CY, CZ, D0, D1, D2, D3, D4, D5, D6, D7, DV.isSl, DV.isStr, DV.isBool, D8, D9, DA, DV.agg, DB, DC, DD, DE, DF, DG, DH, DI, DJ, DK, DL, DM, DN, DO, DP, DQ, DR, DS, DT, DU, St.kill, St.app, St.forget, St.newOK, DW, DX, DY, St.unseen, DZ, E0, E1, E3, E5, E6, E7, E8, E9, EA, EB, EC, Value.cells, Value.oneCell', ED, EE, EF, EG, EH, EJ, EK, EL, id, EM, EN, EO, EP, EQ, ER, ES, ET, EU, EV, EW, EX, EY, EZ, F0, F1, F3, F4, F5, F6, F7, F8, F9, FA, reduceCtorEq, ↓reduceIte, Nat.reduceEqDiff, Nat.reduceAdd, Nat.reduceLT, Nat.reduceLeDiff, Nat.reduceBEq, FB, Nat.reduceMul, FC, FD, FE, FF, FG, FH, FI, if_true, if_false, FL, FM, FN, FO, FP, FQ, FR, FS, FT, FU, FV, decide_true, decide_false, FY, FZ, G0, G1]
      repeat' (first | with_reducible apply And.intro)
      all_goals first | exact hon | exact hru | exact hfd | exact ref_in _ _ _ | omega | (kernel_rfl; done) | rfl
    · rw [if_neg hle] at hwin
      have d : decide (((L.length - K : Nat) : Int) < (N : Int)) = true := decide_eq_true (by omega)
      simp (config := {maxSteps := 4000000}) only [Try.f31, Gwy, Gwx, inV, runRow, iv, bv, p1, p2, hq, h, hne, str_nilI, hLL, hfx, hW, hwin, e2, d, G2, G3, G4, ↓ZX, ↓ZY, ZZ, Nat.reduceBNe, A0, A1, Int.reduceLE, Int.reduceLT, A6, A7, A8, A9, AA, AB, AC, AD, AE, AF, AG, AH, AI, AJ, AK, AL, AM, AN, AO, AP, AQ, AR, AS, AT, AU, AV, AX, AY, AZ, B0, B1, B3, B4, B5, B6, B7, B8, B9, BA, BB, BC, BD, BE, BF, BG, BH, BI, BJ, BK, BL, BM, BN, BO, BP, BQ, BR, BS, BT, BU, BV, BW, BX, BY, BZ, C0, C1, C2, C3, C4, C5, C6, C7, C8, C9, CA, CB, CC, CD, CE, CF, CG, CH, CI, CJ, CK, CL, CM, CN, CO, CP, CQ, CR, CS, CT, CU, CV, CW, CX, CY, CZ, D0, D1, D2, D3, D4, D5, D6, D7, DV.isSl, DV.isStr, DV.isBool, D8, D9, DA, DV.agg, DB, DC, DD, DE, DF, DG, DH, DI, DJ, DK, DL, DM, DN, DO, DP, DQ, DR, DS, DT, DU, St.kill, St.app, St.forget, St.newOK, DW, DX, DY, St.unseen, DZ, E0, E1, E3, E5, E6, E7, E8, E9, EA, EB, EC, Value.cells, Value.oneCell', ED, EE, EF, EG, EH, EJ, EK, EL, id, EM, EN, EO, EP, EQ, ER, ES, ET, EU, EV, EW, EX, EY, EZ, F0, F1, F3, F4, F5, F6, F7, F8, F9, FA, reduceCtorEq, ↓reduceIte, Nat.reduceEqDiff, Nat.reduceAdd, Nat.reduceLT, Nat.reduceLeDiff, Nat.reduceBEq, FB, Nat.reduceMul, FC, FD, FE, FF, FG, FH, FI, if_true, if_false, FL, FM, FN, FO, FP, FQ, FR, FS, FT, FU, FV, decide_true, decide_false, FY, FZ, G0, G1]
      repeat' (first | with_reducible apply And.intro)
      all_goals first | exact hon | exact hru | exact hfd | omega | (kernel_rfl; done) | rfl
  · rcases wrdF_yes h with hq | ⟨hq, x, y, rfl, rfl, hx, h0⟩
    · rw [hq] at hon
      simp (config := {maxSteps := 4000000}) only [Try.f31, Gwy, Gwx, iv, bv, p1, p2, hq, h, G2, G3, G4, ↓ZX, ↓ZY, ZZ, Nat.reduceBNe, A0, A1, Int.reduceLE, Int.reduceLT, A6, A7, A8, A9, AA, AB, AC, AD, AE, AF, AG, AH, AI, AJ, AK, AL, AM, AN, AO, AP, AQ, AR, AS, AT, AU, AV, AX, AY, AZ, B0, B1, B3, B4, B5, B6, B7, B8, B9, BA, BB, BC, BD, BE, BF, BG, BH, BI, BJ, BK, BL, BM, BN, BO, BP, BQ, BR, BS, BT, BU, BV, BW, BX, BY, BZ, C0, C1, C2, C3, C4, C5, C6, C7, C8, C9, CA, CB, CC, CD, CE, CF, CG, CH, CI, CJ, CK, CL, CM, CN, CO, CP, CQ, CR, CS, CT, CU, CV, CW, CX, CY, CZ, D0, D1, D2, D3, D4, D5, D6, D7, DV.isSl, DV.isStr, DV.isBool, D8, D9, DA, DV.agg, DB, DC, DD, DE, DF, DG, DH, DI, DJ, DK, DL, DM, DN, DO, DP, DQ, DR, DS, DT, DU, St.kill, St.app, St.forget, St.newOK, DW, DX, DY, St.unseen, DZ, E0, E1, E3, E5, E6, E7, E8, E9, EA, EB, EC, Value.cells, Value.oneCell', ED, EE, EF, EG, EH, EJ, EK, EL, id, EM, EN, EO, EP, EQ, ER, ES, ET, EU, EV, EW, EX, EY, EZ, F0, F1, F3, F4, F5, F6, F7, F8, F9, FA, reduceCtorEq, ↓reduceIte, Nat.reduceEqDiff, Nat.reduceAdd, Nat.reduceLT, Nat.reduceLeDiff, Nat.reduceBEq, FB, Nat.reduceMul, FC, FD, FE, FF, FG, FH, FI, if_true, if_false, FL, FM, FN, FO, FP, FQ, FR, FS, FT, FU, FV, decide_true, decide_false, FY, FZ, G0, G1]
      exact ⟨hon, rfl⟩
    · rw [hq] at hon
      simp (config := {maxSteps := 4000000}) only [Try.f31, Gwy, Gwx, iv, bv, p1, p2, hq, h, str_nilI, h0, G2, G3, G4, ↓ZX, ↓ZY, ZZ, Nat.reduceBNe, A0, A1, Int.reduceLE, Int.reduceLT, A6, A7, A8, A9, AA, AB, AC, AD, AE, AF, AG, AH, AI, AJ, AK, AL, AM, AN, AO, AP, AQ, AR, AS, AT, AU, AV, AX, AY, AZ, B0, B1, B3, B4, B5, B6, B7, B8, B9, BA, BB, BC, BD, BE, BF, BG, BH, BI, BJ, BK, BL, BM, BN, BO, BP, BQ, BR, BS, BT, BU, BV, BW, BX, BY, BZ, C0, C1, C2, C3, C4, C5, C6, C7, C8, C9, CA, CB, CC, CD, CE, CF, CG, CH, CI, CJ, CK, CL, CM, CN, CO, CP, CQ, CR, CS, CT, CU, CV, CW, CX, CY, CZ, D0, D1, D2, D3, D4, D5, D6, D7, DV.isSl, DV.isStr, DV.isBool, D8, D9, DA, DV.agg, DB, DC, DD, DE, DF, DG, DH, DI, DJ, DK, DL, DM, DN, DO, DP, DQ, DR, DS, DT, DU, St.kill, St.app, St.forget, St.newOK, DW, DX, DY, St.unseen, DZ, E0, E1, E3, E5, E6, E7, E8, E9, EA, EB, EC, Value.cells, Value.oneCell', ED, EE, EF, EG, EH, EJ, EK, EL, id, EM, EN, EO, EP, EQ, ER, ES, ET, EU, EV, EW, EX, EY, EZ, F0, F1, F3, F4, F5, F6, F7, F8, F9, FA, reduceCtorEq, ↓reduceIte, Nat.reduceEqDiff, Nat.reduceAdd, Nat.reduceLT, Nat.reduceLeDiff, Nat.reduceBEq, FB, Nat.reduceMul, FC, FD, FE, FF, FG, FH, FI, if_true, if_false, FL, FM, FN, FO, FP, FQ, FR, FS, FT, FU, FV, decide_true, decide_false, FY, FZ, G0, G1]
      repeat' (first | with_reducible apply And.intro)
      all_goals first | exact hon | omega | rfl

end Go.Ab
