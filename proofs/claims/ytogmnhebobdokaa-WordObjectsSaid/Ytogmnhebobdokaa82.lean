/- Contracts: words inside; is a run of blanks? -/
import Derived.Test.Ytogmnhebobdokaa81
import Derived.Test.YtogmnhebobdokaaAbBox
import Derived.Test.YtogmnhebobdokaaRw
set_option linter.unusedVariables false
set_option linter.unusedSimpArgs false
namespace Go.Ab
open Go Go.RowKit Go.Proofs

/-- Is the i-th run there, and of blanks? -/
def blS (s : ByteArray) (L : List (Nat × Nat)) (i : Nat) : Bool := bif decide (i < L.length) then blankB s (L.getD i (0, 0)).1 else false
def blZ (s : ByteArray) (L : List (Nat × Nat)) (i : Int) : Bool := bif decide (0 ≤ i) then blS s L i.toNat else false
theorem blZ_nat (s : ByteArray) (L : List (Nat × Nat)) (i : Nat) : blZ s L (i : Int) = blS s L i := by
  rw [blZ, decide_eq_true (by omega), Int.toNat_natCast]; rfl
theorem blZ_neg (s : ByteArray) (L : List (Nat × Nat)) : blZ s L (-1) = false := rfl

/-- Of a closure: what it has captured is only read. -/
noncomputable def bx (N : Nat) : Cx := { P := Try.prog, τ := EA, Γ := fun _ _ => none, N := N, eqs := EB, byt := BH, ro := [1] }
theorem bx_τ (N : Nat) : (bx N).τ = EA := rfl
theorem bx_Γ (N : Nat) : (bx N).Γ = fun _ _ => none := rfl
theorem bx_N (N : Nat) : (bx N).N = N := rfl
theorem bx_P (N : Nat) : (bx N).P = Try.prog := rfl
theorem bx_eqs (N : Nat) : (bx N).eqs = EB := rfl
theorem bx_byt (N : Nat) : (bx N).byt = BH := rfl
theorem bx_it (N : Nat) : (bx N).it = false := rfl
theorem bx_fz (N : Nat) : (bx N).fz = [] := rfl
theorem bx_ro (N : Nat) : (bx N).ro = [1] := rfl
theorem bx_ok (N : Nat) : OK (bx N) := ⟨tab_ok, eqtab_ok, follows_ok, bytab_ok⟩

set_option maxRecDepth 100000 in
theorem word_blank (s : ByteArray) (L : List (Nat × Nat)) (i : Int) (k : Nat) : CallOK Try.prog 59 [.v (i64 i), .p k 0] [none, some { wrdRow s L with new := true }] [.v (.bool (blZ s L i))] := by
  refine callOK_of_awpB (c := bx 19) (bx_ok _) Try.func59 (by kernel_rfl) rfl rfl (by decide) rfl (by simp [wrdRow]) (awk_of ?_) k
  rcases d0 : decide (0 ≤ i) with _ | _
  · have hv : blZ s L i = false := by rw [blZ, d0]; rfl
    simp (config := {maxSteps := 4000000}) only [Try.f59, boxSt, wrdRow, d0, hv, bx_τ, bx_Γ, bx_N, bx_P, bx_eqs, bx_byt, bx_it, bx_fz, bx_ro, G2, G3, G4, ↓ZX, ↓ZY, ZZ, Nat.reduceBNe, A0, A1, Int.reduceLE, Int.reduceLT, A6, A7, A8, A9, AA, AB, AC, AD, AE, AF, AG, AH, AI, AJ, AK, AL, AM, AN, AO, AP, AQ, AR, AS, AT, AU, AV, AX, AY, AZ, B0, B1, B3, B4, B5, B6, B7, B8, B9, BA, BB, BC, BD, BE, BF, BG, BH, BI, BJ, BK, BL, BM, BN, BO, BP, BQ, BR, BS, BT, BU, BV, BW, BX, BY, BZ, C0, C1, C2, C3, C4, C5, C6, C7, C8, C9, CA, CB, CC, CD, CE, CF, CG, CH, CI, CJ, CK, CL, CM, CN, CO, CP, CQ, CR, CS, CT, CU, CV, CW, CX, CY, CZ, D0, D1, D2, D3, D4, D5, D6, D7, DV.isSl, DV.isStr, DV.isBool, D8, D9, DA, DV.agg, DB, DC, DD, DE, DF, DG, DH, DI, DJ, DK, DL, DM, DN, DO, DP, DQ, DR, DS, DT, DU, St.kill, St.app, St.forget, St.newOK, DW, DX, DY, St.unseen, DZ, E0, E1, E3, E5, E6, E7, E8, E9, EA, EB, EC, Value.cells, Value.oneCell', ED, EE, EF, EG, EH, EJ, EK, EL, id, EM, EN, EO, EP, EQ, ER, ES, ET, EU, EV, EW, EX, EY, EZ, F0, F1, F3, F4, F5, F6, F7, F8, F9, FA, reduceCtorEq, ↓reduceIte, Nat.reduceEqDiff, Nat.reduceAdd, Nat.reduceLT, Nat.reduceLeDiff, Nat.reduceBEq, FB, Nat.reduceMul, FC, FD, FE, FF, FG, FH, FI, if_true, if_false, FL, FM, FN, FO, FP, FQ, FR, FS, FT, FU, FV, decide_true, decide_false, FY, FZ, G0, G1]
  · have h0 := of_decide_eq_true d0
    obtain ⟨m, rfl⟩ : ∃ m : Nat, i = m := ⟨i.toNat, by omega⟩
    rw [blZ_nat]
    rcases d1 : decide ((m : Int) < (L.length : Int)) with _ | _
    · have hv : blS s L m = false := by rw [blS, decide_eq_false (by have := of_decide_eq_false d1; omega)]; rfl
      simp (config := {maxSteps := 4000000}) only [Try.f59, boxSt, wrdRow, d0, d1, hv, bx_τ, bx_Γ, bx_N, bx_P, bx_eqs, bx_byt, bx_it, bx_fz, bx_ro, G2, G3, G4, ↓ZX, ↓ZY, ZZ, Nat.reduceBNe, A0, A1, Int.reduceLE, Int.reduceLT, A6, A7, A8, A9, AA, AB, AC, AD, AE, AF, AG, AH, AI, AJ, AK, AL, AM, AN, AO, AP, AQ, AR, AS, AT, AU, AV, AX, AY, AZ, B0, B1, B3, B4, B5, B6, B7, B8, B9, BA, BB, BC, BD, BE, BF, BG, BH, BI, BJ, BK, BL, BM, BN, BO, BP, BQ, BR, BS, BT, BU, BV, BW, BX, BY, BZ, C0, C1, C2, C3, C4, C5, C6, C7, C8, C9, CA, CB, CC, CD, CE, CF, CG, CH, CI, CJ, CK, CL, CM, CN, CO, CP, CQ, CR, CS, CT, CU, CV, CW, CX, CY, CZ, D0, D1, D2, D3, D4, D5, D6, D7, DV.isSl, DV.isStr, DV.isBool, D8, D9, DA, DV.agg, DB, DC, DD, DE, DF, DG, DH, DI, DJ, DK, DL, DM, DN, DO, DP, DQ, DR, DS, DT, DU, St.kill, St.app, St.forget, St.newOK, DW, DX, DY, St.unseen, DZ, E0, E1, E3, E5, E6, E7, E8, E9, EA, EB, EC, Value.cells, Value.oneCell', ED, EE, EF, EG, EH, EJ, EK, EL, id, EM, EN, EO, EP, EQ, ER, ES, ET, EU, EV, EW, EX, EY, EZ, F0, F1, F3, F4, F5, F6, F7, F8, F9, FA, reduceCtorEq, ↓reduceIte, Nat.reduceEqDiff, Nat.reduceAdd, Nat.reduceLT, Nat.reduceLeDiff, Nat.reduceBEq, FB, Nat.reduceMul, FC, FD, FE, FF, FG, FH, FI, if_true, if_false, FL, FM, FN, FO, FP, FQ, FR, FS, FT, FU, FV, decide_true, decide_false, FY, FZ, G0, G1]
    · have h1 := of_decide_eq_true d1
      have hv : blS s L m = blankB s (L.getD m (0, 0)).1 := by rw [blS, decide_eq_true (by omega)]; rfl
      simp (config := {maxSteps := 4000000}) only [Try.f59, boxSt, wrdRow, d0, d1, hv, bx_τ, bx_Γ, bx_N, bx_P, bx_eqs, bx_byt, bx_it, bx_fz, bx_ro, G2, G3, G4, ↓ZX, ↓ZY, ZZ, Nat.reduceBNe, A0, A1, Int.reduceLE, Int.reduceLT, A6, A7, A8, A9, AA, AB, AC, AD, AE, AF, AG, AH, AI, AJ, AK, AL, AM, AN, AO, AP, AQ, AR, AS, AT, AU, AV, AX, AY, AZ, B0, B1, B3, B4, B5, B6, B7, B8, B9, BA, BB, BC, BD, BE, BF, BG, BH, BI, BJ, BK, BL, BM, BN, BO, BP, BQ, BR, BS, BT, BU, BV, BW, BX, BY, BZ, C0, C1, C2, C3, C4, C5, C6, C7, C8, C9, CA, CB, CC, CD, CE, CF, CG, CH, CI, CJ, CK, CL, CM, CN, CO, CP, CQ, CR, CS, CT, CU, CV, CW, CX, CY, CZ, D0, D1, D2, D3, D4, D5, D6, D7, DV.isSl, DV.isStr, DV.isBool, D8, D9, DA, DV.agg, DB, DC, DD, DE, DF, DG, DH, DI, DJ, DK, DL, DM, DN, DO, DP, DQ, DR, DS, DT, DU, St.kill, St.app, St.forget, St.newOK, DW, DX, DY, St.unseen, DZ, E0, E1, E3, E5, E6, E7, E8, E9, EA, EB, EC, Value.cells, Value.oneCell', ED, EE, EF, EG, EH, EJ, EK, EL, id, EM, EN, EO, EP, EQ, ER, ES, ET, EU, EV, EW, EX, EY, EZ, F0, F1, F3, F4, F5, F6, F7, F8, F9, FA, reduceCtorEq, ↓reduceIte, Nat.reduceEqDiff, Nat.reduceAdd, Nat.reduceLT, Nat.reduceLeDiff, Nat.reduceBEq, FB, Nat.reduceMul, FC, FD, FE, FF, FG, FH, FI, if_true, if_false, FL, FM, FN, FO, FP, FQ, FR, FS, FT, FU, FV, decide_true, decide_false, FY, FZ, G0, G1]
      repeat' (first | with_reducible apply And.intro)
      all_goals omega

set_option maxRecDepth 100000 in
theorem word_within (a b f t : Int) : CallOK Try.prog 57 [.v (pos a b), .v (i64 f), .v (i64 t)] [none, none, none] [.v (.agg #[i64 0, i64 a, i64 f, i64 a, i64 t]), .v (.bool true)] := by
  refine callOK_of_awp (c := cx (fun _ _ => none) 17) (cx_ok _ _) Try.func57 (by kernel_rfl) rfl rfl (by simp [cx]) (by simp [sizesOK]) (awk_of ?_)
  simp (config := {maxSteps := 4000000}) only [Try.f57, G2, G3, G4, ↓ZX, ↓ZY, ZZ, Nat.reduceBNe, A0, A1, Int.reduceLE, Int.reduceLT, A6, A7, A8, A9, AA, AB, AC, AD, AE, AF, AG, AH, AI, AJ, AK, AL, AM, AN, AO, AP, AQ, AR, AS, AT, AU, AV, AX, AY, AZ, B0, B1, B3, B4, B5, B6, B7, B8, B9, BA, BB, BC, BD, BE, BF, BG, BH, BI, BJ, BK, BL, BM, BN, BO, BP, BQ, BR, BS, BT, BU, BV, BW, BX, BY, BZ, C0, C1, C2, C3, C4, C5, C6, C7, C8, C9, CA, CB, CC, CD, CE, CF, CG, CH, CI, CJ, CK, CL, CM, CN, CO, CP, CQ, CR, CS, CT, CU, CV, CW, CX, CY, CZ, D0, D1, D2, D3, D4, D5, D6, D7, DV.isSl, DV.isStr, DV.isBool, D8, D9, DA, DV.agg, DB, DC, DD, DE, DF, DG, DH, DI, DJ, DK, DL, DM, DN, DO, DP, DQ, DR, DS, DT, DU, St.kill, St.app, St.forget, St.newOK, DW, DX, DY, St.unseen, DZ, E0, E1, E3, E5, E6, E7, E8, E9, EA, EB, EC, Value.cells, Value.oneCell', ED, EE, EF, EG, EH, EJ, EK, EL, id, EM, EN, EO, EP, EQ, ER, ES, ET, EU, EV, EW, EX, EY, EZ, F0, F1, F3, F4, F5, F6, F7, F8, F9, FA, reduceCtorEq, ↓reduceIte, Nat.reduceEqDiff, Nat.reduceAdd, Nat.reduceLT, Nat.reduceLeDiff, Nat.reduceBEq, FB, Nat.reduceMul, FC, FD, FE, FF, FG, FH, FI, if_true, if_false, FL, FM, FN, FO, FP, FQ, FR, FS, FT, FU, FV, decide_true, decide_false, FY, FZ, G0, G1]

def wrV (l : List ByteArray) (args : List V) : Option (List RV) :=
  match args with
  | [_, .v p, .v n, .v big] => if wrdF l (p1 p) (p2 p) (iv n) = true then some [.v (.slice none 0 0), .v (i64 0), .v (.bool false)] else some [.row (wrdRow (l.getD (p1 p).toNat ⟨#[]⟩) (wrdL (l.getD (p1 p).toNat ⟨#[]⟩) (bv big))), .v (i64 (wrdK l (bv big) (p1 p) (p2 p))), .v (.bool true)]
  | _ => none
def winP (l : List ByteArray) (big : Bool) (x y N : Nat) : Option ((Nat × Nat) × (Nat × Nat)) :=
  if N ≤ (wrdL (l.getD x ⟨#[]⟩) big).length - wrdK l big x y then some ((x, ((wrdL (l.getD x ⟨#[]⟩) big).getD (wrdK l big x y) (0, 0)).1), (x, ((wrdL (l.getD x ⟨#[]⟩) big).getD (wrdK l big x y + N - 1) (0, 0)).2)) else none
def winI (l : List ByteArray) (big : Bool) (a b n : Int) : Option ((Nat × Nat) × (Nat × Nat)) := if wrdF l a b n = true then none else winP l big a.toNat b.toNat n.toNat
theorem wrdK_spec {l : List ByteArray} {big : Bool} {x y : Nat} (hy : y < sz l x) : ∃ p, (wrdL (l.getD x ⟨#[]⟩) big)[wrdK l big x y]? = some p ∧ p.1 ≤ y ∧ y < p.2 := by
  obtain ⟨k, p, hk, h1, h2⟩ := chain_find (wrdL_chain (l.getD x ⟨#[]⟩) big) (Nat.zero_le y) hy
  have := lastI_eq (wrdL_chain (l.getD x ⟨#[]⟩) big) hk h1 h2 _ (get_lt hk) (Nat.le_refl _)
  unfold wrdK
  rw [Int.toNat_natCast, this]
  exact ⟨p, hk, h1, h2⟩
theorem wrdF_at {l : List ByteArray} {x y : Nat} {n : Int} (h : wrdF l x y n = false) : 1 ≤ n ∧ x < l.length ∧ y < sz l x ∧ onB l x y = true ∧ (sz l x == 0) = false := by
  obtain ⟨h1, h2, h3⟩ := wrdF_no h
  rw [Int.toNat_natCast] at h3
  obtain ⟨x', y', ex, ey, hx, hy⟩ := onB_place h2
  obtain rfl : x = x' := by omega
  obtain rfl : y = y' := by omega
  refine ⟨by simp at h1; omega, hx, ?_, h2, h3⟩
  unfold onB at h2
  cases hp : placeB l x y with
  | false => rw [hp] at h2; cases h2
  | true =>
    rw [hp, Int.toNat_natCast] at h2
    by_cases hlt : y < sz l x
    · exact hlt
    · rw [decide_eq_false (by omega)] at h2
      have : y = 0 := by simpa using h2
      simp at h3
      omega

def Gwi (l : List ByteArray) (f : FuncId) (args : List V) : Option (List RV) :=
  if f = 56 then wrV l args else if f = 57 then wiV args else none
set_option maxRecDepth 100000 in
set_option maxHeartbeats 2000000 in
theorem word_Inner (l : List ByteArray) (hf : Fit l) (a b n : Int) (hn : n ≤ 9223372036854775807) (big : Bool) (k : Nat) : CallOK Try.prog 30 [.r k, .v (pos a b), .v (i64 n), .v (.bool big)] [some (EC l), none, none, none] [.v (rangeV (winI l big a b n)), .v (.bool (winI l big a b n).isSome)] := by
  refine callOK_of_awp (c := cx (Gwi l) 50) (cx_ok _ _) Try.func30 (by kernel_rfl) rfl rfl (by simp [cx]) (by simp [sizesOK, EC]) (awk_of ?_)
  unfold winI
  rcases h : wrdF l a b n with _ | _
  · obtain ⟨x, y, rfl, rfl, _, _⟩ := onB_place (wrdF_no h).2.1
    obtain ⟨hn1, hx, hy, hon, hne⟩ := wrdF_at h
    have hrn := word_runs l hf x y n big h 0
    obtain ⟨N, rfl⟩ : ∃ N : Nat, n = N := ⟨n.toNat, by omega⟩
    obtain ⟨p, hp, hp1, hp2⟩ := wrdK_spec (big := big) hy
    have hs := hf.2 x
    have hss : (l.getD x ⟨#[]⟩).size = sz l x := rfl
    have hbn := wrdL_len (l.getD x ⟨#[]⟩) big
    rw [hss] at hbn
    have hkl := get_lt hp
    have hwin : winP l big x y N = if N ≤ (wrdL (l.getD x ⟨#[]⟩) big).length - wrdK l big x y then some ((x, ((wrdL (l.getD x ⟨#[]⟩) big).getD (wrdK l big x y) (0, 0)).1), (x, ((wrdL (l.getD x ⟨#[]⟩) big).getD (wrdK l big x y + N - 1) (0, 0)).2)) else none := rfl
    generalize hW : winP l big x y N = W' at hwin
    generalize hKK : wrdK l big x y = K at *
    generalize hLL : wrdL (l.getD x ⟨#[]⟩) big = L at *
    have e2 : IntKind.i64.wrap ((L.length : Int) - (K : Int)) = ((L.length - K : Nat) : Int) := by rw [w64 (by omega) (by omega)]; omega
    by_cases hle : N ≤ L.length - K
    · rw [if_pos hle] at hwin
      have d : decide (((L.length - K : Nat) : Int) < (N : Int)) = false := decide_eq_false (by omega)
      have e3 : IntKind.i64.wrap ((K : Int) + (N : Int)) = ((K + N : Nat) : Int) := by rw [w64 (by omega) (by omega)]; omega
      have e4 : IntKind.i64.wrap (((K + N : Nat) : Int) - 1) = ((K + N - 1 : Nat) : Int) := by rw [w64 (by omega) (by omega)]; omega
      simp (config := {maxSteps := 4000000}) only [Try.f30, Gwi, wrV, wiV, wrdRow, iv, bv, p1, p2, h, hLL, hKK, hW, hwin, e2, e3, e4, d, G2, G3, G4, ↓ZX, ↓ZY, ZZ, Nat.reduceBNe, A0, A1, Int.reduceLE, Int.reduceLT, A6, A7, A8, A9, AA, AB, AC, AD, AE, AF, AG, AH, AI, AJ, AK, AL, AM, AN, AO, AP, AQ, AR, AS, AT, AU, AV, AX, AY, AZ, B0, B1, B3, B4, B5, B6, B7, B8, B9, BA, BB, BC, BD, BE, BF, BG, BH, BI, BJ, BK, BL, BM, BN, BO, BP, BQ, BR, BS, BT, BU, BV, BW, BX, BY, BZ, C0, C1, C2, C3, C4, C5, C6, C7, C8, C9, CA, CB, CC, CD, CE, CF, CG, CH, CI, CJ, CK, CL, CM, CN, CO, CP, CQ, CR, CS, CT, CU, CV, CW, CX, CY, CZ, D0, D1, D2, D3, D4, D5, D6, D7, DV.isSl, DV.isStr, DV.isBool, D8, D9, DA, DV.agg, DB, DC, DD, DE, DF, DG, DH, DI, DJ, DK, DL, DM, DN, DO, DP, DQ, DR, DS, DT, DU, St.kill, St.app, St.forget, St.newOK, DW, DX, DY, St.unseen, DZ, E0, E1, E3, E5, E6, E7, E8, E9, EA, EB, EC, Value.cells, Value.oneCell', ED, EE, EF, EG, EH, EJ, EK, EL, id, EM, EN, EO, EP, EQ, ER, ES, ET, EU, EV, EW, EX, EY, EZ, F0, F1, F3, F4, F5, F6, F7, F8, F9, FA, reduceCtorEq, ↓reduceIte, Nat.reduceEqDiff, Nat.reduceAdd, Nat.reduceLT, Nat.reduceLeDiff, Nat.reduceBEq, FB, Nat.reduceMul, FC, FD, FE, FF, FG, FH, FI, if_true, if_false, FL, FM, FN, FO, FP, FQ, FR, FS, FT, FU, FV, decide_true, decide_false, FY, FZ, G0, G1]
      repeat' (first | with_reducible apply And.intro)
      all_goals first | exact hrn | exact word_within _ _ _ _ | omega | (kernel_rfl; done) | rfl
    · rw [if_neg hle] at hwin
      have d : decide (((L.length - K : Nat) : Int) < (N : Int)) = true := decide_eq_true (by omega)
      simp (config := {maxSteps := 4000000}) only [Try.f30, Gwi, wrV, wiV, wrdRow, iv, bv, p1, p2, h, hLL, hKK, hW, hwin, e2, d, G2, G3, G4, ↓ZX, ↓ZY, ZZ, Nat.reduceBNe, A0, A1, Int.reduceLE, Int.reduceLT, A6, A7, A8, A9, AA, AB, AC, AD, AE, AF, AG, AH, AI, AJ, AK, AL, AM, AN, AO, AP, AQ, AR, AS, AT, AU, AV, AX, AY, AZ, B0, B1, B3, B4, B5, B6, B7, B8, B9, BA, BB, BC, BD, BE, BF, BG, BH, BI, BJ, BK, BL, BM, BN, BO, BP, BQ, BR, BS, BT, BU, BV, BW, BX, BY, BZ, C0, C1, C2, C3, C4, C5, C6, C7, C8, C9, CA, CB, CC, CD, CE, CF, CG, CH, CI, CJ, CK, CL, CM, CN, CO, CP, CQ, CR, CS, CT, CU, CV, CW, CX, CY, CZ, D0, D1, D2, D3, D4, D5, D6, D7, DV.isSl, DV.isStr, DV.isBool, D8, D9, DA, DV.agg, DB, DC, DD, DE, DF, DG, DH, DI, DJ, DK, DL, DM, DN, DO, DP, DQ, DR, DS, DT, DU, St.kill, St.app, St.forget, St.newOK, DW, DX, DY, St.unseen, DZ, E0, E1, E3, E5, E6, E7, E8, E9, EA, EB, EC, Value.cells, Value.oneCell', ED, EE, EF, EG, EH, EJ, EK, EL, id, EM, EN, EO, EP, EQ, ER, ES, ET, EU, EV, EW, EX, EY, EZ, F0, F1, F3, F4, F5, F6, F7, F8, F9, FA, reduceCtorEq, ↓reduceIte, Nat.reduceEqDiff, Nat.reduceAdd, Nat.reduceLT, Nat.reduceLeDiff, Nat.reduceBEq, FB, Nat.reduceMul, FC, FD, FE, FF, FG, FH, FI, if_true, if_false, FL, FM, FN, FO, FP, FQ, FR, FS, FT, FU, FV, decide_true, decide_false, FY, FZ, G0, G1]
      exact ⟨hrn, rfl⟩
  · have hrn := word_runs_no l a b n big h 0
    simp (config := {maxSteps := 4000000}) only [Try.f30, Gwi, wrV, wiV, iv, bv, p1, p2, h, G2, G3, G4, ↓ZX, ↓ZY, ZZ, Nat.reduceBNe, A0, A1, Int.reduceLE, Int.reduceLT, A6, A7, A8, A9, AA, AB, AC, AD, AE, AF, AG, AH, AI, AJ, AK, AL, AM, AN, AO, AP, AQ, AR, AS, AT, AU, AV, AX, AY, AZ, B0, B1, B3, B4, B5, B6, B7, B8, B9, BA, BB, BC, BD, BE, BF, BG, BH, BI, BJ, BK, BL, BM, BN, BO, BP, BQ, BR, BS, BT, BU, BV, BW, BX, BY, BZ, C0, C1, C2, C3, C4, C5, C6, C7, C8, C9, CA, CB, CC, CD, CE, CF, CG, CH, CI, CJ, CK, CL, CM, CN, CO, CP, CQ, CR, CS, CT, CU, CV, CW, CX, CY, CZ, D0, D1, D2, D3, D4, D5, D6, D7, DV.isSl, DV.isStr, DV.isBool, D8, D9, DA, DV.agg, DB, DC, DD, DE, DF, DG, DH, DI, DJ, DK, DL, DM, DN, DO, DP, DQ, DR, DS, DT, DU, St.kill, St.app, St.forget, St.newOK, DW, DX, DY, St.unseen, DZ, E0, E1, E3, E5, E6, E7, E8, E9, EA, EB, EC, Value.cells, Value.oneCell', ED, EE, EF, EG, EH, EJ, EK, EL, id, EM, EN, EO, EP, EQ, ER, ES, ET, EU, EV, EW, EX, EY, EZ, F0, F1, F3, F4, F5, F6, F7, F8, F9, FA, reduceCtorEq, ↓reduceIte, Nat.reduceEqDiff, Nat.reduceAdd, Nat.reduceLT, Nat.reduceLeDiff, Nat.reduceBEq, FB, Nat.reduceMul, FC, FD, FE, FF, FG, FH, FI, if_true, if_false, FL, FM, FN, FO, FP, FQ, FR, FS, FT, FU, FV, decide_true, decide_false, FY, FZ, G0, G1]
    exact ⟨hrn, rfl⟩

end Go.Ab
