/- Contracts: the helps of the laws on paragraphs. -/
import Derived.Test.Ytogmnhebobdokab42
import Derived.Test.YtogmnhebobdokabRw
set_option linter.unusedVariables false
set_option linter.unusedSimpArgs false
namespace Go.Ab
open Go Go.RowKit Go.Proofs

set_option maxRecDepth 100000 in
theorem law10_same (a b c : Int) (d : Bool) (e : Int) (u : Bool) (a' b' c' : Int) (d' : Bool) (e' : Int) (u' : Bool) :
    CallOK Try.prog 30 [.v (.agg #[i64 a, i64 b, i64 c, .bool d, i64 e]), .v (.bool u), .v (.agg #[i64 a', i64 b', i64 c', .bool d', i64 e']), .v (.bool u')] [none, none, none, none]
      [.v (.bool (bif (a == a' && (b == b' && (c == c' && (d == d' && e == e')))) then u == u' else false))] := by
  refine callOK_of_awp (c := cx (fun _ _ => none) 17) (cx_ok _ _) Try.func30 (by kernel_rfl) rfl rfl (by simp [cx]) (by simp [sizesOK]) (awk_of ?_)
  simp (config := {maxSteps := 4000000}) only [Try.f30, ↓ZX, ↓ZY, ZZ, Nat.reduceBNe, A0, A1, Int.reduceLE, Int.reduceLT, A6, A7, A8, A9, AA, AB, AC, AD, AE, AF, AG, AH, AI, AJ, AK, AL, AM, AN, AO, AP, AQ, AR, AS, AT, AU, AV, AX, AY, AZ, B0, B1, B3, B4, B5, B6, B7, B8, B9, BA, BB, BC, BD, BE, BF, BG, BH, BI, BJ, BK, BL, BM, BN, BO, BP, BQ, BR, BS, BT, BU, BV, BW, BX, BY, BZ, C0, C1, C2, C3, C4, C5, C6, C7, C8, C9, CA, CB, CC, CD, CE, CF, CG, CH, CI, CJ, CK, CL, CM, CN, CO, CP, CQ, CR, CS, CT, CU, CV, CW, CX, CY, CZ, D0, D1, D2, D3, D4, D5, D6, D7, DV.isSl, DV.isStr, DV.isBool, D8, D9, DA, DV.agg, DB, DC, DD, DE, DF, DG, DH, DI, DJ, DK, DL, DM, DN, DO, DP, DQ, DR, DS, DT, DU, St.kill, St.app, St.forget, St.newOK, DW, DX, DY, St.unseen, DZ, E0, E1, E3, E5, E6, E7, E8, E9, EA, EB, EC, Value.cells, Value.oneCell', ED, EE, EF, EG, EH, EJ, EK, EL, id, EM, EN, EO, EP, EQ, ER, ES, ET, EU, EV, EW, EX, EY, EZ, F0, F1, F3, F4, F5, F6, F7, F8, F9, FA, reduceCtorEq, ↓reduceIte, Nat.reduceEqDiff, Nat.reduceAdd, Nat.reduceLT, Nat.reduceLeDiff, Nat.reduceBEq, FB, Nat.reduceMul, FC, FD, FE, FF, FG, FH, FI, if_true, if_false, FL, FM, FN, FO, FP, FQ, FR, FS, FT, FU, FV, decide_true, decide_false, FY, FZ, G0, G1]
  exact ⟨fun h => ⟨h, h⟩, fun h => h⟩

def nxV (g : Bool → Int → Int → Int → Option (Nat × Nat)) (args : List V) : Option (List RV) :=
  match args with
  | [_, .v p, .v n, .v op] => some [.v (jumpP (g (bv op) (p1 p) (p2 p) (iv n))), .v (.bool (g (bv op) (p1 p) (p2 p) (iv n)).isSome)]
  | _ => none
def bxV (g : Int → Int → Int → Option (Nat × Nat)) (args : List V) : Option (List RV) :=
  match args with
  | [_, .v p, .v n] => some [.v (jumpP (g (p1 p) (p2 p) (iv n))), .v (.bool (g (p1 p) (p2 p) (iv n)).isSome)]
  | _ => none
def kl10 : List ByteArray := [⟨#[65, 46, 32, 66]⟩, ⟨#[]⟩, ⟨#[99]⟩]
theorem fit_kl10 : Fit kl10 := ⟨by decide, fun a => by
  unfold sz kl10
  rcases a with _ | _ | _ | a
  · decide
  · decide
  · decide
  · simp [List.getD_cons_succ]; decide⟩
def Gk10 (f : FuncId) (args : List V) : Option (List RV) := if f = 28 then nxV (nextI kl10) args else if f = 39 then nxV (sentNI kl10) args else if f = 31 then bxV (backI kl10) args else if f = 41 then bxV (sentBI kl10) args else none
theorem k10a : nextI kl10 false 0 0 1 = some (1, 0) := by kernel_rfl
theorem k10b : sentNI kl10 false 0 0 1 = some (0, 3) := by kernel_rfl
theorem k10c : backI kl10 2 0 1 = some (1, 0) := by kernel_rfl
theorem k10d : sentBI kl10 0 0 1 = none := by kernel_rfl
set_option maxRecDepth 100000 in
theorem law10_known : CallOK Try.prog 27 [] [] [.v (.bool true)] := by
  refine callOK_of_awp (c := cx Gk10 64) (cx_ok _ _) Try.func27 (by kernel_rfl) rfl rfl (by simp [cx]) (by simp [sizesOK]) (awk_of ?_)
  have h1 := para_Next kl10 fit_kl10 0 0 1 (by omega) false 10
  have h2 := para_SentNext kl10 fit_kl10 0 0 1 (by omega) false 10
  have h3 := para_Back kl10 fit_kl10 2 0 1 (by omega) 10
  have h4 := para_SentBack kl10 fit_kl10 0 0 1 (by omega) 10
  rw [k10a] at h1
  rw [k10b] at h2
  rw [k10c] at h3
  rw [k10d] at h4
  simp (config := {maxSteps := 4000000}) only [Try.f27, Gk10, nxV, bxV, bv, p1, p2, iv, k10a, k10b, k10c, k10d, show (((0 : Nat) : Int) == 0) = true from rfl, show (((1 : Nat) : Int) == 1) = true from rfl, show (((3 : Nat) : Int) == 3) = true from rfl, G2, G3, G4, ↓ZX, ↓ZY, ZZ, Nat.reduceBNe, A0, A1, Int.reduceLE, Int.reduceLT, A6, A7, A8, A9, AA, AB, AC, AD, AE, AF, AG, AH, AI, AJ, AK, AL, AM, AN, AO, AP, AQ, AR, AS, AT, AU, AV, AX, AY, AZ, B0, B1, B3, B4, B5, B6, B7, B8, B9, BA, BB, BC, BD, BE, BF, BG, BH, BI, BJ, BK, BL, BM, BN, BO, BP, BQ, BR, BS, BT, BU, BV, BW, BX, BY, BZ, C0, C1, C2, C3, C4, C5, C6, C7, C8, C9, CA, CB, CC, CD, CE, CF, CG, CH, CI, CJ, CK, CL, CM, CN, CO, CP, CQ, CR, CS, CT, CU, CV, CW, CX, CY, CZ, D0, D1, D2, D3, D4, D5, D6, D7, DV.isSl, DV.isStr, DV.isBool, D8, D9, DA, DV.agg, DB, DC, DD, DE, DF, DG, DH, DI, DJ, DK, DL, DM, DN, DO, DP, DQ, DR, DS, DT, DU, St.kill, St.app, St.forget, St.newOK, DW, DX, DY, St.unseen, DZ, E0, E1, E3, E5, E6, E7, E8, E9, EA, EB, EC, Value.cells, Value.oneCell', ED, EE, EF, EG, EH, EJ, EK, EL, id, EM, EN, EO, EP, EQ, ER, ES, ET, EU, EV, EW, EX, EY, EZ, F0, F1, F3, F4, F5, F6, F7, F8, F9, FA, reduceCtorEq, ↓reduceIte, Nat.reduceEqDiff, Nat.reduceAdd, Nat.reduceLT, Nat.reduceLeDiff, Nat.reduceBEq, FB, Nat.reduceMul, FC, FD, FE, FF, FG, FH, FI, if_true, if_false, FL, FM, FN, FO, FP, FQ, FR, FS, FT, FU, FV, decide_true, decide_false, FY, FZ, G0, G1]
  have one : ∀ i : Nat, i < (EC kl10).len → (fun i : Int => ([[Value.string ⟨#[65, 46, 32, 66]⟩], [.string ⟨#[]⟩], [.string ⟨#[99]⟩]] : List (List Value)).getD i.toNat []) i = (EC kl10).get i := by
    intro i hi
    have : i = 0 ∨ i = 1 ∨ i = 2 := by simp [EC, kl10] at hi; omega
    rcases this with rfl | rfl | rfl <;> rfl
  refine ⟨h1.row rfl rfl one, h2.row rfl rfl one, h3.row rfl rfl one, h4.row rfl rfl one, ?_⟩
  simp

end Go.Ab
