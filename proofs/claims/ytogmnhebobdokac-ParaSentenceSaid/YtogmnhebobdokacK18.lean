/- The chapter's example on blocks. -/
import Derived.Test.Ytogmnhebobdokac56
import Derived.Test.Ytogmnhebobdokac61
set_option linter.unusedVariables false
set_option linter.unusedSimpArgs false
namespace Go.Ab
open Go Go.RowKit Go.Proofs

def lnV (g : Int → Int → Int → Option (Nat × Nat)) (args : List V) : Option (List RV) :=
  match args with
  | [_, .v p, .v n] => some [.v (lineV (g (p1 p) (p2 p) (iv n))), .v (.bool (g (p1 p) (p2 p) (iv n)).isSome)]
  | _ => none
def srV (g : Bool → Int → Int → Option ((Nat × Nat) × (Nat × Nat))) (args : List V) : Option (List RV) :=
  match args with
  | [_, .v p, .v ar] => some [.v (rangeV (g (bv ar) (p1 p) (p2 p))), .v (.bool (g (bv ar) (p1 p) (p2 p)).isSome)]
  | _ => none
def kl18 : List ByteArray := [⟨#[97]⟩, ⟨#[]⟩, ⟨#[98, 32, 99, 46, 32, 100]⟩]
theorem fit_kl18 : Fit kl18 := ⟨by decide, fun a => by
  unfold sz kl18
  rcases a with _ | _ | _ | a
  · decide
  · decide
  · decide
  · simp [List.getD_cons_succ]; decide⟩
def Gk18 (f : FuncId) (args : List V) : Option (List RV) := if f = 10 then lnV (aroI kl18) args else if f = 11 then lnV (innI kl18) args else if f = 7 then srV (sentRI kl18) args else none
theorem k18a : aroI kl18 0 0 1 = some (0, 1) := by kernel_rfl
theorem k18b : innI kl18 2 0 1 = some (2, 2) := by kernel_rfl
theorem k18c : sentRI kl18 false 2 0 = some ((2, 0), (2, 4)) := by kernel_rfl
theorem k18d : innI kl18 0 0 4 = none := by kernel_rfl
set_option maxRecDepth 100000 in
theorem law18_known : CallOK Try.prog 4 [] [] [.v (.bool true)] := by
  refine callOK_of_awp (c := cx Gk18 66) (cx_ok _ _) Try.func4 (by kernel_rfl) rfl rfl (by simp [cx]) (by simp [sizesOK]) (awk_of ?_)
  have h1 := obj_pAround kl18 fit_kl18 0 0 1 (by omega) 10
  have h2 := obj_pInner kl18 fit_kl18 2 0 1 (by omega) 10
  have h3 := obj_Sentence kl18 fit_kl18 2 0 false 10
  have h4 := obj_pInner kl18 fit_kl18 0 0 4 (by omega) 10
  rw [k18a] at h1
  rw [k18b] at h2
  rw [k18c] at h3
  rw [k18d] at h4
  have n0 : (((0 : Nat) : Int) == 0) = true := rfl
  have n1 : (((1 : Nat) : Int) == 1) = true := rfl
  have n2 : (((2 : Nat) : Int) == 2) = true := rfl
  have n4 : (((4 : Nat) : Int) == 4) = true := rfl
  simp (config := {maxSteps := 4000000}) only [Try.f4, Gk18, lnV, srV, bv, p1, p2, iv, k18a, k18b, k18c, k18d, n0, n1, n2, n4, beq_self_eq_true, G2, G3, G4, ↓ZX, ↓ZY, ZZ, Nat.reduceBNe, A0, A1, Int.reduceLE, Int.reduceLT, A6, A7, A8, A9, AA, AB, AC, AD, AE, AF, AG, AH, AI, AJ, AK, AL, AM, AN, AO, AP, AQ, AR, AS, AT, AU, AV, AX, AY, AZ, B0, B1, B3, B4, B5, B6, B7, B8, B9, BA, BB, BC, BD, BE, BF, BG, BH, BI, BJ, BK, BL, BM, BN, BO, BP, BQ, BR, BS, BT, BU, BV, BW, BX, BY, BZ, C0, C1, C2, C3, C4, C5, C6, C7, C8, C9, CA, CB, CC, CD, CE, CF, CG, CH, CI, CJ, CK, CL, CM, CN, CO, CP, CQ, CR, CS, CT, CU, CV, CW, CX, CY, CZ, D0, D1, D2, D3, D4, D5, D6, D7, DV.isSl, DV.isStr, DV.isBool, D8, D9, DA, DV.agg, DB, DC, DD, DE, DF, DG, DH, DI, DJ, DK, DL, DM, DN, DO, DP, DQ, DR, DS, DT, DU, St.kill, St.app, St.forget, St.newOK, DW, DX, DY, St.unseen, DZ, E0, E1, E3, E5, E6, E7, E8, E9, EA, EB, EC, Value.cells, Value.oneCell', ED, EE, EF, EG, EH, EJ, EK, EL, id, EM, EN, EO, EP, EQ, ER, ES, ET, EU, EV, EW, EX, EY, EZ, F0, F1, F3, F4, F5, F6, F7, F8, F9, FA, reduceCtorEq, ↓reduceIte, Nat.reduceEqDiff, Nat.reduceAdd, Nat.reduceLT, Nat.reduceLeDiff, Nat.reduceBEq, FB, Nat.reduceMul, FC, FD, FE, FF, FG, FH, FI, if_true, if_false, FL, FM, FN, FO, FP, FQ, FR, FS, FT, FU, FV, decide_true, decide_false, FY, FZ, G0, G1]
  have one : ∀ i : Nat, i < (EC kl18).len → (fun i : Int => ([[Value.string ⟨#[97]⟩], [.string ⟨#[]⟩], [.string ⟨#[98, 32, 99, 46, 32, 100]⟩]] : List (List Value)).getD i.toNat []) i = (EC kl18).get i := by
    intro i hi
    have : i = 0 ∨ i = 1 ∨ i = 2 := by simp [EC, kl18] at hi; omega
    rcases this with rfl | rfl | rfl <;> rfl
  exact ⟨h1.row rfl rfl one, h2.row rfl rfl one, h3.row rfl rfl one, h4.row rfl rfl one⟩


end Go.Ab
