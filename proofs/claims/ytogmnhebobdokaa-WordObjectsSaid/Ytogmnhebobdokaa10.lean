/- Contracts: places. -/
import Derived.Test.YtogmnhebobdokaaPlace
import Derived.Test.YtogmnhebobdokaaSh
set_option linter.unusedVariables false
set_option linter.unusedSimpArgs false
namespace Go.Ab
open Go Go.RowKit Go.Proofs

abbrev pos (a b : Int) : Value := .agg #[.int .i64 a, .int .i64 b]
def EC (l : List ByteArray) : Row := { ty := 9, size := 1, len := l.length, get := fun i => [.string (l.getD i.toNat ⟨#[]⟩)] }

noncomputable def cx (Γ : FuncId → List V → Option (List RV)) (N : Nat) : Cx := { P := Try.prog, τ := EA, Γ := Γ, N := N, eqs := EB, byt := BH }
theorem AC (Γ : FuncId → List V → Option (List RV)) (N : Nat) : (cx Γ N).τ = EA := rfl
theorem AD (Γ : FuncId → List V → Option (List RV)) (N : Nat) : (cx Γ N).Γ = Γ := rfl
theorem AE (Γ : FuncId → List V → Option (List RV)) (N : Nat) : (cx Γ N).N = N := rfl
theorem AF (Γ : FuncId → List V → Option (List RV)) (N : Nat) : (cx Γ N).P = Try.prog := rfl
theorem AG (Γ : FuncId → List V → Option (List RV)) (N : Nat) : (cx Γ N).eqs = EB := rfl
theorem AH (Γ : FuncId → List V → Option (List RV)) (N : Nat) : (cx Γ N).byt = BH := rfl
theorem AI (Γ : FuncId → List V → Option (List RV)) (N : Nat) : (cx Γ N).it = false := rfl
theorem AJ (Γ : FuncId → List V → Option (List RV)) (N : Nat) : (cx Γ N).fz = [] := rfl
theorem AK (Γ : FuncId → List V → Option (List RV)) (N : Nat) : (cx Γ N).ro = [] := rfl
theorem cx_ok (Γ : FuncId → List V → Option (List RV)) (N : Nat) : OK (cx Γ N) := ⟨tab_ok, eqtab_ok, follows_ok, bytab_ok⟩

abbrev u8 (n : Int) : Value := .int .u8 n
def iv : Value → Int
  | .int _ n => n
  | _ => 0
def bv : Value → Bool
  | .bool b => b
  | _ => false
def pq : Value → Nat × Nat
  | .agg cs =>
    match cs.toList with
    | x :: y :: _ => ((iv x).toNat, (iv y).toNat)
    | _ => (0, 0)
  | _ => (0, 0)
def p1 : Value → Int
  | .agg cs =>
    match cs.toList with
    | x :: _ => iv x
    | _ => 0
  | _ => 0
def p2 : Value → Int
  | .agg cs =>
    match cs.toList with
    | _ :: y :: _ => iv y
    | _ => 0
  | _ => 0
abbrev moveP (o : Option (Nat × Nat)) : Value := .agg #[i64 (pa o), i64 (pb o), i64 (bif o.isSome then 1 else 0), .bool o.isSome, i64 (bif o.isSome then -1 else 0)]
abbrev posP (o : Option (Nat × Nat)) : Value := pos (pa o) (pb o)

theorem w64 {n : Int} (h0 : -9223372036854775808 ≤ n) (h1 : n ≤ 9223372036854775807) : IntKind.i64.wrap n = n := by
  rw [IntKind.wrap_i64]; omega


set_option maxRecDepth 100000 in
theorem class_Place (l : List ByteArray) (a b : Int) (k : Nat) : CallOK Try.prog 67 [.r k, .v (pos a b)] [some (EC l), none] [.v (.bool (placeB l a b))] := by
  refine callOK_of_awp (c := cx (fun _ _ => none) 31) (cx_ok _ _) Try.func67 (by kernel_rfl) rfl rfl (by simp [cx]) (by simp [sizesOK, EC]) (awk_of ?_)
  simp (config := {maxSteps := 2000000}) only [Try.f67, ↓ZX, ↓ZY, ZZ, Nat.reduceBNe, A0, A1, Int.reduceLE, Int.reduceLT, A6, A7, A8, A9, AA, AB, AC, AD, AE, AF, AG, AH, AI, AJ, AK, AL, AM, AN, AO, AP, AQ, AR, AS, AT, AU, AV, AX, AY, AZ, B0, B1, B3, B4, B5, B6, B7, B8, B9, BA, BB, BC, BD, BE, BF, BG, BH, BI, BJ, BK, BL, BM, BN, BO, BP, BQ, BR, BS, BT, BU, BV, BW, BX, BY, BZ, C0, C1, C2, C3, C4, C5, C6, C7, C8, C9, CA, CB, CC, CD, CE, CF, CG, CH, CI, CJ, CK, CL, CM, CN, CO, CP, CQ, CR, CS, CT, CU, CV, CW, CX, CY, CZ, D0, D1, D2, D3, D4, D5, D6, D7, DV.isSl, DV.isStr, DV.isBool, D8, D9, DA, DV.agg, DB, DC, DD, DE, DF, DG, DH, DI, DJ, DK, DL, DM, DN, DO, DP, DQ, DR, DS, DT, DU, St.kill, St.app, St.forget, St.newOK, DW, DX, DY, St.unseen, DZ, E0, E1, E3, E5, E6, E7, E8, E9, EA, EB, EC, Value.cells, Value.oneCell', ED, EE, EF, EG, EH, EJ, EK, EL, id, EM, EN, EO, EP, EQ, ER, ES, ET, EU, EV, EW, EX, EY, EZ, F0, F1, F3, F4, F5, F6, F7, F8, F9, FA, reduceCtorEq, ↓reduceIte, Nat.reduceEqDiff, Nat.reduceAdd, Nat.reduceLT, Nat.reduceLeDiff, Nat.reduceBEq, FB, Nat.reduceMul, FC, FD, FE, FF, FG, FH, FI, if_true, if_false, FL, FM, FN, FO, FP, FQ, FR, FS, FT, FU, FV, decide_true, decide_false, FY, FZ, G0, G1]
  refine ⟨by kernel_rfl, ?_, rfl⟩
  simp [Bool.cond_eq_ite, sz]
  omega

end Go.Ab
