/- Contracts: is a place one of a byte? -/
import Derived.Test.YtogmnhebobdokaaLs
import Derived.Test.Ytogmnhebobdokaa35
set_option linter.unusedVariables false
set_option linter.unusedSimpArgs false
namespace Go.Ab
open Go Go.RowKit Go.Proofs

/-- Is a place one of a byte, or an empty line's beginning? -/
def onB (l : List ByteArray) (a b : Int) : Bool := bif placeB l a b then (bif decide (b < (sz l a.toNat : Int)) then true else b == 0) else false
abbrev rangeV (o : Option ((Nat × Nat) × (Nat × Nat))) : Value := .agg #[i64 0, i64 (pa (o.map (·.1))), i64 (pb (o.map (·.1))), i64 (pa (o.map (·.2))), i64 (pb (o.map (·.2)))]

set_option maxRecDepth 100000 in
theorem class_Byte (l : List ByteArray) (a b : Int) (k : Nat) : CallOK Try.prog 74 [.r k, .v (pos a b)] [some (EC l), none] [.v (.bool (onB l a b))] := by
  refine callOK_of_awp (c := cx (fun f args => if f = 67 then placeV l args else none) 24) (cx_ok _ _) Try.func74 (by kernel_rfl) rfl rfl (by simp [cx]) (by simp [sizesOK, EC]) (awk_of ?_)
  have hp := class_Place l a b 0
  rcases h : placeB l a b with _ | _
  · rw [h] at hp
    simp (config := {maxSteps := 4000000}) only [Try.f74, placeV, iv, p1, p2, h, ↓ZX, ↓ZY, ZZ, Nat.reduceBNe, A0, A1, Int.reduceLE, Int.reduceLT, A6, A7, A8, A9, AA, AB, AC, AD, AE, AF, AG, AH, AI, AJ, AK, AL, AM, AN, AO, AP, AQ, AR, AS, AT, AU, AV, AX, AY, AZ, B0, B1, B3, B4, B5, B6, B7, B8, B9, BA, BB, BC, BD, BE, BF, BG, BH, BI, BJ, BK, BL, BM, BN, BO, BP, BQ, BR, BS, BT, BU, BV, BW, BX, BY, BZ, C0, C1, C2, C3, C4, C5, C6, C7, C8, C9, CA, CB, CC, CD, CE, CF, CG, CH, CI, CJ, CK, CL, CM, CN, CO, CP, CQ, CR, CS, CT, CU, CV, CW, CX, CY, CZ, D0, D1, D2, D3, D4, D5, D6, D7, DV.isSl, DV.isStr, DV.isBool, D8, D9, DA, DV.agg, DB, DC, DD, DE, DF, DG, DH, DI, DJ, DK, DL, DM, DN, DO, DP, DQ, DR, DS, DT, DU, St.kill, St.app, St.forget, St.newOK, DW, DX, DY, St.unseen, DZ, E0, E1, E3, E5, E6, E7, E8, E9, EA, EB, EC, Value.cells, Value.oneCell', ED, EE, EF, EG, EH, EJ, EK, EL, id, EM, EN, EO, EP, EQ, ER, ES, ET, EU, EV, EW, EX, EY, EZ, F0, F1, F3, F4, F5, F6, F7, F8, F9, FA, reduceCtorEq, ↓reduceIte, Nat.reduceEqDiff, Nat.reduceAdd, Nat.reduceLT, Nat.reduceLeDiff, Nat.reduceBEq, FB, Nat.reduceMul, FC, FD, FE, FF, FG, FH, FI, if_true, if_false, FL, FM, FN, FO, FP, FQ, FR, FS, FT, FU, FV, decide_true, decide_false, FY, FZ, G0, G1]
    refine ⟨by kernel_rfl, hp, ?_⟩
    simp [onB, h]
  · rw [h] at hp
    have h' := h
    obtain ⟨a, b, rfl, rfl, ha, hb⟩ := placeB_spec h
    rcases h1 : decide ((b : Int) < (sz l a : Int)) with _ | _ <;> rcases h2 : ((b : Int) == 0) with _ | _
    all_goals
      simp (config := {maxSteps := 4000000}) only [Try.f74, placeV, iv, p1, p2, h, h1, h2, ↓ZX, ↓ZY, ZZ, Nat.reduceBNe, A0, A1, Int.reduceLE, Int.reduceLT, A6, A7, A8, A9, AA, AB, AC, AD, AE, AF, AG, AH, AI, AJ, AK, AL, AM, AN, AO, AP, AQ, AR, AS, AT, AU, AV, AX, AY, AZ, B0, B1, B3, B4, B5, B6, B7, B8, B9, BA, BB, BC, BD, BE, BF, BG, BH, BI, BJ, BK, BL, BM, BN, BO, BP, BQ, BR, BS, BT, BU, BV, BW, BX, BY, BZ, C0, C1, C2, C3, C4, C5, C6, C7, C8, C9, CA, CB, CC, CD, CE, CF, CG, CH, CI, CJ, CK, CL, CM, CN, CO, CP, CQ, CR, CS, CT, CU, CV, CW, CX, CY, CZ, D0, D1, D2, D3, D4, D5, D6, D7, DV.isSl, DV.isStr, DV.isBool, D8, D9, DA, DV.agg, DB, DC, DD, DE, DF, DG, DH, DI, DJ, DK, DL, DM, DN, DO, DP, DQ, DR, DS, DT, DU, St.kill, St.app, St.forget, St.newOK, DW, DX, DY, St.unseen, DZ, E0, E1, E3, E5, E6, E7, E8, E9, EA, EB, EC, Value.cells, Value.oneCell', ED, EE, EF, EG, EH, EJ, EK, EL, id, EM, EN, EO, EP, EQ, ER, ES, ET, EU, EV, EW, EX, EY, EZ, F0, F1, F3, F4, F5, F6, F7, F8, F9, FA, reduceCtorEq, ↓reduceIte, Nat.reduceEqDiff, Nat.reduceAdd, Nat.reduceLT, Nat.reduceLeDiff, Nat.reduceBEq, FB, Nat.reduceMul, FC, FD, FE, FF, FG, FH, FI, if_true, if_false, FL, FM, FN, FO, FP, FQ, FR, FS, FT, FU, FV, decide_true, decide_false, FY, FZ, G0, G1]
      refine ⟨by kernel_rfl, ⟨hp, ⟨by omega, by omega⟩, by omega, by omega⟩, ?_⟩
      simp only [onB, h, h1, h2, Int.toNat_natCast, cond_true, cond_false]

def byteV (l : List ByteArray) (args : List V) : Option (List RV) :=
  match args with
  | [_, .v p] => some [.v (.bool (onB l (p1 p) (p2 p)))]
  | _ => none
theorem onB_place {l : List ByteArray} {a b : Int} (h : onB l a b = true) : ∃ x y : Nat, a = x ∧ b = y ∧ x < l.length ∧ y ≤ sz l x := by
  unfold onB at h
  cases hp : placeB l a b with
  | false => rw [hp] at h; simp at h
  | true => exact placeB_spec hp

end Go.Ab
