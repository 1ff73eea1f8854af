/- Contracts: places. -/
import Derived.Test.YtogmnhebobdokabPlace
set_option linter.unusedVariables false
set_option linter.unusedSimpArgs false
namespace Go.Ab
open Go Go.RowKit Go.Proofs

abbrev pos (a b : Int) : Value := .agg #[.int .i64 a, .int .i64 b]
def strRow (l : List ByteArray) : Row := { ty := 9, size := 1, len := l.length, get := fun i => [.string (l.getD i.toNat ⟨#[]⟩)] }

noncomputable def cx (Γ : FuncId → List V → Option (List RV)) (N : Nat) : Cx := { P := Try.prog, τ := tab, Γ := Γ, N := N, eqs := eqtab, byt := bytab }
theorem cx_τ (Γ : FuncId → List V → Option (List RV)) (N : Nat) : (cx Γ N).τ = tab := rfl
theorem cx_Γ (Γ : FuncId → List V → Option (List RV)) (N : Nat) : (cx Γ N).Γ = Γ := rfl
theorem cx_N (Γ : FuncId → List V → Option (List RV)) (N : Nat) : (cx Γ N).N = N := rfl
theorem cx_P (Γ : FuncId → List V → Option (List RV)) (N : Nat) : (cx Γ N).P = Try.prog := rfl
theorem cx_eqs (Γ : FuncId → List V → Option (List RV)) (N : Nat) : (cx Γ N).eqs = eqtab := rfl
theorem cx_byt (Γ : FuncId → List V → Option (List RV)) (N : Nat) : (cx Γ N).byt = bytab := rfl
theorem cx_it (Γ : FuncId → List V → Option (List RV)) (N : Nat) : (cx Γ N).it = false := rfl
theorem cx_fz (Γ : FuncId → List V → Option (List RV)) (N : Nat) : (cx Γ N).fz = [] := rfl
theorem cx_ro (Γ : FuncId → List V → Option (List RV)) (N : Nat) : (cx Γ N).ro = [] := rfl
theorem cx_ok (Γ : FuncId → List V → Option (List RV)) (N : Nat) : OK (cx Γ N) := ⟨tab_ok, eqtab_ok, follows_ok, bytab_ok⟩

abbrev u8 (n : Int) : Value := .int .u8 n
def iv : Value → Int
  | .int _ n => n
  | _ => 0
def bv : Value → Bool
  | .bool b => b
  | _ => false
def pq : Value → Nat × Nat
  | .agg cs =>
    match cs.toList with
    | x :: y :: _ => ((iv x).toNat, (iv y).toNat)
    | _ => (0, 0)
  | _ => (0, 0)
def p1 : Value → Int
  | .agg cs =>
    match cs.toList with
    | x :: _ => iv x
    | _ => 0
  | _ => 0
def p2 : Value → Int
  | .agg cs =>
    match cs.toList with
    | _ :: y :: _ => iv y
    | _ => 0
  | _ => 0
abbrev moveP (o : Option (Nat × Nat)) : Value := .agg #[i64 (pa o), i64 (pb o), i64 (bif o.isSome then 1 else 0), .bool o.isSome, i64 (bif o.isSome then -1 else 0)]
abbrev posP (o : Option (Nat × Nat)) : Value := pos (pa o) (pb o)

theorem w64 {n : Int} (h0 : -9223372036854775808 ≤ n) (h1 : n ≤ 9223372036854775807) : IntKind.i64.wrap n = n := by
  rw [IntKind.wrap_i64]; omega


set_option maxRecDepth 100000 in
theorem class_Place (l : List ByteArray) (a b : Int) (k : Nat) : CallOK Try.prog 54 [.r k, .v (pos a b)] [some (strRow l), none] [.v (.bool (placeB l a b))] := by
  refine callOK_of_awp (c := cx (fun _ _ => none) 31) (cx_ok _ _) Try.func54 (by kernel_rfl) rfl rfl (by simp [cx]) (by simp [sizesOK, strRow]) (awk_of ?_)
  simp (config := {maxSteps := 2000000}) only [Try.f54, Nat.reduceBNe, Bool.and_self, cond_tf, Int.reduceLE, Int.reduceLT, pa_some, pb_some, pa_none, pb_none, fold_sz, fold_bt, cx_τ, cx_Γ, cx_N, cx_P, cx_eqs, cx_byt, cx_it, cx_fz, cx_ro, plainR, fnilV, boxKeys, sliceV, norm, normR, sobs, plainRV, oldArgs, noBox, fullBlock, setRow, snocRow, slElem, appendE, boxRow, stepC, orC, goX, goY, convB, Option.toList_some, Option.toList_none, cutD, awk_range, ysteps, yieldOf, yieldsOK, quietX, yapp, bytab, List.contains_nil, List.contains_cons, Option.isNone_some, Option.isNone_none, Bool.or_true, Bool.true_or, Bool.and_false, Bool.false_and, Int.toNat_natCast, awk_skip, awk_ret, awk_exit, awk_seq, awk_block, awk_cond, awk_reg, awk_draw, awk_loop, cont_nil, cont_seq, cont_seq_ret, cont_seq_exit, cont_blk, cont_blk_ret, cont_blk_exit, goS, goD, ifB, leqT, leqB, leqX, lits, litE, litRow, List.getD_cons_zero, List.getD_cons_succ, List.getD_nil, steps, dsteps, step1, stepE, evalV, evs, ev, evB, alive, look, opnds, unq, qobs, a1, a2, a3, onInt, onBool, pickV, cmpI, arithI, binV, unV, eqLeaves, isView, DV.isSl, DV.isStr, DV.isBool, slOf, vals, whole, DV.agg, loadV, fieldOf, lenV, builtinV, fills, rowOf, boxOf, keyOf, keyInfo, keysV, keysVs, heads, argable, rvals, retV, cellsOf, mention, killT, killB, killX, St.kill, St.app, St.forget, St.newOK, unseenT, unseenB, unseenX, St.unseen, guardOf, fits, fnQ, resV, resVs, resOK, start, startT, startX, tab, eqtab, strRow, Value.cells, Value.oneCell', Option.map_some, Option.map_none, Option.bind_some, Option.bind_none, Option.isSome_some, Option.isSome_none, Option.getD_some, Option.getD_none, id, List.map_cons, List.map_nil, List.getElem?_cons_zero, List.getElem?_cons_succ, List.getElem?_nil, List.drop_zero, List.drop_succ_cons, List.drop_nil, List.take_zero, List.take_succ_cons, List.take_nil, List.length_cons, List.length_nil, List.headD_cons, List.isEmpty_cons, List.cons_append, List.nil_append, List.append_nil, List.all_cons, List.all_nil, List.any_cons, List.any_nil, List.all_toArray, List.size_toArray, reduceCtorEq, ↓reduceIte, Nat.reduceEqDiff, Nat.reduceAdd, Nat.reduceLT, Nat.reduceLeDiff, Nat.reduceBEq, Nat.succ_ne_self, Nat.reduceMul, Nat.zero_add, Nat.add_zero, true_and, and_true, implies_true, false_implies, true_implies, if_true, if_false, Bool.false_eq_true, Bool.true_and, Bool.and_true, Bool.not_true, Bool.not_false, Bool.cond_true, Bool.cond_false, cond_true, cond_false, Bool.false_or, Bool.or_false, decide_true, decide_false, Nat.and_self, Option.some.injEq, Prod.mk.injEq, List.toList_toArray]
  refine ⟨by kernel_rfl, ?_, rfl⟩
  simp [Bool.cond_eq_ite, sz]
  omega

end Go.Ab
