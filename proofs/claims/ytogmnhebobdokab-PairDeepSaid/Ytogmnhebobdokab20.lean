/- Contracts: the law's example. -/
import Derived.Test.Ytogmnhebobdokab19
set_option linter.unusedVariables false
set_option linter.unusedSimpArgs false
namespace Go.Ab
open Go Go.RowKit Go.Proofs

def Gkk (f : FuncId) (args : List V) : Option (List RV) :=
  if f = 16 then
    (match args with
     | .r k :: _ => if k = 13 then some [.v (.agg #[i64 0, i64 4, i64 1, .bool true, i64 (-1)]), .v (.bool true)] else some [.v (.agg #[i64 0, i64 0, i64 0, .bool false, i64 0]), .v (.bool false)]
     | _ => none)
  else if f = 17 then some [.v (pos 0 0), .v (pos 0 5), .v (.bool true)]
  else if f = 53 then some [.v (u8 91), .v (u8 93), .v (.bool false), .v (.bool true)] else none

set_option maxRecDepth 100000 in
theorem law11_known : CallOK Try.prog 15 [] [] [.v (.bool true)] := by
  refine callOK_of_awp (c := cx Gkk 78) (cx_ok _ _) Try.func15 (by kernel_rfl) rfl rfl (by simp [cx]) (by simp [sizesOK]) (awk_of ?_)
  simp (config := {maxSteps := 4000000}) only [Try.f15, Gkk, beq_self_eq_true, Int.reduceBEq, ne_eq, not_false_eq_true, Nat.one_ne_zero, Nat.reduceBNe, Bool.and_self, cond_tf, Int.reduceLE, Int.reduceLT, pa_some, pb_some, pa_none, pb_none, fold_sz, fold_bt, cx_τ, cx_Γ, cx_N, cx_P, cx_eqs, cx_byt, cx_it, cx_fz, cx_ro, plainR, fnilV, boxKeys, sliceV, norm, normR, sobs, plainRV, oldArgs, noBox, fullBlock, setRow, snocRow, slElem, appendE, boxRow, stepC, orC, goX, goY, Option.toList_some, Option.toList_none, cutD, awk_range, ysteps, yieldOf, yieldsOK, quietX, yapp, bytab, List.contains_nil, List.contains_cons, Option.isNone_some, Option.isNone_none, Bool.or_true, Bool.true_or, Bool.and_false, Bool.false_and, Int.toNat_natCast, awk_skip, awk_ret, awk_exit, awk_seq, awk_block, awk_cond, awk_reg, awk_draw, awk_loop, cont_nil, cont_seq, cont_seq_ret, cont_seq_exit, cont_blk, cont_blk_ret, cont_blk_exit, goS, goD, ifB, leqT, leqB, leqX, lits, litE, litRow, List.getD_cons_zero, List.getD_cons_succ, List.getD_nil, steps, dsteps, step1, stepE, evalV, evs, ev, evB, alive, look, opnds, unq, qobs, a1, a2, a3, onInt, onBool, pickV, cmpI, arithI, binV, unV, eqLeaves, isView, DV.isSl, DV.isStr, DV.isBool, slOf, vals, whole, DV.agg, loadV, fieldOf, lenV, builtinV, fills, rowOf, boxOf, keyOf, keyInfo, keysV, keysVs, heads, argable, rvals, retV, cellsOf, mention, killT, killB, killX, St.kill, St.app, St.forget, St.newOK, unseenT, unseenB, unseenX, St.unseen, guardOf, fits, fnQ, resV, resVs, resOK, start, startT, startX, tab, eqtab, strRow, Value.cells, Value.oneCell', Option.map_some, Option.map_none, Option.bind_some, Option.bind_none, Option.isSome_some, Option.isSome_none, Option.getD_some, Option.getD_none, id, List.map_cons, List.map_nil, List.getElem?_cons_zero, List.getElem?_cons_succ, List.getElem?_nil, List.drop_zero, List.drop_succ_cons, List.drop_nil, List.take_zero, List.take_succ_cons, List.take_nil, List.length_cons, List.length_nil, List.headD_cons, List.isEmpty_cons, List.cons_append, List.nil_append, List.append_nil, List.all_cons, List.all_nil, List.any_cons, List.any_nil, List.all_toArray, List.size_toArray, reduceCtorEq, ↓reduceIte, Nat.reduceEqDiff, Nat.reduceAdd, Nat.reduceLT, Nat.reduceLeDiff, Nat.reduceBEq, Nat.succ_ne_self, Nat.reduceMul, Nat.zero_add, Nat.add_zero, true_and, and_true, implies_true, false_implies, true_implies, if_true, if_false, Bool.false_eq_true, Bool.true_and, Bool.and_true, Bool.not_true, Bool.not_false, Bool.cond_true, Bool.cond_false, cond_true, cond_false, Bool.false_or, Bool.or_false, decide_true, decide_false, Nat.and_self, Option.some.injEq, Prod.mk.injEq, List.toList_toArray]
  have h1 := pair_Match kl1 fit_kl1 0 1 13
  have h2 := pair_Enclosing kl1 fit_kl1 0 3 40 2 (by omega) 13
  have h3 := pair_Match kl2 fit_kl2 0 0 28
  have h4 := pair_Kind 93
  rw [kM1] at h1
  rw [kE1] at h2
  rw [kM2] at h3
  have one : ∀ (s : ByteArray) (i : Nat), i < 1 → (fun i : Int => ([[Value.string s]] : List (List Value)).getD i.toNat []) i = [Value.string (([s] : List ByteArray).getD ((i : Int).toNat) ⟨#[]⟩)] := by
    intro s i hi
    obtain rfl : i = 0 := by omega
    rfl
  exact ⟨h1.row rfl rfl (one _), h2.row rfl rfl (one _), h3.row rfl rfl (one _), h4⟩

end Go.Ab
