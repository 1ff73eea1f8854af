/- Contracts: the law's own helps: same, known. -/
import Derived.Test.Ytogmnhebobdokaa18
import Derived.Test.Ytogmnhebobdokaa16
import Derived.Test.Ytogmnhebobdokaa17
set_option linter.unusedVariables false
set_option linter.unusedSimpArgs false
namespace Go.Ab
open Go Go.RowKit Go.Proofs

/-- A row that reads alike serves. -/
theorem CallOK.row {P : Program} {f : FuncId} {k : Nat} {args : List V} {R S : Row} {rws : List (Option Row)} {ret : List RV} (h : CallOK P f (.r k :: args) (some R :: rws) ret)
    (h1 : S.size = R.size) (h2 : S.len = R.len) (h3 : ∀ i : Nat, i < R.len → S.get i = R.get i) (h0 : S.sp = R.sp := by rfl) : CallOK P f (.r k :: args) (some S :: rws) ret := by
  refine ⟨h.1, fun ys w hy => h.2 ys w ?_⟩
  cases ys with
  | nil => exact hy.elim
  | cons y ys => exact ⟨hy.1.congr h1 h2 h0 h3, hy.2⟩

set_option maxRecDepth 100000 in
theorem law11_same (a b c : Int) (d : Bool) (e : Int) (u : Bool) (a' b' c' : Int) (d' : Bool) (e' : Int) (u' : Bool) :
    CallOK Try.prog 44 [.v (.agg #[i64 a, i64 b, i64 c, .bool d, i64 e]), .v (.bool u), .v (.agg #[i64 a', i64 b', i64 c', .bool d', i64 e']), .v (.bool u')] [none, none, none, none]
      [.v (.bool (bif (a == a' && (b == b' && (c == c' && (d == d' && e == e')))) then u == u' else false))] := by
  refine callOK_of_awp (c := cx (fun _ _ => none) 17) (cx_ok _ _) Try.func44 (by kernel_rfl) rfl rfl (by simp [cx]) (by simp [sizesOK]) (awk_of ?_)
  simp (config := {maxSteps := 4000000}) only [Try.f44, Nat.reduceBNe, Bool.and_self, cond_tf, Int.reduceLE, Int.reduceLT, pa_some, pb_some, pa_none, pb_none, fold_sz, fold_bt, cx_τ, cx_Γ, cx_N, cx_P, cx_eqs, cx_byt, cx_it, cx_fz, cx_ro, plainR, fnilV, boxKeys, sliceV, norm, normR, sobs, plainRV, oldArgs, noBox, fullBlock, setRow, snocRow, slElem, appendE, boxRow, stepC, orC, goX, goY, cutD, awk_range, ysteps, yieldOf, yieldsOK, quietX, yapp, bytab, List.contains_nil, List.contains_cons, Option.isNone_some, Option.isNone_none, Bool.or_true, Bool.true_or, Bool.and_false, Bool.false_and, Int.toNat_natCast, awk_skip, awk_ret, awk_exit, awk_seq, awk_block, awk_cond, awk_reg, awk_draw, awk_loop, cont_nil, cont_seq, cont_seq_ret, cont_seq_exit, cont_blk, cont_blk_ret, cont_blk_exit, goS, goD, ifB, leqT, leqB, leqX, lits, litE, litRow, List.getD_cons_zero, List.getD_cons_succ, List.getD_nil, steps, dsteps, step1, stepE, evalV, evs, ev, evB, alive, look, opnds, unq, qobs, a1, a2, a3, onInt, onBool, pickV, cmpI, arithI, binV, unV, eqLeaves, isView, DV.isSl, DV.isStr, DV.isBool, slOf, vals, whole, DV.agg, loadV, fieldOf, lenV, builtinV, fills, rowOf, boxOf, keyOf, keyInfo, keysV, keysVs, heads, argable, rvals, retV, cellsOf, mention, killT, killB, killX, St.kill, St.app, St.forget, St.newOK, unseenT, unseenB, unseenX, St.unseen, guardOf, fits, fnQ, resV, resVs, resOK, start, startT, startX, tab, eqtab, strRow, Value.cells, Value.oneCell', Option.map_some, Option.map_none, Option.bind_some, Option.bind_none, Option.isSome_some, Option.isSome_none, Option.getD_some, Option.getD_none, id, List.map_cons, List.map_nil, List.getElem?_cons_zero, List.getElem?_cons_succ, List.getElem?_nil, List.drop_zero, List.drop_succ_cons, List.drop_nil, List.take_zero, List.take_succ_cons, List.take_nil, List.length_cons, List.length_nil, List.headD_cons, List.isEmpty_cons, List.cons_append, List.nil_append, List.append_nil, List.all_cons, List.all_nil, List.any_cons, List.any_nil, List.all_toArray, List.size_toArray, reduceCtorEq, ↓reduceIte, Nat.reduceEqDiff, Nat.reduceAdd, Nat.reduceLT, Nat.reduceLeDiff, Nat.reduceBEq, Nat.succ_ne_self, Nat.reduceMul, Nat.zero_add, Nat.add_zero, true_and, and_true, implies_true, false_implies, true_implies, if_true, if_false, Bool.false_eq_true, Bool.true_and, Bool.and_true, Bool.not_true, Bool.not_false, Bool.cond_true, Bool.cond_false, cond_true, cond_false, Bool.false_or, Bool.or_false, decide_true, decide_false, Nat.and_self, Option.some.injEq, Prod.mk.injEq, List.toList_toArray]
  exact ⟨fun h => ⟨h, h⟩, fun h => h⟩

def kl1 : List ByteArray := [⟨#[40, 97, 40, 98, 41, 41]⟩]
def kl2 : List ByteArray := [⟨#[40, 97]⟩]
def klOf (args : List V) : List ByteArray :=
  match args with
  | .r k :: _ => if k = 13 then kl1 else kl2
  | _ => kl2
def matchV (l : List ByteArray) (args : List V) : Option (List RV) :=
  match args with
  | [_, .v p] => some [.v (moveP (matchI l (p1 p) (p2 p))), .v (.bool (matchI l (p1 p) (p2 p)).isSome)]
  | _ => none
def encV (l : List ByteArray) (args : List V) : Option (List RV) :=
  match args with
  | [_, .v p, .v o, .v n] => some [.v (encA (encI l (p1 p) (p2 p) (iv o) (iv n))), .v (encB (encI l (p1 p) (p2 p) (iv o) (iv n))), .v (.bool (encI l (p1 p) (p2 p) (iv o) (iv n)).isSome)]
  | _ => none
def Gk (f : FuncId) (args : List V) : Option (List RV) :=
  if f = 42 then matchV (klOf args) args else if f = 47 then encV (klOf args) args else if f = 45 then kindV args else none

theorem fit_kl1 : Fit kl1 := ⟨by decide, fun a => by
  unfold sz kl1
  rcases a with _ | a
  · decide
  · simp [List.getD_cons_succ]; decide⟩
theorem fit_kl2 : Fit kl2 := ⟨by decide, fun a => by
  unfold sz kl2
  rcases a with _ | a
  · decide
  · simp [List.getD_cons_succ]; decide⟩
theorem kM1 : matchI kl1 0 1 = some (0, 4) := by kernel_rfl
theorem kM2 : matchI kl2 0 0 = none := by kernel_rfl
theorem kE1 : encI kl1 0 3 40 2 = some ((0, 0), (0, 5)) := by
  unfold encI
  rw [if_neg (by decide)]
  kernel_rfl


end Go.Ab
