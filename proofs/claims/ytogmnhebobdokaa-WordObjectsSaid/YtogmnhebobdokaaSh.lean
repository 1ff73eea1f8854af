/- Short names for rules of the core library, for the sets of rules that the walks evaluate by. -/
import Derived.Test.YtogmnhebobdokaaTab
set_option linter.unusedVariables false
namespace Go.Ab
open Go Go.RowKit Go.Proofs
universe u_1 u_2 u_3 u v w

theorem A0 : ∀ (b : Bool), (b && b) = b := @Bool.and_self
theorem B8 : ∀ {α : Type u_1} (a : α), Option.toList (Option.some a) = [a] := @Option.toList_some
theorem B9 : ∀ (α : Type u_1), Option.toList (Option.none : Option α) = [] := @Option.toList_none
theorem BI : ∀ {α : Type u_1} {a : α} [inst : BEq α], List.contains ([] : List α) a = Bool.false := @List.contains_nil
theorem BJ : ∀ {α : Type u_1} [inst : BEq α] {a b : α} {l : List α}, List.contains (a :: l) b = (b == a || List.contains l b) := @List.contains_cons
theorem BK : ∀ {α : Type u_1} {a : α}, Option.isNone (Option.some a) = Bool.false := @Option.isNone_some
theorem BL : ∀ {α : Type u_1}, Option.isNone (Option.none : Option α) = Bool.true := @Option.isNone_none
theorem BM : ∀ (b : Bool), (b || Bool.true) = Bool.true := @Bool.or_true
theorem BN : ∀ (b : Bool), (Bool.true || b) = Bool.true := @Bool.true_or
theorem BO : ∀ (b : Bool), (b && Bool.false) = Bool.false := @Bool.and_false
theorem BP : ∀ (b : Bool), (Bool.false && b) = Bool.false := @Bool.false_and
theorem BQ : ∀ (n : Nat), Int.toNat ↑n = n := @Int.toNat_natCast
theorem CG : ∀ {α : Type u_1} {x : α} {xs : List α} {d : α}, List.getD (x :: xs) 0 d = x := @List.getD_cons_zero
theorem CH : ∀ {α : Type u_1} {x : α} {xs : List α} {n : Nat} {d : α}, List.getD (x :: xs) (n + 1) d = List.getD xs n d := @List.getD_cons_succ
theorem CI : ∀ {n : Nat} {α : Type u_1} {d : α}, List.getD ([] : List α) n d = d := @List.getD_nil
theorem ED : ∀ {α : Type u_1} {β : Type u_2} (a : α) (f : α → β), Option.map f (Option.some a) = Option.some (f a) := @Option.map_some
theorem EE : ∀ {α : Type u_1} {β : Type u_2} (f : α → β), Option.map f Option.none = Option.none := @Option.map_none
theorem EF : ∀ {α : Type u_1} {β : Type u_2} (a : α) (f : α → Option β), Option.bind (Option.some a) f = f a := @Option.bind_some
theorem EG : ∀ {α : Type u_1} {β : Type u_2} (f : α → Option β), Option.bind Option.none f = Option.none := @Option.bind_none
theorem EH : ∀ {α : Type u_1} {a : α}, Option.isSome (Option.some a) = Bool.true := @Option.isSome_some
theorem EJ : ∀ {α : Type u_1}, Option.isSome (Option.none : Option α) = Bool.false := @Option.isSome_none
theorem EK : ∀ {α : Type u_1} {a b : α}, Option.getD (Option.some a) b = a := @Option.getD_some
theorem EL : ∀ {α : Type u_1} {a : α}, Option.getD (Option.none : Option α) a = a := @Option.getD_none
theorem EM : ∀ {α : Type u_1} {β : Type u_2} {f : α → β} {a : α} {l : List α}, List.map f (a :: l) = f a :: List.map f l := @List.map_cons
theorem EN : ∀ {α : Type u_1} {β : Type u_2} {f : α → β}, List.map f [] = [] := @List.map_nil
theorem EO : ∀ {α : Type u_1} {a : α} {l : List α}, (a :: l)[0]? = Option.some a := @List.getElem?_cons_zero
theorem EP : ∀ {α : Type u_1} {a : α} {i : Nat} {l : List α}, (a :: l)[i + 1]? = l[i]? := @List.getElem?_cons_succ
theorem EQ : ∀ {α : Type u_1} {i : Nat}, ([] : List α)[i]? = (Option.none : Option α) := @List.getElem?_nil
theorem ER : ∀ {α : Type u_1} {l : List α}, List.drop 0 l = l := @List.drop_zero
theorem ES : ∀ {α : Type u_1} {a : α} {l : List α} {i : Nat}, List.drop (i + 1) (a :: l) = List.drop i l := @List.drop_succ_cons
theorem ET : ∀ {α : Type u_1} {i : Nat}, List.drop i ([] : List α) = [] := @List.drop_nil
theorem EU : ∀ {α : Type u_1} {l : List α}, List.take 0 l = ([] : List α) := @List.take_zero
theorem EV : ∀ {α : Type u_1} {a : α} {as' : List α} {i : Nat}, List.take (i + 1) (a :: as') = a :: List.take i as' := @List.take_succ_cons
theorem EW : ∀ {α : Type u_1} {i : Nat}, List.take i ([] : List α) = [] := @List.take_nil
theorem EX : ∀ {α : Type u_1} {a : α} {as' : List α}, List.length (a :: as') = List.length as' + 1 := @List.length_cons
theorem EY : ∀ {α : Type u_1}, List.length ([] : List α) = 0 := @List.length_nil
theorem EZ : ∀ {α : Type u_1} {a : α} {l : List α} {d : α}, List.headD (a :: l) d = a := @List.headD_cons
theorem F0 : ∀ {α : Type u_1} {x : α} {xs : List α}, List.isEmpty (x :: xs) = Bool.false := @List.isEmpty_cons
theorem F1 : ∀ {α : Type u_1} {a : α} {as' bs : List α}, a :: as' ++ bs = a :: (as' ++ bs) := @List.cons_append
theorem F3 : ∀ {α : Type u_1} (as' : List α), ([] : List α) ++ as' = as' := @List.nil_append
theorem F4 : ∀ {α : Type u_1} (as' : List α), as' ++ ([] : List α) = as' := @List.append_nil
theorem F5 : ∀ {α : Type u_1} {a : α} {l : List α} {f : α → Bool}, List.all (a :: l) f = (f a && List.all l f) := @List.all_cons
theorem F6 : ∀ {α : Type u_1} {f : α → Bool}, List.all ([] : List α) f = Bool.true := @List.all_nil
theorem F7 : ∀ {α : Type u_1} {a : α} {l : List α} {f : α → Bool}, List.any (a :: l) f = (f a || List.any l f) := @List.any_cons
theorem F8 : ∀ {α : Type u_1} {f : α → Bool}, List.any ([] : List α) f = Bool.false := @List.any_nil
theorem F9 : ∀ {α : Type u_1} {p : α → Bool} {l : List α}, Array.all (List.toArray l) p = List.all l p := @List.all_toArray
theorem FA : ∀ {α : Type u_1} {as' : List α}, Array.size (List.toArray as') = List.length as' := @List.size_toArray
theorem FB : ∀ (n : Nat), Nat.succ n ≠ n := @Nat.succ_ne_self
theorem FC : ∀ (n : Nat), 0 + n = n := @Nat.zero_add
theorem FD : ∀ (n : Nat), n + 0 = n := @Nat.add_zero
theorem FE : ∀ (p : Prop), (True ∧ p) = p := @true_and
theorem FF : ∀ (p : Prop), (p ∧ True) = p := @and_true
theorem FG : ∀ (α : Sort u_1), (∀ (a : α), True) = True := @implies_true
theorem FH : ∀ (p : Prop), (False → p) = True := @false_implies
theorem FI : ∀ (p : Prop), (True → p) = p := @true_implies
theorem FL : (Bool.false = Bool.true) = False := @Bool.false_eq_true
theorem FM : ∀ (b : Bool), (Bool.true && b) = b := @Bool.true_and
theorem FN : ∀ (b : Bool), (b && Bool.true) = b := @Bool.and_true
theorem FO : (!Bool.true) = Bool.false := @Bool.not_true
theorem FP : (!Bool.false) = Bool.true := @Bool.not_false
theorem FQ : ∀ {α : Sort u_1} {a b : α}, (bif Bool.true then a else b) = a := @Bool.cond_true
theorem FR : ∀ {α : Sort u_1} {a b : α}, (bif Bool.false then a else b) = b := @Bool.cond_false
theorem FS : ∀ {α : Sort u_1} (a b : α), (bif Bool.true then a else b) = a := @cond_true
theorem FT : ∀ {α : Sort u_1} (a b : α), (bif Bool.false then a else b) = b := @cond_false
theorem FU : ∀ (b : Bool), (Bool.false || b) = b := @Bool.false_or
theorem FV : ∀ (b : Bool), (b || Bool.false) = b := @Bool.or_false
theorem FY : ∀ (x : Nat), x &&& x = x := @Nat.and_self
theorem FZ : ∀ {α : Type u_1} (val val_1 : α), (Option.some val = Option.some val_1) = (val = val_1) := @Option.some.injEq
theorem G0 : ∀ {α : Type u_1} {β : Type u_2} (fst : α) (snd : β) (fst_1 : α) (snd_1 : β), ((fst, snd) = (fst_1, snd_1)) = (fst = fst_1 ∧ snd = snd_1) := @Prod.mk.injEq
theorem G1 : ∀ {α : Type u_1} {as' : List α}, Array.toList (List.toArray as') = as' := @List.toList_toArray
theorem G2 : ∀ {α : Sort u_1} (a b : α), (a ≠ b) = ¬a = b := @ne_eq
theorem G3 : (¬False) = True := @not_false_eq_true
theorem G4 : 1 ≠ 0 := @Nat.one_ne_zero
theorem GE : Int.toNat 0 = 0 := @Int.toNat_zero
theorem GF : ∀ {α : Type u_1} {as' bs : List α}, List.length (as' ++ bs) = List.length as' + List.length bs := @List.length_append
theorem GG : ∀ {α : Type u_1} {a : α}, List.length [a] = 1 := @List.length_singleton

end Go.Ab
