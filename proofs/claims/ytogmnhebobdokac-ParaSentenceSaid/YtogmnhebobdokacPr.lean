/- Rows of places. -/
import Derived.Test.Ytogmnhebobdokac10
set_option linter.unusedVariables false
set_option linter.unusedSimpArgs false
namespace Go.Ab
open Go Go.RowKit Go.Proofs

def posRow (L : List (Nat × Nat)) : Row := { ty := 27, size := 2, len := L.length, get := fun i => [i64 (L.getD i.toNat (0, 0)).1, i64 (L.getD i.toNat (0, 0)).2] }
theorem pos_snoc (L : List (Nat × Nat)) (s : Nat × Nat) (i : Nat) (h : i < L.length + 1) : (if (i : Int) = (L.length : Int) then [i64 (s.1 : Int), i64 (s.2 : Int)] else [i64 ((L.getD i (0, 0)).1 : Int), i64 ((L.getD i (0, 0)).2 : Int)]) = [i64 (((L ++ [s]).getD i (0, 0)).1 : Int), i64 (((L ++ [s]).getD i (0, 0)).2 : Int)] := by
  split
  · rename_i e
    obtain rfl : i = L.length := by omega
    simp
  · rename_i e
    have : i < L.length := by omega
    simp [List.getD_eq_getElem?_getD, List.getElem?_append_left this]

theorem takeWhile_take {α : Type} {f : α → Bool} : ∀ {L : List α} {i : Nat}, (∀ s ∈ L.take i, f s = true) → (∀ s, L[i]? = some s → f s = false) → L.takeWhile f = L.take i
  | [], i, _, _ => by simp
  | x :: L, 0, _, h2 => by
    have := h2 x rfl
    simp [List.takeWhile_cons, this]
  | x :: L, i + 1, h1, h2 => by
    have hx := h1 x (by simp)
    rw [List.takeWhile_cons, hx, if_pos rfl, List.take_succ_cons, takeWhile_take (L := L) (i := i) (fun s hs => h1 s (by simp [hs])) (fun s hs => h2 s (by simpa using hs))]


end Go.Ab
