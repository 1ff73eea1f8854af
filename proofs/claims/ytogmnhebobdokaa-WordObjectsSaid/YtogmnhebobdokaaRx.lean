/- Rows of runs; runs handed out. -/
import Derived.Test.Ytogmnhebobdokaa10
import Derived.Test.YtogmnhebobdokaaRun
set_option linter.unusedVariables false
set_option linter.unusedSimpArgs false
namespace Go.Ab
open Go Go.RowKit Go.Proofs

def runX (L : List (Nat × Nat)) : List (List Value) := L.map fun p => [i64 p.1, i64 p.2]
theorem runX_get {L Y r : List (Nat × Nat)} {p : Nat × Nat} (h : L = Y ++ p :: r) : (runX L)[Y.length]? = some [i64 p.1, i64 p.2] := by
  subst h
  simp [runX]
def yv2 (y : Nat) : V := .v (.func (.yield y) #[] #[])
def gh2 (n : Nat) : Row := { ty := n, size := 1, len := 0, get := fun _ => [] }

def runRow (L : List (Nat × Nat)) : Row := { ty := 50, size := 2, len := L.length, get := fun i => [i64 (L.getD i.toNat (0, 0)).1, i64 (L.getD i.toNat (0, 0)).2] }
theorem run_snoc (L : List (Nat × Nat)) (s : Nat × Nat) (i : Nat) (h : i < L.length + 1) : (if (i : Int) = (L.length : Int) then [i64 (s.1 : Int), i64 (s.2 : Int)] else [i64 ((L.getD i (0, 0)).1 : Int), i64 ((L.getD i (0, 0)).2 : Int)]) = [i64 (((L ++ [s]).getD i (0, 0)).1 : Int), i64 (((L ++ [s]).getD i (0, 0)).2 : Int)] := by
  split
  · rename_i e
    obtain rfl : i = L.length := by omega
    simp
  · rename_i e
    have : i < L.length := by omega
    simp [List.getD_eq_getElem?_getD, List.getElem?_append_left this]
theorem run_set (L : List (Nat × Nat)) (s t : Nat × Nat) (i : Nat) (h : i < L.length + 1) : (if (i : Int) = (L.length : Int) then [i64 (t.1 : Int), i64 (t.2 : Int)] else [i64 (((L ++ [s]).getD i (0, 0)).1 : Int), i64 (((L ++ [s]).getD i (0, 0)).2 : Int)]) = [i64 (((L ++ [t]).getD i (0, 0)).1 : Int), i64 (((L ++ [t]).getD i (0, 0)).2 : Int)] := by
  split
  · rename_i e
    obtain rfl : i = L.length := by omega
    simp
  · rename_i e
    have : i < L.length := by omega
    simp [List.getD_eq_getElem?_getD, List.getElem?_append_left this]
theorem run_last (L : List (Nat × Nat)) (s : Nat × Nat) : (L ++ [s]).getD L.length (0, 0) = s := by simp

/-- What has been put together of n items' runs when i have been seen. -/
def runI (sm : Nat → Bool) (n i : Nat) (O : List (Nat × Nat)) : Prop :=
  i ≤ n ∧ O.length ≤ i ∧ ((i = 0 ∧ O = []) ∨ ∃ m f Y, i = m + 1 ∧ O = Y ++ [(f, i)] ∧ runsL sm n = Y ++ runsF sm n (n - m) f m)
theorem runI_first {sm : Nat → Bool} {n : Nat} (hn : 0 < n) : runI sm n 1 [(0, 1)] := ⟨by omega, by simp, .inr ⟨0, 0, [], rfl, rfl, rfl⟩⟩
theorem runI_same {sm : Nat → Bool} {n m f : Nat} {Y : List (Nat × Nat)} (hn : m + 1 < n) (hY : (Y ++ [(f, m + 1)]).length ≤ m + 1) (h : runsL sm n = Y ++ runsF sm n (n - m) f m) (hs : sm m = true) : runI sm n (m + 1 + 1) (Y ++ [(f, m + 1 + 1)]) := by
  refine ⟨by omega, by simp at hY ⊢; omega, .inr ⟨m + 1, f, Y, rfl, rfl, ?_⟩⟩
  rw [h, show n - m = (n - (m + 1)) + 1 by omega, runsF, if_pos ⟨hn, hs⟩]
theorem runI_new {sm : Nat → Bool} {n m f : Nat} {Y : List (Nat × Nat)} (hn : m + 1 < n) (hY : (Y ++ [(f, m + 1)]).length ≤ m + 1) (h : runsL sm n = Y ++ runsF sm n (n - m) f m) (hs : sm m = false) : runI sm n (m + 1 + 1) ((Y ++ [(f, m + 1)]) ++ [(m + 1, m + 1 + 1)]) := by
  refine ⟨by omega, by simp at hY ⊢; omega, .inr ⟨m + 1, m + 1, Y ++ [(f, m + 1)], rfl, rfl, ?_⟩⟩
  rw [h, show n - m = (n - (m + 1)) + 1 by omega, runsF, if_neg (by rw [hs]; simp), List.append_assoc]; rfl
theorem runI_end {sm : Nat → Bool} {n : Nat} {O : List (Nat × Nat)} (h : runI sm n n O) : O = runsL sm n := by
  obtain ⟨_, _, ⟨h0, rfl⟩ | ⟨m, f, Y, rfl, rfl, h⟩⟩ := h
  · subst h0; rfl
  · rw [h, show m + 1 - m = 0 + 1 by omega, runsF, if_neg (by omega), runsF]


end Go.Ab
