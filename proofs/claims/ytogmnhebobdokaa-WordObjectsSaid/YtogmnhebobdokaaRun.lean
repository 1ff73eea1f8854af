/- Runs of a class: no program in sight. -/
import Derived.Test.YtogmnhebobdokaaPlace
set_option linter.unusedVariables false
set_option linter.unusedSimpArgs false
namespace Go.Ab
open Go Go.RowKit

/-- The runs from i on, the first begun at f: k of n items left; sm i: item i + 1 is as item i. -/
def runsF (sm : Nat → Bool) (n : Nat) : Nat → Nat → Nat → List (Nat × Nat)
  | 0, _, _ => []
  | k + 1, f, i => if i + 1 < n ∧ sm i = true then runsF sm n k f (i + 1) else (f, i + 1) :: runsF sm n k (i + 1) (i + 1)
def runsL (sm : Nat → Bool) (n : Nat) : List (Nat × Nat) := runsF sm n n 0 0

/-- One behind another, from a to b. -/
def Chain : Nat → List (Nat × Nat) → Nat → Prop
  | a, [], b => a = b
  | a, p :: L, b => p.1 = a ∧ p.1 < p.2 ∧ Chain p.2 L b
theorem runsF_chain {sm : Nat → Bool} {n : Nat} : ∀ {k f i : Nat}, i + k = n → f ≤ i → (k = 0 → f = i) → Chain f (runsF sm n k f i) n
  | 0, f, i, h, h1, h2 => by
    have := h2 rfl
    show f = n
    omega
  | k + 1, f, i, h, h1, h2 => by
    unfold runsF
    split
    · rename_i hc
      exact runsF_chain (by omega) (by omega) (fun h0 => by omega)
    · exact ⟨rfl, by show f < i + 1; omega, runsF_chain (by omega) (Nat.le_refl _) fun _ => rfl⟩
theorem runsL_chain (sm : Nat → Bool) (n : Nat) : Chain 0 (runsL sm n) n := runsF_chain (by omega) (Nat.le_refl _) fun _ => rfl
theorem Chain.le : ∀ {L : List (Nat × Nat)} {a b : Nat}, Chain a L b → a + L.length ≤ b
  | [], a, b, h => by have : a = b := h; simp; omega
  | p :: L, a, b, h => by
    obtain ⟨h1, h2, h3⟩ := h
    have := Chain.le h3
    simp; omega
theorem runsF_len (sm : Nat → Bool) (n k f i : Nat) : (runsF sm n k f i).length ≤ k := by
  induction k generalizing f i with
  | zero => simp [runsF]
  | succ k ih =>
    unfold runsF
    split
    · have := ih f (i + 1); omega
    · have := ih (i + 1) (i + 1); simp; omega
theorem runsL_len (sm : Nat → Bool) (n : Nat) : (runsL sm n).length ≤ n := runsF_len sm n n 0 0

/-- The k-th of a chain. -/
theorem Chain.get : ∀ {L : List (Nat × Nat)} {a b k : Nat} {p : Nat × Nat}, Chain a L b → L[k]? = some p → a + k ≤ p.1 ∧ p.1 < p.2 ∧ p.2 + (L.length - (k + 1)) ≤ b
  | [], a, b, k, p, h, hk => by simp at hk
  | q :: L, a, b, 0, p, h, hk => by
    simp at hk; subst hk
    obtain ⟨h1, h2, h3⟩ := h
    have := h3.le
    simp; omega
  | q :: L, a, b, k + 1, p, h, hk => by
    obtain ⟨h1, h2, h3⟩ := h
    have := h3.get (by simpa using hk)
    simp; omega
/-- Where one ends the next begins. -/
theorem Chain.next : ∀ {L : List (Nat × Nat)} {a b k : Nat} {p q : Nat × Nat}, Chain a L b → L[k]? = some p → L[k + 1]? = some q → q.1 = p.2
  | [], a, b, k, p, q, h, hk, hq => by simp at hk
  | x :: [], a, b, 0, p, q, h, hk, hq => by simp at hq
  | x :: y :: L, a, b, 0, p, q, h, hk, hq => by
    simp at hk hq; subst hk hq
    exact h.2.2.1
  | x :: L, a, b, k + 1, p, q, h, hk, hq => h.2.2.next (by simpa using hk) (by simpa using hq)
theorem Chain.last : ∀ {L : List (Nat × Nat)} {a b : Nat} {p : Nat × Nat}, Chain a L b → L[L.length - 1]? = some p → p.2 = b
  | [], a, b, p, h, hk => by simp at hk
  | x :: [], a, b, p, h, hk => by
    simp at hk; subst hk
    exact h.2.2
  | x :: y :: L, a, b, p, h, hk => by
    refine Chain.last (L := y :: L) h.2.2 ?_
    simpa using hk
theorem Chain.first : ∀ {L : List (Nat × Nat)} {a b : Nat} {p : Nat × Nat}, Chain a L b → L[0]? = some p → p.1 = a
  | x :: L, a, b, p, h, hk => by simp at hk; subst hk; exact h.1
theorem Chain.mono : ∀ {L : List (Nat × Nat)} {a b i j : Nat} {p q : Nat × Nat}, Chain a L b → L[i]? = some p → L[j]? = some q → i < j → p.2 ≤ q.1
  | [], a, b, i, j, p, q, h, hi, hj, hij => by simp at hi
  | x :: L, a, b, i, 0, p, q, h, hi, hj, hij => by omega
  | x :: L, a, b, 0, j + 1, p, q, h, hi, hj, hij => by
    simp at hi; subst hi
    have := h.2.2.get (by simpa using hj)
    omega
  | x :: L, a, b, i + 1, j + 1, p, q, h, hi, hj, hij => h.2.2.mono (by simpa using hi) (by simpa using hj) (by omega)

/-- The last one of the first n that begins at x or ahead of it. -/
def lastI (L : List (Nat × Nat)) (x : Int) : Nat → Nat
  | 0 => 0
  | n + 1 => if ((L.getD n (0, 0)).1 : Int) ≤ x then n else lastI L x n
/-- The first one that has x, n of them looked at from i on. -/
def findI (L : List (Nat × Nat)) (x : Int) : Nat → Nat → Option Nat
  | 0, _ => none
  | n + 1, i => if ((L.getD i (0, 0)).1 : Int) ≤ x ∧ x < ((L.getD i (0, 0)).2 : Int) then some i else findI L x n (i + 1)
theorem chain_find : ∀ {L : List (Nat × Nat)} {a b x : Nat}, Chain a L b → a ≤ x → x < b → ∃ (k : Nat) (p : Nat × Nat), L[k]? = some p ∧ p.1 ≤ x ∧ x < p.2
  | [], a, b, x, h, h1, h2 => by have : a = b := h; omega
  | q :: L, a, b, x, h, h1, h2 => by
    by_cases hx : x < q.2
    · exact ⟨0, q, rfl, by have := h.1; omega, hx⟩
    · obtain ⟨k, p, hk, h3⟩ := chain_find h.2.2 (by omega) h2
      exact ⟨k + 1, p, by simpa using hk, h3⟩
theorem getD_some {α : Type} {L : List α} {k : Nat} {p d : α} (h : L[k]? = some p) : L.getD k d = p := by rw [List.getD_eq_getElem?_getD, h]; rfl
theorem get_lt {α : Type} {L : List α} {k : Nat} {p : α} (h : L[k]? = some p) : k < L.length := by
  rcases Nat.lt_or_ge k L.length with g | g
  · exact g
  · rw [List.getElem?_eq_none g] at h; cases h
theorem get_of {α : Type} {L : List α} {k : Nat} (h : k < L.length) : ∃ p, L[k]? = some p := ⟨_, List.getElem?_eq_getElem h⟩
theorem lastI_eq {L : List (Nat × Nat)} {a b x k : Nat} {p : Nat × Nat} (h : Chain a L b) (hk : L[k]? = some p) (h1 : p.1 ≤ x) (h2 : x < p.2) : ∀ n, k < n → n ≤ L.length → lastI L x n = k
  | 0, hn, _ => by omega
  | n + 1, hn, hl => by
    obtain ⟨q, hq⟩ := get_of (show n < L.length by omega)
    unfold lastI
    rw [getD_some hq]
    by_cases e : n = k
    · subst e
      rw [hk] at hq; simp at hq; subst hq
      rw [if_pos (by omega)]
    · have := h.mono hk hq (by omega)
      rw [if_neg (by omega)]
      exact lastI_eq h hk h1 h2 n (by omega) (by omega)
theorem findI_eq {L : List (Nat × Nat)} {a b x k : Nat} {p : Nat × Nat} (h : Chain a L b) (hk : L[k]? = some p) (h1 : p.1 ≤ x) (h2 : x < p.2) : ∀ n i, i ≤ k → k < i + n → findI L x n i = some k
  | 0, i, hi, hn => by omega
  | n + 1, i, hi, hn => by
    have hkl := get_lt hk
    obtain ⟨q, hq⟩ := get_of (show i < L.length by omega)
    unfold findI
    rw [getD_some hq]
    by_cases e : i = k
    · subst e
      rw [hk] at hq; simp at hq; subst hq
      rw [if_pos ⟨by omega, by omega⟩]
    · have := h.mono hq hk (by omega)
      have := h.get hq
      rw [if_neg (by omega)]
      exact findI_eq h hk h1 h2 n (i + 1) (by omega) (by omega)

end Go.Ab
