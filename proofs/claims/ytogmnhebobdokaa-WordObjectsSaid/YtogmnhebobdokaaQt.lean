/- Quotes two by two: no program in sight. -/
import Derived.Test.YtogmnhebobdokaaRun
set_option linter.unusedVariables false
set_option linter.unusedSimpArgs false
namespace Go.Ab
open Go Go.RowKit

/-- The pairs within the first i bytes, and the quote that has none yet. -/
def pairsTo (s : ByteArray) (q : Int) : Nat → List (Nat × Nat) × Option Nat
  | 0 => ([], none)
  | i + 1 => if bt s i = q then (match (pairsTo s q i).2 with
    | none => ((pairsTo s q i).1, some i)
    | some f => ((pairsTo s q i).1 ++ [(f, i)], none)) else pairsTo s q i
def pairsL (s : ByteArray) (q : Int) : List (Nat × Nat) := (pairsTo s q s.size).1
theorem pairsTo_len (s : ByteArray) (q : Int) : ∀ i, (pairsTo s q i).1.length ≤ i
  | 0 => by simp [pairsTo]
  | i + 1 => by
    have := pairsTo_len s q i
    unfold pairsTo
    split
    · split
      · dsimp only; omega
      · simp; omega
    · omega
theorem pairsTo_same {s : ByteArray} {q : Int} {i : Nat} (h : bt s i ≠ q) : pairsTo s q (i + 1) = pairsTo s q i := by rw [pairsTo, if_neg h]
theorem pairsTo_open {s : ByteArray} {q : Int} {i : Nat} (h : bt s i = q) (h2 : (pairsTo s q i).2 = none) : pairsTo s q (i + 1) = ((pairsTo s q i).1, some i) := by rw [pairsTo, if_pos h, h2]
theorem pairsTo_shut {s : ByteArray} {q : Int} {i f : Nat} (h : bt s i = q) (h2 : (pairsTo s q i).2 = some f) : pairsTo s q (i + 1) = ((pairsTo s q i).1 ++ [(f, i)], none) := by rw [pairsTo, if_pos h, h2]
theorem pairsTo_pre (s : ByteArray) (q : Int) (k : Nat) : ∀ n, k ≤ n → ∃ r, (pairsTo s q n).1 = (pairsTo s q k).1 ++ r := by
  intro n
  induction n with
  | zero => intro h; obtain rfl : k = 0 := by omega
            exact ⟨[], by simp⟩
  | succ n ih =>
    intro h
    by_cases e : k = n + 1
    · subst e; exact ⟨[], by simp⟩
    · obtain ⟨r, hr⟩ := ih (by omega)
      by_cases hq : bt s n = q
      · cases h2 : (pairsTo s q n).2 with
        | none => exact ⟨r, by rw [pairsTo_open hq h2]; exact hr⟩
        | some f => exact ⟨r ++ [(f, n)], by rw [pairsTo_shut hq h2, hr, List.append_assoc]⟩
      · exact ⟨r, by rw [pairsTo_same hq]; exact hr⟩
/-- Of quotes alone, none between. -/
theorem pairsTo_spec (s : ByteArray) (q : Int) : ∀ i,
    (∀ p ∈ (pairsTo s q i).1, p.1 < p.2 ∧ p.2 < i ∧ bt s p.1 = q ∧ bt s p.2 = q ∧ ∀ j, p.1 < j → j < p.2 → bt s j ≠ q) ∧
    (∀ f, (pairsTo s q i).2 = some f → f < i ∧ bt s f = q ∧ ∀ j, f < j → j < i → bt s j ≠ q)
  | 0 => ⟨by simp [pairsTo], by simp [pairsTo]⟩
  | i + 1 => by
    obtain ⟨h1, h2⟩ := pairsTo_spec s q i
    unfold pairsTo
    split
    · rename_i hq
      split
      · refine ⟨fun p hp => ?_, fun f hf => ?_⟩
        · have := h1 p hp; exact ⟨this.1, by omega, this.2.2⟩
        · simp at hf; subst hf; exact ⟨by omega, hq, fun j _ _ => by omega⟩
      · rename_i f hf
        have h2 := h2 f hf
        refine ⟨fun p hp => ?_, fun f hf => by simp at hf⟩
        rcases List.mem_append.1 hp with hp | hp
        · have := h1 p hp; exact ⟨this.1, by omega, this.2.2⟩
        · simp at hp; subst hp
          exact ⟨h2.1, by show i < i + 1; omega, h2.2.1, hq, h2.2.2⟩
    · rename_i hq
      refine ⟨fun p hp => ?_, fun f hf => ?_⟩
      · have := h1 p hp; exact ⟨this.1, by omega, this.2.2⟩
      · have := h2 f hf
        refine ⟨by omega, this.2.1, fun j hj hji => ?_⟩
        by_cases e : j = i
        · subst e; exact hq
        · exact this.2.2 j hj (by omega)
theorem pairsL_spec {s : ByteArray} {q : Int} {p : Nat × Nat} (h : p ∈ pairsL s q) : p.1 < p.2 ∧ p.2 < s.size ∧ bt s p.1 = q ∧ bt s p.2 = q ∧ ∀ j, p.1 < j → j < p.2 → bt s j ≠ q := (pairsTo_spec s q s.size).1 p h

/-- The first that ends at x or behind it. -/
def pairAt (L : List (Nat × Nat)) (x : Nat) : Option (Nat × Nat) := L.find? fun p => decide (x ≤ p.2)
def blankB (s : ByteArray) (i : Nat) : Bool := bt s i == 32 || bt s i == 9
/-- Blanks on, from i; n bytes left. -/
def skipF (s : ByteArray) : Nat → Nat → Nat
  | 0, i => i
  | n + 1, i => if blankB s i = true then skipF s n (i + 1) else i
/-- Blanks back. -/
def skipB (s : ByteArray) : Nat → Nat
  | 0 => 0
  | i + 1 => if blankB s i = true then skipB s i else i + 1
def quoteA (s : ByteArray) (p : Nat × Nat) : Nat × Nat :=
  if skipF s (s.size - (p.2 + 1)) (p.2 + 1) = p.2 + 1 then (skipB s p.1, p.2 + 1) else (p.1, skipF s (s.size - (p.2 + 1)) (p.2 + 1))
theorem skipF_spec (s : ByteArray) : ∀ n i, i ≤ skipF s n i ∧ skipF s n i ≤ i + n ∧ ∀ j, i ≤ j → j < skipF s n i → blankB s j = true
  | 0, i => ⟨Nat.le_refl _, Nat.le_refl _, fun j h1 h2 => by rw [skipF] at h2; omega⟩
  | n + 1, i => by
    have ih := skipF_spec s n (i + 1)
    unfold skipF
    split
    · rename_i hb
      refine ⟨by omega, by omega, fun j h1 h2 => ?_⟩
      by_cases e : j = i
      · subst e; exact hb
      · exact ih.2.2 j (by omega) h2
    · exact ⟨Nat.le_refl _, by omega, fun j h1 h2 => by omega⟩
theorem skipB_spec (s : ByteArray) : ∀ i, skipB s i ≤ i ∧ ∀ j, skipB s i ≤ j → j < i → blankB s j = true
  | 0 => ⟨Nat.le_refl _, fun j h1 h2 => by omega⟩
  | i + 1 => by
    have ih := skipB_spec s i
    unfold skipB
    split
    · rename_i hb
      refine ⟨by omega, fun j h1 h2 => ?_⟩
      by_cases e : j = i
      · subst e; exact hb
      · exact ih.2 j h1 (by omega)
    · exact ⟨Nat.le_refl _, fun j h1 h2 => by omega⟩

end Go.Ab
