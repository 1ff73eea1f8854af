/- Runs of blanks never stand side by side: no program in sight. -/
import Derived.Test.Ytogmnhebobdokaa83
set_option linter.unusedVariables false
set_option linter.unusedSimpArgs false
namespace Go.Ab
open Go Go.RowKit

theorem runsF_sm {sm : Nat → Bool} {n : Nat} : ∀ {k f i : Nat}, i + k = n → f ≤ i → (∀ j, f ≤ j → j < i → sm j = true) → ∀ p ∈ runsF sm n k f i, (∀ j, p.1 ≤ j → j + 1 < p.2 → sm j = true) ∧ (p.2 < n → sm (p.2 - 1) = false)
  | 0, f, i, h, h1, h2, p, hp => by simp [runsF] at hp
  | k + 1, f, i, h, h1, h2, p, hp => by
    unfold runsF at hp
    split at hp
    · rename_i hc
      exact runsF_sm (k := k) (f := f) (i := i + 1) (by omega) (by omega) (fun j a b => by
        by_cases e : j = i
        · subst e; exact hc.2
        · exact h2 j a (by omega)) p hp
    · rename_i hc
      rcases List.mem_cons.1 hp with rfl | hp
      · refine ⟨fun j a b => h2 j a (by dsimp only at b; omega), fun hl => ?_⟩
        show sm (i + 1 - 1) = false
        rw [Nat.add_sub_cancel]
        cases hs : sm i with
        | false => rfl
        | true => exact (hc ⟨hl, hs⟩).elim
      · exact runsF_sm (k := k) (f := i + 1) (i := i + 1) (by omega) (Nat.le_refl _) (fun j a b => by omega) p hp
theorem cls_blank (s : ByteArray) (i : Nat) (big : Bool) : (clsI (bt s (i : Int)) big == 0) = blankB s i := by
  unfold blankB clsI
  by_cases h1 : bt s (i : Int) = 32
  · simp [h1]
  · by_cases h2 : bt s (i : Int) = 9
    · simp [h2]
    · rw [if_neg (by rintro (h | h); exact h1 h; exact h2 h)]
      simp only [beq_eq_false_iff_ne.2 h1, beq_eq_false_iff_ne.2 h2]
      split <;> rfl
theorem wrd_const {s : ByteArray} {big : Bool} {p : Nat × Nat} (hp : p ∈ wrdL s big) : ∀ d, p.1 + d < p.2 → clsI (bt s (p.1 + d : Nat)) big = clsI (bt s p.1) big
  | 0, _ => rfl
  | d + 1, h => by
    have h1 := (runsF_sm (sm := wrdS s big) (n := s.size) (k := s.size) (f := 0) (i := 0) (by omega) (Nat.le_refl _) (fun j a b => by omega) p hp).1 (p.1 + d) (by omega) (by omega)
    have h2 := wrd_const hp d (by omega)
    unfold wrdS at h1
    rw [← h2]
    exact eq_of_beq h1
theorem blS_adj {s : ByteArray} {big : Bool} {i : Nat} (h : blS s (wrdL s big) i = true) : blS s (wrdL s big) (i + 1) = false := by
  cases h2 : blS s (wrdL s big) (i + 1) with
  | false => rfl
  | true =>
    have l1 := blS_lt h
    have l2 := blS_lt h2
    obtain ⟨p, hp⟩ := get_of l1
    obtain ⟨q, hq⟩ := get_of l2
    have hch := wrdL_chain s big
    have hn := hch.next hp hq
    have hqe := hch.get hq
    have hpe := hch.get hp
    unfold blS at h h2
    rw [decide_eq_true l1, getD_some hp] at h
    rw [decide_eq_true l2, getD_some hq, hn] at h2
    simp only [cond_true] at h h2
    have hm := List.mem_of_getElem? hp
    have h3 := (runsF_sm (sm := wrdS s big) (n := s.size) (k := s.size) (f := 0) (i := 0) (by omega) (Nat.le_refl _) (fun j a b => by omega) p hm).2 (by omega)
    have h4 := wrd_const hm (p.2 - 1 - p.1) (by omega)
    rw [show p.1 + (p.2 - 1 - p.1) = p.2 - 1 by omega] at h4
    rw [← cls_blank s _ big] at h h2
    unfold wrdS at h3
    rw [show p.2 - 1 + 1 = p.2 by omega, h4] at h3
    have e1 : clsI (bt s (p.1 : Int)) big = 0 := by simpa using h
    have e2 : clsI (bt s (p.2 : Int)) big = 0 := by simpa using h2
    rw [e1, e2] at h3
    cases h3

end Go.Ab
