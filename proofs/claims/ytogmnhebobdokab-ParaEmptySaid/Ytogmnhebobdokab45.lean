/- The law ParaEmpty, walked. -/
import Derived.Test.Ytogmnhebobdokab43
import Derived.Test.Ytogmnhebobdokab17
set_option linter.unusedVariables false
set_option linter.unusedSimpArgs false
namespace Go.Ab
open Go Go.RowKit Go.Proofs

theorem nextI_one {l : List ByteArray} {a : Nat} (ha : a < l.length) : nextI l false a 0 1 = if okF (a, 0) (parN l false a) = true then some (parN l false a) else none := by
  have hp : placeB l a ((0 : Nat) : Int) = true := by
    simp only [placeB, Int.toNat_natCast, AA]; simp; omega
  have hfl : failsB l a 0 1 = false := by
    rw [failsB, show placeB l a 0 = true from hp]; rfl
  rw [nextI, hfl, if_neg (by simp)]
  show runN _ okF 60000 (a, 0) 1 = _
  rw [runN, if_neg (by decide)]
  dsimp only
  split
  · rw [runN, if_pos (by decide)]
  · rfl
theorem backI_one {l : List ByteArray} {a : Nat} (ha : a < l.length) : backI l a 0 1 = if okB (a, 0) (parB l a) = true then some (parB l a) else none := by
  have hp : placeB l a ((0 : Nat) : Int) = true := by
    simp only [placeB, Int.toNat_natCast, AA]; simp; omega
  have hfl : failsB l a 0 1 = false := by
    rw [failsB, show placeB l a 0 = true from hp]; rfl
  rw [backI, hfl, if_neg (by simp)]
  show runN _ okB 60000 (a, 0) 1 = _
  rw [runN, if_neg (by decide)]
  dsimp only
  split
  · rw [runN, if_pos (by decide)]
  · rfl
/-- What the law asks of the end. -/
theorem next_one {l : List ByteArray} {a : Nat} (ha : a < l.length) {t : Nat × Nat} (h : nextI l false a 0 1 = some t) : (t.1 < l.length ∧ t.2 ≤ sz l t.1) ∧ lessI a 0 t.1 t.2 = true ∧ (sz l t.1 = 0 ∨ (t.1 = l.length - 1 ∧ t.2 = sz l (l.length - 1) - 1 ∧ 0 < sz l (l.length - 1))) := by
  rw [nextI_one ha] at h
  split at h
  · rename_i ho
    simp at h; subst h
    refine ⟨parN_place ha, ho, ?_⟩
    unfold parN
    cases hq : fstF l (l.length - (a + 1)) (a + 1) with
    | some i =>
      obtain ⟨_, _, h3⟩ := fstF_spec hq
      left
      dsimp only
      unfold brkF at h3
      by_cases e : sz l i = 0
      · exact e
      · have : (sz l i == 0) = false := by simpa using e
        rw [this] at h3; cases h3
    | none =>
      dsimp only [parE]
      by_cases e : sz l (l.length - 1) = 0
      · exact .inl e
      · exact .inr ⟨rfl, rfl, by omega⟩
  · cases h
theorem back_one {l : List ByteArray} {a : Nat} (ha : a < l.length) : (backI l a 0 1).isSome = !((a : Int) == 0) ∧ ∀ t, backI l a 0 1 = some t → (t.1 < l.length) ∧ lessI t.1 t.2 a 0 = true ∧ (sz l t.1 = 0 ∨ t = (0, 0)) := by
  have key : ∀ i, bkF l a = some i → i < a ∧ sz l i = 0 := by
    have : ∀ n i, bkF l n = some i → i < n ∧ sz l i = 0 := by
      intro n
      induction n with
      | zero => intro i h; simp [bkF] at h
      | succ n ih =>
        intro i h
        unfold bkF at h
        split at h
        · rename_i hb
          simp at h; subst h
          refine ⟨by omega, ?_⟩
          unfold brkB at hb
          by_cases e : sz l n = 0
          · exact e
          · have : (sz l n == 0) = false := by simpa using e
            rw [this] at hb; cases hb
        · obtain ⟨h1, h2⟩ := ih i h; exact ⟨by omega, h2⟩
    exact this a
  have hless : okB (a, 0) (parB l a) = !((a : Int) == 0) := by
    unfold parB
    cases hq : bkF l a with
    | some i =>
      obtain ⟨h1, _⟩ := key i hq
      have : ((a : Int) == 0) = false := by simp; omega
      rw [this]
      exact lessI_ltP.2 (.inl h1)
    | none =>
      rcases a with _ | a
      · rfl
      · have : (((a + 1 : Nat) : Int) == 0) = false := by simp; omega
        rw [this]
        exact lessI_ltP.2 (.inl (Nat.succ_pos a))
  rw [backI_one ha]
  refine ⟨?_, fun t ht => ?_⟩
  · rw [hless]
    cases ((a : Int) == 0) <;> rfl
  · split at ht
    · rename_i ho
      simp at ht; subst ht
      refine ⟨(parB_place ha).1, ho, ?_⟩
      unfold parB
      cases hq : bkF l a with
      | some i => exact .inl (key i hq).2
      | none => exact .inr rfl
    · cases ht

end Go.Ab
