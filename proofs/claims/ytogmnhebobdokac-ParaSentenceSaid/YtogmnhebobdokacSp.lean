/- Sentences stand in order, one behind another: no program in sight. -/
import Derived.Test.Ytogmnhebobdokac37
import Derived.Test.YtogmnhebobdokacOrd
set_option linter.unusedVariables false
set_option linter.unusedSimpArgs false
namespace Go.Ab
open Go Go.RowKit Go.Proofs

theorem colsTo_mem (s : ByteArray) (op : Bool) : ∀ i c, c ∈ (colsTo s op i).1 → c < i ∧ fullB s c = true
  | 0, c, h => by simp [colsTo] at h
  | i + 1, c, h => by
    have ih := colsTo_mem s op i c
    unfold colsTo at h
    split at h
    · rename_i hf
      dsimp only at h
      split at h
      · rcases List.mem_append.1 h with h | h
        · have := ih h; exact ⟨by omega, this.2⟩
        · simp at h; subst h; exact ⟨by omega, hf⟩
      · have := ih h; exact ⟨by omega, this.2⟩
    · have := ih h; exact ⟨by omega, this.2⟩
theorem colsTo_sorted (s : ByteArray) (op : Bool) : ∀ i, (colsTo s op i).1.Pairwise (· < ·)
  | 0 => List.Pairwise.nil
  | i + 1 => by
    have ih := colsTo_sorted s op i
    unfold colsTo
    split
    · dsimp only
      split
      · rw [List.pairwise_append]
        exact ⟨ih, List.pairwise_singleton _ _, fun a ha b hb => by simp at hb; subst hb; exact (colsTo_mem s op _ a ha).1⟩
      · exact ih
    · exact ih
theorem lineN_mem (l : List ByteArray) (k : Nat) (o : Bool) (p : Nat × Nat) (h : p ∈ (lineN l k o).1) : p.1 = k ∧ (p.2 < sz l k ∨ p.2 = 0 ∧ sz l k = 0) := by
  unfold lineN at h
  split at h
  · dsimp only at h
    split at h
    · simp at h; subst h; exact ⟨rfl, .inr ⟨rfl, by assumption⟩⟩
    · simp at h
  · simp at h
    obtain ⟨c, hc, rfl⟩ := h
    exact ⟨rfl, .inl (colsTo_mem _ _ _ c hc).1⟩
theorem lineN_sorted (l : List ByteArray) (k : Nat) (o : Bool) : (lineN l k o).1.Pairwise ltP := by
  unfold lineN
  split
  · dsimp only
    split
    · exact List.pairwise_singleton _ _
    · exact List.Pairwise.nil
  · rw [List.pairwise_map]
    exact (colsTo_sorted _ _ _).imp fun h => .inr ⟨rfl, h⟩
theorem sentTo_mem (l : List ByteArray) : ∀ k p, p ∈ (sentTo l k).1 → p.1 < k ∧ (p.2 < sz l p.1 ∨ p.2 = 0 ∧ sz l p.1 = 0)
  | 0, p, h => by simp [sentTo] at h
  | k + 1, p, h => by
    rw [sentTo] at h
    rcases List.mem_append.1 h with h | h
    · have := sentTo_mem l k p h; exact ⟨by omega, this.2⟩
    · have := lineN_mem l k _ p h
      obtain ⟨h1, h2⟩ := this
      rw [h1]
      exact ⟨by omega, h2⟩
theorem sentTo_sorted (l : List ByteArray) : ∀ k, (sentTo l k).1.Pairwise ltP
  | 0 => List.Pairwise.nil
  | k + 1 => by
    rw [sentTo, List.pairwise_append]
    exact ⟨sentTo_sorted l k, lineN_sorted l k _, fun a ha b hb => .inl (by have := (sentTo_mem l k a ha).1; have := (lineN_mem l k _ b hb).1; omega)⟩
theorem sentL_sorted (l : List ByteArray) : (sentL l).Pairwise ltP := sentTo_sorted l l.length
theorem sentL_mem {l : List ByteArray} {p : Nat × Nat} (h : p ∈ sentL l) : p.1 < l.length ∧ (p.2 < sz l p.1 ∨ p.2 = 0 ∧ sz l p.1 = 0) := sentTo_mem l l.length p h

theorem takeWhile_down {f : Nat × Nat → Bool} (hf : ∀ a b, ltP a b → f b = true → f a = true) : ∀ {L : List (Nat × Nat)}, L.Pairwise ltP → L.takeWhile f = L.filter f
  | [], _ => rfl
  | x :: L, h => by
    rw [List.pairwise_cons] at h
    rw [List.takeWhile_cons, List.filter_cons]
    cases hx : f x with
    | true => simp only [if_true]; rw [takeWhile_down hf h.2]
    | false =>
      simp only [Bool.false_eq_true, if_false]
      symm
      rw [List.filter_eq_nil_iff]
      intro a ha hfa
      rw [hf x a (h.1 a ha) hfa] at hx
      cases hx

end Go.Ab
