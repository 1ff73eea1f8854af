/- Sentences stand in order: no program in sight. -/
import Derived.Test.Ytogmnhebobdokab42
import Derived.Test.YtogmnhebobdokabOrd
set_option linter.unusedVariables false
set_option linter.unusedSimpArgs false
namespace Go.Ab
open Go Go.RowKit

theorem colsTo_mem (s : ByteArray) (op : Bool) : ∀ i c, c ∈ (colsTo s op i).1 → c < i ∧ fullB s c = true
  | 0, c, h => by simp [colsTo] at h
  | i + 1, c, h => by
    have ih := colsTo_mem s op i c
    unfold colsTo at h
    split at h
    · rename_i hf
      dsimp only at h
      split at h
      · rcases List.mem_append.1 h with h | h
        · have := ih h; exact ⟨by omega, this.2⟩
        · simp at h; subst h; exact ⟨by omega, hf⟩
      · have := ih h; exact ⟨by omega, this.2⟩
    · have := ih h; exact ⟨by omega, this.2⟩
theorem colsTo_sorted (s : ByteArray) (op : Bool) : ∀ i, (colsTo s op i).1.Pairwise (· < ·)
  | 0 => List.Pairwise.nil
  | i + 1 => by
    have ih := colsTo_sorted s op i
    unfold colsTo
    split
    · dsimp only
      split
      · rw [List.pairwise_append]
        exact ⟨ih, List.pairwise_singleton _ _, fun a ha b hb => by simp at hb; subst hb; exact (colsTo_mem s op _ a ha).1⟩
      · exact ih
    · exact ih
theorem lineN_mem (l : List ByteArray) (k : Nat) (o : Bool) (p : Nat × Nat) (h : p ∈ (lineN l k o).1) : p.1 = k ∧ (p.2 < sz l k ∨ p.2 = 0 ∧ sz l k = 0) := by
  unfold lineN at h
  split at h
  · dsimp only at h
    split at h
    · simp at h; subst h; exact ⟨rfl, .inr ⟨rfl, by assumption⟩⟩
    · simp at h
  · simp at h
    obtain ⟨c, hc, rfl⟩ := h
    exact ⟨rfl, .inl (colsTo_mem _ _ _ c hc).1⟩
theorem lineN_sorted (l : List ByteArray) (k : Nat) (o : Bool) : (lineN l k o).1.Pairwise ltP := by
  unfold lineN
  split
  · dsimp only
    split
    · exact List.pairwise_singleton _ _
    · exact List.Pairwise.nil
  · rw [List.pairwise_map]
    exact (colsTo_sorted _ _ _).imp fun h => .inr ⟨rfl, h⟩
theorem sentTo_mem (l : List ByteArray) : ∀ k p, p ∈ (sentTo l k).1 → p.1 < k ∧ (p.2 < sz l p.1 ∨ p.2 = 0 ∧ sz l p.1 = 0)
  | 0, p, h => by simp [sentTo] at h
  | k + 1, p, h => by
    rw [sentTo] at h
    rcases List.mem_append.1 h with h | h
    · have := sentTo_mem l k p h; exact ⟨by omega, this.2⟩
    · have := lineN_mem l k _ p h
      obtain ⟨h1, h2⟩ := this
      rw [h1]
      exact ⟨by omega, h2⟩
theorem sentTo_sorted (l : List ByteArray) : ∀ k, (sentTo l k).1.Pairwise ltP
  | 0 => List.Pairwise.nil
  | k + 1 => by
    rw [sentTo, List.pairwise_append]
    exact ⟨sentTo_sorted l k, lineN_sorted l k _, fun a ha b hb => .inl (by have := (sentTo_mem l k a ha).1; have := (lineN_mem l k _ b hb).1; omega)⟩
theorem sentL_sorted (l : List ByteArray) : (sentL l).Pairwise ltP := sentTo_sorted l l.length
theorem sentL_mem {l : List ByteArray} {p : Nat × Nat} (h : p ∈ sentL l) : p.1 < l.length ∧ (p.2 < sz l p.1 ∨ p.2 = 0 ∧ sz l p.1 = 0) := sentTo_mem l l.length p h

theorem takeWhile_down {f : Nat × Nat → Bool} (hf : ∀ a b, ltP a b → f b = true → f a = true) : ∀ {L : List (Nat × Nat)}, L.Pairwise ltP → L.takeWhile f = L.filter f
  | [], _ => rfl
  | x :: L, h => by
    rw [List.pairwise_cons] at h
    rw [List.takeWhile_cons, List.filter_cons]
    cases hx : f x with
    | true => simp only [if_true]; rw [takeWhile_down hf h.2]
    | false =>
      simp only [Bool.false_eq_true, if_false]
      symm
      rw [List.filter_eq_nil_iff]
      intro a ha hfa
      rw [hf x a (h.1 a ha) hfa] at hx
      cases hx
theorem aheL_eq {L : List (Nat × Nat)} (h : L.Pairwise ltP) (p : Nat × Nat) : aheL L p = L.filter fun s => okB p s :=
  takeWhile_down (fun a b hab hb => lessI_ltP.2 (ltP_trans hab (lessI_ltP.1 hb))) h
theorem split_at {L : List (Nat × Nat)} {i : Nat} {p : Nat × Nat} (h : L[i]? = some p) : L = L.take i ++ p :: L.drop (i + 1) := by
  have hlt : i < L.length := by
    rcases Nat.lt_or_ge i L.length with g | g
    · exact g
    · rw [List.getElem?_eq_none g] at h; cases h
  rw [List.getElem?_eq_getElem hlt] at h
  simp at h
  rw [← h, List.getElem_cons_drop, List.take_append_drop]
theorem beh_at {L : List (Nat × Nat)} (hs : L.Pairwise ltP) {i : Nat} {p : Nat × Nat} (h : L[i]? = some p) : behL L p = L.drop (i + 1) := by
  have e := split_at h
  rw [e, List.pairwise_append, List.pairwise_cons] at hs
  obtain ⟨h1, ⟨h2, h3⟩, h4⟩ := hs
  have CW : (L.take i).filter (fun s => okF p s) = [] := by
    rw [List.filter_eq_nil_iff]
    intro a ha hf
    exact ltP_irrefl (ltP_trans (h4 a ha p (by simp)) (lessI_ltP.1 hf))
  have CX : (L.drop (i + 1)).filter (fun s => okF p s) = L.drop (i + 1) := by
    rw [List.filter_eq_self]
    intro a ha
    exact lessI_ltP.2 (h2 a ha)
  have CY : okF p p = false := by
    cases hq : okF p p with
    | false => rfl
    | true => exact (ltP_irrefl (lessI_ltP.1 hq)).elim
  have : behL (L.take i ++ p :: L.drop (i + 1)) p = L.drop (i + 1) := by
    unfold behL
    rw [List.filter_append, List.filter_cons, CW, CX, CY]
    simp
  rw [← e] at this
  exact this
theorem ahe_at {L : List (Nat × Nat)} (hs : L.Pairwise ltP) {i : Nat} {p : Nat × Nat} (h : L[i]? = some p) : aheL L p = L.take i := by
  rw [aheL_eq hs]
  have e := split_at h
  rw [e, List.pairwise_append, List.pairwise_cons] at hs
  obtain ⟨h1, ⟨h2, h3⟩, h4⟩ := hs
  have CW : (L.take i).filter (fun s => okB p s) = L.take i := by
    rw [List.filter_eq_self]
    intro a ha
    exact lessI_ltP.2 (h4 a ha p (by simp))
  have CX : (L.drop (i + 1)).filter (fun s => okB p s) = [] := by
    rw [List.filter_eq_nil_iff]
    intro a ha hf
    exact ltP_irrefl (ltP_trans (h2 a ha) (lessI_ltP.1 hf))
  have CY : okB p p = false := by
    cases hq : okB p p with
    | false => rfl
    | true => exact (ltP_irrefl (lessI_ltP.1 hq)).elim
  have : (L.take i ++ p :: L.drop (i + 1)).filter (fun s => okB p s) = L.take i := by
    rw [List.filter_append, List.filter_cons, CW, CX, CY]
    simp
  rw [← e] at this
  exact this

end Go.Ab
