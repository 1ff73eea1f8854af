/- Contracts: the sentence that a place is in, as the document says. -/
import Derived.Test.YtogmnhebobdokabSe
import Derived.Test.Ytogmnhebobdokab47
import Derived.Test.YtogmnhebobdokabRw
set_option linter.unusedVariables false
set_option linter.unusedSimpArgs false
namespace Go.Ab
open Go Go.RowKit Go.Proofs

def lastC (L : List (Nat × Nat)) (p : Nat × Nat) : Nat → Nat
  | 0 => 0
  | i + 1 => if okF p (L.getD i (0, 0)) = true then lastC L p i else i + 1
theorem lastC_eq {L : List (Nat × Nat)} (hs : L.Pairwise ltP) {p : Nat × Nat} : ∀ n, n ≤ L.length → lastC L p n = min n (cntN L p)
  | 0, _ => by simp [lastC]
  | n + 1, h => by
    have ih := lastC_eq hs (p := p) n (by omega)
    obtain ⟨s, hn⟩ : ∃ s, L[n]? = some s := ⟨_, List.getElem?_eq_getElem h⟩
    have hd : L.getD n (0, 0) = s := by rw [List.getD_eq_getElem?_getD, hn]; rfl
    unfold lastC
    rw [hd]
    by_cases hc : n < cntN L p
    · rw [cntN_in hn hc, if_neg (by simp)]; omega
    · have hk : okF p s = true := by
        have hlt : cntN L p < L.length := by omega
        obtain ⟨t, ht⟩ : ∃ t, L[cntN L p]? = some t := ⟨_, List.getElem?_eq_getElem hlt⟩
        have h1 : okF p t = true := by
          cases h1 : okF p t with
          | true => rfl
          | false =>
            have h3 : ∀ u ∈ L.take (cntN L p), okF p u = false := fun u hu => by
              obtain ⟨i, hi, rfl⟩ := List.getElem_of_mem hu
              rw [List.length_take] at hi
              exact cntN_in (L := L) (i := i) (by rw [List.getElem_take, List.getElem?_eq_getElem]) (by omega)
            have h2 : (L.takeWhile fun s => !okF p s) = L.take (cntN L p) := (List.prefix_iff_eq_take.1 (List.takeWhile_prefix _))
            have h4 : (L.takeWhile fun s => !okF p s) <+: L := List.takeWhile_prefix _
            have h5 : ∀ (M : List (Nat × Nat)) (u : Nat × Nat), M[(M.takeWhile fun s => !okF p s).length]? = some u → okF p u = true := by
              intro M
              induction M with
              | nil => intro u hu; simp at hu
              | cons a M ih =>
                intro u hu
                rw [List.takeWhile_cons] at hu
                cases ha : okF p a with
                | true => rw [ha] at hu; simp at hu; subst hu; exact ha
                | false => rw [ha] at hu; simp at hu; exact ih u hu
            have := h5 L t ht
            rw [h1] at this; cases this
        by_cases e : cntN L p = n
        · rw [e] at ht; rw [hn] at ht; simp at ht; subst ht; exact h1
        · have hg := List.pairwise_iff_getElem.1 hs (cntN L p) n hlt h (by omega)
          rw [(List.getElem?_eq_some_iff.1 ht).2, (List.getElem?_eq_some_iff.1 hn).2] at hg
          exact lessI_ltP.2 (ltP_trans (lessI_ltP.1 h1) hg)
      rw [hk, if_pos rfl, ih]; omega

def cel2 (l : List ByteArray) (y x : Nat) : List (Nat × Nat) := cellTo l y ++ (List.range x).map fun j => (y, j)
theorem cel2_zero (l : List ByteArray) (y : Nat) : cel2 l y 0 = cellTo l y := by simp [cel2]
theorem cel2_full (l : List ByteArray) (y : Nat) : cel2 l y (sz l y) = cellTo l (y + 1) := rfl
theorem endE_cel2 (l : List ByteArray) (F T : Nat × Nat) (y x : Nat) : endE l F T (cel2 l y (x + 1)) = stpE l F T (endE l F T (cel2 l y x)) (y, x) := by
  simp [endE, cel2, List.range_succ]
theorem fold_idle {l : List ByteArray} {F T : Nat × Nat} : ∀ {L : List (Nat × Nat)} {e : Nat × Nat}, (∀ s ∈ L, okC l F T s = false) → L.foldl (stpE l F T) e = e
  | [], e, _ => rfl
  | s :: L, e, h => by
    rw [List.foldl_cons, fold_idle (fun t ht => h t (by simp [ht]))]
    unfold stpE
    rw [h s (by simp)]; rfl
theorem endE_before (l : List ByteArray) (F T : Nat × Nat) : endE l F T (cellTo l F.1) = F := by
  refine fold_idle fun s hs => ?_
  have h1 : lessI s.1 s.2 F.1 F.2 = true := lessI_ltP.2 (.inl (cellTo_mem l _ s hs).1)
  unfold okC
  rw [h1]
  cases (clsI (byteAt l s.1 s.2) true != 0) <;> rfl
theorem cellTo_from (l : List ByteArray) (k : Nat) : ∀ n, k ≤ n → ∃ r, cellTo l n = cellTo l k ++ r ∧ ∀ s ∈ r, k ≤ s.1 := by
  intro n
  induction n with
  | zero => intro h; obtain rfl : k = 0 := by omega
            exact ⟨[], by simp, by simp⟩
  | succ n ih =>
    intro h
    by_cases e : k = n + 1
    · subst e; exact ⟨[], by simp, by simp⟩
    · obtain ⟨r, hr, hm⟩ := ih (by omega)
      refine ⟨r ++ (List.range (sz l n)).map fun j => (n, j), by rw [cellTo, hr, List.append_assoc], fun s hs => ?_⟩
      rcases List.mem_append.1 hs with hs | hs
      · exact hm s hs
      · simp at hs
        obtain ⟨j, hj, rfl⟩ := hs
        show k ≤ n; omega
theorem endE_after (l : List ByteArray) (F T : Nat × Nat) (hT : T.1 < l.length) : endE l F T (cellTo l (T.1 + 1)) = endE l F T (cellL l) := by
  obtain ⟨r, hr, hm⟩ := cellTo_from l (T.1 + 1) l.length (by omega)
  unfold cellL
  rw [hr]
  unfold endE
  rw [List.foldl_append, fold_idle (L := r) fun s hs => ?_]
  have h1 : lessI s.1 s.2 T.1 T.2 = false := by
    cases h1 : lessI s.1 s.2 T.1 T.2 with
    | false => rfl
    | true =>
      have h2 := lessI_ltP.1 h1
      have := hm s hs
      unfold ltP at h2; omega
  unfold okC
  rw [h1]
  cases (clsI (byteAt l s.1 s.2) true != 0) <;> cases lessI s.1 s.2 F.1 F.2 <;> rfl

end Go.Ab
