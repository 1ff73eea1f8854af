/- The law ParaSentence, walked. -/
import Derived.Test.YtogmnhebobdokacK18
import Derived.Test.Ytogmnhebobdokac17
set_option linter.unusedVariables false
set_option linter.unusedSimpArgs false
namespace Go.Ab
open Go Go.RowKit Go.Proofs

theorem fold_spec {l : List ByteArray} {F T : Nat × Nat} : ∀ {cs : List (Nat × Nat)} {e : Nat × Nat}, cs.foldl (stpE l F T) e = e ∨ ∃ s ∈ cs, okC l F T s = true ∧ cs.foldl (stpE l F T) e = (s.1, s.2 + 1)
  | [], e => .inl rfl
  | c :: cs, e => by
    rw [List.foldl_cons]
    rcases fold_spec (l := l) (F := F) (T := T) (cs := cs) (e := stpE l F T e c) with h | ⟨s, hs, h1, h2⟩
    · rw [h]
      unfold stpE
      cases hc : okC l F T c with
      | true => exact .inr ⟨c, by simp, hc, by rw [if_pos rfl]⟩
      | false => exact .inl (by rw [if_neg (by simp)])
    · exact .inr ⟨s, by simp [hs], h1, h2⟩
theorem okC_spec {l : List ByteArray} {F T s : Nat × Nat} (h : okC l F T s = true) : (clsI (byteAt l s.1 s.2) true != 0) = true ∧ lessI s.1 s.2 F.1 F.2 = false ∧ lessI s.1 s.2 T.1 T.2 = true := by
  unfold okC at h
  cases h1 : (clsI (byteAt l s.1 s.2) true != 0) <;> cases h2 : lessI s.1 s.2 F.1 F.2 <;> cases h3 : lessI s.1 s.2 T.1 T.2 <;> rw [h1, h2, h3] at h <;> simp at h ⊢
/-- Around: no place of the sentence's is outside it; inner: it ends behind a byte that is none. -/
theorem sentR_none {l : List ByteArray} {a b : Int} (h : sentRI l true a b = none) : sentRI l false a b = none := by
  unfold sentRI at h ⊢
  by_cases hon : onB l a b = true
  · rw [if_pos hon] at h ⊢
    unfold sentR sentF at h ⊢
    simp only [if_true] at h
    simp only [Bool.false_eq_true, if_false]
    generalize fromP (sentL l) _ = F at *
    generalize fndB _ = B at *
    generalize (sentL l).getD _ _ = T at *
    by_cases hc : B = false ∨ F = T
    · rcases hc with hc | hc
      · exact if_pos (.inl hc)
      · refine if_pos (.inr ?_)
        subst hc
        rcases fold_spec (l := l) (F := F) (T := F) (cs := cellL l) (e := F) with g | ⟨s, _, g, _⟩
        · exact g.symm
        · obtain ⟨_, g2, g3⟩ := okC_spec g
          rw [g2] at g3; cases g3
    · rw [if_neg hc] at h; cases h
  · rw [if_neg hon]
theorem sentR_some {l : List ByteArray} {x y : Nat} {F T : Nat × Nat} (hx : x < l.length) (hy : y ≤ sz l x) (h : sentRI l true x y = some (F, T)) : lessI x y F.1 F.2 = false ∧ lessI T.1 T.2 x y = false ∧
    (sentRI l false x y = none ∨ ∃ s : Nat × Nat, sentRI l false x y = some (F, (s.1, s.2 + 1)) ∧ s.1 < l.length ∧ s.2 < sz l s.1 ∧ lessI T.1 T.2 s.1 (s.2 + 1 : Nat) = false ∧ (clsI (byteAt l s.1 s.2) true != 0) = true) := by
  unfold sentRI at h ⊢
  split at h
  · rename_i hon
    rw [if_pos hon]
    simp only [Int.toNat_natCast] at h ⊢
    have hcl := cntN_le (sentL l) (x, y)
    have hp : ∀ q : Nat × Nat, ltP q (x, y) → lessI x y q.1 q.2 = false := fun q hq => by
      cases hh : lessI x y q.1 q.2 with
      | false => rfl
      | true => exact (ltP_irrefl (ltP_trans hq (lessI_ltP (p := (x, y)).1 hh))).elim
    have key : ∀ i, i = cntN (sentL l) (x, y) → (i ≠ 0 → lessI x y (fromP (sentL l) i).1 (fromP (sentL l) i).2 = false) ∧ lessI ((sentL l).getD i (endP l)).1 ((sentL l).getD i (endP l)).2 x y = false := by
      intro i hi
      constructor
      · intro h0
        obtain ⟨j, rfl⟩ : ∃ j, i = j + 1 := ⟨i - 1, by omega⟩
        obtain ⟨s, hs⟩ : ∃ s, (sentL l)[j]? = some s := ⟨_, List.getElem?_eq_getElem (by omega)⟩
        have := cntN_in (p := (x, y)) hs (by omega)
        rw [fromP, List.getD_eq_getElem?_getD, hs]
        exact this
      · by_cases hlt : i < (sentL l).length
        · obtain ⟨s, hs⟩ : ∃ s, (sentL l)[i]? = some s := ⟨_, List.getElem?_eq_getElem hlt⟩
          have hk : okF (x, y) s = true := by
            have h5 : ∀ (M : List (Nat × Nat)) (u : Nat × Nat), M[(M.takeWhile fun s => !okF (x, y) s).length]? = some u → okF (x, y) u = true := by
              intro M
              induction M with
              | nil => intro u hu; simp at hu
              | cons a M ih =>
                intro u hu
                rw [List.takeWhile_cons] at hu
                cases ha : okF (x, y) a with
                | true => rw [ha] at hu; simp at hu; subst hu; exact ha
                | false => rw [ha] at hu; simp at hu; exact ih u hu
            exact h5 (sentL l) s (by rw [← hs, hi]; rfl)
          rw [List.getD_eq_getElem?_getD, hs]
          show lessI s.1 s.2 x y = false
          cases hh : lessI s.1 s.2 x y with
          | false => rfl
          | true => exact (ltP_irrefl (ltP_trans (lessI_ltP (q := (x, y)).1 hh) (lessI_ltP (p := (x, y)).1 hk))).elim
        · rw [List.getD_eq_getElem?_getD, List.getElem?_eq_none (by omega)]
          show lessI (endP l).1 (endP l).2 x y = false
          cases hh : lessI (endP l).1 (endP l).2 x y with
          | false => rfl
          | true =>
            have := lessI_ltP (q := (x, y)).1 hh
            unfold ltP endP at this
            dsimp only at this
            rcases this with g | ⟨g, g'⟩
            · omega
            · rw [g] at g'; omega
    obtain ⟨k1, k2⟩ := key _ rfl
    unfold sentR sentF at h ⊢
    simp only [if_true] at h
    simp only [Bool.false_eq_true, if_false]
    have hB : fndB (cntN (sentL l) (x, y)) = false ∨ cntN (sentL l) (x, y) ≠ 0 := by
      cases cntN (sentL l) (x, y) with
      | zero => exact .inl rfl
      | succ n => exact .inr (by simp)
    generalize fromP (sentL l) _ = F' at *
    generalize fndB _ = B at *
    generalize (sentL l).getD _ _ = T' at *
    split at h
    · cases h
    · rename_i hc
      simp at h
      obtain ⟨rfl, rfl⟩ := h
      have hB' : B = true := by cases B with
        | true => rfl
        | false => exact (hc (.inl rfl)).elim
      subst hB'
      have hn : cntN (sentL l) (x, y) ≠ 0 := by
        rcases hB with g | g
        · cases g
        · exact g
      refine ⟨k1 hn, k2, ?_⟩
      rcases fold_spec (l := l) (F := F') (T := T') (cs := cellL l) (e := F') with g | ⟨s, hs, g, ge⟩
      · left
        rw [if_pos (.inr g.symm)]
      · by_cases he : F' = endE l F' T' (cellL l)
        · left; rw [if_pos (.inr he)]
        · right
          obtain ⟨g1, g2, g3⟩ := okC_spec g
          have hm := cellTo_mem l _ s hs
          refine ⟨s, ?_, hm.1, hm.2, ?_, g1⟩
          · rw [if_neg (fun g => by rcases g with g | g; cases g; exact he g)]
            show some (F', endE l F' T' (cellL l)) = _
            rw [show endE l F' T' (cellL l) = (s.1, s.2 + 1) from ge]
          · have h3 := lessI_ltP.1 g3
            cases hh : lessI T'.1 T'.2 s.1 (s.2 + 1 : Nat) with
            | false => rfl
            | true =>
              have := lessI_ltP (q := (s.1, s.2 + 1)).1 hh
              unfold ltP at this h3
              dsimp only at this
              omega
  · cases h

end Go.Ab
