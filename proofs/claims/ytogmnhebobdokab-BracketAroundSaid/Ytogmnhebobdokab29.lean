/- Pairs round a place, one in the other: no program in sight. -/
import Derived.Test.Ytogmnhebobdokab22
set_option linter.unusedVariables false
set_option linter.unusedSimpArgs false
namespace Go.Ab
open Go Go.RowKit

/-- Places, in the text's order. -/
def ltP (p q : Nat × Nat) : Prop := p.1 < q.1 ∨ p.1 = q.1 ∧ p.2 < q.2
def Byt (l : List ByteArray) (q : Nat × Nat) : Prop := q.2 < sz l q.1 ∧ q.1 < l.length
theorem ltP_trans {p q r : Nat × Nat} (h : ltP p q) (h' : ltP q r) : ltP p r := by unfold ltP at *; omega
theorem ltP_irrefl {p : Nat × Nat} (h : ltP p p) : False := by unfold ltP at h; omega
theorem ltP_total {p q : Nat × Nat} (h : ¬ ltP p q) : q = p ∨ ltP q p := by
  unfold ltP at *
  by_cases e : q = p
  · exact .inl e
  · right
    have : ¬ (q.1 = p.1 ∧ q.2 = p.2) := fun h => e (Prod.ext h.1 h.2)
    omega
theorem lessI_ltP {p q : Nat × Nat} : lessI p.1 p.2 q.1 q.2 = true ↔ ltP p q := by
  unfold lessI ltP
  by_cases h : p.1 < q.1
  · simp [h]
  · by_cases e : p.1 = q.1
    · simp [e]
    · have : ((p.1 : Int) == q.1) = false := by simp; omega
      simp [h, e, this]

theorem stepP_lt {l : List ByteArray} {p q : Nat × Nat} : stepP l true p = some q → ltP q p := by
  intro h
  simp only [stepP, if_true, prevP] at h
  unfold ltP
  split at h
  · simp at h; subst h; right; exact ⟨rfl, by dsimp only; omega⟩
  · obtain ⟨h1, h2⟩ := bckLine_spec h; left; exact h1
theorem stepP_gt {l : List ByteArray} {p q : Nat × Nat} : stepP l false p = some q → ltP p q := by
  intro h
  simp only [stepP, Bool.false_eq_true, if_false, nextP] at h
  unfold ltP
  split at h
  · simp at h; subst h; right; exact ⟨rfl, by dsimp only; omega⟩
  · obtain ⟨h1, h2, h3⟩ := fwdLine_spec h; left; omega
theorem fwdLine_le {l : List ByteArray} : ∀ {n k : Nat} {q r : Nat × Nat}, fwdLine l n k = some q → 0 < sz l r.1 → k ≤ r.1 → q.1 ≤ r.1
  | 0, k, q, r, h, _, _ => by simp [fwdLine] at h
  | n + 1, k, q, r, h, hr, hk => by
    unfold fwdLine at h
    split at h
    · simp at h; subst h; exact hk
    · rename_i h0
      exact fwdLine_le h hr (by
        rcases Nat.lt_or_ge k r.1 with h | h
        · exact h
        · obtain rfl : k = r.1 := by omega
          omega)
theorem fwdLine_none {l : List ByteArray} : ∀ {n k : Nat}, fwdLine l n k = none → ∀ j, k ≤ j → j < k + n → sz l j = 0
  | 0, k, _, j, h1, h2 => by omega
  | n + 1, k, h, j, h1, h2 => by
    unfold fwdLine at h
    split at h
    · cases h
    · rename_i h0
      rcases Nat.lt_or_ge k j with hj | hj
      · exact fwdLine_none h j hj (by omega)
      · obtain rfl : k = j := by omega
        omega
/-- No byte stands between a byte and the next. -/
theorem stepP_next {l : List ByteArray} {x q : Nat × Nat} (hx : ltP x q) (hq : Byt l q) : ∃ y, stepP l false x = some y ∧ ¬ ltP q y := by
  simp only [stepP, Bool.false_eq_true, if_false, nextP]
  obtain ⟨h1, h2⟩ := hq
  unfold ltP at hx ⊢
  split
  · exact ⟨_, rfl, by dsimp only; omega⟩
  · cases hf : fwdLine l (l.length - (x.1 + 1)) (x.1 + 1) with
    | none =>
      rcases hx with h | h
      · have := fwdLine_none hf q.1 (by omega) (by omega)
        omega
      · have e := h.1
        rw [← e] at h1
        omega
    | some y =>
      obtain ⟨g1, g2, g3⟩ := fwdLine_spec hf
      refine ⟨y, rfl, ?_⟩
      rcases hx with h | h
      · have := fwdLine_le hf (r := q) (by omega) (by omega)
        omega
      · have e := h.1
        rw [← e] at h1
        omega

theorem wUp_ge (up dn c : Int) : -1 ≤ wUp up dn c := by unfold wUp; split <;> (try split) <;> omega

/-- A scan stops no earlier than where it begins. -/
theorem scan_ge {l : List ByteArray} {up dn : Int} : ∀ {F : Nat} {x t : Nat × Nat} {d : Int}, scan l false up dn F (some x) d = some t → x = t ∨ ltP x t
  | 0, x, t, d, h => by simp [scan] at h
  | F + 1, x, t, d, h => by
    rw [scan] at h
    split at h
    · simp at h; exact .inl h
    · right
      cases hs : stepP l false x with
      | none => rw [hs, scan_none] at h; cases h
      | some y =>
        rw [hs] at h
        rcases scan_ge h with rfl | h
        · exact stepP_gt hs
        · exact ltP_trans (stepP_gt hs) h
/-- A scan that stops behind q comes by q. -/
theorem scan_by {l : List ByteArray} {up dn : Int} {q : Nat × Nat} (hq : Byt l q) : ∀ {F : Nat} {x t : Nat × Nat} {d : Int}, 0 < d → ¬ ltP q x → ¬ ltP t q → scan l false up dn F (some x) d = some t →
    ∃ F' d', 0 < d' ∧ scan l false up dn F' (some q) d' = some t
  | 0, x, t, d, hd, h1, h2, h => by simp [scan] at h
  | F + 1, x, t, d, hd, h1, h2, h => by
    rcases ltP_total h1 with rfl | hx
    · exact ⟨F + 1, d, hd, h⟩
    · rw [scan] at h
      have := wUp_ge up dn (byteAt l x.1 x.2)
      split at h
      · simp at h; subst h; exact absurd hx h2
      · obtain ⟨y, hy, hyq⟩ := stepP_next hx hq
        rw [hy] at h
        exact scan_by hq (by omega) hyq h2 h
/-- Deeper by e, a scan goes on behind where the other stops. -/
theorem scan_on {l : List ByteArray} {up dn : Int} {e : Int} (he : 0 < e) : ∀ {F F2 : Nat} {x t t' : Nat × Nat} {d : Int}, 0 < d → scan l false up dn F (some x) d = some t → scan l false up dn F2 (some x) (d + e) = some t' → ltP t t'
  | 0, F2, x, t, t', d, hd, h, h' => by simp [scan] at h
  | F + 1, 0, x, t, t', d, hd, h, h' => by simp [scan] at h'
  | F + 1, F2 + 1, x, t, t', d, hd, h, h' => by
    rw [scan] at h h'
    have := wUp_ge up dn (byteAt l x.1 x.2)
    split at h
    · rename_i h0
      simp at h; subst h
      rw [if_neg (by omega)] at h'
      cases hs : stepP l false x with
      | none => rw [hs, scan_none] at h'; cases h'
      | some y =>
        rw [hs] at h'
        rcases scan_ge h' with rfl | h'
        · exact stepP_gt hs
        · exact ltP_trans (stepP_gt hs) h'
    · rename_i h0
      rw [if_neg (by omega)] at h'
      cases hs : stepP l false x with
      | none => rw [hs, scan_none] at h; cases h
      | some y =>
        rw [hs] at h h'
        rw [show d + e + wUp up dn (byteAt l x.1 x.2) = (d + wUp up dn (byteAt l x.1 x.2)) + e by omega] at h'
        exact scan_on he (by omega) h h'

/-- Of two pairs of a kind round a place, the one that opens first closes last. -/
theorem other_nest {l : List ByteArray} {O : Int} (hO : kU O = true) {q q' t t' : Nat × Nat} (h1 : byteAt l q.1 q.2 = O) (h2 : byteAt l q'.1 q'.2 = O) (hq : Byt l q) (ho : otherP l q = some t) (ho' : otherP l q' = some t') (hlt : ltP q' q) (hle : ¬ ltP t' q) : ltP t t' := by
  have hk := (k_op hO).1
  have hB := (k_op hO).2
  have hne := k_ne hB
  unfold otherP at ho ho'
  rw [h1, hO, hk] at ho
  rw [h2, hO, hk] at ho'
  simp only [Bool.not_true, cond_true] at ho ho'
  obtain ⟨y', hy', hyq⟩ := stepP_next hlt hq
  rw [hy'] at ho'
  obtain ⟨F', d', hd', hs⟩ := scan_by hq (by decide) hyq hle ho'
  cases hs1 : stepP l false q with
  | none => rw [hs1, scan_none] at ho; cases ho
  | some y =>
    rw [hs1] at ho
    cases F' with
    | zero => simp [scan] at hs
    | succ F' =>
      rw [scan, h1] at hs
      have hw : wUp O (kC O) O = 1 := by simp [wUp]
      rw [hw, if_neg (by omega), hs1, Int.add_comm] at hs
      exact scan_on hd' (by decide) ho hs

theorem hit_some {l : List ByteArray} {O : Int} {p q t : Nat × Nat} (h : hit l O p q = some t) : byteAt l q.1 q.2 = O ∧ otherP l q = some t ∧ ¬ ltP t p := by
  unfold hit at h
  split at h
  · rename_i hb
    cases ho : otherP l q with
    | none => rw [ho] at h; cases h
    | some u =>
      rw [ho] at h
      dsimp only at h
      split at h
      · cases h
      · rename_i hl
        simp at h; subst h
        exact ⟨by simpa using hb, rfl, fun hlt => hl (lessI_ltP.2 hlt)⟩
  · cases h

theorem enc_some {l : List ByteArray} (hf : Fit l) {O : Int} {p : Nat × Nat} : ∀ {f : Nat} {o : Option (Nat × Nat)} {n : Int} {r : (Nat × Nat) × (Nat × Nat)}, (∀ q, o = some q → Byt l q) → enc l O p f o n = some r →
    Byt l r.1 ∧ hit l O p r.1 = some r.2 ∧ ∀ q, o = some q → ¬ ltP q r.1
  | 0, o, n, r, _, h => by simp [enc] at h
  | f + 1, none, n, r, _, h => by simp [enc] at h
  | f + 1, some q, n, r, ho, h => by
    have hq := ho q rfl
    rw [enc] at h
    have more : ∀ {m : Int}, enc l O p f (stepP l true q) m = some r → Byt l r.1 ∧ hit l O p r.1 = some r.2 ∧ ∀ q', some q = some q' → ¬ ltP q' r.1 := fun h => by
      obtain ⟨g1, g2, g3⟩ := enc_some hf (fun q' hq' => by
        obtain ⟨k1, k2, _⟩ := stepP_spec (l := l) (back := true) (p := q) hf (Nat.le_of_lt hq.1) hq.2 hq'
        exact ⟨k1, k2⟩) h
      refine ⟨g1, g2, fun q' e => ?_⟩
      simp at e; subst e
      cases hs : stepP l true q with
      | none => rw [hs, enc_none] at h; cases h
      | some y => exact fun hlt => g3 y hs (ltP_trans (stepP_lt hs) hlt)
    split at h
    · rename_i t ht
      split at h
      · simp at h; subst h
        exact ⟨hq, ht, fun q' e => by simp at e; subst e; exact ltP_irrefl⟩
      · exact more h
    · exact more h

/-- The next pair out: it begins earlier. -/
theorem enc_next {l : List ByteArray} (hf : Fit l) {O : Int} {p : Nat × Nat} : ∀ {f : Nat} {o : Option (Nat × Nat)} {n : Int} {r' : (Nat × Nat) × (Nat × Nat)}, 1 ≤ n → (∀ q, o = some q → Byt l q) → enc l O p f o (n + 1) = some r' →
    ∃ r, enc l O p f o n = some r ∧ ltP r'.1 r.1
  | 0, o, n, r', _, _, h => by simp [enc] at h
  | f + 1, none, n, r', _, _, h => by simp [enc] at h
  | f + 1, some q, n, r', hn, ho, h => by
    have hq := ho q rfl
    have hst : ∀ q', stepP l true q = some q' → Byt l q' := fun q' hq' => by
      obtain ⟨k1, k2, _⟩ := stepP_spec (l := l) (back := true) (p := q) hf (Nat.le_of_lt hq.1) hq.2 hq'
      exact ⟨k1, k2⟩
    rw [enc] at h ⊢
    split at h
    · rename_i t ht
      rw [if_neg (by omega), show n + 1 - 1 = n by omega] at h
      by_cases hn1 : n = 1
      · rw [if_pos hn1]
        refine ⟨_, rfl, ?_⟩
        obtain ⟨g1, g2, g3⟩ := enc_some hf hst h
        cases hs : stepP l true q with
        | none => rw [hs, enc_none] at h; cases h
        | some y =>
          dsimp only
          rcases ltP_total (g3 y hs) with e | hlt
          · rw [e]; exact stepP_lt hs
          · exact ltP_trans hlt (stepP_lt hs)
      · rw [if_neg hn1]
        obtain ⟨m, rfl⟩ : ∃ m, n = m + 1 := ⟨n - 1, by omega⟩
        rw [show m + 1 - 1 = m by omega]
        exact enc_next hf (by omega) hst h
    · exact enc_next hf hn hst h

theorem encStart_byt {l : List ByteArray} (hf : Fit l) {p : Nat × Nat} (h1 : p.2 ≤ sz l p.1) (h2 : p.1 < l.length) : ∀ q, encStart l p = some q → Byt l q := by
  intro q hq
  unfold encStart at hq
  split at hq
  · simp at hq; subst hq; exact ⟨by assumption, h2⟩
  · obtain ⟨k1, k2, _⟩ := stepP_spec (l := l) (back := true) (p := p) hf h1 h2 hq
    exact ⟨k1, k2⟩
theorem encStart_le {l : List ByteArray} {p : Nat × Nat} : ∀ q, encStart l p = some q → ¬ ltP p q := by
  intro q hq
  unfold encStart at hq
  split at hq
  · simp at hq; subst hq; exact ltP_irrefl
  · exact fun h => ltP_irrefl (ltP_trans h (stepP_lt hq))

/-- What is found round a place. -/
theorem encI_some {l : List ByteArray} (hf : Fit l) {a b O n : Int} {r : (Nat × Nat) × (Nat × Nat)} (h : encI l a b O n = some r) :
    kU O = true ∧ 1 ≤ n ∧ (∃ x y : Nat, a = x ∧ b = y ∧ ¬ ltP (x, y) r.1 ∧ ¬ ltP r.2 (x, y)) ∧ Byt l r.1 ∧ Byt l r.2 ∧ byteAt l r.1.1 r.1.2 = O ∧ byteAt l r.2.1 r.2.2 = kC O ∧ otherP l r.1 = some r.2 ∧ ltP r.1 r.2 := by
  unfold encI at h
  split at h
  · cases h
  · rename_i hbad
    have h1 : 1 ≤ n := by omega
    have h2 : kU O = true := by cases h : kU O <;> simp_all
    have h3 : placeB l a b = true := by cases h : placeB l a b <;> simp_all
    obtain ⟨x, y, rfl, rfl, hx, hy⟩ := placeB_spec h3
    simp only [Int.toNat_natCast, encP] at h
    obtain ⟨g1, g2, g3⟩ := enc_some hf (encStart_byt hf hy hx) h
    obtain ⟨e1, e2, e3⟩ := hit_some g2
    obtain ⟨k1, k2, k3, k4⟩ := otherP_back hf g1.1 g1.2 (by rw [e1]; exact (k_op h2).2) e2
    refine ⟨h2, h1, ⟨x, y, rfl, rfl, ?_, e3⟩, g1, k1, e1, ?_, e2, ?_⟩
    · cases hs : encStart l (x, y) with
      | none => rw [hs, enc_none] at h; cases h
      | some q0 =>
        intro hlt
        rcases ltP_total (g3 q0 hs) with e | hlt2
        · rw [e] at hlt; exact encStart_le q0 hs hlt
        · exact encStart_le q0 hs (ltP_trans hlt hlt2)
    · have hu := e2
      unfold otherP at hu
      rw [e1, h2, (k_op h2).1] at hu
      simp only [Bool.not_true, cond_true] at hu
      cases hs : stepP l false r.1 with
      | none => rw [hs, scan_none] at hu; cases hu
      | some z =>
        rw [hs] at hu
        obtain ⟨m1, m2, _⟩ := stepP_spec (l := l) (back := false) (p := r.1) hf (Nat.le_of_lt g1.1) g1.2 hs
        have hne := k_ne (k_op h2).2
        rw [(k_op h2).1] at hne
        exact (scan_back hf hne (by decide) m1 m2 hu).1.2.2
    · have hu := e2
      unfold otherP at hu
      rw [e1, h2, (k_op h2).1] at hu
      simp only [Bool.not_true, cond_true] at hu
      cases hs : stepP l false r.1 with
      | none => rw [hs, scan_none] at hu; cases hu
      | some z =>
        rw [hs] at hu
        rcases scan_ge hu with rfl | hu
        · exact stepP_gt hs
        · exact ltP_trans (stepP_gt hs) hu

/-- The next pair out holds the one ahead of it. -/
theorem encI_next {l : List ByteArray} (hf : Fit l) {a b O n : Int} (hn : 1 ≤ n) {r' : (Nat × Nat) × (Nat × Nat)} (h : encI l a b O (n + 1) = some r') : ∃ r, encI l a b O n = some r ∧ ltP r'.1 r.1 ∧ ltP r.2 r'.2 := by
  obtain ⟨h2, _, ⟨x, y, rfl, rfl, i1, i2⟩, v1, v2, b1, b2, o1, o2⟩ := encI_some hf h
  have hpl : placeB l x y = true := by
    unfold encI at h
    split at h
    · cases h
    · rename_i hbad; cases h : placeB l x y <;> simp_all
  obtain ⟨x', y', ex, ey, hx, hy⟩ := placeB_spec hpl
  obtain rfl : x = x' := by omega
  obtain rfl : y = y' := by omega
  have e : ∀ m : Int, 1 ≤ m → encI l x y O m = encP l O (x, y) m := fun m hm => by
    unfold encI
    rw [if_neg]
    · simp
    · rintro (h | h | h)
      · omega
      · rw [h2] at h; cases h
      · rw [hpl] at h; cases h
  rw [e _ (by omega)] at h
  obtain ⟨r, g1, g2⟩ := enc_next hf hn (encStart_byt hf hy hx) h
  have g3 : encI l x y O n = some r := (e n hn).trans g1
  refine ⟨r, g3, g2, ?_⟩
  obtain ⟨_, _, ⟨x', y', ex, ey, j1, j2⟩, w1, w2, c1, c2, p1, p2⟩ := encI_some hf g3
  obtain rfl : x = x' := by omega
  obtain rfl : y = y' := by omega
  refine other_nest h2 c1 b1 w1 p1 o1 g2 fun hlt => ?_
  rcases ltP_total j1 with e | hlt2
  · rw [e] at hlt; exact i2 hlt
  · exact i2 (ltP_trans hlt hlt2)

end Go.Ab
