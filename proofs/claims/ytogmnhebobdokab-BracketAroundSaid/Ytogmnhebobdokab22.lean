/- A bracket's other one's other one: no program in sight. -/
import Derived.Test.YtogmnhebobdokabPlace
set_option linter.unusedVariables false
set_option linter.unusedSimpArgs false
namespace Go.Ab
open Go Go.RowKit

theorem stepP_back {l : List ByteArray} : ∀ {back : Bool} {p q : Nat × Nat}, p.2 < sz l p.1 → stepP l back p = some q → stepP l (!back) q = some p := by
  have fwd : ∀ {n k : Nat} {a : Nat}, 0 < sz l a → a < k → (∀ j, a < j → j < k → sz l j = 0) → ∀ {q}, fwdLine l n k = some q → bckLine l q.1 = some (a, sz l a - 1) := by
    intro n
    induction n with
    | zero => intro k a _ _ _ q h; simp [fwdLine] at h
    | succ n ih =>
      intro k a ha hk hz q h
      unfold fwdLine at h
      split at h
      · simp at h; subst h
        have : ∀ m, a < m → m ≤ k → bckLine l m = some (a, sz l a - 1) := by
          intro m
          induction m with
          | zero => intro h; omega
          | succ m ihm =>
            intro h1 h2
            unfold bckLine
            by_cases e : m = a
            · subst e; rw [if_pos ha]
            · rw [if_neg (by have := hz m (by omega) (by omega); omega)]
              exact ihm (by omega) (by omega)
        exact this k hk (Nat.le_refl _)
      · rename_i h0
        exact ih ha (by omega) (fun j h1 h2 => by
          rcases Nat.lt_or_ge j k with h | h
          · exact hz j h1 h
          · obtain rfl : j = k := by omega
            omega) h
  have bck : ∀ {k : Nat} {a : Nat}, 0 < sz l a → k ≤ a → (∀ j, k ≤ j → j < a → sz l j = 0) → ∀ {q}, bckLine l k = some q → ∀ n, a < n + (q.1 + 1) → fwdLine l n (q.1 + 1) = some (a, 0) := by
    intro k
    induction k with
    | zero => intro a _ _ _ q h; simp [bckLine] at h
    | succ k ih =>
      intro a ha hk hz q h n hn
      unfold bckLine at h
      split at h
      · simp at h; subst h
        have : ∀ n m, m ≤ a → k < m → a < n + m → fwdLine l n m = some (a, 0) := by
          intro n
          induction n with
          | zero => intro m h1 h2 h3; omega
          | succ n ihn =>
            intro m h1 h2 h3
            unfold fwdLine
            by_cases e : m = a
            · subst e; rw [if_pos ha]
            · rw [if_neg (by have := hz m (by omega) (by omega); omega)]
              exact ihn (m + 1) (by omega) (by omega) (by omega)
        exact this n (k + 1) (by omega) (by omega) (by dsimp only at hn; omega)
      · rename_i h0
        exact ih ha (by omega) (fun j h1 h2 => by
          rcases Nat.lt_or_ge k j with h | h
          · exact hz j (by omega) h2
          · obtain rfl : j = k := by omega
            omega) h n hn
  intro back p q hp h
  obtain ⟨a, b⟩ := p
  cases back with
  | true =>
    simp only [stepP, if_true, prevP, Bool.not_true, Bool.false_eq_true, if_false] at h ⊢
    dsimp only at hp
    split at h
    · simp at h; subst h
      simp only [nextP, if_pos (show b - 1 + 1 < sz l a by omega)]
      simp; omega
    · obtain ⟨h1, h2⟩ := bckLine_spec h
      have := sz_len (l := l) (a := a) (by omega)
      rw [nextP, if_neg (by omega)]
      rw [bck (k := a) (a := a) (by omega) (Nat.le_refl _) (fun j h1 h2 => by omega) h _ (by omega)]
      simp; omega
  | false =>
    simp only [stepP, Bool.false_eq_true, if_false, nextP, Bool.not_false, if_true] at h ⊢
    dsimp only at hp
    split at h
    · simp at h; subst h
      simp [prevP]
    · have h0 := fwd (a := a) (by omega) (Nat.lt_succ_self _) (fun j h1 h2 => by omega) h
      obtain ⟨h1, h2, h3⟩ := fwdLine_spec h
      rw [h2, prevP, if_neg (by omega), h0]
      simp; omega

theorem scan_more {l : List ByteArray} (hf : Fit l) {back : Bool} {up dn : Int} : ∀ {n : Nat} {o : Option (Nat × Nat)} {d : Int}, (∀ q, o = some q → q.2 < sz l q.1 ∧ q.1 < l.length ∧ left l back q < n) → ∀ k, scan l back up dn (n + k) o d = scan l back up dn n o d
  | 0, none, d, h, k => by rw [scan_none, scan_none]
  | 0, some q, d, h, k => by have := (h q rfl).2.2; omega
  | n + 1, none, d, h, k => by rw [scan_none, scan_none]
  | n + 1, some q, d, h, k => by
    rw [show n + 1 + k = n + k + 1 by omega, scan, scan]
    split
    · rfl
    · exact scan_more hf (fun q' hq' => by
        obtain ⟨g1, g2, g3⟩ := h q rfl
        obtain ⟨k1, k2, k3⟩ := stepP_spec (l := l) (back := back) (p := q) hf (Nat.le_of_lt g1) g2 hq'
        exact ⟨k1, k2, by omega⟩) k

theorem wUp_neg {up dn : Int} (h : up ≠ dn) (c : Int) : wUp dn up c = - wUp up dn c := by
  unfold wUp
  by_cases h1 : c = up <;> by_cases h2 : c = dn <;> simp_all

/-- The way back of a scan. -/
theorem scan_back {l : List ByteArray} (hf : Fit l) {back : Bool} {up dn : Int} (hne : up ≠ dn) : ∀ {n : Nat} {x q : Nat × Nat} {d : Int}, 0 < d → x.2 < sz l x.1 → x.1 < l.length → scan l back up dn n (some x) d = some q →
    (q.2 < sz l q.1 ∧ q.1 < l.length ∧ byteAt l q.1 q.2 = dn) ∧ ∃ k, ∀ m, scan l (!back) dn up (m + k) (stepP l (!back) q) 1 = scan l (!back) dn up m (stepP l (!back) x) d
  | 0, x, q, d, hd, h1, h2, h => by simp [scan] at h
  | n + 1, x, q, d, hd, h1, h2, h => by
    rw [scan] at h
    have hw : -1 ≤ wUp up dn (byteAt l x.1 x.2) := by unfold wUp; split <;> (try split) <;> omega
    split at h
    · rename_i h0
      simp at h; subst h
      have : d = 1 := by omega
      subst this
      refine ⟨⟨h1, h2, ?_⟩, 0, fun m => rfl⟩
      unfold wUp at h0
      split at h0
      · omega
      · split at h0
        · assumption
        · omega
    · rename_i h0
      cases hs : stepP l back x with
      | none => rw [hs, scan_none] at h; cases h
      | some x' =>
        rw [hs] at h
        obtain ⟨g1, g2, g3⟩ := stepP_spec (l := l) (back := back) (p := x) hf (Nat.le_of_lt h1) h2 hs
        obtain ⟨e1, k, e2⟩ := scan_back hf hne (by omega) g1 g2 h
        refine ⟨e1, k + 1, fun m => ?_⟩
        rw [show m + (k + 1) = m + 1 + k by omega, e2 (m + 1), stepP_back h1 hs, scan, wUp_neg hne, if_neg (by omega)]
        congr 1
        omega

theorem k_dn {c : Int} (h : kB c = true) : let e := bif kU c then kC c else kO c
    kB e = true ∧ kU e = !kU c ∧ (bif !kU c then kO e else kC e) = e ∧ (bif !kU c then kC e else kO e) = c := by
  simp [kB] at h
  rcases h with (h | h) | (h | h) | (h | h) <;> subst h <;> decide

theorem otherP_back {l : List ByteArray} (hf : Fit l) {p q : Nat × Nat} (hp : p.2 < sz l p.1) (hl : p.1 < l.length) (hB : kB (byteAt l p.1 p.2) = true) (h : otherP l p = some q) :
    (q.2 < sz l q.1 ∧ q.1 < l.length) ∧ kB (byteAt l q.1 q.2) = true ∧ otherP l q = some p ∧ q ≠ p := by
  unfold otherP at h
  cases hs : stepP l (!kU (byteAt l p.1 p.2)) p with
  | none => rw [hs, scan_none] at h; cases h
  | some x =>
    rw [hs] at h
    have hne : (bif kU (byteAt l p.1 p.2) then kO (byteAt l p.1 p.2) else kC (byteAt l p.1 p.2)) ≠ (bif kU (byteAt l p.1 p.2) then kC (byteAt l p.1 p.2) else kO (byteAt l p.1 p.2)) := by
      have := k_ne hB
      cases kU (byteAt l p.1 p.2) <;> simp <;> omega
    obtain ⟨g1, g2, g3⟩ := stepP_spec (l := l) (p := p) hf (Nat.le_of_lt hp) hl hs
    obtain ⟨⟨e1, e2, e3⟩, k, e4⟩ := scan_back hf hne (by decide) g1 g2 h
    obtain ⟨k1, k2, k3, k4⟩ := k_dn hB
    have hup := k_up hB
    refine ⟨⟨e1, e2⟩, by rw [e3]; exact k1, ?_, fun e => ?_⟩
    · unfold otherP
      rw [e3, k2, k3, k4]
      have hsc : ∀ m, scan l (!!kU (byteAt l p.1 p.2)) (bif kU (byteAt l p.1 p.2) then kC (byteAt l p.1 p.2) else kO (byteAt l p.1 p.2)) (byteAt l p.1 p.2) (m + 1 + k) (stepP l (!!kU (byteAt l p.1 p.2)) q) 1 = some p := by
        intro m
        have := e4 (m + 1)
        rw [← hup] at this
        rw [this, stepP_back hp hs, scan]
        rw [← hup] at hne
        rw [wUp_neg hne, if_pos]
        simp [wUp]
      rw [← scan_more hf (n := left l (!!kU (byteAt l p.1 p.2)) q + 1) (fun q' hq' => by
        obtain ⟨k1, k2, k3⟩ := stepP_spec (l := l) (p := q) hf (Nat.le_of_lt e1) e2 hq'
        exact ⟨k1, k2, by omega⟩) (1 + k)]
      rw [show left l (!!kU (byteAt l p.1 p.2)) q + 1 + (1 + k) = left l (!!kU (byteAt l p.1 p.2)) q + 1 + 1 + k by omega]
      exact hsc _
    · rw [e] at e3
      rw [← hup] at hne
      exact hne e3

theorem firstB_spec {l : List ByteArray} {a : Nat} : ∀ {n b c : Nat}, firstB l a n b = some c → c < sz l a ∧ kB (byteAt l a c) = true
  | 0, b, c, h => by simp [firstB] at h
  | n + 1, b, c, h => by
    unfold firstB at h
    split at h
    · split at h
      · simp at h; subst h; exact ⟨by assumption, by assumption⟩
      · exact firstB_spec h
    · cases h

theorem matchI_at {l : List ByteArray} (hf : Fit l) {p : Nat × Nat} (hp : p.2 < sz l p.1) (hl : p.1 < l.length) (hB : kB (byteAt l p.1 p.2) = true) : matchI l p.1 p.2 = otherP l p := by
  have h1 : placeB l p.1 p.2 = true := by
    have := hf.2 p.1
    simp only [placeB, Int.toNat_natCast, fold_sz]
    simp
    omega
  have := hf.2 p.1
  obtain ⟨n, hn⟩ : ∃ n, 1202 - p.2 = n + 1 := ⟨1201 - p.2, by omega⟩
  unfold matchI
  rw [h1]
  simp only [cond_true, matchP, Int.toNat_natCast]
  rw [hn, firstB, if_pos hp, if_pos hB]
  rfl

/-- A match's match's match is the match. -/
theorem matchI_back {l : List ByteArray} (hf : Fit l) {a b : Int} {m : Nat × Nat} (h : matchI l a b = some m) : ∃ p, matchI l m.1 m.2 = some p ∧ matchI l p.1 p.2 = some m ∧ p ≠ m := by
  unfold matchI at h
  cases hpl : placeB l a b with
  | false => rw [hpl] at h; simp at h
  | true =>
    rw [hpl] at h
    obtain ⟨a, b, rfl, rfl, ha, hb⟩ := placeB_spec hpl
    simp only [cond_true, matchP, Int.toNat_natCast] at h
    cases hfb : firstB l a (1202 - b) b with
    | none => rw [hfb] at h; simp at h
    | some c =>
      rw [hfb] at h
      simp only [Option.bind_some] at h
      obtain ⟨h1, h2⟩ := firstB_spec hfb
      obtain ⟨⟨e1, e2⟩, e3, e4, e5⟩ := otherP_back hf (p := (a, c)) h1 ha h2 h
      exact ⟨(a, c), by rw [matchI_at hf e1 e2 e3]; exact e4, by rw [matchI_at hf (p := (a, c)) h1 ha h2]; exact h, fun e => e5 e.symm⟩

end Go.Ab
