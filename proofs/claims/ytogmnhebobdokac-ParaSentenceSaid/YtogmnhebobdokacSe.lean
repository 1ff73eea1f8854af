/- The sentence that a place is in: no program in sight. -/
import Derived.Test.YtogmnhebobdokacSp
import Derived.Test.YtogmnhebobdokacPr
import Derived.Test.Ytogmnhebobdokac60
import Derived.Test.YtogmnhebobdokacBy
set_option linter.unusedVariables false
set_option linter.unusedSimpArgs false
namespace Go.Ab
open Go Go.RowKit

/-- How many sentences don't begin behind p. -/
def cntN (L : List (Nat × Nat)) (p : Nat × Nat) : Nat := (L.takeWhile fun s => !okF p s).length
theorem cntN_le (L : List (Nat × Nat)) (p : Nat × Nat) : cntN L p ≤ L.length := (List.takeWhile_prefix _).length_le
theorem cntN_eq {L : List (Nat × Nat)} {p s : Nat × Nat} {i : Nat} (h1 : ∀ t ∈ L.take i, okF p t = false) (hs : L[i]? = some s) (h2 : okF p s = true) : cntN L p = i := by
  have hlt := (List.getElem?_eq_some_iff.1 hs).1
  unfold cntN
  rw [takeWhile_take (i := i) (fun t ht => by rw [h1 t ht]; rfl) (fun t ht => by rw [hs] at ht; simp at ht; subst ht; rw [h2]; rfl), List.length_take]
  omega
theorem cntN_all {L : List (Nat × Nat)} {p : Nat × Nat} (h1 : ∀ t ∈ L, okF p t = false) : cntN L p = L.length := by
  unfold cntN
  rw [takeWhile_take (i := L.length) (fun t ht => by rw [h1 t (List.mem_of_mem_take ht)]; rfl) (fun t ht => by simp at ht), List.length_take]
  omega
theorem cntN_in {p s : Nat × Nat} : ∀ {L : List (Nat × Nat)} {i : Nat}, L[i]? = some s → i < cntN L p → okF p s = false
  | [], i, hs, _ => by simp at hs
  | x :: L, i, hs, hi => by
    unfold cntN at hi
    rw [List.takeWhile_cons] at hi
    cases hx : okF p x with
    | true => rw [hx] at hi; simp at hi
    | false =>
      rw [hx] at hi
      cases i with
      | zero => simp at hs; subst hs; exact hx
      | succ i => exact cntN_in (L := L) (i := i) (by simpa using hs) (by unfold cntN; simp at hi ⊢; omega)

def fromP (L : List (Nat × Nat)) : Nat → Nat × Nat
  | 0 => (0, 0)
  | i + 1 => L.getD i (0, 0)
def fndB : Nat → Bool
  | 0 => false
  | _ + 1 => true
def okC (l : List ByteArray) (F T s : Nat × Nat) : Bool := bif clsI (byteAt l s.1 s.2) true != 0 then (bif !lessI s.1 s.2 F.1 F.2 then lessI s.1 s.2 T.1 T.2 else false) else false
def stpE (l : List ByteArray) (F T e s : Nat × Nat) : Nat × Nat := if okC l F T s = true then (s.1, s.2 + 1) else e
def endE (l : List ByteArray) (F T : Nat × Nat) (cs : List (Nat × Nat)) : Nat × Nat := cs.foldl (stpE l F T) F
def sentF (l : List ByteArray) (ar : Bool) (F : Nat × Nat) (B : Bool) (T : Nat × Nat) : Option ((Nat × Nat) × (Nat × Nat)) :=
  if B = false ∨ F = (if ar = true then T else endE l F T (cellL l)) then none else some (F, if ar = true then T else endE l F T (cellL l))
def sentR (l : List ByteArray) (ar : Bool) (p : Nat × Nat) : Option ((Nat × Nat) × (Nat × Nat)) :=
  sentF l ar (fromP (sentL l) (cntN (sentL l) p)) (fndB (cntN (sentL l) p)) ((sentL l).getD (cntN (sentL l) p) (endP l))
def sentRI (l : List ByteArray) (ar : Bool) (a b : Int) : Option ((Nat × Nat) × (Nat × Nat)) := if onB l a b = true then sentR l ar (a.toNat, b.toNat) else none

theorem pair_beq (p q : Nat × Nat) : (((p.1 : Int) == (q.1 : Int)) && ((p.2 : Int) == (q.2 : Int))) = true ↔ p = q := by
  simp
  constructor
  · intro h; exact Prod.ext (by omega) (by omega)
  · intro h; subst h; exact ⟨rfl, rfl⟩

theorem endE_take (l : List ByteArray) (F T : Nat × Nat) {L : List (Nat × Nat)} {s : Nat × Nat} {i : Nat} (h : L[i]? = some s) : endE l F T (L.take (i + 1)) = stpE l F T (endE l F T (L.take i)) s := by
  obtain ⟨hlt, he⟩ := List.getElem?_eq_some_iff.1 h
  rw [List.take_succ_eq_append_getElem hlt, he]
  simp [endE]
theorem cellTo_mem (l : List ByteArray) : ∀ k p, p ∈ cellTo l k → p.1 < k ∧ p.2 < sz l p.1
  | 0, p, h => by simp [cellTo] at h
  | k + 1, p, h => by
    rw [cellTo] at h
    rcases List.mem_append.1 h with h | h
    · have := cellTo_mem l k p h; exact ⟨by omega, this.2⟩
    · simp at h
      obtain ⟨j, hj, rfl⟩ := h
      exact ⟨by show k < k + 1; omega, hj⟩
theorem sentF_no {l : List ByteArray} {ar : Bool} {F T : Nat × Nat} : sentF l ar F false T = none := if_pos (.inl rfl)
theorem sentF_same {l : List ByteArray} {ar : Bool} {F T T' : Nat × Nat} {B : Bool} (hT : (if ar = true then T else endE l F T (cellL l)) = T') (h : (((F.1 : Int) == (T'.1 : Int)) && ((F.2 : Int) == (T'.2 : Int))) = true) : sentF l ar F B T = none := by
  unfold sentF
  rw [hT]
  exact if_pos (.inr ((pair_beq _ _).1 h))
theorem sentF_some {l : List ByteArray} {ar : Bool} {F T T' : Nat × Nat} (hT : (if ar = true then T else endE l F T (cellL l)) = T') (h : (((F.1 : Int) == (T'.1 : Int)) && ((F.2 : Int) == (T'.2 : Int))) = false) : sentF l ar F true T = some (F, T') := by
  unfold sentF
  rw [hT]
  exact if_neg (fun g => by
    rcases g with g | g
    · cases g
    · rw [(pair_beq _ _).2 g] at h; cases h)

end Go.Ab
