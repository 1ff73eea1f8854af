/- Places of bytes in lines, one behind the other: no program in sight. -/
import Derived.Test.YtogmnhebobdokaaTab
set_option linter.unusedVariables false
set_option linter.unusedSimpArgs false
namespace Go.Ab
open Go Go.RowKit

def sz (l : List ByteArray) (a : Nat) : Nat := (l.getD a ⟨#[]⟩).size
def byteAt (l : List ByteArray) (a b : Nat) : Int := bt (l.getD a ⟨#[]⟩) b
def Fit (l : List ByteArray) : Prop := l.length ≤ 40 ∧ ∀ a, sz l a ≤ 1200

theorem A1 (b : Bool) : (bif b then true else false) = b := by cases b <;> rfl
theorem AA (l : List ByteArray) (a : Nat) : (l.getD a ⟨#[]⟩).size = sz l a := rfl
theorem AB (l : List ByteArray) (a b : Nat) : bt (l.getD a ⟨#[]⟩) (b : Int) = byteAt l a b := rfl

/-- The first byte of the lines from k on. -/
def fwdLine (l : List ByteArray) : Nat → Nat → Option (Nat × Nat)
  | 0, _ => none
  | n + 1, k => if 0 < sz l k then some (k, 0) else fwdLine l n (k + 1)
/-- The last byte of the lines ahead of k. -/
def bckLine (l : List ByteArray) : Nat → Option (Nat × Nat)
  | 0 => none
  | k + 1 => if 0 < sz l k then some (k, sz l k - 1) else bckLine l k
def nextP (l : List ByteArray) (a b : Nat) : Option (Nat × Nat) := if b < sz l a then some (a, b) else fwdLine l (l.length - (a + 1)) (a + 1)
def prevP (l : List ByteArray) (a b : Nat) : Option (Nat × Nat) := if 0 < b then some (a, b - 1) else bckLine l a
def stepP (l : List ByteArray) (back : Bool) (p : Nat × Nat) : Option (Nat × Nat) := if back then prevP l p.1 p.2 else nextP l p.1 (p.2 + 1)

theorem sz_len {l : List ByteArray} {a : Nat} (h : 0 < sz l a) : a < l.length := by
  unfold sz at h
  by_cases hl : a < l.length
  · exact hl
  · simp [List.getD_eq_getElem?_getD, List.getElem?_eq_none (Nat.le_of_not_lt hl)] at h
    exact absurd h (by decide)

theorem nextP_more {l : List ByteArray} {a b : Nat} (hb : ¬ b < sz l a) (ha : a + 1 < l.length) : nextP l a b = nextP l (a + 1) 0 := by
  unfold nextP
  rw [if_neg hb, show l.length - (a + 1) = (l.length - (a + 1 + 1)) + 1 by omega, fwdLine]
theorem nextP_end {l : List ByteArray} {a b : Nat} (hb : ¬ b < sz l a) (ha : ¬ a + 1 < l.length) : nextP l a b = none := by
  unfold nextP
  rw [if_neg hb, show l.length - (a + 1) = 0 by omega, fwdLine]
theorem prevP_more {l : List ByteArray} {a : Nat} : prevP l (a + 1) 0 = prevP l a (sz l a) := by
  simp only [prevP, bckLine, Nat.lt_irrefl, if_false]

theorem fwdLine_spec {l : List ByteArray} : ∀ {n k : Nat} {q : Nat × Nat}, fwdLine l n k = some q → k ≤ q.1 ∧ q.2 = 0 ∧ 0 < sz l q.1
  | 0, k, q, h => by simp [fwdLine] at h
  | n + 1, k, q, h => by
    unfold fwdLine at h
    split at h
    · simp at h; subst h; exact ⟨Nat.le_refl _, rfl, by assumption⟩
    · have := fwdLine_spec h; exact ⟨by omega, this.2⟩
theorem bckLine_spec {l : List ByteArray} : ∀ {k : Nat} {q : Nat × Nat}, bckLine l k = some q → q.1 < k ∧ q.2 + 1 = sz l q.1
  | 0, q, h => by simp [bckLine] at h
  | k + 1, q, h => by
    unfold bckLine at h
    split at h
    · simp at h; subst h; exact ⟨Nat.lt_succ_self _, by dsimp only; omega⟩
    · have := bckLine_spec h; exact ⟨by omega, this.2⟩

/-! ### Brackets -/
/-- A bracket's kind: opening one, closing one, does it open, is it one? -/
def kO (c : Int) : Int := bif c == 40 || c == 41 then 40 else bif c == 91 || c == 93 then 91 else bif c == 123 || c == 125 then 123 else 0
def kC (c : Int) : Int := bif c == 40 || c == 41 then 41 else bif c == 91 || c == 93 then 93 else bif c == 123 || c == 125 then 125 else 0
def kU (c : Int) : Bool := c == 40 || (c == 91 || c == 123)
def kB (c : Int) : Bool := (c == 40 || c == 41) || ((c == 91 || c == 93) || (c == 123 || c == 125))

def wUp (up dn c : Int) : Int := if c = up then 1 else if c = dn then -1 else 0
def scan (l : List ByteArray) (back : Bool) (up dn : Int) : Nat → Option (Nat × Nat) → Int → Option (Nat × Nat)
  | 0, _, _ => none
  | _ + 1, none, _ => none
  | n + 1, some q, d => if d + wUp up dn (byteAt l q.1 q.2) = 0 then some q else scan l back up dn n (stepP l back q) (d + wUp up dn (byteAt l q.1 q.2))

theorem scan_none (l : List ByteArray) (back : Bool) (up dn : Int) (n : Nat) (d : Int) : scan l back up dn n none d = none := by cases n <;> rfl

/-- What is left to go. -/
def left (l : List ByteArray) (back : Bool) (p : Nat × Nat) : Nat := if back then p.1 * 1201 + p.2 else (l.length - p.1) * 1201 + (1200 - p.2)

theorem stepP_spec {l : List ByteArray} (hf : Fit l) {back : Bool} {p q : Nat × Nat} (hp : p.2 ≤ sz l p.1) (hl : p.1 < l.length) (h : stepP l back p = some q) : q.2 < sz l q.1 ∧ q.1 < l.length ∧ left l back q < left l back p := by
  have key : ∀ q : Nat × Nat, 0 < sz l q.1 → q.1 < l.length := fun q h => sz_len h
  obtain ⟨a, b⟩ := p
  obtain ⟨c, d⟩ := q
  unfold stepP at h
  have hs := hf.2 a
  cases back with
  | true =>
    simp only [if_true, prevP] at h
    split at h
    · simp at h; obtain ⟨rfl, rfl⟩ := h
      simp [left] at *; omega
    · obtain ⟨h1, h2⟩ := bckLine_spec h
      have := hf.2 c
      simp [left] at *
      have : c < l.length := by omega
      omega
  | false =>
    simp only [Bool.false_eq_true, if_false, nextP] at h
    split at h
    · simp at h; obtain ⟨rfl, rfl⟩ := h
      simp [left] at *; omega
    · obtain ⟨h1, h2, h3⟩ := fwdLine_spec h
      have := sz_len h3
      simp [left] at *
      omega

section
variable (U : Bool) (O S C : Int)
theorem wUp1 (h1 : (bif C == O then U else false) = true) : wUp (bif U then O else S) (bif U then S else O) C = 1 := by
  cases U <;> by_cases h : C = O <;> by_cases h' : C = S <;> simp_all [wUp]
theorem wUp2 (h1 : (bif C == S then !U else false) = true) : wUp (bif U then O else S) (bif U then S else O) C = 1 := by
  cases U <;> by_cases h : C = O <;> by_cases h' : C = S <;> simp_all [wUp]
theorem wUp3 (h1 : (bif C == O then U else false) = false) (h2 : (bif C == S then !U else false) = false) (h3 : (C == O) = true) : wUp (bif U then O else S) (bif U then S else O) C = -1 := by
  cases U <;> by_cases h : C = O <;> by_cases h' : C = S <;> simp_all [wUp]
theorem wUp4 (h1 : (bif C == O then U else false) = false) (h2 : (bif C == S then !U else false) = false) (h3 : (C == S) = true) : wUp (bif U then O else S) (bif U then S else O) C = -1 := by
  cases U <;> by_cases h : C = O <;> by_cases h' : C = S <;> simp_all [wUp]
theorem wUp5 (h1 : (C == O) = false) (h2 : (C == S) = false) : wUp (bif U then O else S) (bif U then S else O) C = 0 := by
  cases U <;> by_cases h : C = O <;> by_cases h' : C = S <;> simp_all [wUp]
end

def otherP (l : List ByteArray) (p : Nat × Nat) : Option (Nat × Nat) :=
  scan l (!kU (byteAt l p.1 p.2)) (bif kU (byteAt l p.1 p.2) then kO (byteAt l p.1 p.2) else kC (byteAt l p.1 p.2)) (bif kU (byteAt l p.1 p.2) then kC (byteAt l p.1 p.2) else kO (byteAt l p.1 p.2))
    (left l (!kU (byteAt l p.1 p.2)) p + 1) (stepP l (!kU (byteAt l p.1 p.2)) p) 1

theorem left_le {l : List ByteArray} (hf : Fit l) {back : Bool} {p : Nat × Nat} (hp : p.2 ≤ sz l p.1) (hl : p.1 < l.length) : left l back p ≤ 50000 := by
  have := hf.1
  have := hf.2 p.1
  unfold left
  split <;> omega

def pa : Option (Nat × Nat) → Nat
  | some q => q.1
  | none => 0
def pb : Option (Nat × Nat) → Nat
  | some q => q.2
  | none => 0

theorem A6 (q : Nat × Nat) : pa (some q) = q.1 := rfl
theorem A7 (q : Nat × Nat) : pb (some q) = q.2 := rfl
theorem A8 : pa none = 0 := rfl
theorem A9 : pb none = 0 := rfl

/-- The first bracket of a line from b on. -/
def firstB (l : List ByteArray) (a : Nat) : Nat → Nat → Option Nat
  | 0, _ => none
  | n + 1, b => if b < sz l a then (if kB (byteAt l a b) = true then some b else firstB l a n (b + 1)) else none
def matchP (l : List ByteArray) (a b : Nat) : Option (Nat × Nat) := (firstB l a (1202 - b) b).bind fun b => otherP l (a, b)
def placeB (l : List ByteArray) (a b : Int) : Bool := bif bif bif decide (0 ≤ a) then decide (a < l.length) else false then decide (0 ≤ b) else false then decide (b ≤ (l.getD a.toNat ⟨#[]⟩).size) else false
def matchI (l : List ByteArray) (a b : Int) : Option (Nat × Nat) := bif placeB l a b then matchP l a.toNat b.toNat else none

theorem placeB_spec {l : List ByteArray} {a b : Int} (h : placeB l a b = true) : ∃ x y : Nat, a = x ∧ b = y ∧ x < l.length ∧ y ≤ sz l x := by
  simp [placeB] at h
  obtain ⟨⟨⟨h1, h2⟩, h3⟩, h4⟩ := h
  refine ⟨a.toNat, b.toNat, by omega, by omega, by omega, ?_⟩
  unfold sz
  simp
  omega

section
variable {U : Bool} {O S C D : Int} (h : O ≠ S)
include h
theorem wRef1 (h1 : (C == O) = true) : (bif U then D else -D) + wUp (bif U then O else S) (bif U then S else O) C = bif U then D + 1 else -(D + 1) := by
  have : C = O := by simpa using h1
  subst this
  cases U <;> simp [wUp, h] <;> omega
theorem wRef2 (h2 : (C == S) = true) : (bif U then D else -D) + wUp (bif U then O else S) (bif U then S else O) C = bif U then D - 1 else -(D - 1) := by
  have : C = S := by simpa using h2
  subst this
  cases U <;> simp [wUp, Ne.symm h] <;> omega
omit h in
theorem wRef3 (h1 : (C == O) = false) (h2 : (C == S) = false) : (bif U then D else -D) + wUp (bif U then O else S) (bif U then S else O) C = bif U then D else -D := by
  rw [wUp5 U O S C h1 h2]; omega
end
theorem k_ne {c : Int} (h : kB c = true) : kO c ≠ kC c := by
  simp [kB] at h
  rcases h with (h | h) | (h | h) | (h | h) <;> subst h <;> decide
theorem k_up {c : Int} (h : kB c = true) : c = bif kU c then kO c else kC c := by
  simp [kB] at h
  rcases h with (h | h) | (h | h) | (h | h) <;> subst h <;> decide

/-! ### Pairs round a place -/
def lessI (a b c d : Int) : Bool := bif decide (a < c) then true else bif a == c then decide (b < d) else false
/-- A bracket's partner, where the pair is round p. -/
def hit (l : List ByteArray) (O : Int) (p q : Nat × Nat) : Option (Nat × Nat) :=
  if byteAt l q.1 q.2 == O then (match otherP l q with | some t => if lessI t.1 t.2 p.1 p.2 then none else some t | none => none) else none
def enc (l : List ByteArray) (O : Int) (p : Nat × Nat) : Nat → Option (Nat × Nat) → Int → Option ((Nat × Nat) × (Nat × Nat))
  | 0, _, _ => none
  | _ + 1, none, _ => none
  | f + 1, some q, n =>
    match hit l O p q with
    | some t => if n = 1 then some (q, t) else enc l O p f (stepP l true q) (n - 1)
    | none => enc l O p f (stepP l true q) n
theorem enc_none (l : List ByteArray) (O : Int) (p : Nat × Nat) (f : Nat) (n : Int) : enc l O p f none n = none := by cases f <;> rfl
def encStart (l : List ByteArray) (p : Nat × Nat) : Option (Nat × Nat) := if p.2 < sz l p.1 then some p else stepP l true p
def encP (l : List ByteArray) (O : Int) (p : Nat × Nat) (n : Int) : Option ((Nat × Nat) × (Nat × Nat)) := enc l O p (left l true p + 1) (encStart l p) n
def encI (l : List ByteArray) (a b O n : Int) : Option ((Nat × Nat) × (Nat × Nat)) :=
  if n < 1 ∨ kU O = false ∨ placeB l a b = false then none else encP l O (a.toNat, b.toNat) n
theorem k_op {c : Int} (h : kU c = true) : kO c = c ∧ kB c = true := by
  simp [kU] at h
  rcases h with h | h | h <;> subst h <;> decide

end Go.Ab
