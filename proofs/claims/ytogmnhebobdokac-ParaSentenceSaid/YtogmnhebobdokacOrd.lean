/- Places, in the text's order: no program in sight. -/
import Derived.Test.YtogmnhebobdokacPlace
set_option linter.unusedVariables false
set_option linter.unusedSimpArgs false
namespace Go.Ab
open Go Go.RowKit

/-- Places, in the text's order. -/
def ltP (p q : Nat × Nat) : Prop := p.1 < q.1 ∨ p.1 = q.1 ∧ p.2 < q.2
def Byt (l : List ByteArray) (q : Nat × Nat) : Prop := q.2 < sz l q.1 ∧ q.1 < l.length
theorem ltP_trans {p q r : Nat × Nat} (h : ltP p q) (h' : ltP q r) : ltP p r := by unfold ltP at *; omega
theorem ltP_irrefl {p : Nat × Nat} (h : ltP p p) : False := by unfold ltP at h; omega
theorem ltP_total {p q : Nat × Nat} (h : ¬ ltP p q) : q = p ∨ ltP q p := by
  unfold ltP at *
  by_cases e : q = p
  · exact .inl e
  · right
    have : ¬ (q.1 = p.1 ∧ q.2 = p.2) := fun h => e (Prod.ext h.1 h.2)
    omega
theorem lessI_ltP {p q : Nat × Nat} : lessI p.1 p.2 q.1 q.2 = true ↔ ltP p q := by
  unfold lessI ltP
  by_cases h : p.1 < q.1
  · simp [h]
  · by_cases e : p.1 = q.1
    · simp [e]
    · have : ((p.1 : Int) == q.1) = false := by simp; omega
      simp [h, e, this]

def okF (p t : Nat × Nat) : Bool := lessI p.1 p.2 t.1 t.2
def okB (p t : Nat × Nat) : Bool := lessI t.1 t.2 p.1 p.2
def endP (l : List ByteArray) : Nat × Nat := (l.length - 1, sz l (l.length - 1))

end Go.Ab
