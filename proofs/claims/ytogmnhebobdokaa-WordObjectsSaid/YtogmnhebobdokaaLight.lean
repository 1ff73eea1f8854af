/- Light texts: no program in sight. -/
import Derived.Test.YtogmnhebobdokaaPlace
set_option linter.unusedVariables false
set_option linter.unusedSimpArgs false
namespace Go.Ab
open Go Go.RowKit

def noNL (l : List ByteArray) (a : Nat) : Nat → Nat → Bool
  | 0, _ => true
  | n + 1, k => if k < sz l a then (if byteAt l a k == 10 then false else noNL l a n (k + 1)) else true
def lightF (l : List ByteArray) : Nat → Nat → Nat → Bool
  | 0, _, _ => true
  | m + 1, i, n => if i < l.length then (if 1200 < n + sz l i then false else if noNL l i 1202 0 then lightF l m (i + 1) (n + sz l i) else false) else true
def light (l : List ByteArray) : Bool := if 40 < l.length then false else lightF l 42 0 0
def textB (l : List ByteArray) : Bool := bif decide (0 < l.length) then light l else false

theorem lightF_spec {l : List ByteArray} : ∀ {m i n : Nat}, lightF l m i n = true → l.length < m + i → n ≤ 1200 → ∀ a, i ≤ a → sz l a ≤ 1200
  | 0, i, n, _, hm, _, a, ha => by
    have : ¬ 0 < sz l a := fun h => by have := sz_len h; omega
    omega
  | m + 1, i, n, h, hm, hn, a, ha => by
    by_cases hi : i < l.length
    · unfold lightF at h
      rw [if_pos hi] at h
      split at h
      · simp at h
      · rename_i h1
        split at h
        · by_cases e : a = i
          · subst e; omega
          · exact lightF_spec h (by omega) (by omega) a (by omega)
        · simp at h
    · have : ¬ 0 < sz l a := fun h => by have := sz_len h; omega
      omega

theorem fit_of_light {l : List ByteArray} (h : light l = true) : Fit l := by
  unfold light at h
  split at h
  · simp at h
  · exact ⟨by omega, fun a => lightF_spec h (by omega) (by omega) a (Nat.zero_le a)⟩
theorem fit_of_text {l : List ByteArray} (h : textB l = true) : Fit l ∧ 0 < l.length := by
  unfold textB at h
  cases hd : decide (0 < l.length) with
  | false => rw [hd] at h; simp at h
  | true => rw [hd] at h; exact ⟨fit_of_light h, by simpa using hd⟩

end Go.Ab
