/- Lines put together: no program in sight. -/
import Derived.Test.Ytogmnhebobdokab29
set_option linter.unusedVariables false
set_option linter.unusedSimpArgs false
namespace Go.Ab
open Go Go.RowKit

/-- A range of bytes that is one. -/
structure Rng (l : List ByteArray) (a b c d : Nat) : Prop where
  len : c < l.length
  le : a ≤ c
  fb : b ≤ sz l a
  tb : d ≤ sz l c
  ord : a = c → b ≤ d

/-- What of line y is in the range. -/
def cutL (l : List ByteArray) (a b c d y : Nat) : ByteArray := (l.getD y ⟨#[]⟩).extract (if y = a then b else 0) (if y = c then d else sz l y)

/-- Strings put together, each with a line's end. -/
def nl : ByteArray := ⟨#[10]⟩
def cat (f : Nat → ByteArray) : Nat → ByteArray
  | 0 => ⟨#[]⟩
  | i + 1 => (cat f i ++ f i) ++ nl
def dat (s : ByteArray) : List UInt8 := s.data.toList
theorem dat_inj {s t : ByteArray} (h : dat s = dat t) : s = t := by
  obtain ⟨⟨s⟩⟩ := s
  obtain ⟨⟨t⟩⟩ := t
  simp only [dat] at h
  rw [h]
theorem dat_app (s t : ByteArray) : dat (s ++ t) = dat s ++ dat t := by
  unfold dat
  rw [ByteArray.data_append]
  simp
theorem dat_len (s : ByteArray) : (dat s).length = s.size := rfl
theorem dat_ext (s : ByteArray) (a b : Nat) : dat (s.extract a b) = ((dat s).take b).drop a := by
  unfold dat
  rw [ByteArray.data_extract]
  simp [List.extract, List.drop_take]
theorem cat_size {f : Nat → ByteArray} (h : ∀ j, (f j).size ≤ 1200) : ∀ i, (cat f i).size ≤ i * 1201
  | 0 => by simp [cat]; decide
  | i + 1 => by
    have := cat_size h i
    have h2 := h i
    have : (cat f (i + 1)).size = (cat f i).size + (f i).size + 1 := by
      rw [← dat_len, cat, dat_app, dat_app]
      simp [dat_len, nl]
      rfl
    omega
theorem cat_pos (f : Nat → ByteArray) (i : Nat) : 0 < (cat f (i + 1)).size := by
  rw [← dat_len, cat, dat_app]
  simp [nl, dat]
  omega

/-- Around is inner and the two brackets. -/
theorem cat_around {fi fo : Nat → ByteArray} {o c : UInt8} {k : Nat} (h : ∀ j, j ≤ k → dat (fo j) = (if j = 0 then [o] else []) ++ dat (fi j) ++ (if j = k then [c] else [])) :
    cat fo (k + 1) = ((⟨#[o]⟩ ++ (cat fi (k + 1)).extract 0 ((cat fi (k + 1)).size - 1)) ++ ⟨#[c]⟩) ++ nl := by
  have h1 : ∀ i, i ≤ k → dat (cat fo i) = (if i = 0 then [] else [o]) ++ dat (cat fi i) := by
    intro i
    induction i with
    | zero => intro _; rfl
    | succ i ih =>
      intro hi
      rw [cat, cat, dat_app, dat_app, dat_app, dat_app, ih (by omega), h i (by omega), if_neg (show ¬ i = k by omega), if_neg (show ¬ i + 1 = 0 by omega)]
      split <;> simp_all [cat, dat]
  apply dat_inj
  have hs : (cat fi (k + 1)).size - 1 = (dat (cat fi k ++ fi k)).length := by
    rw [← dat_len, cat, dat_app]
    simp [nl, dat]
  rw [dat_app, dat_app, dat_app, dat_ext, hs, cat, dat_app, dat_app, h1 k (Nat.le_refl _), h k (Nat.le_refl _), if_pos (rfl : k = k)]
  have h2 : dat (cat fi (k + 1)) = dat (cat fi k ++ fi k) ++ dat nl := by rw [cat, dat_app]
  rw [h2, List.take_left, List.drop_zero, dat_app]
  have h3 : ∀ x : UInt8, dat ⟨#[x]⟩ = [x] := fun x => rfl
  rw [h3, h3]
  by_cases e : k = 0
  · subst e; simp [cat, dat]
  · simp [e]

theorem cut_out {l : List ByteArray} {q t : Nat × Nat} {ob cb : UInt8} (hq : Byt l q) (ht : Byt l t) (hlt : ltP q t) (ho : ((ob.toNat : Nat) : Int) = byteAt l q.1 q.2) (hc : ((cb.toNat : Nat) : Int) = byteAt l t.1 t.2) (j : Nat) (hj : j ≤ t.1 - q.1) :
    dat (cutL l q.1 q.2 t.1 (t.2 + 1) (q.1 + j)) = (if j = 0 then [ob] else []) ++ dat (cutL l q.1 (q.2 + 1) t.1 t.2 (q.1 + j)) ++ (if j = t.1 - q.1 then [cb] else []) := by
  obtain ⟨q1, q2⟩ := hq
  obtain ⟨t1, t2⟩ := ht
  have hle : q.1 ≤ t.1 := by unfold ltP at hlt; omega
  have hb : ∀ (p : Nat × Nat) (x : UInt8), p.2 < sz l p.1 → ((x.toNat : Nat) : Int) = byteAt l p.1 p.2 → (dat (l.getD p.1 ⟨#[]⟩))[p.2]? = some x := by
    intro p x hp hx
    unfold byteAt bt at hx
    have h1 : ((p.2 : Int).toNat) < (l.getD p.1 ⟨#[]⟩).size := hp
    rw [dif_pos h1] at hx
    have h2 : (l.getD p.1 ⟨#[]⟩)[(p.2 : Int).toNat]'h1 = x := by
      apply UInt8.toNat_inj.1
      omega
    have h3 : (dat (l.getD p.1 ⟨#[]⟩))[p.2]'(by rw [dat_len]; exact hp) = x := by
      rw [← h2]; rfl
    rw [List.getElem?_eq_getElem (by rw [dat_len]; exact hp), h3]
  have hqb := hb q ob q1 ho
  have htb := hb t cb t1 hc
  generalize hy : q.1 + j = y at *
  unfold cutL
  rw [dat_ext, dat_ext]
  have hL : (dat (l.getD y ⟨#[]⟩)).length = sz l y := rfl
  -- the front
  have front : ∀ H, (j = 0 → q.2 < H ∧ H ≤ sz l q.1) → ((dat (l.getD y ⟨#[]⟩)).take H).drop (if y = q.1 then q.2 else 0) = (if j = 0 then [ob] else []) ++ ((dat (l.getD y ⟨#[]⟩)).take H).drop (if y = q.1 then q.2 + 1 else 0) := by
    intro H hH
    by_cases e : j = 0
    · have ey : y = q.1 := by omega
      obtain ⟨e1, e2⟩ := hH e
      rw [if_pos ey, if_pos ey, if_pos e, ey]
      have hlen : q.2 < ((dat (l.getD q.1 ⟨#[]⟩)).take H).length := by
        rw [List.length_take, dat_len]
        have : (l.getD q.1 ⟨#[]⟩).size = sz l q.1 := rfl
        omega
      rw [List.drop_eq_getElem_cons hlen]
      have : ((dat (l.getD q.1 ⟨#[]⟩)).take H)[q.2]'hlen = ob := by
        rw [List.getElem_take]
        have := hqb
        rw [List.getElem?_eq_getElem (by rw [dat_len]; exact q1)] at this
        simpa using this
      rw [this]
      rfl
    · rw [if_neg (show ¬ y = q.1 by omega), if_neg (show ¬ y = q.1 by omega), if_neg e]
      rfl
  -- the end
  have back : ∀ lo, (y = t.1 → lo ≤ t.2) → ((dat (l.getD y ⟨#[]⟩)).take (if y = t.1 then t.2 + 1 else sz l y)).drop lo = ((dat (l.getD y ⟨#[]⟩)).take (if y = t.1 then t.2 else sz l y)).drop lo ++ (if j = t.1 - q.1 then [cb] else []) := by
    intro lo hlo
    by_cases e : y = t.1
    · rw [if_pos e, if_pos e, if_pos (show j = t.1 - q.1 by omega), e]
      have := htb
      have hlt2 : t.2 < (dat (l.getD t.1 ⟨#[]⟩)).length := by rw [dat_len]; exact t1
      rw [List.getElem?_eq_getElem hlt2] at this
      rw [List.take_succ_eq_append_getElem hlt2, List.drop_append_of_le_length (by rw [List.length_take]; have := hlo e; omega)]
      rw [Option.some.inj this]
    · rw [if_neg e, if_neg e, if_neg (show ¬ j = t.1 - q.1 by omega)]
      simp
  rw [front _ (fun e => ?_), back _ (fun e => ?_), List.append_assoc]
  · unfold ltP at hlt
    split <;> omega
  · have ey : y = q.1 := by omega
    split
    · rename_i h
      unfold ltP at hlt
      have : sz l t.1 = sz l q.1 := by rw [← h, ey]
      omega
    · rw [ey]; omega

end Go.Ab
