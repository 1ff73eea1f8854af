/- Brackets in one another: no program in sight. -/
import Derived.Test.Ytogmnhebobdokab22
set_option linter.unusedVariables false
set_option linter.unusedSimpArgs false
namespace Go.Ab
open Go Go.RowKit

/-- The kinds, read one by one: 0, 1, 2. -/
def opB (k : Int) : UInt8 := if k = 0 then 40 else if k = 1 then 91 else 123
def clB (k : Int) : UInt8 := if k = 0 then 41 else if k = 1 then 93 else 125
def kd (ks : List Int) (j : Nat) : Int := (ks.getD j 0).tmod 3
def sStr (ks : List Int) (i : Nat) : ByteArray := ⟨((List.range i).map fun j => opB (kd ks j)).toArray⟩
def tStr (ks : List Int) (i : Nat) : ByteArray := ⟨((List.range i).reverse.map fun j => clB (kd ks j)).toArray⟩
def xStr : ByteArray := ⟨#[120]⟩
def deep (ks : List Int) : List ByteArray := [sStr ks ks.length, xStr, tStr ks ks.length]
def Kinds (ks : List Int) : Prop := ∀ j, kd ks j = 0 ∨ kd ks j = 1 ∨ kd ks j = 2

theorem size_mk (a : Array UInt8) : (ByteArray.mk a).size = a.size := rfl
theorem bt_mk (a : Array UInt8) (i : Nat) : bt ⟨a⟩ i = ((a.getD i 0).toNat : Int) := by
  unfold bt
  simp only [Int.toNat_natCast, size_mk]
  split
  · rename_i h
    have : (ByteArray.mk a)[i]'h = a[i]'h := rfl
    rw [this]
    simp [Array.getD, h]
  · rename_i h
    simp [Array.getD, h]
theorem sStr_size (ks : List Int) (i : Nat) : (sStr ks i).size = i := by simp [sStr, size_mk]
theorem tStr_size (ks : List Int) (i : Nat) : (tStr ks i).size = i := by simp [tStr, size_mk]
theorem sStr_bt (ks : List Int) {i j : Nat} (h : j < i) : bt (sStr ks i) j = ((opB (kd ks j)).toNat : Int) := by
  rw [sStr, bt_mk]
  simp [Array.getD, h]
theorem tStr_bt (ks : List Int) {i j : Nat} (h : j < i) : bt (tStr ks i) j = ((clB (kd ks (i - 1 - j))).toNat : Int) := by
  rw [tStr, bt_mk]
  simp [Array.getD, h]
theorem append_mk (a b : Array UInt8) : ByteArray.mk a ++ ByteArray.mk b = ⟨a ++ b⟩ := by
  apply ByteArray.ext
  simp
theorem sStr_succ (ks : List Int) (i : Nat) : sStr ks i ++ ⟨#[opB (kd ks i)]⟩ = sStr ks (i + 1) := by
  rw [sStr, sStr, append_mk]
  simp [List.range_succ]
theorem tStr_succ (ks : List Int) (i : Nat) : ⟨#[clB (kd ks i)]⟩ ++ tStr ks i = tStr ks (i + 1) := by
  rw [tStr, tStr, append_mk]
  simp [List.range_succ]

section
variable (ks : List Int)
theorem deep_len : (deep ks).length = 3 := rfl
theorem deep_sz0 : sz (deep ks) 0 = ks.length := sStr_size ks _
theorem deep_sz1 : sz (deep ks) 1 = 1 := rfl
theorem deep_sz2 : sz (deep ks) 2 = ks.length := tStr_size ks _
theorem deep_b0 {j : Nat} (h : j < ks.length) : byteAt (deep ks) 0 j = ((opB (kd ks j)).toNat : Int) := sStr_bt ks h
theorem deep_b1 : byteAt (deep ks) 1 0 = 120 := rfl
theorem deep_b2 {j : Nat} (h : j < ks.length) : byteAt (deep ks) 2 j = ((clB (kd ks (ks.length - 1 - j))).toNat : Int) := tStr_bt ks h
theorem deep_fit (h : ks.length ≤ 30) : Fit (deep ks) := ⟨by simp [deep_len], fun a => by
  rcases a with _ | _ | _ | a
  · rw [deep_sz0]; omega
  · rw [deep_sz1]; omega
  · rw [deep_sz2]; omega
  · unfold sz deep
    simp
    decide⟩

/-- How many of kind c there are from a on, n of them looked at. -/
def cntK (c : Int) (a : Nat) : Nat → Int
  | 0 => 0
  | n + 1 => (if kd ks a = c then 1 else 0) + cntK c (a + 1) n
theorem cntK_nonneg (c : Int) : ∀ (n a : Nat), 0 ≤ cntK ks c a n
  | 0, a => Int.le_refl _
  | n + 1, a => by have := cntK_nonneg c n (a + 1); unfold cntK; split <;> omega
theorem cntK_le (c : Int) : ∀ (n a : Nat), cntK ks c a n ≤ n
  | 0, a => Int.le_refl _
  | n + 1, a => by have := cntK_le c n (a + 1); unfold cntK; split <;> omega
theorem cntK_last (c : Int) : ∀ (n a : Nat), cntK ks c a (n + 1) = cntK ks c a n + (if kd ks (a + n) = c then 1 else 0)
  | 0, a => by simp [cntK]
  | n + 1, a => by
    rw [cntK, cntK_last c n (a + 1), cntK, show a + 1 + n = a + (n + 1) by omega]
    omega
end

theorem w_op {ks : List Int} (hk : Kinds ks) {i j : Nat} (hj : j < ks.length) : wUp (opB (kd ks i)).toNat (clB (kd ks i)).toNat (byteAt (deep ks) 0 j) = if kd ks j = kd ks i then 1 else 0 := by
  rw [deep_b0 ks hj]
  rcases hk i with h | h | h <;> rcases hk j with h' | h' | h' <;> rw [h, h'] <;> decide
theorem w_x {ks : List Int} (hk : Kinds ks) {i : Nat} : wUp (opB (kd ks i)).toNat (clB (kd ks i)).toNat (byteAt (deep ks) 1 0) = 0 := by
  rw [deep_b1]
  rcases hk i with h | h | h <;> rw [h] <;> decide
theorem w_cl {ks : List Int} (hk : Kinds ks) {i j : Nat} (hj : j < ks.length) : wUp (opB (kd ks i)).toNat (clB (kd ks i)).toNat (byteAt (deep ks) 2 j) = if kd ks (ks.length - 1 - j) = kd ks i then -1 else 0 := by
  rw [deep_b2 ks hj]
  rcases hk i with h | h | h <;> rcases hk (ks.length - 1 - j) with h' | h' | h' <;> rw [h, h'] <;> decide

theorem step0 {ks : List Int} {j : Nat} : stepP (deep ks) false (0, j) = if j + 1 < ks.length then some (0, j + 1) else some (1, 0) := by
  simp only [stepP, nextP, Bool.false_eq_true, if_false, deep_sz0]
  split
  · rfl
  · simp [deep_len, fwdLine, deep_sz1]
theorem step1' {ks : List Int} (h : 0 < ks.length) : stepP (deep ks) false (1, 0) = some (2, 0) := by
  simp [stepP, nextP, deep_sz1, deep_len, fwdLine, deep_sz2, h]
theorem step2 {ks : List Int} {j : Nat} (h : j + 1 < ks.length) : stepP (deep ks) false (2, j) = some (2, j + 1) := by
  simp [stepP, nextP, deep_sz2, h]

/-- The third line: the closing bracket of i. -/
theorem scan2 {ks : List Int} (hk : Kinds ks) {i : Nat} (hi : i < ks.length) : ∀ (m : Nat), i + m < ks.length → ∀ F, m < F →
    scan (deep ks) false (opB (kd ks i)).toNat (clB (kd ks i)).toNat F (some (2, ks.length - 1 - (i + m))) (cntK ks (kd ks i) i (m + 1)) = some (2, ks.length - 1 - i)
  | 0, h, F, hF => by
    obtain ⟨F, rfl⟩ : ∃ f, F = f + 1 := ⟨F - 1, by omega⟩
    rw [scan, w_cl hk (by omega), show ks.length - 1 - (ks.length - 1 - (i + 0)) = i by omega, if_pos rfl, if_pos (by simp [cntK])]
    rfl
  | m + 1, h, F, hF => by
    obtain ⟨F, rfl⟩ : ∃ f, F = f + 1 := ⟨F - 1, by omega⟩
    have h0 : 0 ≤ cntK ks (kd ks i) (i + 1) m := cntK_nonneg ks _ _ _
    have h1 : cntK ks (kd ks i) i (m + 1) = 1 + cntK ks (kd ks i) (i + 1) m := by rw [cntK, if_pos rfl]
    have h2 := cntK_last ks (kd ks i) (m + 1) i
    rw [scan, w_cl hk (by omega), show ks.length - 1 - (ks.length - 1 - (i + (m + 1))) = i + (m + 1) by omega]
    have h3 : cntK ks (kd ks i) i (m + 1 + 1) + (if kd ks (i + (m + 1)) = kd ks i then -1 else 0) = cntK ks (kd ks i) i (m + 1) := by
      rw [h2]; split <;> omega
    rw [h3, if_neg (by omega), step2 (by omega), show ks.length - 1 - (i + (m + 1)) + 1 = ks.length - 1 - (i + m) by omega]
    exact scan2 hk hi m (by omega) F (by omega)

theorem scan0 {ks : List Int} (hk : Kinds ks) {i : Nat} (hi : i < ks.length) : ∀ (m j : Nat), i < j → j + m = ks.length → ∀ F, m + ks.length + 1 < F →
    scan (deep ks) false (opB (kd ks i)).toNat (clB (kd ks i)).toNat F (if j < ks.length then some (0, j) else some (1, 0)) (cntK ks (kd ks i) i (j - i)) = some (2, ks.length - 1 - i)
  | 0, j, hij, h, F, hF => by
    obtain ⟨F, rfl⟩ : ∃ f, F = f + 1 := ⟨F - 1, by omega⟩
    obtain ⟨d, hd⟩ : ∃ d, j - i = d + 1 := ⟨j - i - 1, by omega⟩
    have h0 : 0 ≤ cntK ks (kd ks i) (i + 1) d := cntK_nonneg ks _ _ _
    have h1 : cntK ks (kd ks i) i (d + 1) = 1 + cntK ks (kd ks i) (i + 1) d := by rw [cntK, if_pos rfl]
    rw [if_neg (by omega), hd, scan, w_x hk, if_neg (by omega), step1' (by omega), Int.add_zero]
    have := scan2 hk hi d (by omega) F (by omega)
    rw [show ks.length - 1 - (i + d) = 0 by omega] at this
    exact this
  | m + 1, j, hij, h, F, hF => by
    obtain ⟨F, rfl⟩ : ∃ f, F = f + 1 := ⟨F - 1, by omega⟩
    obtain ⟨d, hd⟩ : ∃ d, j - i = d + 1 := ⟨j - i - 1, by omega⟩
    have h0 : 0 ≤ cntK ks (kd ks i) (i + 1) d := cntK_nonneg ks _ _ _
    have h1 : cntK ks (kd ks i) i (d + 1) = 1 + cntK ks (kd ks i) (i + 1) d := by rw [cntK, if_pos rfl]
    have h2 := cntK_last ks (kd ks i) (d + 1) i
    rw [if_pos (by omega), hd, scan, w_op hk (by omega)]
    dsimp only
    rw [show i + (d + 1) = j by omega] at h2
    rw [← h2, if_neg (by rw [h2]; split <;> omega), step0]
    have := scan0 hk hi m (j + 1) (by omega) (by omega) F (by omega)
    rw [show j + 1 - i = d + 1 + 1 by omega] at this
    exact this

theorem kd_k {ks : List Int} (hk : Kinds ks) (i : Nat) : kU (opB (kd ks i)).toNat = true ∧ kB (opB (kd ks i)).toNat = true ∧ kO (opB (kd ks i)).toNat = (opB (kd ks i)).toNat ∧ kC (opB (kd ks i)).toNat = (clB (kd ks i)).toNat := by
  rcases hk i with h | h | h <;> rw [h] <;> decide

theorem deep_other {ks : List Int} (hk : Kinds ks) (h30 : ks.length ≤ 30) {i : Nat} (hi : i < ks.length) : otherP (deep ks) (0, i) = some (2, ks.length - 1 - i) := by
  obtain ⟨h1, h2, h3, h4⟩ := kd_k hk i
  unfold otherP
  dsimp only
  rw [deep_b0 ks hi, h1, h3, h4]
  simp only [Bool.not_true, cond_true]
  rw [step0]
  have := scan0 hk hi (ks.length - (i + 1)) (i + 1) (by omega) (by omega) (left (deep ks) false (0, i) + 1) (by simp [left, deep_len]; omega)
  rw [show i + 1 - i = 0 + 1 by omega, cntK, if_pos rfl] at this
  simpa [cntK] using this
theorem deep_match {ks : List Int} (hk : Kinds ks) (h30 : ks.length ≤ 30) {i : Nat} (hi : i < ks.length) : matchI (deep ks) 0 i = some (2, ks.length - 1 - i) := by
  have := matchI_at (deep_fit ks h30) (p := (0, i)) (by rw [deep_sz0]; exact hi) (by simp [deep_len]) (by rw [deep_b0 ks hi]; exact (kd_k hk i).2.1)
  rw [deep_other hk h30 hi] at this
  simpa using this

/-- Going up the first line. -/
theorem enc0 {ks : List Int} (hk : Kinds ks) (h30 : ks.length ≤ 30) {i : Nat} : ∀ (j : Nat), j < ks.length → ∀ F, j < F → ∀ n : Int, 1 ≤ n →
    (∀ k, k ≤ j → kd ks k = kd ks i → cntK ks (kd ks i) k (j + 1 - k) = n → enc (deep ks) (opB (kd ks i)).toNat (1, 0) F (some (0, j)) n = some ((0, k), (2, ks.length - 1 - k))) ∧
    (cntK ks (kd ks i) 0 (j + 1) < n → enc (deep ks) (opB (kd ks i)).toNat (1, 0) F (some (0, j)) n = none) := by
  intro j
  induction j with
  | zero =>
    intro hj F hF n hn
    obtain ⟨F, rfl⟩ : ∃ f, F = f + 1 := ⟨F - 1, by omega⟩
    have hst : stepP (deep ks) true (0, 0) = none := rfl
    refine ⟨fun k hkj hkk hc => ?_, fun hc => ?_⟩
    · obtain rfl : k = 0 := by omega
      have hh : hit (deep ks) (opB (kd ks i)).toNat (1, 0) (0, 0) = some (2, ks.length - 1 - 0) := by
        rw [hit, deep_b0 ks hj, hkk, deep_other hk h30 hj]
        simp [lessI]
      simp [cntK, hkk] at hc
      subst hc
      rw [enc, hh]
      simp
    · rw [enc, hst]
      cases hh : hit (deep ks) (opB (kd ks i)).toNat (1, 0) (0, 0) with
      | none => dsimp only; rw [enc_none]
      | some t =>
        have hkk : kd ks 0 = kd ks i := by
          rw [hit, deep_b0 ks hj] at hh
          split at hh
          · rename_i he
            revert he
            rcases hk i with h | h | h <;> rcases hk 0 with h' | h' | h' <;> rw [h, h'] <;> decide
          · cases hh
        simp [cntK, hkk] at hc
        dsimp only
        rw [if_neg (by omega), enc_none]
  | succ j ih =>
    intro hj F hF n hn
    obtain ⟨F, rfl⟩ : ∃ f, F = f + 1 := ⟨F - 1, by omega⟩
    have hst : stepP (deep ks) true (0, j + 1) = some (0, j) := rfl
    by_cases hkk : kd ks (j + 1) = kd ks i
    · have hh : hit (deep ks) (opB (kd ks i)).toNat (1, 0) (0, j + 1) = some (2, ks.length - 1 - (j + 1)) := by
        rw [hit, deep_b0 ks hj, hkk, deep_other hk h30 hj]
        simp [lessI]
      rw [enc, hh, hst]
      dsimp only
      refine ⟨fun k hkj hk2 hc => ?_, fun hc => ?_⟩
      · rw [show j + 1 + 1 - k = (j + 1 - k) + 1 by omega, cntK_last, show k + (j + 1 - k) = j + 1 by omega, if_pos hkk] at hc
        by_cases he : k = j + 1
        · subst he
          simp [cntK] at hc
          rw [if_pos hc.symm]
        · obtain ⟨d, hd⟩ : ∃ d, j + 1 - k = d + 1 := ⟨j - k, by omega⟩
          have h0 : 0 ≤ cntK ks (kd ks i) (k + 1) d := cntK_nonneg ks _ _ _
          have h1 : cntK ks (kd ks i) k (d + 1) = 1 + cntK ks (kd ks i) (k + 1) d := by rw [cntK, if_pos hk2]
          rw [hd] at hc
          rw [if_neg (by omega)]
          exact ((ih (by omega) F (by omega) (n - 1) (by omega)).1 k (by omega) hk2 (by rw [hd]; omega))
      · rw [cntK_last, Nat.zero_add, if_pos hkk] at hc
        have h0 : 0 ≤ cntK ks (kd ks i) 0 (j + 1) := cntK_nonneg ks _ _ _
        rw [if_neg (by omega)]
        exact ((ih (by omega) F (by omega) (n - 1) (by omega)).2 (by omega))
    · have hh : hit (deep ks) (opB (kd ks i)).toNat (1, 0) (0, j + 1) = none := by
        rw [hit, deep_b0 ks hj, if_neg]
        intro he
        apply hkk
        revert he
        rcases hk i with h | h | h <;> rcases hk (j + 1) with h' | h' | h' <;> rw [h, h'] <;> decide
      rw [enc, hh, hst]
      dsimp only
      refine ⟨fun k hkj hk2 hc => ?_, fun hc => ?_⟩
      · have he : k ≠ j + 1 := fun e => hkk (e ▸ hk2)
        rw [show j + 1 + 1 - k = (j + 1 - k) + 1 by omega, cntK_last, show k + (j + 1 - k) = j + 1 by omega, if_neg hkk] at hc
        exact (ih (by omega) F (by omega) n hn).1 k (by omega) hk2 (by omega)
      · rw [cntK_last, Nat.zero_add, if_neg hkk] at hc
        exact (ih (by omega) F (by omega) n hn).2 (by omega)

theorem deep_enc {ks : List Int} (hk : Kinds ks) (h30 : ks.length ≤ 30) {i : Nat} (hi : i < ks.length) (n : Int) (hn : 1 ≤ n) :
    (∀ k, k < ks.length → kd ks k = kd ks i → cntK ks (kd ks i) k (ks.length - k) = n → encI (deep ks) 1 0 (opB (kd ks i)).toNat n = some ((0, k), (2, ks.length - 1 - k))) ∧
    (cntK ks (kd ks i) 0 ks.length < n → encI (deep ks) 1 0 (opB (kd ks i)).toNat n = none) := by
  have h1 : encI (deep ks) 1 0 (opB (kd ks i)).toNat n = enc (deep ks) (opB (kd ks i)).toNat (1, 0) 1201 (some (0, ks.length - 1)) n := by
    rw [encI, if_neg]
    · have hst : encStart (deep ks) (1, 0) = some (1, 0) := rfl
      have hl : left (deep ks) true (1, 0) + 1 = 1201 + 1 := rfl
      have hs : stepP (deep ks) true (1, 0) = some (0, ks.length - 1) := by
        show prevP (deep ks) 1 0 = _
        simp only [prevP, Nat.lt_irrefl, if_false, bckLine, deep_sz0]
        rw [if_pos (by omega)]
      show encP (deep ks) _ (1, 0) n = _
      rw [encP, hst, hl, enc, hs, hit, deep_b1]
      rw [if_neg (by rcases hk i with h | h | h <;> rw [h] <;> decide)]
    · rintro (h | h | h)
      · omega
      · rw [(kd_k hk i).1] at h; cases h
      · cases h
  have := enc0 hk h30 (i := i) (ks.length - 1) (by omega) 1201 (by omega) n hn
  rw [show ks.length - 1 + 1 = ks.length by omega] at this
  rw [h1]
  refine ⟨fun k hkl hkk hc => this.1 k (by omega) hkk hc, this.2⟩

end Go.Ab
