/- From the rows' readings to the abstract layer: a slice of strings, a place. -/
import Derived.Test.Ytogmnhebobdokaa10
import Derived.SliceStrings
import Derived.ProofKit
import Derived.Lib.SmallJoins
import Derived.SizedLaws
import Derived.ChangeSlices
set_option linter.unusedVariables false
set_option linter.unusedSimpArgs false
namespace Go.Ab
open Go Go.ChangeShapes Go.WideShapes Go.RowKit

theorem spot_none {w : World} {a : Addr} {v : Value} (h : w.cell? a = some v) : a.spot = none := by
  unfold World.cell? at h
  split at h
  · split at h
    · simp at h
    · rename_i h1; simpa using h1
  · simp at h

theorem weights_strs {H : Type} {P : Program} {e : TypeId} : ∀ {ss : List ByteArray} {s : ByteArray}, s ∈ ss → s.size ∈ DataW.weightsAll P e (strs ss : List (DataW H))
  | [], s, h => by simp at h
  | x :: ss, s, h => by
    simp only [strs, List.map_cons, DataW.weightsAll, DataW.weights, List.mem_append]
    rcases List.mem_cons.1 h with rfl | h
    · left; simp
    · right; exact weights_strs h

theorem rowOK_strings {H : Type} {enc : TypeId × Value → H} {P : Program} {w : World} {base : Nat} {spare : Nat → Bool} {held : Bool} {t e : TypeId} {v : Value} {d : DataW H} {ps : List MemPlace}
    (ht : P.underlying t = some (.slice e)) (he : P.underlying e = some .string) (hc : P.cellsOf e = 1) (hv : ∃ a len cap, v = .slice a len cap) (h : DataW.Trod enc P w base spare held t v d ps)
    (hb : ∀ n ∈ DataW.weights P t d, n ≤ reachBytes) :
    ∃ l : List ByteArray, RowOK P w v { ty := e, size := 1, len := l.length, get := fun i => [.string (l.getD i.toNat ⟨#[]⟩)] } ∧ ∀ a, sz l a ≤ 4611686018427387904 := by
  obtain ⟨a, len, cap, rfl⟩ := hv
  obtain ⟨fuel, hf⟩ := h
  rcases open_strings ht he hc hf with ⟨hcs, hx⟩ | ⟨x, l, c, ss, hcs, _, hl, hm, hz, hx, hcell, hsz⟩
  · simp [Value.cells] at hcs
    obtain ⟨rfl, rfl, rfl⟩ := hcs
    exact ⟨[], ⟨fun _ => ⟨none, 0, rfl, Nat.le_refl _, fun i hi => by simp at hi⟩, fun xs hx => by cases hx⟩, fun a => by simp [sz]; decide⟩
  · simp [Value.cells] at hcs
    obtain ⟨rfl, rfl, rfl⟩ := hcs
    have hlen : len ≤ ss.length := by rw [hz]; split <;> omega
    refine ⟨ss.take len, ⟨fun _ => ⟨some x, cap, by simp [hlen], by simp; omega, fun i hi => ?_⟩, fun xs hx => by cases hx⟩, fun a => ?_⟩
    · simp at hi
      refine ⟨rfl, x.block, x.off, ?_, fun j u hu => ?_⟩
      · have h0 := hcell 0 (by omega)
        have := spot_none h0
        simp [Addr.add] at this
        cases x; simp_all
      · have hi' : i < ss.length := by omega
        have hu' : j = 0 ∧ u = .string (ss.getD i ByteArray.empty) := by
          cases j with
          | zero =>
            simp at hu
            refine ⟨rfl, hu.symm.trans ?_⟩
            simp [List.getElem?_take, hi, List.getD_eq_getElem?_getD, hi']
          | succ j => simp at hu
        obtain ⟨rfl, rfl⟩ := hu'
        have hsp := spot_none (hcell 0 (by omega))
        have hc := hcell i hi'
        simp only [Addr.add, if_true] at hsp
        have e : x.add i = ⟨x.block, x.off + (i * 1 + 0), none⟩ := by
          unfold Addr.add
          split
          · rename_i h0; subst h0; cases x; simp_all
          · simp
        rw [← e]
        exact hc
    · unfold sz
      by_cases ha : a < (ss.take len).length
      · have : (ss.take len).getD a ⟨#[]⟩ ∈ ss := by
          rw [List.getD_eq_getElem?_getD, List.getElem?_eq_getElem ha]
          exact List.mem_of_mem_take (List.getElem_mem ha)
        have hm2 : (ss.take len).getD a ⟨#[]⟩ ∈ ss.take len := by
          rw [List.getD_eq_getElem?_getD, List.getElem?_eq_getElem ha]
          exact List.getElem_mem ha
        simp only [Prod.mk.injEq] at hx
        have hw := hb ((ss.take len).getD a ⟨#[]⟩).size (by
          rw [hx.1]
          simp only [DataW.weights, ht, List.mem_cons, List.mem_append]
          right; left
          exact weights_strs hm2)
        have := reachBytes_lt
        omega
      · rw [List.getD_eq_getElem?_getD, List.getElem?_eq_none (Nat.le_of_not_lt ha)]
        simp; decide

theorem rowOK_bytes {H : Type} {enc : TypeId × Value → H} {P : Program} {w : World} {base : Nat} {spare : Nat → Bool} {held : Bool} {t e : TypeId} {v : Value} {d : DataW H} {ps : List MemPlace}
    (ht : P.underlying t = some (.slice e)) (he : P.underlying e = some (.int .u8)) (hc : P.cellsOf e = 1) (hv : ∃ a len cap, v = .slice a len cap) (h : DataW.Trod enc P w base spare held t v d ps) :
    ∃ l : List Int, RowOK P w v { ty := e, size := 1, len := l.length, get := fun i => [.int .u8 (l.getD i.toNat 0)] } ∧ ∀ j, 0 ≤ l.getD j 0 ∧ l.getD j 0 < 256 := by
  obtain ⟨a, len, cap, rfl⟩ := hv
  obtain ⟨fuel, hf⟩ := h
  rcases open_ints ht he hc hf with ⟨hcs, hx⟩ | ⟨x, l, c, zs, hcs, _, hl, hm, hz, hx, hcell, hwf⟩
  · simp [Value.cells] at hcs
    obtain ⟨rfl, rfl, rfl⟩ := hcs
    exact ⟨[], ⟨fun _ => ⟨none, 0, rfl, Nat.le_refl _, fun i hi => by simp at hi⟩, fun xs hx => by cases hx⟩, fun a => by simp⟩
  · simp [Value.cells] at hcs
    obtain ⟨rfl, rfl, rfl⟩ := hcs
    have hlen : len ≤ zs.length := by rw [hz]; split <;> omega
    refine ⟨zs.take len, ⟨fun _ => ⟨some x, cap, by simp [hlen], by simp; omega, fun i hi => ?_⟩, fun xs hx => by cases hx⟩, fun a => ?_⟩
    · simp at hi
      refine ⟨rfl, x.block, x.off, ?_, fun j u hu => ?_⟩
      · have h0 := hcell 0 (by omega)
        have := spot_none h0
        simp [Addr.add] at this
        cases x; simp_all
      · have hi' : i < zs.length := by omega
        have hu' : j = 0 ∧ u = .int .u8 (zs.getD i 0) := by
          cases j with
          | zero =>
            simp at hu
            refine ⟨rfl, hu.symm.trans ?_⟩
            simp [List.getElem?_take, hi, List.getD_eq_getElem?_getD, hi']
          | succ j => simp at hu
        obtain ⟨rfl, rfl⟩ := hu'
        have hsp := spot_none (hcell 0 (by omega))
        have hc := hcell i hi'
        simp only [Addr.add, if_true] at hsp
        have e : x.add i = ⟨x.block, x.off + (i * 1 + 0), none⟩ := by
          unfold Addr.add
          split
          · rename_i h0; subst h0; cases x; simp_all
          · simp
        rw [← e]
        exact hc
    · by_cases ha : a < (zs.take len).length
      · have hm2 : (zs.take len).getD a 0 ∈ zs := by
          rw [List.getD_eq_getElem?_getD, List.getElem?_eq_getElem ha]
          exact List.mem_of_mem_take (List.getElem_mem ha)
        have h := hwf _ hm2
        generalize (zs.take len).getD a 0 = n at h
        simp [Lit.wf, IntKind.min, IntKind.max, IntKind.signed, IntKind.bits] at h
        omega
      · rw [List.getD_eq_getElem?_getD, List.getElem?_eq_none (Nat.le_of_not_lt ha)]
        simp

end Go.Ab
