/- The abstract layer, part 11: a closure over one box that holds a row. -/
import Derived.Test.YtogmnhebobdokaaAbFn
set_option linter.unusedVariables false
set_option linter.unusedSimpArgs false
namespace Go.Ab
open Go Go.RowKit

def boxSt (x : Value) (R : Row) : St := ⟨[(0, .v x), (1, .p 1 0)], [(1, some [.r 1000])], [(1000, some { R with own := false, new := false })]⟩
theorem box_rel {c : Cx} {fn : Func} (hN : fn.ntmps = c.N) (hN2 : 2 ≤ c.N) (hit : c.it = false) (hfz : c.fz = []) (hro : c.ro = [1]) {x v : Value} {b1 : Nat} {T1 : TypeId} {R : Row} (hRs : R.sp = none) (hRz : R.size ≠ 0) {w : World} (h1 : w.heap[b1]? = some (.cells #[v] T1 (0, 0))) (h2 : SliceOK w v R) :
    Rel c (Env.of w) (fun _ => b1) (fun k => if k = 1000 then v else .slice none 0 0) (boxSt x R) { tmps := #[x, .pointer (some ⟨b1, 0, none⟩)] ++ Array.replicate (fn.ntmps - (#[x, .pointer (some ⟨b1, 0, none⟩)] : Array Value).size) undef, defers := [] } w := by
  obtain ⟨R', hR'⟩ : ∃ R', R' = { R with own := false, new := false } := ⟨_, rfl⟩
  have xrow : ∀ k S, CS [(1000, some R')] k = some (some S) → k = 1000 ∧ S = R' := fun k S hk => by
    simp only [look_cons] at hk
    split at hk
    · rename_i e; simp at hk; exact ⟨e.symm, hk.symm⟩
    · simp [CS] at hk
  have bbox : ∀ k cs, CS [(1, some [V.r 1000])] k = some (some cs) → (k = 1 ∧ cs = [.r 1000]) := fun k cs hk => by
    simp only [look_cons] at hk
    split at hk
    · rename_i e; simp at hk; exact ⟨e.symm, hk.symm⟩
    · simp [CS] at hk
  have roc : ∀ k cs, CS [(1, some [V.r 1000])] k = some (some cs) → c.ro.contains k = true := fun k cs hk => by
    obtain ⟨rfl, _⟩ := bbox k cs hk; rw [hro]; rfl
  unfold boxSt
  rw [← hR']
  have q1 : R'.len = R.len := by rw [hR']
  have q2 : R'.size = R.size := by rw [hR']
  have q3 : R'.sp = none := by rw [hR']; exact hRs
  have q4 : R'.new = false := by rw [hR']
  have q5 : R'.own = false := by rw [hR']
  have hS' : SliceOK w v R' := by rw [hR']; exact h2
  refine ⟨Kept.refl _, by simp [hN]; omega, trivial, fun t u hu hne => ?_, fun k cs hk => ?_, fun k cs hk u hu => ?_, fun k j cs ds hk _ _ hr => ?_, fun k S hk => ?_, fun k S hk hn => ?_, fun k S hk hn b hb => ?_, fun k S hk => ?_, fun k S j cs hk hj hl hr => ?_, fun k S hk ho => ?_, fun k S xs hk hs => ?_, fun t ht => (by rw [hfz] at ht; simp at ht),
    ⟨trivial, fun b hb => hb.elim, fun _ => ⟨fun _ => trivial, fun b hb => hb⟩⟩, fun hi => (by rw [hit] at hi; cases hi), ⟨fun k cs _ hb => hb, fun k S _ _ b _ hb => hb⟩⟩
  · rw [Array.getD_eq_getD_getElem?]
    simp only [look_cons] at hu
    split at hu
    · rename_i e; subst e; simp at hu; subst hu; rw [Array.getElem?_append_left (by simp)]; simp [conc]
    · split at hu
      · rename_i e; subst e; simp at hu; subst hu; rw [Array.getElem?_append_left (by simp)]; simp [conc]
      · simp [CS] at hu
  · refine ⟨fun hr => (by rw [roc k cs hk] at hr; cases hr), ?_⟩
    obtain ⟨rfl, rfl⟩ := bbox k cs hk
    exact ⟨T1, by simpa [conc] using h1⟩
  · obtain ⟨rfl, rfl⟩ := bbox k cs hk; simp at hu; subst hu; simp
  · rw [roc k cs hk] at hr; cases hr
  · obtain ⟨rfl, rfl⟩ := xrow k S hk
    exact ⟨fun _ => by simpa using hS', fun xs hs => by rw [q3] at hs; cases hs⟩
  · obtain ⟨rfl, rfl⟩ := xrow k S hk
    rw [q4] at hn; cases hn
  · obtain ⟨rfl, rfl⟩ := xrow k S hk
    rw [if_pos rfl] at hb
    show b < w.heap.size
    have hl := h2.full hb
    have ho := fullBlock_own hb
    obtain ⟨a', c', hv, _, hi⟩ := h2
    obtain ⟨hs, b', o, ha, hc⟩ := hi 0 (by omega)
    rw [hv, ha] at ho
    simp [Value.ownBlock] at ho
    have hpos : 0 < (R.get (0 : Nat)).length := by rw [hs]; omega
    have := World.block_lt_of_cell? w _ (hc 0 _ (List.getElem?_eq_getElem hpos))
    simp at this
    omega
  · obtain ⟨rfl, rfl⟩ := xrow k S hk; rw [q2]; exact hRz
  · rw [roc j cs hj] at hr; cases hr
  · obtain ⟨rfl, rfl⟩ := xrow k S hk; rw [q5] at ho; cases ho
  · obtain ⟨rfl, rfl⟩ := xrow k S hk; rw [q3] at hs; cases hs

/-- **A contract of a closure over one box that holds a row.** -/
theorem callOK_of_awpB {c : Cx} (hc : OK c) {f : FuncId} {fn : Func} {code : Code} (hf : c.P.funcs[f]? = some fn) (hname : (fn.name == "runtime.NumGoroutine") = false) (hb : fn.body = some code) (hN : fn.ntmps = c.N) (hN2 : 2 ≤ c.N)
    {x : Value} {R : Row} {ret : List RV} (hRs : R.sp = none) (hRz : R.size ≠ 0) (h : awp c code (E1 c fn.results.toList ret) (boxSt x R)) (k : Nat) (hrd : c.rd = false := by rfl) (hit : c.it = false := by rfl) (hfz : c.fz = [] := by rfl) (hro : c.ro = [1] := by rfl) : CallOK c.P f [.v x, .p k 0] [none, some R] ret := by
  refine ⟨fun ys w => ?_, fun ys w hy => ?_⟩
  · have h1 : fn.name ≠ "runtime.NumGoroutine" := by simpa using hname
    simp [callFunc, hf, h1, hb, mark]
  · match ys, hy with
    | [y0, y1], hy =>
      obtain ⟨rfl, ⟨b1, v, T1, rfl, hcell, _, hrow⟩, _⟩ := hy
      have hr := box_rel (fn := fn) (x := y0) hN hN2 hit hfz hro hRs hRz hcell (hrow.1 hRs)
      refine (callsIn_wide (n := 0)).1 (callsIn_of_wp_marks hf hb trivial (Code.wpIn_mono ?_ (awp_sound hc code _ _ h none (by rw [hrd]; rfl) (Gen.none c) _ (fun hi => by rw [hit] at hi; cases hi) _ _ _ w hr)))
      rintro e a' w' ⟨w0', β', ρ', σ', ⟨_, hE⟩, hq, hr'⟩
      obtain rfl := hE.same hit
      have fin : (match E5 c σ' fn.results.toList with | some vs => E6 σ' vs ret | none => False) →
          LeavesInM (Fw none) 0 c.P fn a'.tmps (fun e w' => ∃ zs, e = .returned (retVal zs) ∧ retOK c.P [y0, .pointer (some ⟨b1, 0, none⟩)] w w' ret zs ∧ Below w.heap.size w w') a'.defers .returning w' := by
        intro hq
        cases hv : E5 c σ' fn.results.toList with
        | none => rw [hv] at hq; exact hq.elim
        | some vs =>
          rw [hv] at hq
          exact leaves hc hit hv hq _ _ _ hr'
      cases e with
      | normal => exact fin hq
      | ret => exact fin hq
      | exit id => exact hq.elim
      | goto l => exact hq.elim
      | panic ch => exact hq.elim
      | outgrown => exact hq.elim

end Go.Ab
