/- The abstract layer, part 11: a function that hands back a function over yield. -/
import Derived.Test.YtogmnhebobdokaaAbIter
set_option linter.unusedVariables false
set_option linter.unusedSimpArgs false
namespace Go.Ab
open Go Go.RowKit

/-- A row that a function over yield hands out. -/
def seqRow (xs : List (List Value)) : Row := { ty := 0, size := 1, len := 0, get := fun _ => [], sp := some xs }
/-- Where the maker ends: a closure over one box with the row that came in. -/
def mkQ (c : Cx) (rs : List ResultVar) (gf : FuncId) (kb : Nat) (R : Row) : Exit → St → Prop
  | .normal, _ => False
  | .ret, σ => E5 c σ rs = some [.c gf [kb]] ∧ CS σ.b kb = some (some [.r 0]) ∧ CS σ.x 0 = some (some { R with own := false, new := false }) ∧ CS σ.t 0 = some (.r 0)
  | _, _ => False

theorem maker_row {c : Cx} (hc : OK c) {f : FuncId} {fn : Func} {code : Code} (hf : c.P.funcs[f]? = some fn) (hname : (fn.name == "runtime.NumGoroutine") = false) (hb : fn.body = some code) (hN : fn.ntmps = c.N) (hN0 : 1 ≤ c.N) (hrd : c.rd = false) (hit : c.it = false) (hfz : c.fz = [0]) (hro : c.ro = [])
    {R : Row} (hRs : R.sp = none) (hRz : R.size ≠ 0) {gf : FuncId} {xs : List (List Value)} {k kb : Nat} (h : awp c code (mkQ c fn.results.toList gf kb R) (E7 [.r k] [some R]))
    (hseq : ∀ (w : World) (b1 : Nat) (v : Value) (T : TypeId), w.heap[b1]? = some (.cells #[v] T (0, 0)) → SliceOK w v R → SeqOK c.P (fun b => b = b1 ∨ AV v = some b) w (.func (.func gf) #[] #[.pointer (some ⟨b1, 0, none⟩)]) xs) :
    CallOK c.P f [.r k] [some R] [.row (seqRow xs)] := by
  refine ⟨fun ys w => ?_, fun ys w hy => ?_⟩
  · have h1 : fn.name ≠ "runtime.NumGoroutine" := by simpa using hname
    simp [callFunc, hf, h1, hb, mark]
  · obtain ⟨y, rfl⟩ : ∃ y, ys = [y] := by
      match ys, hy with
      | [y], _ => exact ⟨y, rfl⟩
    obtain ⟨tm, htm⟩ : ∃ tm, tm = ([y] : List Value).toArray ++ Array.replicate (fn.ntmps - ([y] : List Value).toArray.size) undef := ⟨_, rfl⟩
    have hr := start_rel hN (args := [.r k]) (rws := [some R]) (by simpa using hN0) (show sizesOK [some R] from ⟨hRz, trivial⟩) hit rfl hy tm (fun t _ => by rw [htm])
    refine (callsIn_wide (n := 0)).1 (callsIn_of_wp_marks hf hb trivial (Code.wpIn_mono ?_ (awp_sound hc code _ _ h none (by rw [hrd]; rfl) (Gen.none c) _ (fun hi => by rw [hit] at hi; cases hi) _ _ _ w hr)))
    rintro e a' w' ⟨w0', β', ρ', σ', ⟨_, hE⟩, hq, hr'⟩
    obtain rfl := hE.same hit
    have fin : mkQ c fn.results.toList gf kb R .ret σ' → LeavesInM (Fw none) 0 c.P fn a'.tmps (fun e w' => ∃ zs, e = .returned (retVal zs) ∧ retOK c.P [y] w w' [.row (seqRow xs)] zs ∧ Below w.heap.size w w') a'.defers .returning w' := by
      rintro ⟨q1, q2, q3, q4⟩
      refine leavesK hit (fun tmps w2 h2 => ?_) a'.defers a'.tmps w' hr'
      have hbel : Below w.heap.size w w2 := (show Kept (Env.of w) w2 from ⟨h2.below.os, h2.below.tape, h2.below.output, h2.below.size, h2.below.block⟩).below
      refine ⟨_, results_of hc h2 q1, _, rfl, ?_, hbel⟩
      show ((_ → _) ∧ (∀ xs', _ → _)) ∧ _ ∧ True
      refine ⟨⟨fun hs => (by cases hs), fun xs' hx => ?_⟩, fun hl => absurd rfl hl, trivial⟩
      simp only [seqRow, Option.some.injEq] at hx
      subst hx
      have e1 : ρ' 0 = y := by
        have g1 := h2.slots 0 _ q4 (by simp)
        have g2 := h2.frz 0 (by rw [hfz]; rfl)
        have g3 : tm.getD 0 undef = y := by rw [htm, Array.getD_eq_getD_getElem?, Array.getElem?_append_left (by simp)]; rfl
        have g4 : tmps.getD 0 undef = ρ' 0 := g1
        have g5 : tmps.getD 0 undef = tm.getD 0 undef := g2
        rw [← g4, g5, g3]
      obtain ⟨g1, T, g2⟩ := h2.boxes kb _ q2
      have g1 := g1 (by rw [hro]; rfl)
      simp only [List.map_cons, List.map_nil, conc, List.toArray] at g2
      have g3 : SliceOK w2 (ρ' 0) R := ((h2.rows 0 _ q3).1 hRs).congr rfl rfl (fun _ _ => rfl)
      refine ⟨_, ⟨w2, by simpa [conc] using hseq w2 (β' kb) (ρ' 0) T (by simpa using g2) g3, ?_⟩, ?_⟩
      · rintro b (rfl | hb)
        · exact ⟨_, g2, rfl, g2⟩
        · have hl := g3.full hb
          have ho := fullBlock_own hb
          obtain ⟨a'', c'', hv, _, hi⟩ := g3
          obtain ⟨hs, b', o, ha, hcc⟩ := hi 0 (by omega)
          rw [hv, ha] at ho
          simp [Value.ownBlock] at ho
          subst ho
          have hpos : 0 < (R.get (0 : Nat)).length := by rw [hs]; omega
          obtain ⟨o', k1, k2⟩ := cells_of_cell (hcc 0 _ (List.getElem?_eq_getElem hpos))
          exact ⟨o', k1, k2, k1⟩
      · rintro b (rfl | hb)
        · left
          exact Nat.le_of_not_lt g1
        · right
          exact ⟨y, by simp, e1 ▸ hb⟩
    cases e with
    | ret => exact fin hq
    | normal => exact hq.elim
    | exit id => exact hq.elim
    | goto l => exact hq.elim
    | panic ch => exact hq.elim
    | outgrown => exact hq.elim

/-- The same over two boxes with plain values. -/
def mkQ2 (c : Cx) (rs : List ResultVar) (gf : FuncId) (k1 k2 : Nat) (x1 x2 : Value) : Exit → St → Prop
  | .normal, _ => False
  | .ret, σ => E5 c σ rs = some [.c gf [k1, k2]] ∧ CS σ.b k1 = some (some [.v x1]) ∧ CS σ.b k2 = some (some [.v x2])
  | _, _ => False
theorem maker_two {c : Cx} (hc : OK c) {f : FuncId} {fn : Func} {code : Code} (hf : c.P.funcs[f]? = some fn) (hname : (fn.name == "runtime.NumGoroutine") = false) (hb : fn.body = some code) (hN : fn.ntmps = c.N) (hN0 : 2 ≤ c.N) (hrd : c.rd = false) (hit : c.it = false) (hfz : c.fz = []) (hro : c.ro = [])
    {x1 x2 : Value} {gf : FuncId} {xs : List (List Value)} {k1 k2 : Nat} (h : awp c code (mkQ2 c fn.results.toList gf k1 k2 x1 x2) (E7 [.v x1, .v x2] [none, none]))
    (hseq : ∀ (w : World) (b1 b2 : Nat) (T1 T2 : TypeId), w.heap[b1]? = some (.cells #[x1] T1 (0, 0)) → w.heap[b2]? = some (.cells #[x2] T2 (0, 0)) → SeqOK c.P (fun b => b = b1 ∨ b = b2) w (.func (.func gf) #[] #[.pointer (some ⟨b1, 0, none⟩), .pointer (some ⟨b2, 0, none⟩)]) xs) :
    CallOK c.P f [.v x1, .v x2] [none, none] [.row (seqRow xs)] := by
  refine ⟨fun ys w => ?_, fun ys w hy => ?_⟩
  · have h1 : fn.name ≠ "runtime.NumGoroutine" := by simpa using hname
    simp [callFunc, hf, h1, hb, mark]
  · have hr := start_rel hN (args := [.v x1, .v x2]) (rws := [none, none]) (by simpa using hN0) (show sizesOK [none, none] from trivial) hit rfl hy #[] (fun t ht => by rw [hfz] at ht; simp at ht)
    refine (callsIn_wide (n := 0)).1 (callsIn_of_wp_marks hf hb trivial (Code.wpIn_mono ?_ (awp_sound hc code _ _ h none (by rw [hrd]; rfl) (Gen.none c) _ (fun hi => by rw [hit] at hi; cases hi) _ _ _ w hr)))
    rintro e a' w' ⟨w0', β', ρ', σ', ⟨_, hE⟩, hq, hr'⟩
    obtain rfl := hE.same hit
    have fin : mkQ2 c fn.results.toList gf k1 k2 x1 x2 .ret σ' → LeavesInM (Fw none) 0 c.P fn a'.tmps (fun e w' => ∃ zs, e = .returned (retVal zs) ∧ retOK c.P ys w w' [.row (seqRow xs)] zs ∧ Below w.heap.size w w') a'.defers .returning w' := by
      rintro ⟨q1, q2, q3⟩
      refine leavesK hit (fun tmps w2 h2 => ?_) a'.defers a'.tmps w' hr'
      have hbel : Below w.heap.size w w2 := (show Kept (Env.of w) w2 from ⟨h2.below.os, h2.below.tape, h2.below.output, h2.below.size, h2.below.block⟩).below
      refine ⟨_, results_of hc h2 q1, _, rfl, ?_, hbel⟩
      show ((_ → _) ∧ (∀ xs', _ → _)) ∧ _ ∧ True
      refine ⟨⟨fun hs => (by cases hs), fun xs' hx => ?_⟩, fun hl => absurd rfl hl, trivial⟩
      simp only [seqRow, Option.some.injEq] at hx
      subst hx
      obtain ⟨g1, T1, g2⟩ := h2.boxes k1 _ q2
      obtain ⟨g3, T2, g4⟩ := h2.boxes k2 _ q3
      have g1 := g1 (by rw [hro]; rfl)
      have g3 := g3 (by rw [hro]; rfl)
      simp only [List.map_cons, List.map_nil, conc, List.toArray] at g2 g4
      refine ⟨_, ⟨w2, by simpa [conc] using hseq w2 (β' k1) (β' k2) T1 T2 (by simpa using g2) (by simpa using g4), ?_⟩, ?_⟩
      · rintro b (rfl | rfl)
        · exact ⟨_, g2, rfl, g2⟩
        · exact ⟨_, g4, rfl, g4⟩
      · rintro b (rfl | rfl)
        · left; exact Nat.le_of_not_lt g1
        · left; exact Nat.le_of_not_lt g3
    cases e with
    | ret => exact fin hq
    | normal => exact hq.elim
    | exit id => exact hq.elim
    | goto l => exact hq.elim
    | panic ch => exact hq.elim
    | outgrown => exact hq.elim

end Go.Ab
