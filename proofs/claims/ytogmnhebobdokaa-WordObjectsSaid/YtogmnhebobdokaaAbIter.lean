/- The abstract layer, part 9: a function over yield, out of its code. -/
import Derived.Test.YtogmnhebobdokaaAbRange
set_option linter.unusedVariables false
set_option linter.unusedSimpArgs false
namespace Go.Ab
open Go Go.RowKit

/-- How a function over yield ends: all has come, or no more is wanted. -/
def iterE (N n : Nat) (σ : St) : Prop :=
  match CS σ.x N with
  | some (some R) => (R.size = 1 ∧ R.ty = n) ∨ R.size = 2
  | _ => False
def iterQ (N n : Nat) : Exit → St → Prop
  | .normal, σ => iterE N n σ
  | .ret, σ => iterE N n σ
  | _, _ => False
def ghost : Row := { ty := 0, size := 1, len := 0, get := fun _ => [] }

/-- The frame of a function over yield, told of what it has captured. -/
def IterStart (c : Cx) (σ : St) (lb : Array Value) (U : Nat → Prop) (w : World) : Prop :=
  ∀ (W : World), (∀ b, U b → b < W.heap.size ∧ W.heap[b]? = w.heap[b]?) → ∀ (E : Env), E.w0 = W → E.pr = U → E.old = U → E.cnt = 0 → E.done = false → (∀ b, U b → ¬ E.fr b) → (∀ b, E.fr b → b < W.heap.size) → E.J W →
    ∃ β ρ, Rel c E β ρ σ { tmps := (#[Value.func (.yield c.yl) #[] #[]] ++ lb) ++ Array.replicate (c.N - (#[Value.func (.yield c.yl) #[] #[]] ++ lb).size) undef, defers := [] } W

theorem seqOK_of {P : Program} {c : Nat → Cx} (hc : ∀ l, OK (c l)) (hP : ∀ l, (c l).P = P) (hit : ∀ l, (c l).it = true) (hrd : ∀ l, (c l).rd = false) (hyl : ∀ l, (c l).yl = l) {xs : List (List Value)} (hys : ∀ l, (c l).ys = xs) {gf : Nat} {fn : Func} {code : Code}
    (hf : P.funcs[gf]? = some fn) (hname : (fn.name == "runtime.NumGoroutine") = false) (hb : fn.body = some code) (hN : ∀ l, fn.ntmps = (c l).N) (hres : fn.results = #[]) (σ : Nat → St) {lb : Array Value} {U : Nat → Prop} {w : World}
    (hst : ∀ l, IterStart (c l) (σ l) lb U w) (h : ∀ l, awp (c l) code (iterQ (c l).N xs.length) (σ l)) : SeqOK P U w (.func (.func gf) #[] lb) xs := by
  refine ⟨gf, lb, rfl, fun ys w => ?_, fun W hW l J Jx hstf hstx hlt hy M hJ hMU => ?_⟩
  · have h1 : fn.name ≠ "runtime.NumGoroutine" := by simpa using hname
    simp [callFunc, hf, h1, hb, mark]
  · let G : Gen (c l) := { l := l, Jf := J, Jx := Jx, stf := hstf, stx := hstx, hlt := hlt, hl := hyl l, hy := fun i M A x hx hJ => by rw [hys] at hx; rw [hP]; exact hy i M A x hx hJ }
    let E : Env := { w0 := W, pr := U, lt := fun b hb => (hW b hb).1, old := U, oldpr := fun _ h => h, fr := M, J := J 0 M, st := fun A B hA hB => hstf 0 M A B hA hB, cnt := 0, done := false }
    obtain ⟨β, ρ, hr⟩ := hst l W hW E rfl rfl rfl rfl rfl (fun b hb hm => hMU b hm hb) (hlt 0 M W hJ) hJ
    have hwp := awp_sound (hc l) code _ _ (h l) none (by rw [hrd]; rfl) G E (fun _ => ⟨fun w => by simp [E, G], fun b hb hm => hMU b hm hb⟩) β ρ _ W hr
    rw [hP, hyl] at hwp
    have hfr := hN l
    rw [← hfr] at hwp
    refine callsIn_of_wp_marks (F := Fw none) hf hb trivial (Code.wpIn_mono ?_ hwp)
    rintro e a' w' ⟨E', β', ρ', σ', ⟨hG', hE'⟩, hq, hr'⟩
    obtain ⟨⟨hdf, _⟩, hgs⟩ := hr'.gs (hit l)
    have fin : iterE fn.ntmps xs.length σ' →
        LeavesInM (Fw none) 0 P fn a'.tmps (fun e B => (∃ v, e = .returned v) ∧ ((∃ M, J xs.length M B) ∨ Jx B)) a'.defers .returning w' := by
      intro hq
      rw [hdf]
      have hresults := results_of (hc l) hr' (fn := fn) (vs := []) (by rw [hres]; rfl)
      rw [hP] at hresults
      refine ⟨_, hresults, ⟨_, rfl⟩, ?_⟩
      rw [hfr] at hq
      simp only [iterE] at hq
      split at hq
      · rename_i R hR
        obtain ⟨h1, h2⟩ := hgs R hR
        have hJ' := ((hG' (hit l)).1 w').1 hr'.gh.1
        cases hd : E'.done with
        | false =>
          rw [hd] at h2 hJ'
          rcases hq with ⟨q1, q2⟩ | q
          · left
            refine ⟨E'.fr, ?_⟩
            rw [← q2, h1]
            simpa [G] using hJ'
          · rw [h2] at q; simp at q
        | true =>
          rw [hd] at hJ'
          right
          simpa [G] using hJ'
      · exact hq.elim
    cases e with
    | normal => exact fin hq
    | ret => exact fin hq
    | exit id => exact hq.elim
    | goto l => exact hq.elim
    | panic ch => exact hq.elim
    | outgrown => exact hq.elim

/-- Two captured variables that hold plain values. -/
def twoSt (l N : Nat) (x1 x2 : Value) : St := ⟨[(0, .v (.func (.yield l) #[] #[])), (1, .p 1 0), (2, .p 2 0)], [(1, some [.v x1]), (2, some [.v x2])], [(N, some ghost)]⟩
theorem two_start {c : Cx} (hro : c.ro = [1, 2]) (hfz : c.fz = []) (hN : 3 ≤ c.N) (hit : c.it = true) {w : World} {b1 b2 : Nat} {x1 x2 : Value} {T1 T2 : TypeId} (h1 : w.heap[b1]? = some (.cells #[x1] T1 (0, 0))) (h2 : w.heap[b2]? = some (.cells #[x2] T2 (0, 0))) :
    IterStart c (twoSt c.yl c.N x1 x2) #[.pointer (some ⟨b1, 0, none⟩), .pointer (some ⟨b2, 0, none⟩)] (fun b => b = b1 ∨ b = b2) w := by
  intro W hW E e1 e2 e3 e4 e5 hfr hfl hJ
  have k1 := (hW b1 (.inl rfl)).2.trans h1
  have k2 := (hW b2 (.inr rfl)).2.trans h2
  have xrow : ∀ k R, CS [(c.N, some ghost)] k = some (some R) → k = c.N ∧ R = ghost := fun k R hk => by
    simp only [look_cons] at hk
    split at hk
    · rename_i e; simp at hk; exact ⟨e.symm, hk.symm⟩
    · simp [CS] at hk
  have bbox : ∀ k cs, CS [(1, some [V.v x1]), (2, some [V.v x2])] k = some (some cs) → (k = 1 ∧ cs = [.v x1]) ∨ (k = 2 ∧ cs = [.v x2]) := fun k cs hk => by
    simp only [look_cons] at hk
    split at hk
    · rename_i e; simp at hk; exact .inl ⟨e.symm, hk.symm⟩
    · split at hk
      · rename_i e; simp at hk; exact .inr ⟨e.symm, hk.symm⟩
      · simp [CS] at hk
  have roc : ∀ k cs, CS [(1, some [V.v x1]), (2, some [V.v x2])] k = some (some cs) → c.ro.contains k = true := fun k cs hk => by
    rcases bbox k cs hk with ⟨rfl, _⟩ | ⟨rfl, _⟩ <;> rw [hro] <;> rfl
  refine ⟨fun k => if k = 1 then b1 else b2, fun _ => .slice none 0 0, ⟨?_, by simp; omega, trivial, fun t v hv hne => ?_, fun k cs hk => ?_, fun k cs hk v hv => ?_, fun k j cs ds hk _ _ hr => ?_, fun k R hk => ?_, fun k R hk hn => ?_, fun k R hk hn b hb => (by cases hb), fun k R hk => ?_, fun k R j cs hk _ hl => ?_, fun k R hk ho => ?_, fun k R xs hk hs => ?_, fun t ht => (by rw [hfz] at ht; simp at ht),
    ⟨hJ, hfl, fun hi => (by rw [hit] at hi; cases hi)⟩, fun _ => ⟨⟨rfl, hfz⟩, fun R hR => ?_⟩, ⟨fun k cs hk => ?_, fun k R hk hl => ?_⟩⟩⟩
  · have := Kept.refl E; rw [e1] at this; exact this
  · rw [Array.getD_eq_getD_getElem?]
    simp only [twoSt, look_cons] at hv
    split at hv
    · rename_i e; subst e; simp at hv; subst hv; rw [Array.getElem?_append_left (by simp)]; simp [conc]
    · split at hv
      · rename_i e; subst e; simp at hv; subst hv; rw [Array.getElem?_append_left (by simp)]; simp [conc]
      · split at hv
        · rename_i e; subst e; simp at hv; subst hv; rw [Array.getElem?_append_left (by simp)]; simp [conc]
        · simp [CS] at hv
  · refine ⟨fun hr => (by rw [roc k cs hk] at hr; cases hr), ?_⟩
    rcases bbox k cs hk with ⟨rfl, rfl⟩ | ⟨rfl, rfl⟩
    · exact ⟨T1, by simpa [conc] using k1⟩
    · exact ⟨T2, by simpa [conc] using k2⟩
  · rcases bbox k cs hk with ⟨rfl, rfl⟩ | ⟨rfl, rfl⟩ <;> simp at hv <;> subst hv <;> simp
  · rw [roc k cs hk] at hr; cases hr
  · obtain ⟨rfl, rfl⟩ := xrow k R hk
    exact ⟨fun _ => ⟨none, 0, rfl, Nat.le_refl _, fun i hi => by simp [ghost] at hi⟩, fun xs hs => by cases hs⟩
  · obtain ⟨rfl, rfl⟩ := xrow k R hk; cases hn
  · obtain ⟨rfl, rfl⟩ := xrow k R hk; simp [ghost]
  · obtain ⟨rfl, rfl⟩ := xrow k R hk; simp [ghost] at hl
  · obtain ⟨rfl, rfl⟩ := xrow k R hk; cases ho
  · obtain ⟨rfl, rfl⟩ := xrow k R hk; cases hs
  · obtain ⟨_, rfl⟩ := xrow _ R hR
    rw [e4, e5]; exact ⟨rfl, rfl⟩
  · rcases bbox k cs hk with ⟨rfl, _⟩ | ⟨rfl, _⟩
    · exact hfr b1 (.inl rfl)
    · exact hfr b2 (.inr rfl)
  · obtain ⟨rfl, rfl⟩ := xrow k R hk; simp [ghost] at hl

/-- One captured variable, that holds a row. -/
def oneSt (l N : Nat) (R : Row) : St := ⟨[(0, .v (.func (.yield l) #[] #[])), (1, .p 1 0)], [(1, some [.r 1000])], [(1000, some { R with own := false, new := false }), (N, some ghost)]⟩
theorem one_start {c : Cx} (hro : c.ro = [1]) (hfz : c.fz = []) (hN : 2 ≤ c.N) (hN2 : c.N < 1000) (hit : c.it = true) {w : World} {b1 : Nat} {v : Value} {T1 : TypeId} {R : Row} (hRs : R.sp = none) (hRz : R.size ≠ 0) (h1 : w.heap[b1]? = some (.cells #[v] T1 (0, 0))) (h2 : SliceOK w v R) :
    IterStart c (oneSt c.yl c.N R) #[.pointer (some ⟨b1, 0, none⟩)] (fun b => b = b1 ∨ AV v = some b) w := by
  intro W hW E e1 e2 e3 e4 e5 hfr hfl hJ
  have k1 := (hW b1 (.inl rfl)).2.trans h1
  have hS : SliceOK W v R := by
    have h2' := h2
    obtain ⟨a', c', hv, hlc, hi⟩ := h2
    refine ⟨a', c', hv, hlc, fun i hlt => ?_⟩
    obtain ⟨hs, b, o, ha, hc⟩ := hi i hlt
    refine ⟨hs, b, o, ha, fun n u hu => ?_⟩
    have hfb : AV v = some b := h2'.of_full (by omega) (by rw [hv, ha]; rfl)
    exact (World.cell?_of_block (hW b (.inr hfb)).2).trans (hc n u hu)
  obtain ⟨R', hR'⟩ : ∃ R', R' = { R with own := false, new := false } := ⟨_, rfl⟩
  have xrow : ∀ k S, CS [(1000, some R'), (c.N, some ghost)] k = some (some S) → (k = 1000 ∧ S = R') ∨ (k = c.N ∧ S = ghost) := fun k S hk => by
    simp only [look_cons] at hk
    split at hk
    · rename_i e; simp at hk; exact .inl ⟨e.symm, hk.symm⟩
    · split at hk
      · rename_i e; simp at hk; exact .inr ⟨e.symm, hk.symm⟩
      · simp [CS] at hk
  have bbox : ∀ k cs, CS [(1, some [V.r 1000])] k = some (some cs) → (k = 1 ∧ cs = [.r 1000]) := fun k cs hk => by
    simp only [look_cons] at hk
    split at hk
    · rename_i e; simp at hk; exact ⟨e.symm, hk.symm⟩
    · simp [CS] at hk
  have roc : ∀ k cs, CS [(1, some [V.r 1000])] k = some (some cs) → c.ro.contains k = true := fun k cs hk => by
    obtain ⟨rfl, _⟩ := bbox k cs hk; rw [hro]; rfl
  unfold oneSt
  rw [← hR']
  have q1 : R'.len = R.len := by rw [hR']
  have q2 : R'.size = R.size := by rw [hR']
  have q3 : R'.sp = none := by rw [hR']; exact hRs
  have q4 : R'.new = false := by rw [hR']
  have q5 : R'.own = false := by rw [hR']
  have hS' : SliceOK W v R' := by rw [hR']; exact hS
  refine ⟨fun _ => b1, fun k => if k = 1000 then v else .slice none 0 0, ⟨?_, by simp; omega, trivial, fun t u hu hne => ?_, fun k cs hk => ?_, fun k cs hk u hu => ?_, fun k j cs ds hk _ _ hr => ?_, fun k S hk => ?_, fun k S hk hn => ?_, fun k S hk hn b hb => ?_, fun k S hk => ?_, fun k S j cs hk hj hl hr => ?_, fun k S hk ho => ?_, fun k S xs hk hs => ?_, fun t ht => (by rw [hfz] at ht; simp at ht),
    ⟨hJ, hfl, fun hi => (by rw [hit] at hi; cases hi)⟩, fun _ => ⟨⟨rfl, hfz⟩, fun S hS => ?_⟩, ⟨fun k cs hk => ?_, fun k S hk hl b hb => ?_⟩⟩⟩
  · have := Kept.refl E; rw [e1] at this; exact this
  · rw [Array.getD_eq_getD_getElem?]
    simp only [look_cons] at hu
    split at hu
    · rename_i e; subst e; simp at hu; subst hu; rw [Array.getElem?_append_left (by simp)]; simp [conc]
    · split at hu
      · rename_i e; subst e; simp at hu; subst hu; rw [Array.getElem?_append_left (by simp)]; simp [conc]
      · simp [CS] at hu
  · refine ⟨fun hr => (by rw [roc k cs hk] at hr; cases hr), ?_⟩
    obtain ⟨rfl, rfl⟩ := bbox k cs hk
    exact ⟨T1, by simpa [conc] using k1⟩
  · obtain ⟨rfl, rfl⟩ := bbox k cs hk; simp at hu; subst hu; simp
  · rw [roc k cs hk] at hr; cases hr
  · rcases xrow k S hk with ⟨rfl, rfl⟩ | ⟨rfl, rfl⟩
    · exact ⟨fun _ => by simpa using hS', fun xs hs => by rw [q3] at hs; cases hs⟩
    · refine ⟨fun _ => ⟨none, 0, ?_, Nat.le_refl _, fun i hi => by simp [ghost] at hi⟩, fun xs hs => by cases hs⟩
      rw [if_neg (by omega)]; rfl
  · rcases xrow k S hk with ⟨rfl, rfl⟩ | ⟨rfl, rfl⟩
    · rw [q4] at hn; cases hn
    · cases hn
  · rcases xrow k S hk with ⟨rfl, rfl⟩ | ⟨rfl, rfl⟩
    · rw [e3]; right; simpa using hb
    · rw [if_neg (by omega)] at hb; cases hb
  · rcases xrow k S hk with ⟨rfl, rfl⟩ | ⟨rfl, rfl⟩
    · rw [q2]; exact hRz
    · simp [ghost]
  · rw [roc j cs hj] at hr; cases hr
  · rcases xrow k S hk with ⟨rfl, rfl⟩ | ⟨rfl, rfl⟩
    · rw [q5] at ho; cases ho
    · cases ho
  · rcases xrow k S hk with ⟨rfl, rfl⟩ | ⟨rfl, rfl⟩
    · rw [q3] at hs; cases hs
    · cases hs
  · rcases xrow _ S hS with ⟨e, _⟩ | ⟨_, rfl⟩
    · omega
    · rw [e4, e5]; exact ⟨rfl, rfl⟩
  · exact hfr b1 (.inl rfl)
  · rcases xrow k S hk with ⟨rfl, rfl⟩ | ⟨rfl, rfl⟩
    · simp only [if_true] at hb
      exact hfr b (.inr (hS'.of_full hl hb))
    · simp [ghost] at hl

end Go.Ab
