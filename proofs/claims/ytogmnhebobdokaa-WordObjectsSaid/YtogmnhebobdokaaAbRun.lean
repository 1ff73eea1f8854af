/- The abstract layer, part 5: regions in the text's order, code, loops, functions. -/
import Derived.Test.YtogmnhebobdokaaAbStep
import Derived.Tactics
import Derived.Deep.LoopGhost
import Derived.Sort.LoopGhostIn
import Derived.OrdersIn
import Derived.RangeFuncNested
set_option linter.unusedVariables false
set_option linter.unusedSimpArgs false
namespace Go.Ab
open Go Go.RowKit

theorem Fw_fn (l : Option Nat) (f : FuncId) : (Fw l).fn f := trivial
theorem calls_in (l : Option Nat) {n : Nat} {P : Program} {f : FuncId} {args : Array Value} {w : World} {R : Ending → World → Prop} (h : Calls P f args w R) : CallsIn (Fw l) n P f args w R :=
  (callsIn_wide (n := n)).2 h
theorem rows_in (l : Option Nat) {n : Nat} {P : Program} {f : String} {args : Array Value} {w : World} {R : Value → World → Prop} (h : Rows P f args w R) : RowsIn (Fw l) n P f args w R :=
  fun c cs _ => by
    obtain ⟨v, w', r, s⟩ := h c cs
    exact ⟨v, w', r, stepsIn_wide.2 s⟩
theorem wpIn_of_wp (l : Option Nat) {P : Program} {o : Oper} {a : Act} {w : World} {K : Act → World → Prop} {Q : Exit → Act → World → Prop} (hd : ∀ c, o.op ≠ .defer c) (h : o.wp P a w K Q) : o.wpIn (Fw l) 0 P a w K Q := by
  refine ⟨fun f _ => trivial, ?_⟩
  have e : o.semAt (Fw l).round a.eval = execOp a.eval o := by
    cases l with
    | none => rfl
    | some l => exact Oper.semAt_some l _ o hd
  rw [e]
  unfold Oper.wp at h
  cases hr : (execOp a.eval o).run P w with
  | ok r w' =>
    rw [hr] at h
    cases r with
    | value v => exact h
    | skip => exact h
    | defer d => exact h
    | enter f args => exact ⟨fun h => (by cases h), calls_in l h⟩
    | row r args => exact ⟨fun h => (by cases h), rows_in l h⟩
    | _ => exact h.elim
  | halt e w' =>
    rw [hr] at h
    cases e <;> first | exact h | exact h.elim

theorem step1_op {c : Cx} {ops : List Oper} {o : Oper} {σ : St} {r : Prop × Eff} (h : CL c ops o σ = some r) : ∀ d, o.op ≠ .defer d := by
  intro d hd
  simp [CL, hd, CT, CO, CM, CN] at h

section
variable {c : Cx} {w0 : Env} {β : Nat → Nat} {ρ : Nat → Value} {σ : St} {a : Act} {w : World} {K : Act → World → Prop} {Q : Exit → Act → World → Prop}

theorem slot_get (h : Rel c w0 β ρ σ a w) {d : Nat} {v : V} (hl : CS σ.t d = some v) (hv : v ≠ .d) (x : Value) (hx : conc β ρ v = x) (hne : x ≠ undef) : a.tmps[d]? = some x := by
  have := h.slots d v hl hv
  rw [hx, Array.getD_eq_getD_getElem?] at this
  cases hg : a.tmps[d]? with
  | none => rw [hg] at this; exact absurd this.symm hne
  | some y => rw [hg] at this; simp at this; rw [this]

theorem undef_not_bool (b : Bool) : (Value.bool b) ≠ undef := by simp [undef]

/-- Whether a guarded operation is wanted. -/
theorem guard_sound (h : Rel c w0 β ρ σ a w) (ops : List Oper) (o : Oper) {g : Option Bool} (hg : DZ ops σ o.guard = some g) :
    Region.wanted o (yielded ops.toArray a.tmps) = (g.getD true) ∧ (g = none → True) := by
  refine ⟨?_, fun _ => trivial⟩
  unfold DZ at hg
  unfold Region.wanted
  cases hgd : o.guard with
  | none => rw [hgd] at hg; simp at hg; subst hg; rfl
  | some p =>
    obtain ⟨j, want⟩ := p
    rw [hgd] at hg
    dsimp only at hg ⊢
    have hy : ∀ d, (ops[j]?).bind (·.dst) = some d → yielded ops.toArray a.tmps j = match a.tmps[d]? with | some (.bool b) => some b | _ => none := fun d hd => by
      unfold yielded
      rw [List.getElem?_toArray, hd]
      rfl
    cases hd : (ops[j]?).bind (·.dst) with
    | none => rw [hd] at hg; simp at hg
    | some d =>
      rw [hd] at hg
      dsimp only at hg
      rw [hy d hd]
      split at hg
      · rename_i b hl
        simp only [Option.some.injEq] at hg
        subst hg
        rw [slot_get h hl (by simp) (.bool b) rfl (undef_not_bool b)]
        cases want <;> cases b <;> rfl
      · rename_i g' b hl
        simp only [Option.some.injEq] at hg
        subst hg
        cases g' with
        | true =>
          rw [slot_get h hl (by simp) (.bool b) rfl (undef_not_bool b)]
          cases want <;> cases b <;> rfl
        | false =>
          have := h.slots d _ hl (by simp)
          simp only [conc, Bool.false_eq_true, if_false] at this
          rw [Array.getD_eq_getD_getElem?] at this
          cases hg' : a.tmps[d]? with
          | none => simp
          | some y => rw [hg'] at this; simp at this; subst this; simp [undef]
      · simp at hg

theorem argOK_box (h : Rel c w0 β ρ σ a w) : ∀ {ks : List Nat}, DN (ks.map fun k => .p k 0) (ks.map (B1 σ)) = true →
    argOK c.P w (ks.map fun k => .p k 0) (ks.map (B1 σ)) (ks.map fun k => .pointer (some ⟨β k, 0, none⟩))
  | [], _ => trivial
  | k :: ks, hg => by
    simp only [List.map_cons] at hg ⊢
    cases hr : B1 σ k with
    | none => rw [hr] at hg; simp [DN] at hg
    | some R =>
      rw [hr] at hg
      simp only [DN] at hg
      refine ⟨?_, argOK_box h hg⟩
      unfold B1 at hr
      split at hr
      · rename_i j hb
        obtain ⟨hl, hsp⟩ := plainR_some hr
        have hx : CS σ.x j = some (some R) := by
          cases hq : CS σ.x j with
          | none => simp [hq] at hl
          | some u => simp [hq] at hl; subst hl; rfl
        obtain ⟨_, T, hT⟩ := h.boxes k _ hb
        exact ⟨β k, ρ j, T, rfl, by simpa [conc] using hT, rfl, h.rows j R hx⟩
      · simp at hr
theorem argOK_cl (h : Rel c w0 β ρ σ a w) {ks : List Nat} : ∀ {args : List V}, DN (args ++ ks.map fun k => .p k 0) (args.map (DG σ) ++ ks.map (B1 σ)) = true →
    argOK c.P w (args ++ ks.map fun k => .p k 0) (args.map (DG σ) ++ ks.map (B1 σ)) (args.map (conc β ρ) ++ ks.map fun k => .pointer (some ⟨β k, 0, none⟩))
  | [], hg => argOK_box h hg
  | .v x :: l, hg => by
    simp only [List.map_cons, List.cons_append, DN] at hg ⊢
    exact ⟨rfl, argOK_cl h hg⟩
  | .r k :: l, hg => by
    simp only [List.map_cons, List.cons_append] at hg ⊢
    cases hr : DG σ (.r k) with
    | none => rw [hr] at hg; simp [DN] at hg
    | some R =>
      rw [hr] at hg
      simp only [DN] at hg
      exact ⟨h.rows k R (rowOf_r hr), argOK_cl h hg⟩
  | .p k 0 :: l, hg => by simp [DN, DG] at hg
  | .p k (n + 1) :: l, hg => by simp [DN, DG] at hg
  | .s .. :: _, hg => by simp [DN] at hg
  | .e .. :: _, hg => by simp [DN] at hg
  | .q .. :: _, hg => by simp [DN] at hg
  | .tr .. :: _, hg => by simp [DN] at hg
  | .c .. :: _, hg => by simp [DN] at hg
  | .d :: _, hg => by simp [DN] at hg

/-- A closure is called. -/
theorem stepC_sound (h : Rel c w0 β ρ σ a w) (ops : List Oper) (o : Oper) {ob : Prop} {e : Eff} (he : B3 c ops o σ = some (ob, e)) (hob : ob)
    (hK : ∀ β' ρ' a' w', Rel c w0 β' ρ' (σ.app o.dst e) a' w' → K a' w') :
    if Region.wanted o (yielded ops.toArray a.tmps) then o.wp c.P a w K Q else K (a.put o.dst undef) w := by
  unfold B3 at he
  split at he
  · rename_i cl hop
    split at he
    · rename_i t hcal
      split at he
      · rename_i f ks raw d hal hraw hd
        dsimp only at he
        split at he
        · rename_i x hΓ
          split at he
          · rename_i hcond
            rw [Bool.and_eq_true] at hcond
            obtain ⟨hga, hfit⟩ := hcond
            obtain ⟨fv, hfv, hfu⟩ : ∃ v, CR (CS σ.t t) = some v ∧ CU v = .c f ks := by
              cases hv : CR (CS σ.t t) with
              | none => rw [hv] at hal; simp at hal
              | some v => rw [hv] at hal; exact ⟨v, rfl, by simpa using hal⟩
            have hev0 : a.eval (.tmp t) = conc β ρ fv := ev_sound h (x := .tmp t) (by simpa [CP] using hfv)
            rw [hfv] at he
            have hsplit : CV ((some fv).toList ++ raw) → a.eval (.tmp t) = conc β ρ (.c f ks) ∧ CV raw := fun hq => by
              have hq' : CV (fv :: raw) := by simpa using hq
              have hm := qobs_unq β ρ hq'
              simp only [List.map_cons, List.cons.injEq] at hm
              refine ⟨by rw [hev0, hm.1, hfu], ?_⟩
              cases fv <;> first | exact hq' | exact hq'.2
            have hxs := evs_sound h hraw
            -- the call itself
            have call : CV ((some fv).toList ++ raw) → CallOK c.P f (raw.map CU ++ ks.map fun k => .p k 0) ((raw.map fun x => DG σ (CU x)) ++ ks.map (B1 σ)) [.v x] → ∀ K' : Act → World → Prop,
                (∀ w', Below w.heap.size w w' → K' (a.put o.dst x) w') → o.wp c.P a w K' Q := by
              intro hqo0 ⟨hen, hcall⟩ K' hK'
              obtain ⟨hev, hqo⟩ := hsplit hqo0
              have hrw : (raw.map fun x => DG σ (CU x)) = (raw.map CU).map (DG σ) := by simp [Function.comp_def]
              rw [hrw] at hga hcall
              have hx2 := hxs.trans (qobs_unq β ρ hqo)
              have hargs : cl.args.map a.eval = ((raw.map CU).map (conc β ρ)).toArray := by
                apply Array.toList_inj.1
                simpa using hx2
              have hrun : (execOp a.eval o).run c.P w = .ok (.enter f ((raw.map CU).map (conc β ρ) ++ ks.map fun k => Value.pointer (some ⟨β k, 0, none⟩)).toArray) w := by
                have := hen ((raw.map CU).map (conc β ρ) ++ ks.map fun k => Value.pointer (some ⟨β k, 0, none⟩)).toArray w
                simp only [execOp, hop, resolve, hcal, hargs, hev]
                simp only [conc, Deferred.ofValue, Sem.run_bind, Sem.run_pure, Result.andThen_ok, invoke]
                simpa using this
              unfold Oper.wp
              rw [hrun]
              refine (hcall _ w (argOK_cl h hga)).mono ?_
              rintro e w' ⟨zs, rfl, hz, hb⟩
              match zs, hz with
              | [z], hz =>
                obtain ⟨rfl, _⟩ := hz
                exact hK' w' hb
            cases hg : DZ ops σ o.guard with
            | none => rw [hg] at he; simp at he
            | some g =>
              have hw := (guard_sound h ops o hg).1
              rw [hg] at he
              cases g with
              | none =>
                simp only [Option.some.injEq, Prod.mk.injEq] at he
                obtain ⟨rfl, rfl⟩ := he
                rw [hw]
                simp only [Option.getD_none, if_true]
                refine call hob.1 hob.2 K fun w' hb => hK β ρ _ _ ?_
                rw [hd]
                simpa [St.app] using (h.world hb).put d (fits_okd (by rw [← hd]; exact hfit)) (.v x) x fun _ => rfl
              | some b =>
                simp only [Option.some.injEq, Prod.mk.injEq] at he
                obtain ⟨rfl, rfl⟩ := he
                rw [hw]
                simp only [Option.getD_some]
                cases b with
                | true =>
                  simp only [if_true]
                  obtain ⟨ho1, ho2⟩ := hob rfl
                  refine call ho1 ho2 K fun w' hb => hK β ρ _ _ ?_
                  rw [hd]
                  simpa [St.app] using (h.world hb).put d (fits_okd (by rw [← hd]; exact hfit)) (.q true (.v x)) x fun _ => by simp [conc]
                | false =>
                  simp only [Bool.false_eq_true, if_false]
                  refine hK β ρ _ _ ?_
                  rw [hd]
                  simpa [St.app] using h.put d (fits_okd (by rw [← hd]; exact hfit)) (.q false (.v x)) undef fun _ => by simp [conc]
          · simp at he
        · simp at he
      · simp at he
    · simp at he
  · simp at he

theorem stepC_op {ops : List Oper} {o : Oper} {r : Prop × Eff} (h : B3 c ops o σ = some r) : (∀ d, o.op ≠ .defer d) ∧ r.2.key = none := by
  unfold B3 at h
  split at h
  · rename_i cl hop
    refine ⟨fun d hd => (by rw [hop] at hd; cases hd), ?_⟩
    split at h
    · split at h
      · dsimp only at h
        split at h
        · split at h
          · split at h <;> simp only [Option.some.injEq, reduceCtorEq] at h <;> subst h <;> rfl
          · simp at h
        · simp at h
      · simp at h
    · simp at h
  · simp at h

variable (hτ : TOK c.P c.τ) (hq : EQOK c.P c.eqs) (hby : BYOK c.P c.byt)
include hτ hq hby

theorem step1_sound (h : Rel c w0 β ρ σ a w) (ops : List Oper) (o : Oper) {ob : Prop} {e : Eff} (he : CL c ops o σ = some (ob, e)) (hob : ob) (σ' : St)
    (hσ : match e.key with | some k => Ready c σ σ' k | none => σ' = σ)
    (hK : ∀ β' ρ' a' w', Rel c w0 β' ρ' (σ'.app o.dst e) a' w' → K a' w') :
    if Region.wanted o (yielded ops.toArray a.tmps) then o.wp c.P a w K Q else K (a.put o.dst undef) w := by
  unfold CL at he
  cases hraw : CO σ (CT o.op) with
  | none => rw [hraw] at he; simp at he
  | some raw =>
    rw [hraw] at he
    dsimp only at he
    cases hst : CM c o raw (raw.map fun x => DG σ (CU x)) (DM raw fun x => DH σ (CU x)) with
    | none => rw [hst] at he; simp at he
    | some r =>
      obtain ⟨ob0, e0⟩ := r
      rw [hst] at he
      dsimp only at he
      split at he
      · rename_i hfit
        cases hg : DZ ops σ o.guard with
        | none => rw [hg] at he; simp at he
        | some g =>
          have hw := (guard_sound h ops o hg).1
          rw [hg] at he
          cases g with
          | none =>
            simp only [Option.some.injEq, Prod.mk.injEq] at he
            obtain ⟨rfl, rfl⟩ := he
            rw [hw]
            simp only [Option.getD_none, if_true]
            exact stepE_sound hτ hq hby h o hraw hst hob hfit σ' hσ fun β' ρ' a' w' hr _ => hK β' ρ' a' w' hr
          | some b =>
            dsimp only at he
            split at he
            · rename_i v hv hb hr hk hlo
              simp only [Option.some.injEq, Prod.mk.injEq] at he
              obtain ⟨rfl, rfl⟩ := he
              dsimp only at hσ
              subst hσ
              rw [hw]
              simp only [Option.getD_some]
              have e0eq : e0 = { val := some v } := by cases e0; simp_all
              subst e0eq
              cases b with
              | true =>
                simp only [if_true]
                refine stepE_sound hτ hq hby h o hraw hst (hob rfl) hfit σ' rfl fun β' ρ' a' w' hr hal => hK β' ρ' a' w' ?_
                refine Rel.reslot hr fun t u hu hne => ?_
                have hs := hr.slots t
                cases hd : o.dst with
                | none => rw [hd] at hu hs; exact hs u hu hne
                | some d =>
                  rw [hd] at hu hs
                  simp only [St.app, look_cons] at hu hs
                  by_cases e : d = t
                  · rw [if_pos e] at hu
                    simp at hu; subst hu
                    have := hs v (by rw [if_pos e]) (hal v rfl)
                    simpa [conc] using this
                  · rw [if_neg e] at hu; exact hs u (by rw [if_neg e]; exact hu) hne
              | false =>
                simp only [Bool.false_eq_true, if_false]
                exact hK β ρ _ _ (h.set _ hfit _ _ fun _ => by simp [conc])
            · simp at he
      · simp at he

/-- A region in the text's order. -/
theorem steps_sound (lr : Option Nat) (ops : List Oper) (Q : Exit → Act → World → Prop) : ∀ (l : List Oper) (σ : St) (β : Nat → Nat) (ρ : Nat → Value) (a : Act) (w : World) (ob : Prop) (σ' : St), CJ c ops l σ = some (ob, σ') → ob → Rel c w0 β ρ σ a w →
    (∀ β' ρ' a' w', Rel c w0 β' ρ' σ' a' w' → Q .normal a' w') → wpListIn (Fw lr) 0 c.P ops.toArray Q l a w
  | [], σ, β, ρ, a, w, ob, σ', hs, hob, h, hQ => by
    simp [CJ] at hs
    obtain ⟨_, rfl⟩ := hs
    exact hQ β ρ a w h
  | o :: l, σ, β, ρ, a, w, ob, σ', hs, hob, h, hQ => by
    simp only [CJ] at hs
    cases h1 : B4 (CL c ops o σ) (B3 c ops o σ) with
    | none => rw [h1] at hs; simp at hs
    | some r =>
      obtain ⟨ob1, e⟩ := r
      rw [h1] at hs
      dsimp only at hs
      cases h2 : CJ c ops l ((σ.forget e.key).app o.dst e) with
      | none => rw [h2] at hs; simp at hs
      | some r2 =>
        obtain ⟨ob2, σ2⟩ := r2
        rw [h2] at hs
        simp only [Option.some.injEq, Prod.mk.injEq] at hs
        obtain ⟨rfl, rfl⟩ := hs
        refine wpListIn_step fun K' hK' => ?_
        have hno : ∀ d, o.op ≠ .defer d := by
          unfold B4 at h1
          split at h1
          · rename_i r hr; exact step1_op hr
          · exact (stepC_op h1).1
        suffices hh : if Region.wanted o (yielded ops.toArray a.tmps) then o.wp c.P a w K' Q else K' (a.put o.dst undef) w by
          split
          · rename_i hw; rw [if_pos hw] at hh; exact wpIn_of_wp lr hno hh
          · rename_i hw; rw [if_neg hw] at hh; exact ⟨fun f _ => trivial, hh⟩
        unfold B4 at h1
        split at h1
        · rename_i r hr1
          simp only [Option.some.injEq] at h1
          subst h1
          refine step1_sound hτ hq hby h ops o hr1 hob.1 (σ.forget e.key) (by
            cases hk : e.key with
            | none => rfl
            | some k => exact ready_kill c σ k) fun β' ρ' a' w' hr => hK' _ _ ?_
          exact steps_sound lr ops Q l _ β' ρ' a' w' ob2 σ2 h2 hob.2 hr hQ
        · have hke : e.key = none := (stepC_op h1).2
          refine stepC_sound h ops o h1 hob.1 fun β' ρ' a' w' hr => hK' _ _ ?_
          have hfo : σ.forget e.key = σ := by rw [hke]; rfl
          exact steps_sound lr ops Q l _ β' ρ' a' w' ob2 σ2 h2 hob.2 (by rw [hfo]; exact hr) hQ

end

/-! ### Who calls yield -/
/-- What the rounds of a loop over this function do. -/
structure Gen (c : Cx) where
  l : Nat
  Jf : Nat → (Nat → Prop) → World → Prop
  Jx : World → Prop
  stf : ∀ i M A B, Jf i M A → Below A.heap.size A B → Jf i M B
  stx : ∀ A B, Jx A → Below A.heap.size A B → Jx B
  hlt : ∀ i M A, Jf i M A → ∀ b, M b → b < A.heap.size
  hl : c.yl = l
  hy : ∀ i M A x, c.ys[i]? = some x → Jf i M A → YieldAt (Fw none) 0 c.P l x.toArray A fun e B =>
      (e = .returned (.bool true) ∧ ∃ M', Jf (i + 1) M' B ∧ Turns M M' A B) ∨ (e = .returned (.bool false) ∧ Jx B ∧ ∃ M', (∀ b, M' b → b < B.heap.size) ∧ Turns M M' A B)
def Gen.none (c : Cx) : Gen c := { l := c.yl, Jf := fun _ _ _ => False, Jx := fun _ => True, stf := fun _ _ _ _ h _ => h, stx := fun _ _ _ _ => trivial, hlt := fun _ _ _ h => h.elim, hl := rfl, hy := fun _ _ _ _ _ h => h.elim }
def GenOK (c : Cx) (G : Gen c) (E : Env) : Prop :=
  c.it = true → (∀ w, E.J w ↔ if E.done then G.Jx w else G.Jf E.cnt E.fr w) ∧ ∀ b, E.pr b → ¬ E.fr b
/-- As before, but for what has been yielded. -/
structure Ext (c : Cx) (E E' : Env) : Prop where
  same : c.it = false → E' = E
  w0 : E'.w0 = E.w0
  pr : E'.pr = E.pr
theorem Ext.refl (c : Cx) (E : Env) : Ext c E E := ⟨fun _ => rfl, rfl, rfl⟩
theorem Ext.trans {c : Cx} {E E' E2 : Env} (h : Ext c E E') (k : Ext c E' E2) : Ext c E E2 := ⟨fun hi => (k.same hi).trans (h.same hi), k.w0.trans h.w0, k.pr.trans h.pr⟩

theorem quietX_look : ∀ {l : List (Nat × Option Row)} {k : Nat} {R : Row}, BF l = true → CS l k = some (some R) → R.own = false ∧ R.sp = none
  | [], k, R, _, h => by simp [CS] at h
  | (j, none) :: l, k, R, hq, h => by
    rw [look_cons] at h
    split at h
    · simp at h
    · exact quietX_look (l := l) (k := k) (by simpa [BF] using hq) h
  | (j, some S) :: l, k, R, hq, h => by
    simp only [BF, Bool.and_eq_true, Bool.not_eq_true', Option.isNone_iff_eq_none] at hq
    rw [look_cons] at h
    split at h
    · simp at h; subst h; exact ⟨hq.1.1, hq.1.2⟩
    · exact quietX_look (l := l) (k := k) hq.2 h

/-- A round has been. -/
theorem Rel.yielded {c : Cx} {E E' : Env} {β : Nat → Nat} {ρ : Nat → Value} {σ : St} {a : Act} {A B : World} {M' : Nat → Prop} (h : Rel c E β ρ σ a A) (hit : c.it = true) (hq : BF σ.x = true) (ht : Turns E.fr M' A B) (hpf : ∀ b, E.pr b → ¬ E.fr b)
    (hw0 : E'.w0 = E.w0) (hpr : E'.pr = E.pr) (hold : E'.old = E.old) (hfr : E'.fr = M') (hM' : ∀ b, M' b → b < B.heap.size) (hJ : E'.J B) {R : Row} (hR : CS σ.x c.N = some (some R)) (hR0 : R.len = 0) (d : Nat) (hd : okd c d) (v : V) (x : Value) (hv : v ≠ .d) (hx : x = conc β ρ v) (b : Bool)
    (hcnt : E'.cnt = (bif b then E.cnt + 1 else E.cnt)) (hdone : E'.done = (bif b then E.done else true)) : Rel c E' β ρ (BG c σ d R v b) (a.put (some d) x) B := by
  obtain ⟨⟨hdf, hfz⟩, hgs⟩ := h.gs hit
  have hRz : R.size ≠ 0 := h.rsz _ R hR
  obtain ⟨hRo, hRs⟩ := quietX_look hq hR
  obtain ⟨R', hR'⟩ : ∃ R', R' = (bif b then { R with ty := R.ty + 1 } else { R with size := 2 }) := ⟨_, rfl⟩
  have r1 : R'.len = 0 := by rw [hR']; cases b <;> exact hR0
  have r2 : R'.own = false := by rw [hR']; cases b <;> exact hRo
  have r3 : R'.sp = none := by rw [hR']; cases b <;> exact hRs
  have r4 : R'.size ≠ 0 := by rw [hR']; cases b <;> simp [hRz]
  have r5 : R'.new = R.new := by rw [hR']; cases b <;> rfl
  have bounds : ∀ {p : Prop} j S, CS ((c.N, some R') :: σ.x) j = some (some S) → (j = c.N → S = R' → p) → (j ≠ c.N → CS σ.x j = some (some S) → p) → p := fun {p} j S hj f g => by
    simp only [look_cons] at hj
    by_cases e : c.N = j
    · rw [if_pos e] at hj; simp at hj; exact f e.symm hj.symm
    · rw [if_neg e] at hj; exact g (Ne.symm e) hj
  have same : ∀ b', b' < A.heap.size → ¬ E.fr b' → B.heap[b']? = A.heap[b']? := ht.block
  have below : Kept E' B := by
    refine ⟨by rw [hw0]; exact ht.os.trans h.below.os, by rw [hw0]; exact ht.tape.trans h.below.tape, by rw [hw0]; exact ht.output.trans h.below.output, by rw [hw0]; exact Nat.le_trans h.below.size ht.size, fun b' hb' => ?_⟩
    rw [hpr] at hb'
    rw [hw0]
    exact (same b' (Nat.lt_of_lt_of_le (E.lt b' hb') h.below.size) (hpf b' hb')).trans (h.below.block b' hb')
  unfold BG
  rw [← hR']
  refine ⟨below, by simpa [Act.put] using h.size, ?_, fun t u hu hne => ?_, fun k cs hk => ?_, h.balive, h.binj, fun k S hk => ?_, fun k S hk => ?_, fun k S hk => ?_, fun k S hk => ?_, fun k S j cs hk hj hl hr => ?_, fun k S hk ho => ?_, fun k S xs hk hs => ?_, fun t ht' => by rw [hfz] at ht'; simp at ht',
    ⟨hJ, fun b' hb' => hM' b' (by rw [← hfr]; exact hb'), fun hi => (by rw [hit] at hi; cases hi)⟩, fun _ => ⟨⟨hdf, hfz⟩, fun S hS => ?_⟩, ⟨fun k cs hk => ?_, fun k S hk hl b' hb' => ?_⟩⟩
  · show marks E' B a.defers; rw [hdf]; trivial
  · rw [put_getD a d x (by rw [h.size]; exact hd.1) t]
    simp only [look_cons] at hu
    by_cases e : d = t
    · rw [if_pos e] at hu ⊢; simp at hu; subst hu; exact hx
    · rw [if_neg e] at hu ⊢; exact h.slots t u hu hne
  · obtain ⟨g1, T, g2⟩ := h.boxes k cs hk
    exact ⟨by rw [hpr]; exact g1, T, (same _ (block_lt g2) (h.forn.1 k cs hk)).trans g2⟩
  · refine bounds k S hk (fun e1 e2 => ?_) fun _ hk => ?_
    · subst e1; subst e2
      obtain ⟨a', c', hv', _, _⟩ := (h.rows _ R hR).1 hRs
      rw [hR0] at hv'
      exact ⟨fun _ => ⟨a', c', by rw [r1]; exact hv', by omega, fun i hi => by omega⟩, fun xs hs => by rw [r3] at hs; cases hs⟩
    · obtain ⟨_, hsp⟩ := quietX_look hq hk
      obtain ⟨a', c', hv', hlc, hi⟩ := (h.rows k S hk).1 hsp
      refine ⟨fun _ => ⟨a', c', hv', hlc, fun i hlt => ?_⟩, fun xs hs => by rw [hsp] at hs; cases hs⟩
      obtain ⟨hs, b', o, ha, hc⟩ := hi i hlt
      refine ⟨hs, b', o, ha, fun n u hu => ?_⟩
      have hcell := hc n u hu
      have hown : (ρ k).ownBlock = some b' := by rw [hv', ha]; rfl
      exact (World.cell?_of_block (same b' (World.block_lt_of_cell? A _ hcell) (h.forn.2 k S hk (by omega) b' hown))).trans hcell
  · refine bounds k S hk (fun e1 e2 => by subst e2; exact fun _ hl => absurd r1 hl) fun _ hk hn hl b' hb' => ?_
    obtain ⟨g1, g2⟩ := h.rnew k S hk hn hl b' hb'
    exact ⟨by rw [hpr]; exact g1, Nat.lt_of_lt_of_le g2 ht.size⟩
  · refine bounds k S hk (fun e1 e2 => ?_) fun _ hk => by rw [hold]; exact h.rold k S hk
    subst e1; subst e2
    rw [r5, hold]; exact h.rold _ R hR
  · exact bounds k S hk (fun e1 e2 => by subst e2; exact r4) fun _ hk => h.rsz k S hk
  · exact bounds k S hk (fun e1 e2 => by subst e2; exact absurd r1 hl) fun _ hk => h.rbox k S j cs hk hj hl hr
  · refine bounds k S hk (fun e1 e2 => by subst e2; rw [r2] at ho; cases ho) fun _ hk => ?_
    rw [(quietX_look hq hk).1] at ho; cases ho
  · refine bounds k S hk (fun e1 e2 => by subst e2; rw [r3] at hs; cases hs) fun _ hk => ?_
    rw [(quietX_look hq hk).2] at hs; cases hs
  · refine bounds _ S hS (fun _ e2 => ?_) fun hne _ => absurd rfl hne
    obtain ⟨g1, g2⟩ := hgs R hR
    subst e2
    rw [hR', hcnt, hdone]
    cases b with
    | true => exact ⟨by simp [g1], by simp [g2]⟩
    | false => exact ⟨by simp [g1], by simp⟩
  · rw [hfr]
    intro hb
    obtain ⟨_, T, g2⟩ := h.boxes k cs hk
    rcases ht.more _ hb with hh | hh
    · exact h.forn.1 k cs hk hh
    · have := block_lt g2; omega
  · refine bounds k S hk (fun e1 e2 => by subst e2; exact absurd r1 hl) fun _ hk => ?_
    rw [hfr]
    intro hb
    obtain ⟨_, hsp⟩ := quietX_look hq hk
    obtain ⟨a', c', hv', hlc, hi⟩ := (h.rows k S hk).1 hsp
    obtain ⟨hs, b2, o, ha, hc⟩ := hi 0 (by omega)
    rw [hv', ha] at hb'
    simp [Value.ownBlock] at hb'
    subst hb'
    have hpos : 0 < (S.get (0 : Nat)).length := by have := h.rsz k S hk; rw [hs]; omega
    have hlt := World.block_lt_of_cell? A _ (hc 0 _ (List.getElem?_eq_getElem hpos))
    simp at hlt
    rcases ht.more _ hb with hh | hh
    · exact h.forn.2 k S hk hl b2 (by rw [hv', ha]; rfl) hh
    · omega

section
variable {c : Cx}
theorem yieldOf_spec {o : Oper} {t d : Nat} {args : List Operand} (h : BD o = some (t, args, d)) : ∃ cl, o.op = .call cl ∧ cl.callee = .value (.tmp t) ∧ cl.args.toList = args ∧ o.dst = some d := by
  unfold BD at h
  split at h
  · rename_i cl d' hop hd
    split at h
    · rename_i t' hc
      simp only [Option.some.injEq, Prod.mk.injEq] at h
      obtain ⟨rfl, rfl, rfl⟩ := h
      exact ⟨cl, hop, hc, rfl, hd⟩
    · simp at h
  · simp at h

/-- A region in which yield may be called. -/
theorem ysteps_sound (hτ : TOK c.P c.τ) (hq : EQOK c.P c.eqs) (hby : BYOK c.P c.byt) (hit : c.it = true) (lr : Option Nat) (G : Gen c) (ops : List Oper) (Q : Exit → Act → World → Prop) (K : St → Prop) : ∀ (l : List Oper) (σ : St) (w0 w1 : Env) (β : Nat → Nat) (ρ : Nat → Value) (a : Act) (w : World),
    BC c ops l σ K → GenOK c G w1 → Ext c w0 w1 → Rel c w1 β ρ σ a w → (∀ w0' β' ρ' σ' a' w', K σ' → GenOK c G w0' → Ext c w0 w0' → Rel c w0' β' ρ' σ' a' w' → Q .normal a' w') → wpListIn (Fw lr) 0 c.P ops.toArray Q l a w
  | [], σ, w0, w1, β, ρ, a, w, hs, hG, hE, h, hQ => hQ w1 β ρ σ a w hs hG hE h
  | o :: l, σ, w0, w1, β, ρ, a, w, hs, hG, hE, h, hQ => by
    simp only [BC] at hs
    refine wpListIn_step fun K' hK' => ?_
    cases hyo : BD o with
    | none =>
      rw [hyo] at hs
      dsimp only at hs
      cases h1 : CL c ops o σ with
      | none => rw [h1] at hs; exact hs.elim
      | some r =>
        obtain ⟨ob, e⟩ := r
        rw [h1] at hs
        have hno := step1_op h1
        suffices hh : if Region.wanted o (yielded ops.toArray a.tmps) then o.wp c.P a w K' Q else K' (a.put o.dst undef) w by
          split
          · rename_i hw; rw [if_pos hw] at hh; exact wpIn_of_wp lr hno hh
          · rename_i hw; rw [if_neg hw] at hh; exact ⟨fun f _ => trivial, hh⟩
        refine step1_sound hτ hq hby h ops o h1 hs.1 (σ.forget e.key) (by
          cases hk : e.key with
          | none => rfl
          | some k => exact ready_kill c σ k) fun β' ρ' a' w' hr => hK' _ _ ?_
        exact ysteps_sound hτ hq hby hit lr G ops Q K l _ w0 w1 β' ρ' a' w' hs.2 hG hE hr hQ
    | some r =>
      obtain ⟨t, args, d⟩ := r
      obtain ⟨cl, hop, hcal, hargs, hd⟩ := yieldOf_spec hyo
      rw [hyo] at hs
      dsimp only at hs
      split at hs
      · rename_i f vs R hf hvs hR
        split at hs
        · rename_i hcond
          rw [Bool.and_eq_true] at hcond
          obtain ⟨hfit, hqx⟩ := hcond
          have hokd := fits_okd hfit
          -- the call
          have call : ∀ v : Bool → V, (∀ b, v b ≠ .d) → (∀ b, Value.bool b = conc β ρ (v b)) → BE c σ R f vs → (∀ b, BC c ops l (BG c σ d R (v b) b) K) → o.wpIn (Fw lr) 0 c.P a w K' Q := by
            intro v hvd hvc hok hnext
            unfold BE at hok
            obtain ⟨hqo, hok⟩ := hok
            obtain ⟨hq1, hq2⟩ : CV [f] ∧ CV vs := by
              cases f <;> simp_all [CV]
            split at hok
            · rename_i L fs cs us hf' hvals
              obtain ⟨⟨rfl, rfl, rfl⟩, hys, hRs, hRl⟩ := hok
              have hev : a.eval (.tmp t) = .func (.yield c.yl) #[] #[] := by
                have e := qobs_unq β ρ hq1
                simp only [List.map_cons, List.map_nil, List.cons.injEq, and_true] at e
                rw [ev_sound h hf, e, hf']
                rfl
              have hxs := evs_sound h hvs
              rw [qobs_unq β ρ hq2, vals_spec (β := β) (ρ := ρ) hvals, map_conc_v, ← hargs] at hxs
              have hax : cl.args.map a.eval = us.toArray := by apply Array.toList_inj.1; simpa using hxs
              obtain ⟨g1, g2⟩ := hG hit
              obtain ⟨⟨hdf, hfz⟩, hgs⟩ := h.gs hit
              obtain ⟨hcnt, hdone⟩ := hgs R hR
              have hdn : w1.done = false := by
                cases hh : w1.done with
                | false => rfl
                | true => rw [hh, hRs] at hdone; simp at hdone
              have hJ : G.Jf w1.cnt w1.fr w := by
                have := (g1 w).1 h.gh.1
                rw [hdn] at this
                simpa using this
              rw [hcnt] at hys
              obtain ⟨fn, tmps, assign, body, hy, hR'⟩ := G.hy _ _ _ us hys hJ
              rw [← G.hl] at hy hR'
              refine ⟨fun f _ => trivial, ?_⟩
              have e0 : o.semAt (Fw lr).round a.eval = execOp a.eval o := by
                cases lr with
                | none => rfl
                | some l => exact Oper.semAt_some l _ o fun d hd' => by rw [hop] at hd'; cases hd'
              have hrun : (execOp a.eval o).run c.P w = .ok (.round c.yl fn tmps assign body) w := by
                simp only [execOp, hop, resolve, hcal, hax, hev]
                simp only [Deferred.ofValue, Sem.run_bind, Sem.run_pure, Result.andThen_ok, invoke]
                simpa using hy
              rw [e0, hrun]
              refine ⟨fun hh => (by cases hh), RoundIn.mono (R := _) hR' ?_⟩
              rintro e B hB
              rcases hB with ⟨rfl, M', hJ', hT⟩ | ⟨rfl, hJ', M', hM', hT⟩
              · refine hK' _ _ ?_
                obtain ⟨w2, hw2⟩ : ∃ w2 : Env, w2 = { w1 with fr := M', cnt := w1.cnt + 1, J := G.Jf (w1.cnt + 1) M', st := fun A B hA hB => G.stf _ _ A B hA hB } := ⟨_, rfl⟩
                have hrel := h.yielded (E' := w2) (B := B) hit hqx hT g2 (by rw [hw2]) (by rw [hw2]) (by rw [hw2]) (by rw [hw2]) (fun b hb => G.hlt _ _ _ hJ' b hb) (by rw [hw2]; exact hJ') hR hRl d hokd (v true) (.bool true) (hvd true) (hvc true) true (by rw [hw2]; rfl) (by rw [hw2]; rfl)
                rw [hd]
                exact ysteps_sound hτ hq hby hit lr G ops Q K l _ w0 w2 β ρ _ B (hnext true) (fun _ => ⟨fun w => by rw [hw2]; simp [hdn], fun b hb hb' => by
                  rw [hw2] at hb hb'
                  rcases hT.more b hb' with hh | hh
                  · exact g2 b hb hh
                  · have := w1.lt b hb; have := h.below.size; omega⟩) ⟨fun hi => (by rw [hit] at hi; cases hi), by rw [hw2]; exact hE.w0, by rw [hw2]; exact hE.pr⟩ hrel hQ
              · refine hK' _ _ ?_
                obtain ⟨w2, hw2⟩ : ∃ w2 : Env, w2 = { w1 with fr := M', done := true, J := G.Jx, st := fun A B hA hB => G.stx A B hA hB } := ⟨_, rfl⟩
                have hrel := h.yielded (E' := w2) (B := B) hit hqx hT g2 (by rw [hw2]) (by rw [hw2]) (by rw [hw2]) (by rw [hw2]) hM' (by rw [hw2]; exact hJ') hR hRl d hokd (v false) (.bool false) (hvd false) (hvc false) false (by rw [hw2]; rfl) (by rw [hw2]; rfl)
                rw [hd]
                exact ysteps_sound hτ hq hby hit lr G ops Q K l _ w0 w2 β ρ _ B (hnext false) (fun _ => ⟨fun w => by rw [hw2]; simp, fun b hb hb' => by
                  rw [hw2] at hb hb'
                  rcases hT.more b hb' with hh | hh
                  · exact g2 b hb hh
                  · have := w1.lt b hb; have := h.below.size; omega⟩) ⟨fun hi => (by rw [hit] at hi; cases hi), by rw [hw2]; exact hE.w0, by rw [hw2]; exact hE.pr⟩ hrel hQ
            · exact hok.elim
          cases hg : DZ ops σ o.guard with
          | none => rw [hg] at hs; exact hs.elim
          | some g =>
            have hw := (guard_sound h ops o hg).1
            rw [hg] at hs
            cases g with
            | none =>
              rw [hw]
              simp only [Option.getD_none, if_true]
              exact call (fun b => .v (.bool b)) (fun b => by simp) (fun b => rfl) hs.1 hs.2
            | some gb =>
              rw [hw]
              simp only [Option.getD_some]
              cases gb with
              | true =>
                simp only [if_true]
                obtain ⟨s1, s2⟩ := hs.1 rfl
                exact call (fun b => .q true (.v (.bool b))) (fun b => by simp) (fun b => by simp [conc]) s1 s2
              | false =>
                simp only [Bool.false_eq_true, if_false]
                refine ⟨fun f _ => trivial, hK' _ _ ?_⟩
                rw [hd]
                exact ysteps_sound hτ hq hby hit lr G ops Q K l _ w0 w1 β ρ _ w (hs.2 rfl) hG hE (h.put d hokd (.q false (.v (.bool false))) undef fun _ => by simp [conc]) hQ
        · exact hs.elim
      · exact hs.elim
end

/-- What a piece of code does, told of states. -/
def AW (c : Cx) (code : Code) (Q : Exit → St → Prop) (σ : St) : Prop :=
  ∀ (lr : Option Nat), lr.isSome = c.rd → ∀ (G : Gen c) (w0 : Env), GenOK c G w0 → ∀ (β : Nat → Nat) (ρ : Nat → Value) (a : Act) (w : World), Rel c w0 β ρ σ a w →
    code.wpIn (Fw lr) 0 c.P (fun e a' w' => ∃ w0' β' ρ' σ', (GenOK c G w0' ∧ Ext c w0 w0') ∧ Q e σ' ∧ Rel c w0' β' ρ' σ' a' w') a w

def CQ (σ : St) (x : Operand) : Option Bool :=
  match CP σ x with
  | some (.v (.bool b)) => some b
  | _ => none

def thenQ (K : St → Prop) (Q : Exit → St → Prop) : Exit → St → Prop
  | .normal, σ => K σ
  | e, σ => Q e σ
def blockQ (id : Nat) (Q : Exit → St → Prop) : Exit → St → Prop
  | .exit j, σ => if j = id then Q .normal σ else Q (.exit j) σ
  | e, σ => Q e σ

/-- The same, computed. -/
def awp (c : Cx) : Code → (Exit → St → Prop) → St → Prop
  | .skip, Q, σ => Q .normal σ
  | .ret, Q, σ => Q .ret σ
  | .exit id, Q, σ => Q (.exit id) σ
  | .seq x y, Q, σ => awp c x (thenQ (awp c y Q) Q) σ
  | .block id x, Q, σ => awp c x (blockQ id Q) σ
  | .cond v x y, Q, σ =>
    match CQ σ v with
    | some b => (b = true → awp c x Q σ) ∧ (b = false → awp c y Q σ)
    | none => False
  | .region _ ops draw, Q, σ =>
    match draw with
    | false =>
      match CJ c ops.toList ops.toList σ with
      | some (ob, σ') => ob ∧ Q .normal σ'
      | none =>
        match c.it with
        | true => BC c ops.toList ops.toList σ (Q .normal)
        | false => False
    | true =>
      match CK c ops.toList ops.toList σ with
      | some (ob, σ', ks) => chk ops.toList ks = true ∧ ob ∧ Q .normal σ'
      | none =>
        match BA c ops.toList σ with
        | some (ob, σ', ks, n) => (chk ops.toList ks = true ∧ full ops.toList n = true) ∧ ob ∧ Q .normal σ'
        | none => False
  | .loop x, Q, σ => AW c (.loop x) Q σ
  | .rangeFunc f ps x y, Q, σ => AW c (.rangeFunc f ps x y) Q σ
  | .scope x, Q, σ => AW c (.scope x) Q σ
  | .label l, Q, σ => AW c (.label l) Q σ
  | .goto l, Q, σ => AW c (.goto l) Q σ
  | .refuse s, Q, σ => AW c (.refuse s) Q σ

theorem AW_mono {c : Cx} {code : Code} {Q Q' : Exit → St → Prop} {σ : St} (h : AW c code Q σ) (hq : ∀ e σ, Q e σ → Q' e σ) : AW c code Q' σ :=
  fun lr hl G w0 hG β ρ a w hr => Code.wpIn_mono (fun e a w ⟨w0', β', ρ', σ', h0, h1, h2⟩ => ⟨w0', β', ρ', σ', h0, hq _ _ h1, h2⟩) (h lr hl G w0 hG β ρ a w hr)

end Go.Ab
