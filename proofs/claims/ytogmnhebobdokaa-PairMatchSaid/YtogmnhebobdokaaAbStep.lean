/- The abstract layer, part 4: one operation in a frame. -/
import Derived.Test.YtogmnhebobdokaaAbOps
import Derived.Great.FillDense
import Derived.Great.BuildSlice
set_option linter.unusedVariables false
set_option linter.unusedSimpArgs false
namespace Go.Ab
open Go Go.RowKit

/-- From σ to σ' key k has been forgotten: it may mean anything. -/
structure Ready (c : Cx) (σ σ' : St) (k : Nat) : Prop where
  rel : ∀ (w0 : Env) (β : Nat → Nat) (ρ : Nat → Value) (a : Act) (w : World), Rel c w0 β ρ σ a w → ∀ (b : Nat) (x : Value), Rel c w0 (upd β k b) (upd ρ k x) σ' a w
  none : ∀ cs, look σ'.b k ≠ some (some cs)

theorem ready_kill (c : Cx) (σ : St) (k : Nat) : Ready c σ (σ.kill k) k where
  rel := fun w0 β ρ a w h b x => h.kill k b x
  none := fun cs => by
    simp only [St.kill, look_killB]
    cases look σ.b k with
    | none => simp
    | some u => simp

theorem ready_unseen (c : Cx) (σ : St) (k : Nat) (hu : σ.unseen k = true) : Ready c σ σ k where
  rel := fun w0 β ρ a w h b x => h.rekey k hu b x
  none := fun cs hl => by
    simp only [St.unseen, Bool.and_eq_true] at hu
    exact (unseenB_look hu.1.2 hl).1 rfl

section
variable {c : Cx} {w0 : Env} {β : Nat → Nat} {ρ : Nat → Value} {σ : St} {a : Act} {w : World} {K : Act → World → Prop} {Q : Exit → Act → World → Prop}

theorem wp_value {P : Program} {o : Oper} {x : Value} {w' : World} (hr : (execOp a.eval o).run P w = .ok (.value x) w') (h : K (a.put o.dst x) w') : o.wp P a w K Q := by
  unfold Oper.wp
  rw [hr]
  exact h

theorem wp_skip' {P : Program} {o : Oper} {w' : World} (hr : (execOp a.eval o).run P w = .ok .skip w') (h : K (a.put o.dst undef) w') : o.wp P a w K Q := by
  unfold Oper.wp
  rw [hr]
  exact h

/-- Where a slot is written. -/
theorem Rel.set (h : Rel c w0 β ρ σ a w) (d : Option Tmp) (hd : fits c.N d = true) (v : V) (x : Value) (hx : v ≠ .d → x = conc β ρ v) :
    Rel c w0 β ρ (σ.app d { val := some v }) (a.put d x) w := by
  cases d with
  | none => exact h
  | some d => simpa [St.app] using h.put d (by simpa [fits] using hd) v x hx

theorem cellsOf_sound (β : Nat → Nat) (ρ : Nat → Value) {ti : TInfo} {x : V} {cs : List V} (he : cellsOf ti x = some cs) :
    ∃ us : List Value, cs = us.map .v ∧ (conc β ρ x).cells.toList = us ∧ (∀ u ∈ us, u.oneCell' = true) ∧ us.length = ti.size := by
  unfold cellsOf at he
  split at he
  · split at he
    · rename_i l
      split at he
      · rename_i hh
        simp only [Bool.and_eq_true, decide_eq_true_eq, Option.some.injEq] at he hh
        subst he
        refine ⟨l.toList, rfl, by simp [conc, Value.cells], fun u hu => ?_, hh.1⟩
        exact List.all_eq_true.1 hh.2 u hu
      · simp at he
    · simp at he
  · split at he
    · rename_i y
      split at he
      · rename_i hh
        simp at he hh
        subst he
        have hc : (conc β ρ (.v y)).cells = #[y] := by
          simp only [conc]
          cases y <;> simp [Value.oneCell'] at hh <;> rfl
        exact ⟨[y], rfl, by rw [hc], fun u hu => by simp at hu; subst hu; exact hh.1, by simp [hh.2]⟩
      · simp at he
    · simp at he

theorem argOK_of (h : Rel c w0 β ρ σ a w) : ∀ {args : List V}, argable args (args.map (rowOf σ)) = true → argOK w args (args.map (rowOf σ)) (args.map (conc β ρ))
  | [], _ => trivial
  | .v x :: l, hg => by
    simp only [List.map_cons, argable] at hg
    exact ⟨rfl, argOK_of h hg⟩
  | .r k :: l, hg => by
    simp only [List.map_cons] at hg ⊢
    cases hr : rowOf σ (.r k) with
    | none => rw [hr] at hg; simp [argable] at hg
    | some R =>
      rw [hr] at hg
      simp only [argable] at hg
      exact ⟨h.rows k R (rowOf_r hr), argOK_of h hg⟩
  | .p .. :: _, hg => by simp [argable] at hg
  | .e .. :: _, hg => by simp [argable] at hg
  | .q .. :: _, hg => by simp [argable] at hg
  | .tr .. :: _, hg => by simp [argable] at hg
  | .d :: _, hg => by simp [argable] at hg

theorem rvals_ret {w w' : World} : ∀ {l : List RV} {xs zs : List Value}, rvals l = some xs → retOK w w' l zs → zs = xs
  | [], xs, zs, h, hr => by
    simp [rvals] at h; subst h
    cases zs with
    | nil => rfl
    | cons => exact hr.elim
  | .v x :: l, xs, zs, h, hr => by
    simp only [rvals] at h
    cases hl : rvals l with
    | none => rw [hl] at h; simp at h
    | some ys =>
      rw [hl] at h; simp at h; subst h
      cases zs with
      | nil => exact hr.elim
      | cons z zs =>
        obtain ⟨rfl, h2⟩ := hr
        rw [rvals_ret hl h2]
  | .row R :: l, xs, zs, h, hr => by simp [rvals] at h

theorem qobs_unq (β : Nat → Nat) (ρ : Nat → Value) : ∀ {l : List V}, qobs l → l.map (conc β ρ) = (l.map unq).map (conc β ρ)
  | [], _ => rfl
  | .v _ :: l, h => by simp only [List.map_cons, unq]; rw [qobs_unq β ρ (l := l) h]
  | .p .. :: l, h => by simp only [List.map_cons, unq]; rw [qobs_unq β ρ (l := l) h]
  | .r .. :: l, h => by simp only [List.map_cons, unq]; rw [qobs_unq β ρ (l := l) h]
  | .e .. :: l, h => by simp only [List.map_cons, unq]; rw [qobs_unq β ρ (l := l) h]
  | .tr .. :: l, h => by simp only [List.map_cons, unq]; rw [qobs_unq β ρ (l := l) h]
  | .d :: l, h => by simp only [List.map_cons, unq]; rw [qobs_unq β ρ (l := l) h]
  | .q b x :: l, h => by
    simp only [List.map_cons, unq, conc]
    rw [qobs_unq β ρ (l := l) h.2, if_pos h.1]

theorem heads_map {β : Type} (l : List V) (f : V → Option β) (g : V → V) : heads (l.map g) f = heads l fun x => f (g x) := by
  cases l <;> rfl

theorem rws_get (σ : St) (raw : List V) (i : Nat) : ((raw.map fun x => rowOf σ (unq x))[i]?).bind id = ((raw.map unq)[i]?).bind (rowOf σ) := by
  simp only [List.getElem?_map]
  cases raw[i]? <;> rfl

theorem pickV_sound {b : Bool} {y z v : V} {ob : Prop} (he : pickV b y z = some (ob, v)) (hob : ob) : (if b then conc β ρ y else conc β ρ z) = conc β ρ v ∧ v ≠ .d := by
  unfold pickV at he
  split at he <;> simp only [Option.some.injEq, Prod.mk.injEq, reduceCtorEq] at he <;> obtain ⟨rfl, rfl⟩ := he <;> refine ⟨?_, by simp⟩ <;> cases b <;> simp_all [conc]

/-- What a call hands back, taken up. -/
theorem ret_sound (h : Rel c w0 β ρ σ a w) {d : Nat} (hd : d < c.N) {ret : List RV} {e : Eff} (hr : retV d ret = some e) (σ' : St)
    (hσ : match e.key with | some k => Ready c σ σ' k | none => σ' = σ) {zs : List Value} {w' : World} (hz : retOK w w' ret zs) (hb : Below w.heap.size w w') :
    (∃ β' ρ', Rel c w0 β' ρ' (σ'.app (some d) e) (a.put (some d) (retVal zs)) w') ∧ ∀ v, e.val = some v → v ≠ .d := by
  have hrow : ∀ (R : Row) (y : Value) (v : V) (x : Value), R.size ≠ 0 → RowOK w' y R → (∀ b, y.ownBlock = some b → w.heap.size ≤ b) → Ready c σ σ' d → v ≠ .d →
      (∀ β' ρ', ρ' d = y → x = conc β' ρ' v) → ∃ β' ρ', Rel c w0 β' ρ' (σ'.app (some d) { val := some v, row := some (d, { R with own := false, new := true }), key := some d }) (a.put (some d) x) w' := by
    intro R y v x hz hR hfr hrd hv hx
    have h1 := hrd.rel w0 β ρ a w h 0 y
    have h2 := h1.world hb
    have h3 := h2.newrow d { R with own := false, new := true } (by rw [upd_same]; exact hR) hz (fun _ b hb' => by rw [upd_same] at hb'; exact h.below.fresh (hfr b hb'))
      (fun j cs hj hl hb' => by
        rw [upd_same] at hb'
        have := hfr _ hb'
        obtain ⟨_, T, hT⟩ := h1.boxes j cs hj
        have := block_lt hT
        omega)
    exact ⟨_, _, by simpa [St.app] using h3.put d hd v x fun _ => hx _ _ (upd_same _ _ _)⟩
  have hval : ∀ (v : V) (x : Value), σ' = σ → x = conc β ρ v → ∃ β' ρ', Rel c w0 β' ρ' (σ'.app (some d) { val := some v }) (a.put (some d) x) w' := by
    intro v x hs hx
    subst hs
    exact ⟨β, ρ, by simpa [St.app] using (h.world hb).put d hd v x fun _ => hx⟩
  unfold retV at hr
  split at hr
  · rename_i R
    split at hr
    · simp at hr
    · rename_i hz0
      simp only [Option.some.injEq] at hr
      subst hr
      cases zs with
      | nil => exact hz.elim
      | cons y zs =>
        obtain ⟨h1, h2, h3⟩ := hz
        cases zs with
        | cons => exact h3.elim
        | nil => exact ⟨hrow R y (.r d) _ hz0 h1 h2 hσ (by simp) (fun _ _ e => by simp [retVal, conc, e]), fun v hv => by simp at hv; subst hv; simp⟩
  · rename_i R l hl
    cases hx : rvals l with
    | none => rw [hx] at hr; simp at hr
    | some xs =>
      rw [hx] at hr
      dsimp only at hr
      split at hr
      · simp at hr
      · rename_i hz0
        simp only [Option.some.injEq] at hr
        subst hr
        cases zs with
        | nil => exact hz.elim
        | cons y zs =>
          obtain ⟨h1, h2, h3⟩ := hz
          have := rvals_ret hx h3
          subst this
          have hne : zs ≠ [] := by
            rintro rfl
            cases l with
            | nil => exact hl rfl
            | cons r l => cases r <;> exact h3.elim
          have hrv : retVal (y :: zs) = .tuple (y :: zs).toArray := by
            cases zs with
            | nil => exact absurd rfl hne
            | cons z zs => rfl
          exact ⟨hrow R y (.tr d zs) _ hz0 h1 h2 hσ (by simp) (fun _ _ e => by rw [hrv]; simp [conc, e]), fun v hv => by simp at hv; subst hv; simp⟩
  · rename_i x
    simp only [Option.some.injEq] at hr
    subst hr
    cases zs with
    | nil => exact hz.elim
    | cons y zs =>
      obtain ⟨rfl, h3⟩ := hz
      cases zs with
      | cons => exact h3.elim
      | nil => exact ⟨hval _ _ hσ rfl, fun v hv => by simp at hv; subst hv; simp⟩
  · rename_i hl1 hl2 hl3
    cases hx : rvals ret with
    | none => rw [hx] at hr; simp at hr
    | some xs =>
      rw [hx] at hr
      simp only [Option.some.injEq] at hr
      subst hr
      have := rvals_ret hx hz
      subst this
      have hrv : retVal zs = .tuple zs.toArray := by
        cases zs with
        | nil => rfl
        | cons z zs =>
          cases zs with
          | cons => rfl
          | nil =>
            exfalso
            cases ret with
            | nil => exact hz.elim
            | cons r l =>
              cases r with
              | row R => exact hl2 R l rfl
              | v x =>
                cases l with
                | nil => exact hl3 x rfl
                | cons r l => obtain ⟨_, h2⟩ := hz; cases r <;> exact h2.elim
      exact ⟨hval _ _ hσ (by rw [hrv]; rfl), fun v hv => by simp at hv; subst hv; simp⟩

theorem lits_spec {sz : Nat} : ∀ {i : Nat} {js : List Nat} {l : List V} {ls : List (List Value)}, lits sz i js l = some ls →
    ∃ vs : List Value, l = vs.map .v ∧ ls = vs.map (·.cells.toList) ∧ js = (vs.zipIdx i).map (·.2) ∧ ∀ v ∈ vs, v.cells.size = sz
  | i, [], [], ls, h => by simp [lits] at h; subst h; exact ⟨[], rfl, rfl, rfl, by simp⟩
  | i, j :: js, .v x :: l, ls, h => by
    simp only [lits] at h
    split at h
    · rename_i hj
      cases hr : lits sz (i + 1) js l with
      | none => rw [hr] at h; simp at h
      | some r =>
        rw [hr] at h
        simp only [Option.some.injEq] at h
        subst h
        obtain ⟨vs, rfl, rfl, rfl, h4⟩ := lits_spec hr
        refine ⟨x :: vs, rfl, rfl, ?_, fun v hv => ?_⟩
        · simp [hj.1]
        · rcases List.mem_cons.1 hv with rfl | hv
          · simpa using hj.2
          · exact h4 v hv
    · simp at h
  | i, [], _ :: _, _, h => by simp [lits] at h
  | i, _ :: _, [], _, h => by simp [lits] at h
  | i, _ :: _, .p .. :: _, _, h => by simp [lits] at h
  | i, _ :: _, .r .. :: _, _, h => by simp [lits] at h
  | i, _ :: _, .e .. :: _, _, h => by simp [lits] at h
  | i, _ :: _, .q .. :: _, _, h => by simp [lits] at h
  | i, _ :: _, .tr .. :: _, _, h => by simp [lits] at h
  | i, _ :: _, .d :: _, _, h => by simp [lits] at h

theorem lits_parts (f : Operand → Value) : ∀ (pl : List (Nat × Operand)) (vs : List Value) (i : Nat), pl.map (·.1) = (vs.zipIdx i).map (·.2) → pl.map (fun q => f q.2) = vs →
    pl.map (fun q => (q.1, f q.2)) = (vs.zipIdx i).map fun x => (x.2, x.1)
  | [], vs, i, _, h => by simp at h; subst h; rfl
  | q :: pl, vs, i, h1, h2 => by
    cases vs with
    | nil => simp at h2
    | cons v vs =>
      simp only [List.map_cons, List.zipIdx_cons, List.cons.injEq] at h1 h2 ⊢
      exact ⟨by rw [h1.1, h2.1], lits_parts f pl vs (i + 1) h1.2 h2.2⟩

theorem litE_sound (hτ : TOK c.P c.τ) (h : Rel c w0 β ρ σ a w) (o : Oper) {d : Nat} (hd : o.dst = some d) (hfit : d < c.N) {t n : Nat} {ps : Array (Nat × Operand)} (hop : o.op = .buildSlice t n ps) {args : List V} {e : Eff}
    (he : litE c d t n (ps.toList.map (·.1)) args = some e) (hxs : ps.toList.map (fun q => a.eval q.2) = args.map (conc β ρ)) (σ' : St) (hσ : match e.key with | some k => Ready c σ σ' k | none => σ' = σ)
    (hK : ∀ β' ρ' a' w', Rel c w0 β' ρ' (σ'.app o.dst e) a' w' → (∀ v, e.val = some v → v ≠ .d) → K a' w') : o.wp c.P a w K Q := by
  unfold litE at he
  cases ht : look c.τ t with
  | none => rw [ht] at he; simp at he
  | some ti =>
    rw [ht] at he
    dsimp only at he
    cases hv : ti.view <;> rw [hv] at he <;> simp only [] at he <;> try (simp at he; done)
    rename_i el
    cases hel : look c.τ el with
    | none => rw [hel] at he; simp at he
    | some te =>
      rw [hel] at he
      dsimp only at he
      cases hls : lits te.size 0 (ps.toList.map (·.1)) args with
      | none => rw [hls] at he; simp at he
      | some ls =>
        rw [hls] at he
        dsimp only at he
        split at he
        · rename_i hc
          obtain ⟨hz, hn, hn0, hsm⟩ := hc
          simp only [Option.some.injEq] at he
          subst he
          dsimp only at hσ
          obtain ⟨vs, rfl, rfl, hix, hcs⟩ := lits_spec hls
          rw [map_conc_v] at hxs
          have hparts := lits_parts a.eval ps.toList vs 0 hix hxs
          simp only [List.length_map] at hn
          subst hn
          have hu := tok_sl (hτ t ti ht) hv
          obtain ⟨ii, hi, his, z, hz1, hz2⟩ := tok_info (hτ el te hel)
          have hpos : ¬ vs.length * te.size = 0 := by
            intro e0
            rcases Nat.mul_eq_zero.1 e0 with e0 | e0
            · exact hn0 e0
            · exact hz e0
          obtain ⟨cells, hfill, hcsz, hck⟩ := Great.fill_dense (s := te.size) (by omega) vs 0 ((Array.range (vs.length * te.size)).map (z.cells[· % z.cells.size]!)) hcs (by simp)
          have hrun : (execOp a.eval o).run c.P w = .ok (.value (.slice (some ⟨w.heap.size, 0, none⟩) vs.length vs.length)) (w.alloc (.cells cells el)) := by
            simp only [execOp, hop]
            have h1 : (ps.map fun (x : Nat × Operand) => (x.1, a.eval x.2)).toList = (vs.zipIdx 0).map fun x => (x.2, x.1) := by
              rw [Array.toList_map]; exact hparts
            have hsm' : ¬ vs.length * te.size > 2 ^ 24 := by omega
            have h2 : (Instr.buildSlice t vs.length (ps.map fun (x : Nat × Operand) => (x.1, a.eval x.2))).run c.P w = .ok (.slice (some ⟨w.heap.size, 0, none⟩) vs.length vs.length) (w.alloc (.cells cells el)) := by
              rw [← h1] at hfill
              exact Go.run_buildSlice w t el _ _ cells ii z hu hi hz1 (by rw [his]; exact hsm') (by rw [his]; exact hpos) (by rw [his]; exact hfill)
            simp only [Sem.run_bind, Sem.run_map]
            rw [h2]
            rfl
          have hB : Below w.heap.size w (w.alloc (.cells cells el)) := (Below.refl _ _).alloc (Nat.le_refl _) _
          refine wp_value hrun ?_
          have r1 := (hσ.rel w0 β ρ a w h 0 (.slice (some ⟨w.heap.size, 0, none⟩) vs.length vs.length))
          have r2 := r1.world hB
          have hget : (w.alloc (.cells cells el)).heap[w.heap.size]? = some (.cells cells el (0, 0)) := by show (w.heap.push _)[w.heap.size]? = _; simp
          have r3 := r2.newrow d (litRow el te.size vs.length (vs.map (·.cells.toList))) ⟨some ⟨w.heap.size, 0, none⟩, vs.length, by rw [upd_same]; rfl, by simp [litRow], fun i hi => by
              simp only [litRow] at hi ⊢
              have hv : (vs.map (·.cells.toList)).getD ((i : Int).toNat) [] = vs[i].cells.toList := by simp [List.getD_eq_getElem?_getD, hi]
              rw [hv]
              refine ⟨by simpa using hcs _ (List.getElem_mem hi), _, _, rfl, fun j u hu => ?_⟩
              rw [cell_of_block hget]
              have hj : j < te.size := by
                have := (List.getElem?_eq_some_iff.1 hu).1
                have h2 := hcs _ (List.getElem_mem hi)
                simp at this
                omega
              have hle : i * te.size + j < vs.length * te.size := by
                have : (i + 1) * te.size ≤ vs.length * te.size := Nat.mul_le_mul_right _ (by omega)
                rw [Nat.add_mul, Nat.one_mul] at this
                omega
              rw [hck, if_pos ⟨by omega, by simpa using hle⟩]
              have hd : (0 + (i * te.size + j)) / te.size - 0 = i := by
                rw [Nat.zero_add, Nat.sub_zero, Nat.mul_comm, Nat.mul_add_div (by omega), Nat.div_eq_of_lt hj, Nat.add_zero]
              have hm : (0 + (i * te.size + j)) % te.size = j := by
                rw [Nat.zero_add, Nat.mul_comm, Nat.mul_add_mod, Nat.mod_eq_of_lt hj]
              rw [hd, hm]
              simpa [hi] using hu⟩ hz (fun _ b hb => by
                rw [upd_same] at hb
                simp only [Value.ownBlock, Option.some.injEq] at hb
                rw [← hb]; exact h.below.fresh (Nat.le_refl _)) (fun j cs hj _ hb => by
                rw [upd_same] at hb
                simp only [Value.ownBlock, Option.some.injEq] at hb
                obtain ⟨_, T, hT⟩ := r1.boxes j cs hj
                have := block_lt hT
                omega)
          have r4 := r3.put d hfit (.r d) (.slice (some ⟨w.heap.size, 0, none⟩) vs.length vs.length) (fun _ => by simp [conc, upd_same])
          rw [hd]
          exact hK _ _ _ _ (by rw [hd]; simpa [St.app] using r4) (fun v hv => by simp at hv; subst hv; simp)
        · simp at he

variable (hτ : TOK c.P c.τ) (hq : EQOK c.P c.eqs)
include hτ hq

theorem stepE_sound (h : Rel c w0 β ρ σ a w) (o : Oper) {raw : List V} (hraw : evs σ (opnds o.op) = some raw) {ob : Prop} {e : Eff}
    (he : stepE c o raw (raw.map fun x => rowOf σ (unq x)) (heads raw fun x => boxOf σ (unq x)) = some (ob, e)) (hob : ob) (hfit : fits c.N o.dst = true) (σ' : St)
    (hσ : match e.key with | some k => Ready c σ σ' k | none => σ' = σ)
    (hK : ∀ β' ρ' a' w', Rel c w0 β' ρ' (σ'.app o.dst e) a' w' → (∀ v, e.val = some v → v ≠ .d) → K a' w') : o.wp c.P a w K Q := by
  have hxs0 := evs_sound h hraw
  have hal : ∀ u ∈ raw.map unq, u ≠ .d := fun u hu => by
    obtain ⟨v, hv, rfl⟩ := List.mem_map.1 hu
    exact evs_unq hraw v hv
  -- what only computes
  have quiet : ∀ {r : Prop × V}, qobs raw → evalV c o.op (raw.map unq) (((raw.map fun x => rowOf σ (unq x))[0]?).bind id) (heads raw fun x => boxOf σ (unq x)) = some r → r.1 →
      σ' = σ → e = { val := some r.2 } → o.wp c.P a w K Q := by
    intro r hqo hev hr hs hee
    subst hs; subst hee
    rw [rws_get, ← heads_map] at hev
    obtain ⟨h1, h2⟩ := evalV_sound hτ hq h o hev hr (by rw [hxs0, qobs_unq β ρ hqo]) hal
    exact wp_value h1 (hK β ρ _ _ (h.set _ hfit _ _ fun _ => rfl) fun v hv => by simp at hv; subst hv; exact h2)
  unfold stepE at he
  dsimp only at he
  split at he
  case h_1 x y z hop =>
    obtain ⟨p, q, r, rfl, hy⟩ := a3_some he
    obtain ⟨b, hb, hy2⟩ := onBool_some hy
    cases hp : pickV b q r with
    | none => rw [hp] at hy2; simp at hy2
    | some s =>
      obtain ⟨ob', v⟩ := s
      rw [hp] at hy2
      simp only [Option.map_some, Option.some.injEq, Prod.mk.injEq] at hy2
      obtain ⟨rfl, rfl⟩ := hy2
      dsimp only at hσ
      subst hσ
      obtain ⟨h1, h2⟩ := pickV_sound (β := β) (ρ := ρ) hp hob.2
      simp only [hop, opnds, List.map_cons, List.map_nil, List.cons.injEq, and_true] at hxs0
      have hpb : conc β ρ p = .bool b := by
        have := qobs_unq β ρ hob.1
        simp at this
        rw [this, hb]; rfl
      refine wp_value (x := conc β ρ v) ?_ (hK β ρ _ _ (h.set _ hfit _ _ fun _ => rfl) fun u hu => by simp at hu; subst hu; exact h2)
      simp only [execOp, hop, hxs0.1, hxs0.2.1, hxs0.2.2, hpb]
      simp only [asBool, Sem.run_bind, Sem.run_pure, Result.andThen_ok]
      rw [h1]
  case h_2 t x hop =>
    split at he
    · rename_i d ti hd hti
      obtain ⟨p, hp, hy⟩ := a1_some he
      cases hcs : cellsOf ti p with
      | none => rw [hcs] at hy; simp at hy
      | some cs =>
        rw [hcs] at hy
        simp only [Option.map_some, Option.some.injEq, Prod.mk.injEq] at hy
        obtain ⟨rfl, rfl⟩ := hy
        obtain ⟨us, rfl, h1, h2, h3⟩ := cellsOf_sound β ρ hcs
        dsimp only at hσ
        have hx : a.eval x = conc β ρ p := by
          have := qobs_unq β ρ hob
          rw [hp] at this
          rw [this] at hxs0
          simpa [hop, opnds] using hxs0
        have hr2 := hσ.rel w0 β ρ a w h w.heap.size (.slice none 0 0)
        have hnb := hr2.newbox d d (upd_same _ _ _) hσ.none (by simpa [fits, hd] using hfit) (us.map .v) (fun v hv => by obtain ⟨y, _, rfl⟩ := List.mem_map.1 hv; simp) t
        refine wp_value (x := .pointer (some ⟨w.heap.size, 0, none⟩)) (w' := w.alloc (.cells (conc β ρ p).cells t)) ?_ ?_
        · simp only [execOp, hop, hx]
          simp [Instr.box, newVar, newRow, newObj, Sem.run]
        · rw [hd]
          refine hK (upd β d w.heap.size) (upd ρ d (.slice none 0 0)) _ _ ?_ (fun v hv => by simp at hv; subst hv; simp)
          have hA : us.toArray = (conc β ρ p).cells := by rw [← h1]
          rw [map_conc_v, hA] at hnb
          simpa [St.app, hd] using hnb
    · simp at he
  case h_3 t hop =>
    split at he
    · rename_i d ti hd hti
      simp only [Option.some.injEq, Prod.mk.injEq] at he
      obtain ⟨rfl, rfl⟩ := he
      dsimp only at hσ
      have hr2 := hσ.rel w0 β ρ a w h w.heap.size (.slice none 0 0)
      have hnb := hr2.newbox d d (upd_same _ _ _) hσ.none (by simpa [fits, hd] using hfit) (ti.zero.map .v) (fun v hv => by obtain ⟨y, _, rfl⟩ := List.mem_map.1 hv; simp) t
      obtain ⟨z, hz, hzc⟩ := tok_zero (hτ t ti hti) w
      refine wp_value (x := .pointer (some ⟨w.heap.size, 0, none⟩)) (w' := w.alloc (.cells z.cells t)) ?_ ?_
      · simp only [execOp, hop]
        simp [Instr.alloc, hz, newVar, newRow, newObj, Sem.run]
      · rw [hd]
        refine hK (upd β d w.heap.size) (upd ρ d (.slice none 0 0)) _ _ ?_ (fun v hv => by simp at hv; subst hv; simp)
        rw [map_conc_v, ← hzc] at hnb
        simpa [St.app, hd] using hnb
    · simp at he
  case h_4 t n ps hop =>
    split at he
    · rename_i d hd
      cases hl : litE c d t n (ps.toList.map (·.1)) (raw.map unq) with
      | none => rw [hl] at he; simp at he
      | some e' =>
        rw [hl] at he
        simp only [Option.map_some, Option.some.injEq, Prod.mk.injEq] at he
        obtain ⟨rfl, rfl⟩ := he
        refine litE_sound hτ h o hd (by simpa [fits, hd] using hfit) hop hl ?_ σ' hσ hK
        have hx := qobs_unq β ρ hob
        rw [hx] at hxs0
        simpa [hop, opnds, Function.comp_def] using hxs0
    · simp at he
  case h_5 t x y hop =>
    split at he
    · rename_i ti cs hd hti hbx
      obtain ⟨p, q, hpq, hy⟩ := a2_some he
      split at hy
      · rename_i k off
        cases hcs : cellsOf ti q with
        | none => rw [hcs] at hy; simp at hy
        | some us' =>
          rw [hcs] at hy
          simp only [Option.bind_some] at hy
          split at hy
          · rename_i hle
            simp only [Option.some.injEq, Prod.mk.injEq] at hy
            obtain ⟨rfl, rfl⟩ := hy
            obtain ⟨us, rfl, h1, h2, h3⟩ := cellsOf_sound β ρ hcs
            dsimp only at hσ
            subst hσ
            have hx := qobs_unq β ρ hob
            rw [hpq] at hx
            rw [hx] at hxs0
            simp [hop, opnds] at hxs0
            rw [← heads_map, hpq] at hbx
            obtain ⟨k', o', e', hl⟩ := boxOf_some (by simpa [heads] using hbx)
            simp at e'
            obtain ⟨rfl, rfl⟩ := e'
            obtain ⟨hge, T, hT⟩ := h.boxes k cs hl
            have hlen : off + 0 + us.length ≤ ((cs.map (conc β ρ)).toArray).size := by simp; omega
            have hst := run_storeCells_at (P := c.P) (β k) off T us 0 _ w hT (by simpa using hlen) h2
            have hsz := tok_size (hτ t ti hti) w
            have hvs : (conc β ρ q).cells.size = ti.size := by rw [← h3, ← h1]; simp
            refine wp_skip' (w' := w.setRow (β k) (((cs.map (conc β ρ)).take off ++ us ++ (cs.map (conc β ρ)).drop (off + ti.size)).toArray)) ?_ ?_
            · simp only [execOp, hop, hxs0.1, hxs0.2]
              simp only [conc, Instr.storeAt, Instr.sureAddr, storeVar, Sem.run_bind, Sem.run_pure, Result.andThen_ok, hsz, hvs]
              simp only [ne_eq, not_true_eq_false, if_false, Sem.run_bind, Sem.run_pure, Result.andThen_ok, h1, hst]
              simp [h3]
            · refine hK β ρ _ _ ?_ (fun v hv => by simp at hv)
              have hs := h.store (w' := w.setRow (β k) (((cs.map (conc β ρ)).take off ++ us ++ (cs.map (conc β ρ)).drop (off + ti.size)).toArray)) k cs (cs.take off ++ us.map .v ++ cs.drop (off + ti.size)) (fun v hv => by
                  simp only [List.append_assoc, List.mem_append] at hv
                  rcases hv with hv | hv | hv
                  · exact h.balive k cs hl v (List.mem_of_mem_take hv)
                  · obtain ⟨y, _, rfl⟩ := List.mem_map.1 hv; simp
                  · exact h.balive k cs hl v (List.mem_of_mem_drop hv)) T hl rfl rfl rfl (by simp) (by
                  rw [setRow_heap w _ _ _ _ _ hT]
                  simp only [List.map_append, map_conc_v, List.map_take, List.map_drop]) (fun b hb => setRow_other w _ _ _ hb)
              rw [hd]
              simpa [St.app, Act.put] using hs
          · simp at hy
      · simp at hy
    · simp at he
  case h_6 cl hop =>
    split at he
    · rename_i f hcal
      split at he
      · rename_i d ret hd hΓ
        split at he
        · rename_i hga
          cases hr : retV d ret with
          | none => rw [hr] at he; simp at he
          | some e' =>
            rw [hr] at he
            simp only [Option.map_some, Option.some.injEq, Prod.mk.injEq] at he
            obtain ⟨rfl, rfl⟩ := he
            have hrw : (raw.map fun x => rowOf σ (unq x)) = (raw.map unq).map (rowOf σ) := by simp [Function.comp_def]
            rw [hrw] at hga hob
            obtain ⟨hqo, hen, hcall⟩ := hob
            have hx := qobs_unq β ρ hqo
            rw [hx] at hxs0
            have hargs : cl.args.map a.eval = ((raw.map unq).map (conc β ρ)).toArray := by
              apply Array.toList_inj.1
              simpa [hop, opnds] using hxs0
            have hrun : (execOp a.eval o).run c.P w = .ok (.enter f ((raw.map unq).map (conc β ρ)).toArray) w := by
              have := hen ((raw.map unq).map (conc β ρ)).toArray w
              simp only [execOp, hop, resolve, hcal, hargs]
              simp only [Act.eval, Deferred.ofValue, Sem.run_bind, Sem.run_pure, Result.andThen_ok, invoke]
              simpa using this
            unfold Oper.wp
            rw [hrun]
            refine (hcall _ w (argOK_of h hga)).mono ?_
            rintro e w' ⟨zs, rfl, hz, hb⟩
            obtain ⟨⟨β', ρ', h1⟩, h2⟩ := ret_sound h (by simpa [fits, hd] using hfit) hr σ' hσ hz hb
            rw [hd]
            exact hK β' ρ' _ _ (by rw [hd]; exact h1) h2
        · simp at he
      · simp at he
    · rename_i hnc
      cases hev : evalV c o.op (raw.map unq) (((raw.map fun x => rowOf σ (unq x))[0]?).bind id) (heads raw fun x => boxOf σ (unq x)) with
      | none => rw [hev] at he; simp at he
      | some r =>
        rw [hev] at he
        simp only [Option.map_some, Option.some.injEq, Prod.mk.injEq] at he
        obtain ⟨rfl, rfl⟩ := he
        dsimp only at hσ
        exact quiet hob.1 hev hob.2 hσ rfl
  case h_7 =>
    rename_i hn1 hn2 hn3 hn4 hn5 hn6
    cases hev : evalV c o.op (raw.map unq) (((raw.map fun x => rowOf σ (unq x))[0]?).bind id) (heads raw fun x => boxOf σ (unq x)) with
    | none => rw [hev] at he; simp at he
    | some r =>
      rw [hev] at he
      simp only [Option.map_some, Option.some.injEq, Prod.mk.injEq] at he
      obtain ⟨rfl, rfl⟩ := he
      dsimp only at hσ
      exact quiet hob.1 hev hob.2 hσ rfl

end

end Go.Ab
