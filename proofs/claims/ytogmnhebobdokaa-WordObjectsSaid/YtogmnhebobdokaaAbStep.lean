/- The abstract layer, part 4: one operation in a frame. -/
import Derived.Test.YtogmnhebobdokaaAbOps
import Derived.Great.FillDense
import Derived.Great.BuildSlice
import Derived.Deep.AppendLies
import Derived.Laws.OwnMore
set_option linter.unusedVariables false
set_option linter.unusedSimpArgs false
namespace Go.Ab
open Go Go.RowKit

/-- From σ to σ' key k has been forgotten: it may mean anything. -/
structure Ready (c : Cx) (σ σ' : St) (k : Nat) : Prop where
  rel : ∀ (w0 : Env) (β : Nat → Nat) (ρ : Nat → Value) (a : Act) (w : World), Rel c w0 β ρ σ a w → ∀ (b : Nat) (x : Value), Rel c w0 (upd β k b) (upd ρ k x) σ' a w
  subb : ∀ j cs, CS σ'.b j = some (some cs) → j ≠ k ∧ CS σ.b j = some (some cs)
  subx : ∀ j R, CS σ'.x j = some (some R) → CS σ.x j = some (some R) ∧ j ≠ k
theorem Ready.none {c : Cx} {σ σ' : St} {k : Nat} (h : Ready c σ σ' k) : ∀ cs, CS σ'.b k ≠ some (some cs) := fun cs hl => (h.subb k cs hl).1 rfl

theorem ready_kill (c : Cx) (σ : St) (k : Nat) : Ready c σ (σ.kill k) k where
  rel := fun w0 β ρ a w h b x => h.kill k b x
  subb := fun j cs hl => by
    simp only [St.kill, look_killB] at hl
    cases hh : CS σ.b j with
    | none => rw [hh] at hl; simp at hl
    | some u =>
      rw [hh] at hl
      simp only [Option.map_some, Option.some.injEq] at hl
      split at hl
      · simp at hl
      · rename_i hm; subst hl; simp at hm; exact ⟨hm.1, rfl⟩
  subx := fun j R hl => by
    simp only [St.kill, look_killX] at hl
    cases hh : CS σ.x j with
    | none => rw [hh] at hl; simp at hl
    | some u =>
      rw [hh] at hl
      simp only [Option.map_some, Option.some.injEq] at hl
      split at hl
      · simp at hl
      · rename_i hm; subst hl; simp at hm; exact ⟨rfl, hm⟩

theorem ready_unseen (c : Cx) (σ : St) (k : Nat) (hu : σ.unseen k = true) : Ready c σ σ k where
  rel := fun w0 β ρ a w h b x => h.rekey k hu b x
  subb := fun j cs hl => by
    simp only [St.unseen, Bool.and_eq_true] at hu
    exact ⟨(unseenB_look hu.1.2 hl).1, hl⟩
  subx := fun j R hl => by
    simp only [St.unseen, Bool.and_eq_true] at hu
    exact ⟨hl, unseenX_look hu.2 hl⟩

theorem fits_okd {c : Cx} {d : Nat} (h : E0 c (some d) = true) : okd c d := by
  simpa [E0, okd] using h

section
variable {c : Cx} {w0 : Env} {β : Nat → Nat} {ρ : Nat → Value} {σ : St} {a : Act} {w : World} {K : Act → World → Prop} {Q : Exit → Act → World → Prop}

theorem wp_value {P : Program} {o : Oper} {x : Value} {w' : World} (hr : (execOp a.eval o).run P w = .ok (.value x) w') (h : K (a.put o.dst x) w') : o.wp P a w K Q := by
  unfold Oper.wp
  rw [hr]
  exact h

theorem wp_skip' {P : Program} {o : Oper} {w' : World} (hr : (execOp a.eval o).run P w = .ok .skip w') (h : K (a.put o.dst undef) w') : o.wp P a w K Q := by
  unfold Oper.wp
  rw [hr]
  exact h

/-- Where a slot is written. -/
theorem Rel.set (h : Rel c w0 β ρ σ a w) (d : Option Tmp) (hd : E0 c d = true) (v : V) (x : Value) (hx : v ≠ .d → x = conc β ρ v) :
    Rel c w0 β ρ (σ.app d { val := some v }) (a.put d x) w := by
  cases d with
  | none => exact h
  | some d => simpa [St.app] using h.put d (fits_okd hd) v x hx

theorem cellsOf_sound (h : Rel c w0 β ρ σ a w) {ti : TInfo} {x : V} {cs : List V} (he : DQ ti x (DG σ x) = some cs) :
    (conc β ρ x).cells.toList = cs.map (conc β ρ) ∧ (∀ u ∈ cs, u ≠ .d) ∧ (∀ u ∈ (conc β ρ x).cells.toList, u.oneCell' = true) ∧ cs.length = ti.size := by
  unfold DQ at he
  split at he
  · split at he
    · rename_i l
      split at he
      · rename_i hh
        simp only [Bool.and_eq_true, decide_eq_true_eq, Option.some.injEq] at he hh
        subst he
        refine ⟨by rw [map_conc_v]; simp [conc, Value.cells], fun v hv => by obtain ⟨y, _, rfl⟩ := List.mem_map.1 hv; simp, fun u hu => ?_, by simpa using hh.1⟩
        exact List.all_eq_true.1 hh.2 u (by simpa [conc, Value.cells] using hu)
      · simp at he
    · simp at he
  · split at he
    · rename_i y
      split at he
      · rename_i hh
        simp at he hh
        subst he
        have hc : (conc β ρ (.v y)).cells = #[y] := by
          simp only [conc]
          cases y <;> simp [Value.oneCell'] at hh <;> rfl
        refine ⟨by rw [hc]; simp [conc], fun v hv => by simp at hv; subst hv; simp, fun u hu => by rw [hc] at hu; simp at hu; subst hu; exact hh.1, by simp [hh.2]⟩
      · simp at he
    · rename_i k
      split at he
      · rename_i R hr
        split at he
        · rename_i hs
          simp only [Option.some.injEq] at he
          subst he
          obtain ⟨hr, hsp⟩ := plainR_some hr
          obtain ⟨a', c', hv, _⟩ := (h.rows k R (rowOf_r hr)).1 hsp
          have hc : (conc β ρ (.r k)).cells = #[ρ k] := by simp only [conc, hv]; rfl
          refine ⟨by rw [hc]; simp [conc], fun v hv => by simp at hv; subst hv; simp, fun u hu => by rw [hc] at hu; simp at hu; subst hu; rw [hv]; rfl, by simp at hs; simp [hs]⟩
        · simp at he
      · simp at he
    · simp at he

theorem argOK_of (h : Rel c w0 β ρ σ a w) : ∀ {args : List V}, DN (args.map AP) (AQ args (args.map (DG σ))) = true → AR args (args.map (DG σ)) → (∀ x ∈ args, ∀ k o, x ≠ .p k o) →
    argOK c.P w (args.map AP) (AQ args (args.map (DG σ))) (args.map (conc β ρ))
  | [], _, _, _ => trivial
  | .v x :: l, hg, hs, hp => by
    simp only [List.map_cons, DN, AQ, AP, AR] at hg hs ⊢
    exact ⟨rfl, argOK_of h hg hs fun x hx => hp x (List.mem_cons_of_mem _ hx)⟩
  | .r k :: l, hg, hs, hp => by
    simp only [List.map_cons, AQ, AP, AR] at hg hs ⊢
    cases hr : DG σ (.r k) with
    | none => rw [hr] at hg; simp [DN] at hg
    | some R =>
      rw [hr] at hg
      simp only [DN] at hg
      exact ⟨h.rows k R (rowOf_r hr), argOK_of h hg hs fun x hx => hp x (List.mem_cons_of_mem _ hx)⟩
  | .s k n :: l, hg, hs, hp => by
    simp only [List.map_cons, AP] at hg hs ⊢
    cases hr : DG σ (.s k n) with
    | none => rw [hr] at hg; simp [DN, AQ] at hg
    | some R =>
      rw [hr] at hg hs
      simp only [AQ, AR, DN] at hg hs ⊢
      refine ⟨?_, argOK_of h hg hs.2 fun x hx => hp x (List.mem_cons_of_mem _ hx)⟩
      have hl : CS σ.x k = some (some R) := by
        simp only [DG] at hr
        cases hq : CS σ.x k with
        | none => simp [hq] at hr
        | some u => simp [hq] at hr; subst hr; rfl
      refine ⟨fun hsp => ?_, fun xs hsp => ?_⟩
      · obtain ⟨a', c', hv, hlc, hi⟩ := (h.rows k R hl).1 hsp
        have hle := hs.1.1
        exact ⟨a', c', by simp only [conc, hv], by dsimp only; omega, fun i hlt => hi i (by dsimp only at hlt; omega)⟩
      · dsimp only at hsp; rw [hs.1.2] at hsp; cases hsp
  | .p k o :: l, hg, hs, hp => absurd rfl (hp _ (by simp) k o)
  | .e .. :: _, hg, _, _ => by simp [DN, AP, AQ] at hg
  | .q .. :: _, hg, _, _ => by simp [DN, AP, AQ] at hg
  | .tr .. :: _, hg, _, _ => by simp [DN, AP, AQ] at hg
  | .c .. :: _, hg, _, _ => by simp [DN, AP, AQ] at hg
  | .d :: _, hg, _, _ => by simp [DN, AP, AQ] at hg

theorem rvals_ret {P : Program} {ys : List Value} {w w' : World} : ∀ {l : List RV} {xs zs : List Value}, DO l = some xs → retOK P ys w w' l zs → zs = xs
  | [], xs, zs, h, hr => by
    simp [DO] at h; subst h
    cases zs with
    | nil => rfl
    | cons => exact hr.elim
  | .v x :: l, xs, zs, h, hr => by
    simp only [DO] at h
    cases hl : DO l with
    | none => rw [hl] at h; simp at h
    | some ys =>
      rw [hl] at h; simp at h; subst h
      cases zs with
      | nil => exact hr.elim
      | cons z zs =>
        obtain ⟨rfl, h2⟩ := hr
        rw [rvals_ret hl h2]
  | .row R :: l, xs, zs, h, hr => by simp [DO] at h

theorem qobs_unq (β : Nat → Nat) (ρ : Nat → Value) : ∀ {l : List V}, CV l → l.map (conc β ρ) = (l.map CU).map (conc β ρ)
  | [], _ => rfl
  | .v _ :: l, h => by simp only [List.map_cons, CU]; rw [qobs_unq β ρ (l := l) h]
  | .p .. :: l, h => by simp only [List.map_cons, CU]; rw [qobs_unq β ρ (l := l) h]
  | .r .. :: l, h => by simp only [List.map_cons, CU]; rw [qobs_unq β ρ (l := l) h]
  | .e .. :: l, h => by simp only [List.map_cons, CU]; rw [qobs_unq β ρ (l := l) h]
  | .tr .. :: l, h => by simp only [List.map_cons, CU]; rw [qobs_unq β ρ (l := l) h]
  | .d :: l, h => by simp only [List.map_cons, CU]; rw [qobs_unq β ρ (l := l) h]
  | .s .. :: l, h => by simp only [List.map_cons, CU]; rw [qobs_unq β ρ (l := l) h]
  | .c .. :: l, h => by simp only [List.map_cons, CU]; rw [qobs_unq β ρ (l := l) h]
  | .q b x :: l, h => by
    simp only [List.map_cons, CU, conc]
    rw [qobs_unq β ρ (l := l) h.2, if_pos h.1]

theorem heads_map {β : Type} (l : List V) (f : V → Option β) (g : V → V) : DM (l.map g) f = DM l fun x => f (g x) := by
  cases l <;> rfl

theorem rws_get (σ : St) (raw : List V) (i : Nat) : ((raw.map fun x => DG σ (CU x))[i]?).bind id = ((raw.map CU)[i]?).bind (DG σ) := by
  simp only [List.getElem?_map]
  cases raw[i]? <;> rfl

theorem pickV_sound {b : Bool} {y z v : V} {ob : Prop} (he : D1 b y z = some (ob, v)) (hob : ob) : (if b then conc β ρ y else conc β ρ z) = conc β ρ v ∧ v ≠ .d := by
  unfold D1 at he
  split at he <;> simp only [Option.some.injEq, Prod.mk.injEq, reduceCtorEq] at he <;> obtain ⟨rfl, rfl⟩ := he <;> refine ⟨?_, by simp⟩ <;> cases b <;> simp_all [conc]

/-- What a call hands back, taken up. -/
theorem ret_sound (h : Rel c w0 β ρ σ a w) {d : Nat} (hd : okd c d) {ret : List RV} {e : Eff} (hr : DP d ret = some e) (σ' : St)
    (hσ : match e.key with | some k => Ready c σ σ' k | none => σ' = σ) {ys zs : List Value} {w' : World} (hz : retOK c.P ys w w' ret zs) (hb : Below w.heap.size w w')
    (hys : AS ret = true ∨ ∀ y ∈ ys, ∀ b, AV y = some b → w0.pr b) :
    (∃ β' ρ', Rel c w0 β' ρ' (σ'.app (some d) e) (a.put (some d) (retVal zs)) w') ∧ ∀ v, e.val = some v → v ≠ .d := by
  have hrow : ∀ (R : Row) (y : Value) (v : V) (x : Value), R.size ≠ 0 → (AS ret = true → R.sp = none) → ((R.sp = none → SliceOK w' y R) ∧ (∀ xs, R.sp = some xs → ∃ U, SpOK c.P w' y xs U ∧ ∀ b, U b → w.heap.size ≤ b ∨ ∃ y ∈ ys, AV y = some b)) →
      (R.len ≠ 0 → ∀ b, y.ownBlock = some b → w.heap.size ≤ b ∧ b < w'.heap.size) → Ready c σ σ' d → v ≠ .d →
      (∀ β' ρ', ρ' d = y → x = conc β' ρ' v) → ∃ β' ρ', Rel c w0 β' ρ' (σ'.app (some d) { val := some v, row := some (d, { R with own := false, new := true }), key := some d }) (a.put (some d) x) w' := by
    intro R y v x hz hpl hR hfr hrd hv hx
    have h1 := hrd.rel w0 β ρ a w h 0 y
    have h3 := h1.newrow hb d { R with own := false, new := true } (fun _ => Nat.ne_of_lt hd.1) hz (by rw [upd_same]; exact hR.1) rfl (by rw [upd_same]; exact hfr) (fun e => by cases e) (fun xs hxs => by
      rw [upd_same]
      obtain ⟨U, g1, g2⟩ := hR.2 xs hxs
      refine ⟨U, g1, fun b hb => ?_⟩
      rcases g2 b hb with g | ⟨y', hy', g⟩
      · exact .inl g
      · rcases hys with e | e
        · have := hpl e; dsimp only at hxs; rw [this] at hxs; cases hxs
        · exact .inr (e y' hy' b g))
    exact ⟨_, _, by simpa [St.app] using h3.put d hd v x fun _ => hx _ _ (upd_same _ _ _)⟩
  have hval : ∀ (v : V) (x : Value), σ' = σ → x = conc β ρ v → ∃ β' ρ', Rel c w0 β' ρ' (σ'.app (some d) { val := some v }) (a.put (some d) x) w' := by
    intro v x hs hx
    subst hs
    exact ⟨β, ρ, by simpa [St.app] using (h.world hb).put d hd v x fun _ => hx⟩
  unfold DP at hr
  split at hr
  · rename_i R
    split at hr
    · simp at hr
    · rename_i hz0
      simp only [Option.some.injEq] at hr
      subst hr
      cases zs with
      | nil => exact hz.elim
      | cons y zs =>
        obtain ⟨h1, h2, h3⟩ := hz
        cases zs with
        | cons => exact h3.elim
        | nil => exact ⟨hrow R y (.r d) _ hz0 (fun e => by simpa [AS] using e) h1 h2 hσ (by simp) (fun _ _ e => by simp [retVal, conc, e]), fun v hv => by simp at hv; subst hv; simp⟩
  · rename_i R l hl
    cases hx : DO l with
    | none => rw [hx] at hr; simp at hr
    | some xs =>
      rw [hx] at hr
      dsimp only at hr
      split at hr
      · simp at hr
      · rename_i hz0
        simp only [Option.some.injEq] at hr
        subst hr
        cases zs with
        | nil => exact hz.elim
        | cons y zs =>
          obtain ⟨h1, h2, h3⟩ := hz
          have := rvals_ret hx h3
          subst this
          have hne : zs ≠ [] := by
            rintro rfl
            cases l with
            | nil => exact hl rfl
            | cons r l => cases r <;> exact h3.elim
          have hrv : retVal (y :: zs) = .tuple (y :: zs).toArray := by
            cases zs with
            | nil => exact absurd rfl hne
            | cons z zs => rfl
          exact ⟨hrow R y (.tr d zs) _ hz0 (fun e => by simp [AS] at e; exact e.1) h1 h2 hσ (by simp) (fun _ _ e => by rw [hrv]; simp [conc, e]), fun v hv => by simp at hv; subst hv; simp⟩
  · rename_i x
    simp only [Option.some.injEq] at hr
    subst hr
    cases zs with
    | nil => exact hz.elim
    | cons y zs =>
      obtain ⟨rfl, h3⟩ := hz
      cases zs with
      | cons => exact h3.elim
      | nil => exact ⟨hval _ _ hσ rfl, fun v hv => by simp at hv; subst hv; simp⟩
  · rename_i hl1 hl2 hl3
    cases hx : DO ret with
    | none => rw [hx] at hr; simp at hr
    | some xs =>
      rw [hx] at hr
      simp only [Option.some.injEq] at hr
      subst hr
      have := rvals_ret hx hz
      subst this
      have hrv : retVal zs = .tuple zs.toArray := by
        cases zs with
        | nil => rfl
        | cons z zs =>
          cases zs with
          | cons => rfl
          | nil =>
            exfalso
            cases ret with
            | nil => exact hz.elim
            | cons r l =>
              cases r with
              | row R => exact hl2 R l rfl
              | v x =>
                cases l with
                | nil => exact hl3 x rfl
                | cons r l => obtain ⟨_, h2⟩ := hz; cases r <;> exact h2.elim
      exact ⟨hval _ _ hσ (by rw [hrv]; rfl), fun v hv => by simp at hv; subst hv; simp⟩

theorem lits_spec {sz : Nat} : ∀ {i : Nat} {js : List Nat} {l : List V} {ls : List (List Value)}, CD sz i js l = some ls →
    ∃ vs : List Value, l = vs.map .v ∧ ls = vs.map (·.cells.toList) ∧ js = (vs.zipIdx i).map (·.2) ∧ ∀ v ∈ vs, v.cells.size = sz
  | i, [], [], ls, h => by simp [CD] at h; subst h; exact ⟨[], rfl, rfl, rfl, by simp⟩
  | i, j :: js, .v x :: l, ls, h => by
    simp only [CD] at h
    split at h
    · rename_i hj
      cases hr : CD sz (i + 1) js l with
      | none => rw [hr] at h; simp at h
      | some r =>
        rw [hr] at h
        simp only [Option.some.injEq] at h
        subst h
        obtain ⟨vs, rfl, rfl, rfl, h4⟩ := lits_spec hr
        refine ⟨x :: vs, rfl, rfl, ?_, fun v hv => ?_⟩
        · simp [hj.1]
        · rcases List.mem_cons.1 hv with rfl | hv
          · simpa using hj.2
          · exact h4 v hv
    · simp at h
  | i, [], _ :: _, _, h => by simp [CD] at h
  | i, _ :: _, [], _, h => by simp [CD] at h
  | i, _ :: _, .p .. :: _, _, h => by simp [CD] at h
  | i, _ :: _, .r .. :: _, _, h => by simp [CD] at h
  | i, _ :: _, .e .. :: _, _, h => by simp [CD] at h
  | i, _ :: _, .q .. :: _, _, h => by simp [CD] at h
  | i, _ :: _, .tr .. :: _, _, h => by simp [CD] at h
  | i, _ :: _, .d :: _, _, h => by simp [CD] at h
  | i, _ :: _, .s .. :: _, _, h => by simp [CD] at h
  | i, _ :: _, .c .. :: _, _, h => by simp [CD] at h

theorem lits_parts (f : Operand → Value) : ∀ (pl : List (Nat × Operand)) (vs : List Value) (i : Nat), pl.map (·.1) = (vs.zipIdx i).map (·.2) → pl.map (fun q => f q.2) = vs →
    pl.map (fun q => (q.1, f q.2)) = (vs.zipIdx i).map fun x => (x.2, x.1)
  | [], vs, i, _, h => by simp at h; subst h; rfl
  | q :: pl, vs, i, h1, h2 => by
    cases vs with
    | nil => simp at h2
    | cons v vs =>
      simp only [List.map_cons, List.zipIdx_cons, List.cons.injEq] at h1 h2 ⊢
      exact ⟨by rw [h1.1, h2.1], lits_parts f pl vs (i + 1) h1.2 h2.2⟩

theorem litE_sound (hτ : TOK c.P c.τ) (h : Rel c w0 β ρ σ a w) (o : Oper) {d : Nat} (hd : o.dst = some d) (hfit : okd c d) {t n : Nat} {ps : Array (Nat × Operand)} (hop : o.op = .buildSlice t n ps) {args : List V} {e : Eff}
    (he : CE c d t n (ps.toList.map (·.1)) args = some e) (hxs : ps.toList.map (fun q => a.eval q.2) = args.map (conc β ρ)) (σ' : St) (hσ : match e.key with | some k => Ready c σ σ' k | none => σ' = σ)
    (hK : ∀ β' ρ' a' w', Rel c w0 β' ρ' (σ'.app o.dst e) a' w' → (∀ v, e.val = some v → v ≠ .d) → K a' w') : o.wp c.P a w K Q := by
  unfold CE at he
  cases ht : CS c.τ t with
  | none => rw [ht] at he; simp at he
  | some ti =>
    rw [ht] at he
    dsimp only at he
    cases hv : ti.view <;> rw [hv] at he <;> simp only [] at he <;> try (simp at he; done)
    rename_i el
    cases hel : CS c.τ el with
    | none => rw [hel] at he; simp at he
    | some te =>
      rw [hel] at he
      dsimp only at he
      cases hls : CD te.size 0 (ps.toList.map (·.1)) args with
      | none => rw [hls] at he; simp at he
      | some ls =>
        rw [hls] at he
        dsimp only at he
        split at he
        · rename_i hc
          obtain ⟨hz, hn, hn0, hsm⟩ := hc
          simp only [Option.some.injEq] at he
          subst he
          dsimp only at hσ
          obtain ⟨vs, rfl, rfl, hix, hcs⟩ := lits_spec hls
          rw [map_conc_v] at hxs
          have hparts := lits_parts a.eval ps.toList vs 0 hix hxs
          simp only [List.length_map] at hn
          subst hn
          have hu := tok_sl (hτ t ti ht) hv
          obtain ⟨ii, hi, his, z, hz1, hz2⟩ := tok_info (hτ el te hel)
          have hpos : ¬ vs.length * te.size = 0 := by
            intro e0
            rcases Nat.mul_eq_zero.1 e0 with e0 | e0
            · exact hn0 e0
            · exact hz e0
          obtain ⟨cells, hfill, hcsz, hck⟩ := Great.fill_dense (s := te.size) (by omega) vs 0 ((Array.range (vs.length * te.size)).map (z.cells[· % z.cells.size]!)) hcs (by simp)
          have hrun : (execOp a.eval o).run c.P w = .ok (.value (.slice (some ⟨w.heap.size, 0, none⟩) vs.length vs.length)) (w.alloc (.cells cells el)) := by
            simp only [execOp, hop]
            have h1 : (ps.map fun (x : Nat × Operand) => (x.1, a.eval x.2)).toList = (vs.zipIdx 0).map fun x => (x.2, x.1) := by
              rw [Array.toList_map]; exact hparts
            have hsm' : ¬ vs.length * te.size > 2 ^ 24 := by omega
            have h2 : (Instr.buildSlice t vs.length (ps.map fun (x : Nat × Operand) => (x.1, a.eval x.2))).run c.P w = .ok (.slice (some ⟨w.heap.size, 0, none⟩) vs.length vs.length) (w.alloc (.cells cells el)) := by
              rw [← h1] at hfill
              exact Go.run_buildSlice w t el _ _ cells ii z hu hi hz1 (by rw [his]; exact hsm') (by rw [his]; exact hpos) (by rw [his]; exact hfill)
            simp only [Sem.run_bind, Sem.run_map]
            rw [h2]
            rfl
          have hB : Below w.heap.size w (w.alloc (.cells cells el)) := (Below.refl _ _).alloc (Nat.le_refl _) _
          refine wp_value hrun ?_
          have r1 := (hσ.rel w0 β ρ a w h 0 (.slice (some ⟨w.heap.size, 0, none⟩) vs.length vs.length))
          have hget : (w.alloc (.cells cells el)).heap[w.heap.size]? = some (.cells cells el (0, 0)) := by show (w.heap.push _)[w.heap.size]? = _; simp
          have hown : OwnOK (w.alloc (.cells cells el)) (.slice (some ⟨w.heap.size, 0, none⟩) vs.length vs.length) (CF el te.size vs.length (vs.map (·.cells.toList))) := by
            have hnl : vs.length ≤ maxLen := by
              have : vs.length ≤ vs.length * te.size := Nat.le_mul_of_pos_right _ (by omega)
              unfold maxLen; omega
            have hcsz' : cells.size = vs.length * te.size := by simpa using hcsz
            refine ⟨fun e0 => absurd e0 hn0, cells.toList, ⟨by simp only [CF]; simpa using hcsz', .inr ⟨w.heap.size, vs.length, cells, rfl, Nat.zero_le _, hget, Nat.le_refl _, hnl, hcsz', ?_⟩⟩, fun i hi => ?_⟩
            · rw [List.take_of_length_le]; simp [CF, hcsz']
            · simp only [CF] at hi ⊢
              have hv : (vs.map (·.cells.toList)).getD ((i : Int).toNat) [] = vs[i].cells.toList := by simp [List.getD_eq_getElem?_getD, hi]
              rw [hv]
              have hvl := hcs _ (List.getElem_mem hi)
              apply List.ext_getElem?
              intro j
              rw [List.getElem?_take]
              by_cases hj : j < te.size
              · rw [if_pos hj, List.getElem?_drop]
                have hle : i * te.size + j < vs.length * te.size := by
                  have : (i + 1) * te.size ≤ vs.length * te.size := Nat.mul_le_mul_right _ (by omega)
                  rw [Nat.add_mul, Nat.one_mul] at this
                  omega
                rw [Array.getElem?_toList, hck, if_pos ⟨by omega, by simpa using hle⟩]
                have hd : (0 + (i * te.size + j)) / te.size - 0 = i := by
                  rw [Nat.zero_add, Nat.sub_zero, Nat.mul_comm, Nat.mul_add_div (by omega), Nat.div_eq_of_lt hj, Nat.add_zero]
                have hm : (0 + (i * te.size + j)) % te.size = j := by
                  rw [Nat.zero_add, Nat.mul_comm, Nat.mul_add_mod, Nat.mod_eq_of_lt hj]
                rw [Nat.zero_add] at hd hm
                rw [hd, hm]
                simp [hi]
              · rw [if_neg hj, List.getElem?_eq_none (by simp; omega)]
          have r3 := r1.newrow hB d (CF el te.size vs.length (vs.map (·.cells.toList))) (fun _ => Nat.ne_of_lt hfit.1) hz (fun _ => by rw [upd_same]; exact hown.slice) rfl (fun _ b hb => by
              rw [upd_same] at hb
              simp only [Value.ownBlock, Option.some.injEq] at hb
              rw [← hb]
              exact ⟨Nat.le_refl _, by simp⟩) (fun _ => ⟨rfl, by rw [upd_same]; exact hown⟩) (fun xs hxs => by cases hxs)
          have r4 := r3.put d hfit (.r d) (.slice (some ⟨w.heap.size, 0, none⟩) vs.length vs.length) (fun _ => by simp [conc, upd_same])
          rw [hd]
          exact hK _ _ _ _ (by rw [hd]; simpa [St.app] using r4) (fun v hv => by simp at hv; subst hv; simp)
        · simp at he

theorem cellsOf_shape {ti : TInfo} {x : V} {rw : Option Row} {cs : List V} (he : DQ ti x rw = some cs) : ∀ u ∈ cs, (∃ y, u = .v y) ∨ ∃ k, u = .r k := by
  unfold DQ at he
  intro u hu
  split at he
  · split at he
    · split at he
      · simp only [Option.some.injEq] at he; subst he; obtain ⟨y, _, rfl⟩ := List.mem_map.1 hu; exact .inl ⟨y, rfl⟩
      · simp at he
    · simp at he
  · split at he
    · split at he
      · simp at he; subst he; simp at hu; exact .inl ⟨_, hu⟩
      · simp at he
    · split at he
      · split at he
        · simp at he; subst he; simp at hu; exact .inr ⟨_, hu⟩
        · simp at he
      · simp at he
    · simp at he
theorem cellsOf_row {ti : TInfo} {x : V} {cs : List V} (rw : Option Row) (he : DQ ti x none = some cs) : DQ ti x rw = some cs := by
  unfold DQ at he ⊢
  split
  · rename_i h; rw [if_pos h] at he; exact he
  · rename_i h
    rw [if_neg h] at he
    split at he
    · exact he
    · simp [AL] at he
    · simp at he
theorem take_splice {α : Type} (xs us : List α) (p m : Nat) (h1 : p + us.length ≤ m) (h2 : p + us.length ≤ xs.length) : (xs.take p ++ us ++ xs.drop (p + us.length)).take m = (xs.take m).take p ++ us ++ (xs.take m).drop (p + us.length) := by
  apply List.ext_getElem?
  intro q
  rw [List.getElem?_take, splice_get _ _ _ _ h2, splice_get _ _ _ _ (by simp; omega)]
  simp only [List.getElem?_take]
  by_cases h : q < m
  · simp only [if_pos h]
  · rw [if_neg h, if_neg (by omega), if_neg (by omega), if_neg h]
theorem argable_nop : ∀ {args : List V} {rws : List (Option Row)}, AU args = true → DN (args.map AP) (AQ args rws) = true → ∀ x ∈ args, ∀ k o, x ≠ .p k o := by
  intro args rws hn _ x hx k o e
  subst e
  have := List.all_eq_true.1 hn _ hx
  simp at this
theorem oldArgs_sound (h : Rel c w0 β ρ σ a w) : ∀ {args : List V}, AT args (args.map (DG σ)) = true → ∀ y ∈ args.map (conc β ρ), ∀ b, AV y = some b → w0.pr b
  | [], _, y, hy, _, _ => by simp at hy
  | .v x :: l, hg, y, hy, b, hb => by
    simp only [List.map_cons, AT, Bool.and_eq_true] at hg hy
    rcases List.mem_cons.1 hy with e | hy
    · have hb : AV x = some b := by rw [e] at hb; exact hb
      rw [hb] at hg; simp at hg
    · exact oldArgs_sound h hg.2 y hy b hb
  | .r k :: l, hg, y, hy, b, hb => by
    simp only [List.map_cons] at hg hy
    cases hr : DG σ (.r k) with
    | none => rw [hr] at hg; simp [AT] at hg
    | some R =>
      rw [hr] at hg
      simp only [AT, Bool.and_eq_true, Bool.not_eq_true'] at hg
      rcases List.mem_cons.1 hy with rfl | hy
      · exact w0.oldpr b (h.rold k R (rowOf_r hr) hg.1 b hb)
      · exact oldArgs_sound h hg.2 y hy b hb
  | .s .. :: _, hg, _, _, _, _ => by simp [AT] at hg
  | .p .. :: _, hg, _, _, _, _ => by simp [AT] at hg
  | .e .. :: _, hg, _, _, _, _ => by simp [AT] at hg
  | .q .. :: _, hg, _, _, _, _ => by simp [AT] at hg
  | .tr .. :: _, hg, _, _, _, _ => by simp [AT] at hg
  | .c .. :: _, hg, _, _, _, _ => by simp [AT] at hg
  | .d :: _, hg, _, _, _, _ => by simp [AT] at hg

/-- How many bytes an element takes. -/
def BYOK (P : Program) (byt : List (Nat × Nat)) : Prop := ∀ t n, CS byt t = some n → ∃ i, P.info? t = some i ∧ i.bytes = n

theorem slElem_spec (hτ : TOK c.P c.τ) {t e : TypeId} (h : AZ c t = some e) : c.P.underlying t = some (.slice e) := by
  unfold AZ at h
  cases ht : CS c.τ t with
  | none => rw [ht] at h; simp at h
  | some ti =>
    rw [ht] at h
    dsimp only at h
    cases hv : ti.view <;> rw [hv] at h <;> simp at h
    subst h
    exact tok_sl (hτ t ti ht) hv

theorem append_sound (hτ : TOK c.P c.τ) (hby : BYOK c.P c.byt) (h : Rel c w0 β ρ σ a w) (o : Oper) {cl : Call} (hop : o.op = .call cl) (hcal : cl.callee = .builtin .append) {d : Nat} (hd : o.dst = some d) (hfit : okd c d) {args : List V} {r : Prop × Eff}
    (hae : B0 c d cl.argTypes.toList args (args.map (DG σ)) = some r) (hxs : cl.args.toList.map a.eval = args.map (conc β ρ)) (hob : r.1) (σ' : St) (hσ : match r.2.key with | some k => Ready c σ σ' k | none => σ' = σ)
    (hK : ∀ β' ρ' a' w', Rel c w0 β' ρ' (σ'.app o.dst r.2) a' w' → (∀ v, r.2.val = some v → v ≠ .d) → K a' w') : o.wp c.P a w K Q := by
  unfold B0 at hae
  split at hae
  · rename_i k j R S t t' hts hrws
    obtain ⟨hrk, hrj⟩ : DG σ (.r k) = some R ∧ DG σ (.r j) = some S := by simpa using hrws
    split at hae
    · rename_i e hel
      split at hae
      · rename_i bt te hbt hte hR0 hS0
        split at hae
        · rename_i hcond
          simp only [Bool.and_eq_true, Bool.not_eq_true', beq_iff_eq, bne_iff_ne, ne_eq] at hcond
          obtain ⟨⟨⟨⟨⟨⟨⟨⟨⟨⟨hit, htt⟩, hown⟩, hty⟩, hRs⟩, hSs⟩, hSl⟩, hzl⟩, hts0⟩, hbt0⟩, hone⟩ := hcond
          subst htt
          simp only [Option.some.injEq] at hae
          subst hae
          dsimp only at hob hσ hK
          have hk := rowOf_r hrk
          have hj := rowOf_r hrj
          obtain ⟨o1, o2, o3, o4⟩ := h.owns k R hk hown
          obtain ⟨z0, xs, hxs', hx3⟩ := o3
          obtain ⟨a', c', hv, hlc, hi⟩ := (h.rows j S hj).1 hS0
          rw [hSl] at hv
          obtain ⟨hsz, b, o', ha, hc⟩ := hi 0 (by omega)
          obtain ⟨ii, hii, his, z, hz1, hz2⟩ := tok_info (hτ e te hte)
          obtain ⟨ii', hii', hbb⟩ := hby e bt hbt
          rw [hii] at hii'
          simp only [Option.some.injEq] at hii'
          subst hii'
          have hzs : z.cells.size = te.size := by
            have := tok_zsize (hτ e te hte) hii hz1
            omega
          have hlen : (S.get (0 : Nat)).length = 1 * te.size := by rw [hsz, hSs]; omega
          have hle : R.len + 1 ≤ (R.len + 1) * bt := Nat.le_mul_of_pos_right _ (by omega)
          have hsl := slElem_spec hτ hel
          rw [← hRs, ← hty] at *
          obtain ⟨g, cap, w', hr, g2, g3, g4, g5⟩ := run_append_lies (P := c.P) w t o.type 0 R.ty ii z R.size bt hsl hii hz1 his hbb hzs (by omega) (ρ k) R.len xs hxs' ⟨b, o', none⟩ 1 c' (S.get (0 : Nat)) hlen
            (fun q u hu => by
              have := hc q u hu
              rw [Nat.zero_mul, Nat.zero_add] at this
              rw [add_mid]; exact this) (fun u hu => List.all_eq_true.1 hone u hu) (by omega) (by unfold maxLen; omega) hob (Nat.zero_le _) w.heap.size rfl
          have hev : (execOp a.eval o).run c.P w = .ok (.value (.slice (some ⟨g, 0, none⟩) (R.len + 1) cap)) w' := by
            have hargs : cl.args.map a.eval = #[ρ k, ρ j] := by apply Array.toList_inj.1; simpa [conc] using hxs
            have hat : cl.argTypes = #[t, t] := by apply Array.toList_inj.1; simpa using hts
            rw [hv, ha] at hargs
            simp only [execOp, hop, resolve, hcal, hargs, hat]
            simp only [Sem.run_bind, Sem.run_pure, Result.andThen_ok, invoke, builtin, hr]
          have hsnoc : OwnOK w' (.slice (some ⟨g, 0, none⟩) (R.len + 1) cap) (AY R (S.get (0 : Nat))) := by
            refine ⟨fun e0 => by simp [AY] at e0, xs ++ S.get (0 : Nat), g2, fun i hi => ?_⟩
            simp only [AY] at hi ⊢
            have hxl := hxs'.1
            by_cases e : i = R.len
            · subst e
              rw [if_pos rfl, List.drop_append_of_le_length (by omega), List.drop_of_length_le (by omega), List.nil_append, List.take_of_length_le (by omega)]
            · rw [if_neg (by omega)]
              have hpos : (i + 1) * R.size ≤ R.len * R.size := Nat.mul_le_mul_right _ (by omega)
              rw [Nat.add_mul, Nat.one_mul] at hpos
              rw [List.drop_append_of_le_length (by omega), List.take_append_of_le_length (by simp; omega)]
              exact hx3 i (by omega)
          refine wp_value hev ?_
          have happ := h.appended d hfit hit (v' := .slice (some ⟨g, 0, none⟩) (R.len + 1) cap) (hσ.rel w0 β ρ a w h 0 _) hσ.subb hσ.subx hk hown g3 (AY R (S.get (0 : Nat))) rfl o1 (h.rsz k R hk) hsnoc hsnoc.slice (fun b' hb' => by
            simp only [Value.ownBlock, Option.some.injEq] at hb'
            subst hb'
            rcases g4 with e | e
            · exact .inl e
            · exact .inr e)
          rw [hd]
          exact hK _ _ _ _ (by rw [hd]; simpa [St.app] using happ) (fun v hv => by simp at hv; subst hv; simp)
        · simp at hae
      · simp at hae
    · simp at hae
  · simp at hae

variable (hτ : TOK c.P c.τ) (hq : EQOK c.P c.eqs) (hby : BYOK c.P c.byt)
include hτ hq hby

theorem stepE_sound (h : Rel c w0 β ρ σ a w) (o : Oper) {raw : List V} (hraw : CO σ (CT o.op) = some raw) {ob : Prop} {e : Eff}
    (he : CM c o raw (raw.map fun x => DG σ (CU x)) (DM raw fun x => DH σ (CU x)) = some (ob, e)) (hob : ob) (hfit : E0 c o.dst = true) (σ' : St)
    (hσ : match e.key with | some k => Ready c σ σ' k | none => σ' = σ)
    (hK : ∀ β' ρ' a' w', Rel c w0 β' ρ' (σ'.app o.dst e) a' w' → (∀ v, e.val = some v → v ≠ .d) → K a' w') : o.wp c.P a w K Q := by
  have hxs0 := evs_sound h hraw
  have hal : ∀ u ∈ raw.map CU, u ≠ .d := fun u hu => by
    obtain ⟨v, hv, rfl⟩ := List.mem_map.1 hu
    exact evs_unq hraw v hv
  -- what only computes
  have quiet : ∀ {r : Prop × V}, CV raw → CN c o.op (raw.map CU) (((raw.map fun x => DG σ (CU x))[0]?).bind id) (DM raw fun x => DH σ (CU x)) = some r → r.1 →
      σ' = σ → e = { val := some r.2 } → o.wp c.P a w K Q := by
    intro r hqo hev hr hs hee
    subst hs; subst hee
    rw [rws_get, ← heads_map] at hev
    obtain ⟨h1, h2⟩ := evalV_sound hτ hq h o hev hr (by rw [hxs0, qobs_unq β ρ hqo]) hal
    exact wp_value h1 (hK β ρ _ _ (h.set _ hfit _ _ fun _ => rfl) fun v hv => by simp at hv; subst hv; exact h2)
  unfold CM at he
  dsimp only at he
  split at he
  case h_1 x y z hop =>
    obtain ⟨p, q, r, rfl, hy⟩ := a3_some he
    obtain ⟨b, hb, hy2⟩ := onBool_some hy
    cases hp : D1 b q r with
    | none => rw [hp] at hy2; simp at hy2
    | some s =>
      obtain ⟨ob', v⟩ := s
      rw [hp] at hy2
      simp only [Option.map_some, Option.some.injEq, Prod.mk.injEq] at hy2
      obtain ⟨rfl, rfl⟩ := hy2
      dsimp only at hσ
      subst hσ
      obtain ⟨h1, h2⟩ := pickV_sound (β := β) (ρ := ρ) hp hob.2
      simp only [hop, CT, List.map_cons, List.map_nil, List.cons.injEq, and_true] at hxs0
      have hpb : conc β ρ p = .bool b := by
        have := qobs_unq β ρ hob.1
        simp at this
        rw [this, hb]; rfl
      refine wp_value (x := conc β ρ v) ?_ (hK β ρ _ _ (h.set _ hfit _ _ fun _ => rfl) fun u hu => by simp at hu; subst hu; exact h2)
      simp only [execOp, hop, hxs0.1, hxs0.2.1, hxs0.2.2, hpb]
      simp only [asBool, Sem.run_bind, Sem.run_pure, Result.andThen_ok]
      rw [h1]
  case h_2 t x hop =>
    split at he
    · rename_i d ti hd hti
      obtain ⟨p, hp, hy⟩ := a1_some he
      have hrw : ((raw.map fun x => DG σ (CU x))[0]?).bind id = DG σ p := by rw [rws_get, hp]; rfl
      rw [hrw] at hy
      cases hcs : DQ ti p (DG σ p) with
      | none => rw [hcs] at hy; simp at hy
      | some cs =>
        rw [hcs] at hy
        simp only [Option.map_some, Option.some.injEq, Prod.mk.injEq] at hy
        obtain ⟨rfl, rfl⟩ := hy
        obtain ⟨h1, h2, h3, h4⟩ := cellsOf_sound h hcs
        dsimp only at hσ
        have hx : a.eval x = conc β ρ p := by
          have := qobs_unq β ρ hob
          rw [hp] at this
          rw [this] at hxs0
          simpa [hop, CT] using hxs0
        -- what goes in does not speak of the new key
        have hnd : okd c d := fits_okd (by rw [← hd]; exact hfit)
        have hr2 := hσ.rel w0 β ρ a w h w.heap.size (ρ d)
        have hconc : cs.map (conc (upd β d w.heap.size) (upd ρ d (ρ d))) = cs.map (conc β ρ) := List.map_congr_left fun u hu => by
          have hu' := cellsOf_shape hcs u hu
          rcases hu' with ⟨y, rfl⟩ | ⟨k, rfl⟩
          · rfl
          · simp only [conc, upd]; split <;> simp_all
        have hnb := hr2.newbox d d (upd_same _ _ _) hσ.none hnd cs h2 t
        refine wp_value (x := .pointer (some ⟨w.heap.size, 0, none⟩)) (w' := w.alloc (.cells (conc β ρ p).cells t)) ?_ ?_
        · simp only [execOp, hop, hx]
          simp [Instr.box, newVar, newRow, newObj, Sem.run]
        · rw [hd]
          refine hK (upd β d w.heap.size) (upd ρ d (ρ d)) _ _ ?_ (fun v hv => by simp at hv; subst hv; simp)
          have hA : (cs.map (conc β ρ)).toArray = (conc β ρ p).cells := by rw [← h1]
          rw [hconc, hA] at hnb
          simpa [St.app, hd] using hnb
    · simp at he
  case h_3 t hop =>
    split at he
    · rename_i d ti hd hti
      simp only [Option.some.injEq, Prod.mk.injEq] at he
      obtain ⟨rfl, rfl⟩ := he
      dsimp only at hσ
      have hr2 := hσ.rel w0 β ρ a w h w.heap.size (.slice none 0 0)
      have hnb := hr2.newbox d d (upd_same _ _ _) hσ.none (fits_okd (by rw [← hd]; exact hfit)) (ti.zero.map .v) (fun v hv => by obtain ⟨y, _, rfl⟩ := List.mem_map.1 hv; simp) t
      obtain ⟨z, hz, hzc⟩ := tok_zero (hτ t ti hti) w
      refine wp_value (x := .pointer (some ⟨w.heap.size, 0, none⟩)) (w' := w.alloc (.cells z.cells t)) ?_ ?_
      · simp only [execOp, hop]
        simp [Instr.alloc, hz, newVar, newRow, newObj, Sem.run]
      · rw [hd]
        refine hK (upd β d w.heap.size) (upd ρ d (.slice none 0 0)) _ _ ?_ (fun v hv => by simp at hv; subst hv; simp)
        rw [map_conc_v, ← hzc] at hnb
        simpa [St.app, hd] using hnb
    · simp at he
  case h_4 t n ps hop =>
    split at he
    · rename_i d hd
      cases hl : CE c d t n (ps.toList.map (·.1)) (raw.map CU) with
      | none => rw [hl] at he; simp at he
      | some e' =>
        rw [hl] at he
        simp only [Option.map_some, Option.some.injEq, Prod.mk.injEq] at he
        obtain ⟨rfl, rfl⟩ := he
        refine litE_sound hτ h o hd (fits_okd (by rw [← hd]; exact hfit)) hop hl ?_ σ' hσ hK
        have hx := qobs_unq β ρ hob
        rw [hx] at hxs0
        simpa [hop, CT, Function.comp_def] using hxs0
    · simp at he
  case h_5 t x y hop =>
    split at he
    · rename_i ti hd hti
      obtain ⟨p, q, hpq, hy⟩ := a2_some he
      have hrw0 : ((raw.map fun x => DG σ (CU x))[0]?).bind id = DG σ p := by rw [rws_get, hpq]; rfl
      have hrw1 : ((raw.map fun x => DG σ (CU x))[1]?).bind id = DG σ q := by rw [rws_get, hpq]; rfl
      rw [hrw0, hrw1] at hy
      have hsz := tok_size (hτ t ti hti) w
      split at hy
      · rename_i k off cs hbx
        split at hy
        · simp at hy
        · rename_i hnw
          have hit : c.it = false := by cases hi : c.it <;> simp_all
          have hro : c.ro.contains k = false := by cases hi : c.ro.contains k <;> simp_all
          cases hcs : DQ ti q (DG σ q) with
          | none => rw [hcs] at hy; simp at hy
          | some us =>
            rw [hcs] at hy
            simp only [Option.bind_some] at hy
            split at hy
            · rename_i hle
              simp only [Option.some.injEq, Prod.mk.injEq] at hy
              obtain ⟨rfl, rfl⟩ := hy
              obtain ⟨h1, h2, h3, h4⟩ := cellsOf_sound h hcs
              dsimp only at hσ
              subst hσ
              have hx := qobs_unq β ρ hob
              rw [hpq] at hx
              rw [hx] at hxs0
              simp [hop, CT] at hxs0
              rw [← heads_map, hpq] at hbx
              obtain ⟨k', o', e', hl⟩ := boxOf_some (by simpa [DM] using hbx)
              simp at e'
              obtain ⟨rfl, rfl⟩ := e'
              obtain ⟨hge, T, hT⟩ := h.boxes k cs hl
              have hlen : off + 0 + (conc β ρ q).cells.toList.length ≤ ((cs.map (conc β ρ)).toArray).size := by rw [h1]; simp; omega
              have hst := run_storeCells_at (P := c.P) (β k) off T (conc β ρ q).cells.toList 0 _ w hT (by simpa using hlen) h3
              have hvs : (conc β ρ q).cells.size = ti.size := by rw [← Array.length_toList, h1]; simpa using h4
              refine wp_skip' (w' := w.setRow (β k) (((cs.map (conc β ρ)).take off ++ us.map (conc β ρ) ++ (cs.map (conc β ρ)).drop (off + ti.size)).toArray)) ?_ ?_
              · simp only [execOp, hop, hxs0.1, hxs0.2]
                simp only [conc, Instr.storeAt, Instr.sureAddr, storeVar, Sem.run_bind, Sem.run_pure, Result.andThen_ok, hsz, hvs]
                simp only [ne_eq, not_true_eq_false, if_false, Sem.run_bind, Sem.run_pure, Result.andThen_ok, hst]
                simp [h1, h4]
              · refine hK β ρ _ _ ?_ (fun v hv => by simp at hv)
                have hs := h.store (w' := w.setRow (β k) (((cs.map (conc β ρ)).take off ++ us.map (conc β ρ) ++ (cs.map (conc β ρ)).drop (off + ti.size)).toArray)) k cs (cs.take off ++ us ++ cs.drop (off + ti.size)) (fun v hv => by
                    simp only [List.append_assoc, List.mem_append] at hv
                    rcases hv with hv | hv | hv
                    · exact h.balive k cs hl v (List.mem_of_mem_take hv)
                    · exact h2 v hv
                    · exact h.balive k cs hl v (List.mem_of_mem_drop hv)) T hl hro hit rfl rfl rfl (by simp) (by
                    rw [setRow_heap w _ _ _ _ _ hT]
                    simp only [List.map_append, List.map_take, List.map_drop]) (fun b hb => setRow_other w _ _ _ hb)
                rw [hd]
                simpa [St.app, Act.put] using hs
            · simp at hy
      · rename_i k i s off R hbx hpr
        obtain ⟨hrk, hsp⟩ := plainR_some hpr
        split at hy
        · rename_i hcond
          simp only [Bool.and_eq_true, Bool.not_eq_true', beq_iff_eq] at hcond
          obtain ⟨⟨hit, hown⟩, rfl⟩ := hcond
          cases hcs : DQ ti q none with
          | none => rw [hcs] at hy; simp at hy
          | some us' =>
            rw [hcs] at hy
            simp only [Option.bind_some] at hy
            cases hvl : D9 us' with
            | none => rw [hvl] at hy; simp at hy
            | some us =>
              rw [hvl] at hy
              simp only [Option.bind_some] at hy
              split at hy
              · rename_i hle
                simp only [Option.some.injEq, Prod.mk.injEq] at hy
                obtain ⟨rfl, rfl⟩ := hy
                obtain ⟨hqo, hi0, hi1⟩ := hob
                have e2 := vals_spec (β := β) (ρ := ρ) hvl
                subst e2
                obtain ⟨h1, h2, h3, h4⟩ := cellsOf_sound h (cellsOf_row (DG σ q) hcs)
                rw [map_conc_v] at h1
                dsimp only at hσ
                subst hσ
                have hx := qobs_unq β ρ hqo
                rw [hpq] at hx
                rw [hx] at hxs0
                simp [hop, CT] at hxs0
                have hl := rowOf_e hrk
                obtain ⟨o1, o2, o3, o4⟩ := h.owns k R hl hown
                obtain ⟨z0, xs, ⟨x1, x2⟩, x3⟩ := o3
                rcases x2 with ⟨_, e0⟩ | ⟨g, cap, cur, hv, _, hg, hc1, hc2, hc3, ht⟩
                · omega
                · obtain ⟨n, rfl⟩ : ∃ n : Nat, i = n := ⟨i.toNat, by omega⟩
                  have hn : n < R.len := by omega
                  have hul : us.length = ti.size := by simpa using h4
                  have hpos : (n + 1) * R.size ≤ R.len * R.size := Nat.mul_le_mul_right _ hn
                  rw [Nat.add_mul, Nat.one_mul] at hpos
                  have hcap : R.len * R.size ≤ cap * R.size := Nat.mul_le_mul_right _ hc1
                  have hlen : n * R.size + off + us.length ≤ cur.size := by omega
                  have hst := run_storeCells_at (P := c.P) g (n * R.size + off) R.ty us 0 cur w hg (by simpa using hlen) (by rw [← h1]; exact h3)
                  have hvs : (conc β ρ q).cells.size = ti.size := by rw [← Array.length_toList, h1]; exact hul
                  have hh := setRow_heap w g cur ((cur.toList.take (n * R.size + off) ++ us ++ cur.toList.drop (n * R.size + off + us.length)).toArray) R.ty (0, 0) hg
                  have hcl : (cur.toList.take (n * R.size + off) ++ us ++ cur.toList.drop (n * R.size + off + us.length)).length = cur.size := by simp; omega
                  refine wp_skip' (w' := w.setRow g ((cur.toList.take (n * R.size + off) ++ us ++ cur.toList.drop (n * R.size + off + us.length)).toArray)) ?_ ?_
                  · simp only [execOp, hop, hxs0.1, hxs0.2]
                    simp only [conc, hv, Instr.storeAt, Instr.sureAddr, storeVar, Sem.run_bind, Sem.run_pure, Result.andThen_ok, hsz, hvs]
                    simp only [ne_eq, not_true_eq_false, if_false, Sem.run_bind, Sem.run_pure, Result.andThen_ok, h1, Int.toNat_natCast, Nat.zero_add, hst]
                    simp
                  · refine hK β ρ _ _ ?_ (fun v hv => by simp at hv)
                    have hs := h.setrow (w' := w.setRow g ((cur.toList.take (n * R.size + off) ++ us ++ cur.toList.drop (n * R.size + off + us.length)).toArray)) hit hl hown
                      (AX R n ((R.get n).take off ++ us ++ (R.get n).drop (off + ti.size))) rfl rfl o2 o1 rfl rfl rfl (by simp) (fun b hb => setRow_other w _ _ _ fun e => hb (by rw [hv, e]; rfl)) (by
                        refine ⟨fun e => absurd e (by simp only [AX]; omega), xs.take (n * R.size + off) ++ us ++ xs.drop (n * R.size + off + us.length), ⟨?_, .inr ⟨g, cap, _, hv, Nat.zero_le _, hh, hc1, hc2, by simp only [AX]; simpa using hcl.trans hc3, ?_⟩⟩, fun j hj => ?_⟩
                        · simp only [AX]; simp; omega
                        · simp only [AX]
                          rw [← ht]
                          exact take_splice cur.toList us (n * R.size + off) (R.len * R.size) (by omega) (by simpa using hlen)
                        · simp only [AX] at hj ⊢
                          rw [splice_piece xs us R.len R.size n j off x1 hn hj (by omega)]
                          by_cases e : j = n
                          · subst e
                            rw [if_pos rfl, if_pos rfl, x3 j hj, hul]
                          · rw [if_neg e, if_neg (by omega), x3 j hj])
                    rw [hd]
                    simpa [St.app, Act.put] using hs
              · simp at hy
        · simp at hy
      · simp at hy
    · simp at he
  case h_6 cl hop =>
    split at he
    · rename_i f hcal
      split at he
      · rename_i d ret hd hΓ
        split at he
        · rename_i hga
          rw [Bool.and_eq_true] at hga
          rw [Bool.and_eq_true] at hga
          obtain ⟨⟨hnb, hga⟩, hpl⟩ := hga
          cases hr : DP d ret with
          | none => rw [hr] at he; simp at he
          | some e' =>
            rw [hr] at he
            simp only [Option.map_some, Option.some.injEq, Prod.mk.injEq] at he
            obtain ⟨rfl, rfl⟩ := he
            have hrw : (raw.map fun x => DG σ (CU x)) = (raw.map CU).map (DG σ) := by simp [Function.comp_def]
            rw [hrw] at hga hob hpl
            obtain ⟨hqo, hso, hen, hcall⟩ := hob
            have hx := qobs_unq β ρ hqo
            rw [hx] at hxs0
            have hargs : cl.args.map a.eval = ((raw.map CU).map (conc β ρ)).toArray := by
              apply Array.toList_inj.1
              simpa [hop, CT, hcal] using hxs0
            have hrun : (execOp a.eval o).run c.P w = .ok (.enter f ((raw.map CU).map (conc β ρ)).toArray) w := by
              have := hen ((raw.map CU).map (conc β ρ)).toArray w
              simp only [execOp, hop, resolve, hcal, hargs]
              simp only [Act.eval, Deferred.ofValue, Sem.run_bind, Sem.run_pure, Result.andThen_ok, invoke]
              simpa using this
            unfold Oper.wp
            rw [hrun]
            refine (hcall _ w (argOK_of h hga hso (argable_nop hnb hga))).mono ?_
            rintro e w' ⟨zs, rfl, hz, hb⟩
            obtain ⟨⟨β', ρ', h1⟩, h2⟩ := ret_sound h (fits_okd (by rw [← hd]; exact hfit)) hr σ' hσ hz hb (by
              rw [Bool.or_eq_true] at hpl
              exact hpl.imp id fun hp => oldArgs_sound h hp)
            rw [hd]
            exact hK β' ρ' _ _ (by rw [hd]; exact h1) h2
        · simp at he
      · simp at he
    · rename_i hcal
      split at he
      · rename_i d hd
        cases hae : B0 c d cl.argTypes.toList (raw.map CU) (raw.map fun x => DG σ (CU x)) with
        | none => rw [hae] at he; simp at he
        | some r =>
          rw [hae] at he
          simp only [Option.map_some, Option.some.injEq, Prod.mk.injEq] at he
          obtain ⟨rfl, rfl⟩ := he
          have hx := qobs_unq β ρ hob.1
          rw [hx] at hxs0
          have hrw : (raw.map fun x => DG σ (CU x)) = (raw.map CU).map (DG σ) := by simp [Function.comp_def]
          rw [hrw] at hae
          exact append_sound hτ hby h o hop hcal hd (fits_okd (by rw [← hd]; exact hfit)) hae (by simpa [hop, CT, hcal] using hxs0) hob.2 σ' hσ hK
      · simp at he
    · rename_i hnc hnc2
      cases hev : CN c o.op (raw.map CU) (((raw.map fun x => DG σ (CU x))[0]?).bind id) (DM raw fun x => DH σ (CU x)) with
      | none => rw [hev] at he; simp at he
      | some r =>
        rw [hev] at he
        simp only [Option.map_some, Option.some.injEq, Prod.mk.injEq] at he
        obtain ⟨rfl, rfl⟩ := he
        dsimp only at hσ
        exact quiet hob.1 hev hob.2 hσ rfl
  case h_7 =>
    rename_i hn1 hn2 hn3 hn4 hn5 hn6
    cases hev : CN c o.op (raw.map CU) (((raw.map fun x => DG σ (CU x))[0]?).bind id) (DM raw fun x => DH σ (CU x)) with
    | none => rw [hev] at he; simp at he
    | some r =>
      rw [hev] at he
      simp only [Option.map_some, Option.some.injEq, Prod.mk.injEq] at he
      obtain ⟨rfl, rfl⟩ := he
      dsimp only at hσ
      exact quiet hob.1 hev hob.2 hσ rfl

end

end Go.Ab
