/- The abstract layer, part 8: a range over a function, told of states. -/
import Derived.Test.YtogmnhebobdokaaAbSeq
set_option linter.unusedVariables false
set_option linter.unusedSimpArgs false
namespace Go.Ab
open Go Go.RowKit

/-- A new base: what the round has made so far is the caller's, too. -/
theorem Rel.rebase {c : Cx} {E : Env} {β : Nat → Nat} {ρ : Nat → Value} {τ : St} {a' : Act} {A B B2 : World} {H : Nat → Prop} {tm : Array Value} {fz : List Nat} {hM : ∀ b, H b → ¬ E.pr b} {hs : E.w0.heap.size ≤ A.heap.size}
    (h : Rel (cR c fz) (E.round A H tm hM hs) β ρ τ a' B) (hit : c.it = false) (hs2 : E.w0.heap.size ≤ B2.heap.size) (hsz : B.heap.size = B2.heap.size)
    (hc : ∀ (b : Nat) (o : Obj), B.heap[b]? = some o → o.isCells = true → B2.heap[b]? = B.heap[b]?)
    (hdk : ∀ r : Nat, B.heap[r]? = some (Obj.deferred (some [])) → B2.heap[r]? = B.heap[r]?)
    (hM2 : ∀ b, (H b ∨ (A.heap.size ≤ b ∧ b < B.heap.size)) → ¬ E.pr b) :
    Rel (cR c fz) (E.round B2 (fun b => H b ∨ (A.heap.size ≤ b ∧ b < B.heap.size)) tm hM2 hs2) β ρ τ a' B2 where
  below := Kept.refl _
  size := h.size
  defers := by
    have : ∀ l : List Deferred, marks (E.round A H tm hM hs) B l → marks (E.round B2 (fun b => H b ∨ (A.heap.size ≤ b ∧ b < B.heap.size)) tm hM2 hs2) B2 l := by
      intro l
      induction l with
      | nil => exact fun _ => trivial
      | cons d l ih =>
        rintro ⟨⟨r, g1, g2, g3, g4⟩, g5⟩
        refine ⟨⟨r, g1, (hdk r g2).trans g2, fun hp => hp.2 ?_, g4⟩, ih g5⟩
        by_cases e : r < A.heap.size
        · exact .inl (Classical.byContradiction fun hn => g3 ⟨e, hn⟩)
        · exact .inr ⟨by omega, block_lt g2⟩
    exact this _ h.defers
  slots := h.slots
  boxes := fun k cs hk => by
    obtain ⟨g1, T, g2⟩ := h.boxes k cs hk
    refine ⟨fun hr hp => hp.2 ?_, T, (hc _ _ g2 rfl).trans g2⟩
    have g3 := g1 hr
    have g4 := block_lt g2
    by_cases e : β k < A.heap.size
    · exact .inl (Classical.byContradiction fun hn => g3 ⟨e, hn⟩)
    · exact .inr ⟨by omega, g4⟩
  balive := h.balive
  binj := h.binj
  rows := fun k R hk => ⟨fun hsp => ((h.rows k R hk).1 hsp).keep hc, fun xs hsp => by obtain ⟨U, hU⟩ := (h.rows k R hk).2 xs hsp; exact ⟨U, hU.mono fun b o _ => hc b o⟩⟩
  rnew := fun k R hk hn hl b hb => by
    obtain ⟨g3, g4⟩ := h.rnew k R hk hn hl b hb
    refine ⟨fun hp => hp.2 ?_, by rw [← hsz]; exact g4⟩
    by_cases e : b < A.heap.size
    · exact .inl (Classical.byContradiction fun hn => g3 ⟨e, hn⟩)
    · exact .inr ⟨by omega, g4⟩
  rold := h.rold
  rsz := h.rsz
  rbox := h.rbox
  owns := fun k R hk ho => by obtain ⟨h1, h2, h3, h4⟩ := h.owns k R hk ho; exact ⟨h1, h2, h3.same fun b o _ => hc b o, h4⟩
  seqs := fun k R xs hk hsp => by obtain ⟨U, h1, h2, h3⟩ := h.seqs k R xs hk hsp; exact ⟨U, h1.mono fun b o _ => hc b o, h2, h3⟩
  frz := h.frz
  gh := ⟨trivial, fun b hb => hb.elim, fun _ => ⟨fun _ => trivial, fun b hb => hb⟩⟩
  gs := fun hi => by have : c.it = true := hi; rw [hit] at this; cases this
  forn := ⟨fun k cs _ hb => hb, fun k R _ _ b _ hb => hb⟩

/-- Code that goes straight on. -/
def plainC : Code → Bool
  | .skip => true
  | .seq x y => plainC x && plainC y
  | .region _ _ _ => true
  | _ => false
theorem awp_plain {c : Cx} : ∀ {code : Code} {Q Q' : Exit → St → Prop} {σ : St}, plainC code = true → awp c code Q σ → (∀ σ, Q .normal σ → Q' .normal σ) → awp c code Q' σ
  | .skip, Q, Q', σ, _, h, hq => hq _ h
  | .seq x y, Q, Q', σ, hp, h, hq => by
    simp only [plainC, Bool.and_eq_true] at hp
    exact awp_plain (code := x) hp.1 h fun σ h => awp_plain (code := y) hp.2 h hq
  | .region id ops draw, Q, Q', σ, _, h, hq => by
    cases draw with
    | false =>
      simp only [awp] at h ⊢
      cases hs : CJ c ops.toList ops.toList σ with
      | none =>
        rw [hs] at h
        dsimp only at h ⊢
        cases hit : c.it with
        | false => rw [hit] at h; exact h.elim
        | true => rw [hit] at h; exact ysteps_mono c ops.toList ops.toList σ h hq
      | some r => rw [hs] at h; exact ⟨h.1, hq _ h.2⟩
    | true =>
      simp only [awp] at h ⊢
      cases hs : CK c ops.toList ops.toList σ with
      | none =>
        rw [hs] at h
        dsimp only at h ⊢
        cases hc : BA c ops.toList σ with
        | none => rw [hc] at h; exact h.elim
        | some r => rw [hc] at h; exact ⟨h.1, h.2.1, hq _ h.2.2⟩
      | some r => rw [hs] at h; exact ⟨h.1, h.2.1, hq _ h.2.2⟩
  | .ret, _, _, _, hp, _, _ => by simp [plainC] at hp
  | .exit _, _, _, _, hp, _, _ => by simp [plainC] at hp
  | .block _ _, _, _, _, hp, _, _ => by simp [plainC] at hp
  | .cond _ _ _, _, _, _, hp, _, _ => by simp [plainC] at hp
  | .loop _, _, _, _, hp, _, _ => by simp [plainC] at hp
  | .rangeFunc _ _ _ _, _, _, _, hp, _, _ => by simp [plainC] at hp
  | .scope _, _, _, _, hp, _, _ => by simp [plainC] at hp
  | .label _, _, _, _, hp, _, _ => by simp [plainC] at hp
  | .goto _, _, _, _, hp, _, _ => by simp [plainC] at hp
  | .refuse _, _, _, _, hp, _, _ => by simp [plainC] at hp

/-- The jumps that a round may leave behind. -/
def jumpOf : Exit → Option Code
  | .ret => some .ret
  | .exit id => some (.exit id)
  | _ => none

/-- What a round must come to. -/
def roundQ (c : Cx) (fs : List Fr) (Q : Exit → St → Prop) (fz : List Nat) (inv : Prop) (T : St) : Exit → St → Prop
  | .normal, τ => inv ∧ ∃ sws, CA (HD sws τ).t T.t ∧ CB (HD sws τ).b T.b ∧ CC (HD sws τ).x T.x
  | .ret, τ => unst c fs Q .ret (τ.only fz)
  | .exit id, τ => unst c fs Q (.exit id) (τ.only fz)
  | _, _ => False
def thenB (c : Cx) (body : Code) (R : Exit → St → Prop) : Exit → St → Prop
  | .normal, τ => awp c body R τ
  | _, _ => False
/-- What is asked of one that is listed among the marks. -/
theorem marks_lt {E : Env} {w : World} : ∀ {l : List Deferred}, marks E w l → ∀ d ∈ l, ∀ r, d.target = .collected r → w.heap[r]? = some (Obj.deferred (some [])) ∧ ¬ E.pr r
  | [], _, d, hd, _, _ => by cases hd
  | d :: l, ⟨⟨r, g1, g2, g3, _⟩, g4⟩, d', hd', r', hr' => by
    rcases List.mem_cons.1 hd' with rfl | hd'
    · rw [g1] at hr'; simp at hr'; subst hr'; exact ⟨g2, g3⟩
    · exact marks_lt g4 d' hd' r' hr'
theorem marks_same {E : Env} {w w' : World} : ∀ {l : List Deferred}, marks E w l → (∀ d ∈ l, ∀ r, d.target = .collected r → w'.heap[r]? = w.heap[r]?) → marks E w' l
  | [], _, _ => trivial
  | d :: l, ⟨⟨r, g1, g2, g3, g4⟩, g5⟩, h => ⟨⟨r, g1, (h d (by simp) r g1).trans g2, g3, g4⟩, marks_same g5 fun d' hd' => h d' (List.mem_cons_of_mem _ hd')⟩

theorem new_cells {c : Cx} {E : Env} {β : Nat → Nat} {ρ : Nat → Value} {σ : St} {a : Act} {w : World} (h : Rel c E β ρ σ a w) {k : Nat} {R : Row} (hk : CS σ.x k = some (some R)) (hl : R.len ≠ 0) {b : Nat} (hb : (ρ k).ownBlock = some b) :
    ∃ o : Obj, w.heap[b]? = some o ∧ o.isCells = true := by
  cases hsp : R.sp with
  | some xs => rw [((h.rows k R hk).own hsp).1] at hb; cases hb
  | none =>
    obtain ⟨a', c', hv, _, hi⟩ := (h.rows k R hk).1 hsp
    obtain ⟨hs, b', o, ha, hc⟩ := hi 0 (by omega)
    rw [hv, ha] at hb
    simp [Value.ownBlock] at hb
    subst hb
    have hpos : 0 < (R.get (0 : Nat)).length := by have := h.rsz k R hk; rw [hs]; omega
    obtain ⟨o, h1, h2⟩ := cells_of_cell (hc 0 _ (List.getElem?_eq_getElem hpos))
    exact ⟨o, h1, h2⟩

theorem look_only_in (fz : List Nat) : ∀ (l : List (Nat × V)) (t : Nat), fz.contains t = true → CS (HB fz l) t = CS l t
  | [], t, _ => rfl
  | (s, u) :: l, t, h => by
    simp only [HB]
    by_cases e : s = t
    · subst e; rw [if_pos h, look_cons, look_cons, if_pos rfl, if_pos rfl]
    · split
      · rw [look_cons, look_cons, if_neg e, if_neg e]; exact look_only_in fz l t h
      · rw [look_cons, if_neg e]; exact look_only_in fz l t h
theorem leqT_only {fz : List Nat} {l : List (Nat × V)} : ∀ {m : List (Nat × V)}, (∀ p ∈ m, fz.contains p.1 = true) → CA l m → CA (HB fz l) m
  | [], _, _ => trivial
  | (k, v) :: m, hm, h => ⟨by rw [look_only_in fz l k (hm (k, v) (by simp))]; exact h.1, leqT_only (fun p hp => hm p (List.mem_cons_of_mem _ hp)) h.2⟩
theorem look_mem : ∀ {m : List (Nat × V)} {p : Nat × V}, p ∈ m → ∃ v, CS m p.1 = some v
  | (k, v) :: m, p, hp => by
    rw [look_cons]
    by_cases e : k = p.1
    · exact ⟨v, by rw [if_pos e]⟩
    · rw [if_neg e]
      rcases List.mem_cons.1 hp with rfl | hp
      · exact absurd rfl e
      · exact look_mem hp

/-- **A range over a function.** A family of states, one for each element that has come. -/
theorem AWR_range {c : Cx} (hc : OK c) (hrd : c.rd = false) (hit : c.it = false) (hfz : c.fz = []) (hro : c.ro = []) (fz : List Nat) (S : Nat → St) (I : Nat → Prop) (xs : List (List Value)) {g : Operand} {ps : Array Tmp} {assign body : Code} {fs : List Fr} {Q : Exit → St → Prop} {σ : St}
    (k : Nat) (R : Row) (hg : CP σ g = some (.r k)) (hk : CS σ.x k = some (some R)) (hsp : R.sp = some xs)
    (h0 : CA σ.t (S 0).t ∧ CB σ.b (S 0).b ∧ CC σ.x (S 0).x) (hdom : ∀ i t v, CS (S i).t t = some v → fz.contains t = true) (hps : ∀ p ∈ ps.toList, p < c.N ∧ fz.contains p = false) (hxl : ∀ x ∈ xs, x.length = ps.size) (hpl : plainC assign = true) (hI : I 0)
    (round : ∀ i x, xs[i]? = some x → I i → ∀ R : Exit → St → Prop, (∀ τ, (I (i + 1) ∧ ∃ sws, CA (HD sws τ).t (S (i + 1)).t ∧ CB (HD sws τ).b (S (i + 1)).b ∧ CC (HD sws τ).x (S (i + 1)).x) → R .normal τ) →
      (∀ τ, cont c fs Q .ret (τ.only fz) → R .ret τ) → (∀ id τ, cont c fs Q (.exit id) (τ.only fz) → R (.exit id) τ) → awk (cR c fz) assign [.seq body] R ⟨HC ps.toList x (S i).t, (S i).b, (S i).x⟩)
    (done : I xs.length → cont c fs Q .normal (S xs.length)) : AWR c g ps assign body fs Q σ := by
  intro lr hl G E hG β ρ a w hr
  obtain rfl : lr = none := by cases lr with | none => rfl | some l => rw [hrd] at hl; cases hl
  refine wpIn_rangeFunc (F := Fw none) (n := 0) ?_
  intro fn hfn
  obtain ⟨U, ⟨w1, ⟨gf, lb, hv, hen, hseq⟩, hU⟩, hUb, hUr⟩ := hr.seqs k R xs hk hsp
  have hgv : a.eval g = .func (.func gf) #[] lb := by rw [ev_sound hr hg]; exact hv
  obtain ⟨rec, hrec⟩ : ∃ rec : LoopState → Option Code → Loop, rec = fun st pe => { state := st, pending := pe, fn, tmps := a.tmps, params := ps, assign, body, defers := w.heap.size } := ⟨_, rfl⟩
  obtain ⟨W1, hW1⟩ : ∃ W1, (w.alloc (.deferred (some []))).alloc (.loop (rec .ready none)) = W1 := ⟨_, rfl⟩
  obtain ⟨L, hL⟩ : ∃ L, L = w.heap.size + 1 := ⟨_, rfl⟩
  obtain ⟨CW, ha1⟩ : ∃ CW : Act, CW = { a with defers := { target := .collected w.heap.size, args := #[] } :: a.defers } := ⟨_, rfl⟩
  have hBW : Below w.heap.size w W1 := by rw [← hW1]; exact ((Below.refl _ w).alloc (Nat.le_refl _) _).alloc (by simp) _
  have hL1 : W1.heap[L]? = some (.loop (rec .ready none)) := by
    rw [← hW1, hL]; have := World.alloc_heap_new (w.alloc (.deferred (some []))) (.loop (rec .ready none)); rwa [World.size_alloc] at this
  have hK1 : W1.heap[w.heap.size]? = some (.deferred (some [])) := by
    rw [← hW1]; exact (Below.heap_alloc _ _ _ (by simp)).trans (World.alloc_heap_new w _)
  have hLpr : ¬ E.pr L := hr.below.fresh (by omega)
  have hDpr : ¬ E.pr w.heap.size := hr.below.fresh (Nat.le_refl _)
  have hgh := hr.gh.2.2 hit
  -- the frame behind the entry
  have hr1 : Rel c E β ρ (S 0) CW W1 := by
    have := (hr.world hBW).leq (leq_of h0)
    have hm := this.defers
    refine ⟨this.below, by rw [ha1]; exact this.size, ?_, fun t v hv hne => by rw [ha1]; exact this.slots t v hv hne, this.boxes, this.balive, this.binj, this.rows, this.rnew, this.rold, this.rsz, this.rbox, this.owns, this.seqs, fun t ht => by rw [hfz] at ht; simp at ht, this.gh, fun hi => (by rw [hit] at hi; cases hi), this.forn⟩
    rw [ha1]
    refine ⟨⟨w.heap.size, rfl, hK1, hDpr, fun d' hd' e => ?_⟩, hm⟩
    have := block_lt (marks_lt hr.defers d' hd' _ e).1
    omega
  have a1t : CW.tmps = a.tmps := by rw [ha1]
  let J : Nat → (Nat → Prop) → World → Prop := fun i M W => I i ∧ ∃ H β ρ, Rel c E β ρ (S i) CW W ∧ Holds c E β ρ (S i) H W ∧ ¬ H L ∧ (∀ d ∈ CW.defers, ∀ r, d.target = .collected r → ¬ H r) ∧ (∀ b, M b ↔ H b ∨ b = L) ∧ W.heap[L]? = some (.loop (rec .ready none))
  let Jx : World → Prop := fun W => ∃ e jc β ρ τ, jumpOf e = some jc ∧ unst c fs Q e τ ∧ Rel c E β ρ τ CW W ∧ W.heap[L]? = some (.loop (rec .done (some jc)))
  have notcells : ∀ (A : World) (o : Obj) (l : Loop), A.heap[L]? = some (.loop l) → A.heap[L]? = some o → o.isCells = true → False := fun A o l h1 h2 h3 => by rw [h1] at h2; simp at h2; subst h2; simp [Obj.isCells] at h3
  refine ⟨L, [{ target := .collected w.heap.size, args := #[] }], W1, { target := .fn (.func gf) lb, args := #[.func (.yield L) #[] #[]] }, W1, gf, #[.func (.yield L) #[] #[]] ++ lb, W1, ?_, ?_, fun _ _ => trivial, ?_, fun h => (by cases h), ?_⟩
  · rw [← hW1, hL, hrec]; exact run_enterLoop_outer _ _ _ _ _
  · simp only [resolve, hgv]
    simp [go_sem]
  · simp [invoke, go_sem, hen]
  · refine (hseq W1 (fun b hb => ?_) L J Jx ?_ ?_ ?_ ?_ (fun b => (∃ k cs, CS (S 0).b k = some (some cs) ∧ b = β k) ∨ (∃ k R, CS (S 0).x k = some (some R) ∧ R.new = true ∧ R.len ≠ 0 ∧ (ρ k).ownBlock = some b) ∨ b = L) ?_ ?_).mono ?_
    · obtain ⟨o, g1, g2, g3⟩ := hU b hb
      refine ⟨Nat.lt_of_lt_of_le (block_lt g1) hBW.size, (hBW.block b (block_lt g1)).trans (g1.trans g3.symm)⟩
    · -- J stands where the world grows
      rintro i M A B ⟨hi, H, β, ρ, h1, h2, h3, h4, h5, h6⟩ hB
      exact ⟨hi, H, β, ρ, h1.world hB, ⟨fun b hb => Nat.lt_of_lt_of_le (h2.lt b hb) hB.size, h2.pr, h2.box, h2.row⟩, h3, h4, h5, (hB.block L (block_lt h6)).trans h6⟩
    · rintro A B ⟨e, jc, β, ρ, τ, h1, h2, h3, h4⟩ hB
      exact ⟨e, jc, β, ρ, τ, h1, h2, h3.world hB, (hB.block L (block_lt h4)).trans h4⟩
    · rintro i M A ⟨hi, H, β, ρ, h1, h2, h3, h4, h5, h6⟩ b hb
      rcases (h5 b).1 hb with h | rfl
      · exact h2.lt b h
      · exact block_lt h6
    · -- one round
      rintro i M A x hx ⟨hi, H, β, ρ, h1, h2, h3, h4, h5, h6⟩
      have hAs : E.w0.heap.size ≤ A.heap.size := h1.below.size
      have hLlt : L < A.heap.size := block_lt h6
      have hy := run_yield (P := c.P) (args := x.toArray) h6 (by rw [hrec]; simpa using hxl x (List.mem_of_getElem? hx))
      rw [hrec] at hy
      refine ⟨fn, _, assign, body, hy, roundIn_of_wpIn (F := Fw none) hfn ?_⟩
      have hent := h1.enter hit fz h2
      have hbind := bind_rel (c := cR c fz) ps.toList x (S i).t CW.tmps (fun p hp => hps p hp) hent
      have hfold : (ps.zip x.toArray).foldl (fun tmps (p, v) => tmps.setIfInBounds p v) a.tmps = (ps.toList.zip x).foldl (fun t (p, v) => t.setIfInBounds p v) CW.tmps := by
        rw [a1t, ← Array.foldl_toList]
        simp
      have hround := round i x hx hi (roundQ c fs Q fz (I (i + 1)) (S (i + 1))) (fun τ h => h) (fun τ h => h) (fun id τ h => h)
      have hass := awp_plain (Q' := thenB (cR c fz) body (roundQ c fs Q fz (I (i + 1)) (S (i + 1)))) hpl hround (fun τ h => h)
      have hwp := awp_sound (cR_ok hc fz) assign _ _ hass (some L) rfl (Gen.none _) _ (fun hi => by have : c.it = true := hi; rw [hit] at this; cases this) _ _ _ A hbind
      rw [← hfold] at hwp
      refine Code.wpIn_mono ?_ hwp
      rintro e1 CX A2 ⟨E2, β2, ρ2, σ2, ⟨_, hE2⟩, hq2, hrel2⟩
      obtain rfl := hE2.same hit
      cases e1 with
      | normal =>
        -- the round begins
        have hLA : (E.round A H CW.tmps h2.pr h1.below.size).pr L := ⟨hLlt, h3⟩
        have hL2 : A2.heap[L]? = some (.loop (rec .ready none)) := (hrel2.below.block L hLA).trans h6
        obtain ⟨A3, hA3⟩ : ∃ A3, A3 = A2.putObj L (.loop { rec .ready none with state := .busy }) := ⟨_, rfl⟩
        have ho3 : ∀ b, b ≠ L → A3.heap[b]? = A2.heap[b]? := fun b hb => by rw [hA3]; exact World.putObj_heap_other hb
        have hs3 : A3.heap.size = A2.heap.size := by rw [hA3]; simp
        have hAA2 : A.heap.size ≤ A2.heap.size := hrel2.below.size
        have hL3 : A3.heap[L]? = some (.loop { rec .ready none with state := .busy }) := by rw [hA3]; exact World.putObj_heap_same (by omega)
        let H3 : Nat → Prop := fun b => H b ∨ (A.heap.size ≤ b ∧ b < A2.heap.size)
        have hH3 : ∀ b, H3 b → ¬ E.pr b := fun b hb => by
          rcases hb with hb | hb
          · exact h2.pr b hb
          · exact h1.below.fresh hb.1
        have hrel3 := hrel2.rebase (B2 := A3) hit (by omega) hs3.symm (fun b o hb ho => ho3 b fun e => by subst e; exact notcells A2 o _ hL2 hb ho)
          (fun r hr => ho3 r fun e => by subst e; rw [hL2] at hr; simp at hr) hH3
        refine ⟨A3, by rw [hA3]; exact run_beginRound hL2 (by rw [hrec]), ?_⟩
        have hbody := awp_sound (cR_ok hc fz) body _ _ hq2 (some L) rfl (Gen.none _) _ (fun hi => by have : c.it = true := hi; rw [hit] at this; cases this) _ _ _ A3 hrel3
        refine Code.wpIn_mono ?_ hbody
        rintro e4 a4 A4 ⟨E4, β4, ρ4, σ4, ⟨_, hE4⟩, hq4, hrel4⟩
        obtain rfl := hE4.same hit
        have hL4 : A4.heap[L]? = some (.loop { rec .ready none with state := .busy }) := (hrel4.below.block L ⟨by omega, fun hh => by
          rcases hh with hh | hh
          · exact h3 hh
          · omega⟩).trans hL3
        have hA34 : A3.heap.size ≤ A4.heap.size := hrel4.below.size
        -- the record is shut; back in the caller's frame
        have fin : ∀ (jump : Option Code) (β4 : Nat → Nat) (ρ4 : Nat → Value) (τ : St), Rel (cR c fz) (E.round A3 H3 CW.tmps hH3 (by omega)) β4 ρ4 τ a4 A4 → ∃ A5, (Instr.endRound L jump).run c.P A4 = .ok (.bool jump.isNone) A5 ∧ A5.heap[L]? = some (.loop (rec (if jump.isNone then .ready else .done) jump)) ∧
            Rel c E β4 ρ4 (τ.only fz) CW A5 ∧ (∃ M', (∀ b, M' b ↔ (H3 b ∨ (A3.heap.size ≤ b ∧ b < A4.heap.size)) ∨ b = L) ∧ (∀ b, M' b → b < A5.heap.size) ∧ Turns M M' A A5) ∧ A5.heap.size = A4.heap.size := by
          intro jump β4 ρ4 τ hrel4
          have he := run_endRound (P := c.P) jump hL4
          have ho5 : ∀ b o, b ≠ L → (A4.putObj L o).heap[b]? = A4.heap[b]? := fun b o hb => World.putObj_heap_other hb
          rw [hrec] at he ⊢
          refine ⟨_, he, World.putObj_heap_same (block_lt hL4), ?_, ⟨fun b => (H3 b ∨ (A3.heap.size ≤ b ∧ b < A4.heap.size)) ∨ b = L, fun b => Iff.rfl, fun b hb => ?_, ?_⟩, by simp⟩
          · have hKA : Kept E A3 := by
              refine ⟨?_, ?_, ?_, by omega, fun b hb => ?_⟩
              · rw [hA3]; exact hrel2.below.os.trans h1.below.os
              · rw [hA3]; exact hrel2.below.tape.trans h1.below.tape
              · rw [hA3]; exact hrel2.below.output.trans h1.below.output
              · rw [ho3 b fun e => hLpr (e ▸ hb)]
                exact (hrel2.below.block b ⟨Nat.lt_of_lt_of_le (E.lt b hb) hAs, fun hm => h2.pr b hm hb⟩).trans (h1.below.block b hb)
            have hmk : marks E A4 CW.defers := marks_same h1.defers fun d hd r hr' => by
              obtain ⟨m1, m2⟩ := marks_lt h1.defers d hd r hr'
              have hrL : r ≠ L := fun e => by subst e; rw [h6] at m1; simp at m1
              have hrA := block_lt m1
              have hnH := h4 d hd r hr'
              rw [hrel4.below.block r ⟨by omega, fun hh => by
                rcases hh with hh | hh
                · exact hnH hh
                · omega⟩]
              show A3.heap[r]? = _
              rw [ho3 r hrL]
              exact hrel2.below.block r ⟨hrA, hnH⟩
            have hlv := hrel4.leave hKA hit hfz (by rw [a1t]; exact hr.size) hgh hmk
            refine Rel.keep (a := { tmps := CW.tmps, defers := CW.defers }) (w' := A4.putObj L (.loop _)) hlv rfl rfl rfl (by simp) (fun b o hb ho => ho5 b _ fun e => by subst e; exact notcells A4 o _ hL4 hb ho) (fun b hb => ho5 b _ fun e => hLpr (e ▸ hb)) ?_ hit
            exact marks_same hmk fun d hd r hr' => ho5 r _ fun e => by
              have := (marks_lt hmk d hd r hr').1
              subst e; rw [hL4] at this; simp at this
          · simp only [World.putObj_size]
            rcases hb with (hb | hb) | hb
            · rcases hb with hb | hb
              · have := h2.lt b hb; omega
              · omega
            · omega
            · rw [hb]; exact block_lt hL4
          · refine ⟨?_, ?_, ?_, by simp; omega, fun b hb hnm => ?_, fun b hb => ?_⟩
            · show A4.os = _; rw [hrel4.below.os]; show A3.os = _; rw [hA3]; exact hrel2.below.os
            · show A4.tape = _; rw [hrel4.below.tape]; show A3.tape = _; rw [hA3]; exact hrel2.below.tape
            · show A4.output = _; rw [hrel4.below.output]; show A3.output = _; rw [hA3]; exact hrel2.below.output
            · have hnH : ¬ H b := fun hh => hnm ((h5 b).2 (.inl hh))
              have hnL : b ≠ L := fun hh => hnm ((h5 b).2 (.inr hh))
              rw [ho5 b _ hnL, hrel4.below.block b ⟨by omega, fun hh => by
                rcases hh with hh | hh
                · exact hnH hh
                · omega⟩]
              show A3.heap[b]? = _
              rw [ho3 b hnL]
              exact hrel2.below.block b ⟨hb, hnH⟩
            · rcases hb with (hb | hb) | hb
              · rcases hb with hb | hb
                · exact .inl ((h5 b).2 (.inl hb))
                · exact .inr hb.1
              · exact .inr (by omega)
              · exact .inl ((h5 b).2 (.inr hb))
        cases e4 with
        | normal =>
          obtain ⟨hI1, sws, q1, q2, q3⟩ := hq4
          obtain ⟨β5, ρ5, hsw⟩ := Rel.swaps (c := cR c fz) hit hro sws hrel4
          obtain ⟨A5, g1, g2, g3, ⟨M', m1, m2, m3⟩, g5⟩ := fin none β5 ρ5 _ hsw
          refine ⟨_, A5, g1, .inl ⟨rfl, M', ?_, m3⟩⟩
          have hfin := g3.leq (leq_of ⟨leqT_only (fun p hp => by obtain ⟨v, hv⟩ := look_mem hp; exact hdom (i + 1) p.1 v hv) q1, q2, q3⟩)
          have inH : ∀ b, ¬ (E.round A3 H3 CW.tmps hH3 (by omega)).pr b → b < A4.heap.size → H3 b ∨ (A3.heap.size ≤ b ∧ b < A4.heap.size) := fun b hb hlt => by
            by_cases e : b < A3.heap.size
            · exact .inl (Classical.byContradiction fun hn => hb ⟨e, hn⟩)
            · exact .inr ⟨by omega, hlt⟩
          refine ⟨hI1, fun b => H3 b ∨ (A3.heap.size ≤ b ∧ b < A4.heap.size), β5, ρ5, hfin, ⟨fun b hb => m2 b ((m1 b).2 (.inl hb)), fun b hb => ?_, fun k cs hk => ?_, fun k R hk hn hl b hb => ?_⟩, fun hh => ?_, fun d hd r hr' hh => ?_, m1, g2⟩
          · rcases hb with hb | hb
            · exact hH3 b hb
            · exact fun hp => by have := E.lt b hp; omega
          · have hk' := leqB_look q2 k _ hk
            obtain ⟨b1, T, b2⟩ := hsw.boxes k cs hk'
            exact inH _ (b1 (by show c.ro.contains k = false; rw [hro]; rfl)) (block_lt b2)
          · obtain ⟨T', k0, k1, k2, k3, _⟩ := (leq_of ⟨q1, q2, q3⟩).x k R hk
            obtain ⟨r1, r2⟩ := hsw.rnew k T' k0 (k3.trans hn) (by omega) b hb
            exact inH b r1 r2
          · rcases hh with (hh | hh) | hh
            · exact h3 hh
            · omega
            · omega
          · have hrA := block_lt (marks_lt h1.defers d hd r hr').1
            rcases hh with (hh | hh) | hh
            · exact h4 d hd r hr' hh
            · omega
            · omega
        | ret =>
          obtain ⟨A5, g1, g2, g3, ⟨M', m1, m2, m3⟩, g5⟩ := fin (some .ret) β4 ρ4 σ4 hrel4
          exact ⟨_, A5, g1, .inr ⟨rfl, ⟨.ret, .ret, β4, ρ4, _, rfl, hq4, g3, g2⟩, M', m2, m3⟩⟩
        | exit id =>
          obtain ⟨A5, g1, g2, g3, ⟨M', m1, m2, m3⟩, g5⟩ := fin (some (.exit id)) β4 ρ4 σ4 hrel4
          exact ⟨_, A5, g1, .inr ⟨rfl, ⟨.exit id, .exit id, β4, ρ4, _, rfl, hq4, g3, g2⟩, M', m2, m3⟩⟩
        | goto t => exact hq4.elim
        | panic ch => exact hq4.elim
        | outgrown => exact hq4.elim
      | exit id => exact hq2
      | goto t => exact hq2
      | ret => exact hq2
      | panic ch => exact hq2
      | outgrown => exact hq2
    · -- at the beginning
      refine ⟨hI, fun b => (∃ k cs, CS (S 0).b k = some (some cs) ∧ b = β k) ∨ (∃ k R, CS (S 0).x k = some (some R) ∧ R.new = true ∧ R.len ≠ 0 ∧ (ρ k).ownBlock = some b), β, ρ, hr1, ⟨fun b hb => ?_, fun b hb => ?_, fun k cs hk => .inl ⟨k, cs, hk, rfl⟩, fun k R hk hn hl b hb => .inr ⟨k, R, hk, hn, hl, hb⟩⟩, fun hh => ?_, fun d hd r hr' hh => ?_, fun b => ?_, hL1⟩
      · rcases hb with ⟨k, cs, hk, rfl⟩ | ⟨k, R, hk, hn, hl, hb⟩
        · obtain ⟨_, T, hT⟩ := hr1.boxes k cs hk; exact block_lt hT
        · exact (hr1.rnew k R hk hn hl b hb).2
      · rcases hb with ⟨k, cs, hk, rfl⟩ | ⟨k, R, hk, hn, hl, hb⟩
        · exact (hr1.boxes k cs hk).1 (by rw [hro]; rfl)
        · exact (hr1.rnew k R hk hn hl b hb).1
      · rcases hh with ⟨k, cs, hk, e⟩ | ⟨k, R, hk, hn, hl, hb⟩
        · obtain ⟨_, T, hT⟩ := hr1.boxes k cs hk
          rw [← e, hL1] at hT; simp at hT
        · have := new_cells hr1 hk hl hb
          obtain ⟨o, o1, o2⟩ := this
          exact notcells W1 o _ hL1 o1 o2
      · have hm := (marks_lt hr1.defers d hd r hr').1
        rcases hh with ⟨k, cs, hk, e⟩ | ⟨k, R, hk, hn, hl, hb⟩
        · obtain ⟨_, T, hT⟩ := hr1.boxes k cs hk
          rw [← e, hm] at hT; simp at hT
        · obtain ⟨o, o1, o2⟩ := new_cells hr1 hk hl hb
          rw [hm] at o1; simp at o1; subst o1; simp [Obj.isCells] at o2
      · constructor
        · rintro (h | h | h)
          · exact .inl (.inl h)
          · exact .inl (.inr h)
          · exact .inr h
        · rintro ((h | h) | h)
          · exact .inl h
          · exact .inr (.inl h)
          · exact .inr (.inr h)
    · -- what the function reads is not among it
      rintro b hb hUU
      have hbw : b < w.heap.size := by obtain ⟨o, g1, _⟩ := hU b hUU; exact block_lt g1
      rcases hb with ⟨j, cs, hj, rfl⟩ | ⟨j, T, hj, hn, hl, hb⟩ | rfl
      · exact hUb j cs (leqB_look h0.2.1 j _ hj) (by rw [hro]; rfl) hUU
      · obtain ⟨T', k0, k1, k2, k3, _⟩ := (leq_of h0).x j T hj
        exact hUr j T' k0 (k3.trans hn) (by omega) b hb hUU
      · omega
    · -- behind
      rintro e W2 ⟨⟨v, rfl⟩, h⟩
      rcases h with ⟨M, hIn, H, β', ρ', g1, g2, g3, g4, g5, g6⟩ | ⟨e, jc, β', ρ', τ, g1, g2, g3, g4⟩
      · refine ⟨none, _, by have := run_endLoop (P := c.P) g6 (by rw [hrec]; simp); rw [hrec] at this; exact this, E, β', ρ', _, ⟨hG, Ext.refl c E⟩, done hIn, ?_⟩
        have hkp := Rel.keep (a := CW) (w' := W2.putObj L (.loop { state := .exhausted, pending := none, fn, tmps := a.tmps, params := ps, assign, body, defers := w.heap.size })) g1 rfl rfl rfl (by simp) (fun b o hb ho => World.putObj_heap_other fun e => by subst e; exact notcells W2 o _ g6 hb ho) (fun b hb => World.putObj_heap_other fun e => hLpr (e ▸ hb)) (ds := CW.defers)
          (marks_same g1.defers fun d hd r hr' => World.putObj_heap_other fun e => by
            have := (marks_lt g1.defers d hd r hr').1
            subst e; rw [g6] at this; simp at this) hit
        rw [ha1] at hkp
        exact hkp
      · have hend := run_endLoop (P := c.P) g4 (by rw [hrec]; simp)
        rw [hrec] at hend
        have hkp := Rel.keep (a := CW) (w' := W2.putObj L (.loop { state := .exhausted, pending := some jc, fn, tmps := a.tmps, params := ps, assign, body, defers := w.heap.size })) g3 rfl rfl rfl (by simp) (fun b o hb ho => World.putObj_heap_other fun e => by subst e; exact notcells W2 o _ g4 hb ho) (fun b hb => World.putObj_heap_other fun e => hLpr (e ▸ hb)) (ds := CW.defers)
          (marks_same g3.defers fun d hd r hr' => World.putObj_heap_other fun e => by
            have := (marks_lt g3.defers d hd r hr').1
            subst e; rw [g4] at this; simp at this) hit
        rw [ha1] at hkp
        refine ⟨some jc, _, hend, ?_⟩
        cases e with
        | ret =>
          simp only [jumpOf, Option.some.injEq] at g1
          subst g1
          exact wpIn_ret ⟨E, β', ρ', τ, ⟨hG, Ext.refl c E⟩, g2, hkp⟩
        | exit id =>
          simp only [jumpOf, Option.some.injEq] at g1
          subst g1
          exact wpIn_exit ⟨E, β', ρ', τ, ⟨hG, Ext.refl c E⟩, g2, hkp⟩
        | normal => simp [jumpOf] at g1
        | goto t => simp [jumpOf] at g1
        | panic ch => simp [jumpOf] at g1
        | outgrown => simp [jumpOf] at g1

end Go.Ab
