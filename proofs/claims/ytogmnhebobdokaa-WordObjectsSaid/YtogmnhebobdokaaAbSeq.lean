/- The abstract layer, part 7: keys may be exchanged; a range over a function. -/
import Derived.Test.YtogmnhebobdokaaAbFn
set_option linter.unusedVariables false
set_option linter.unusedSimpArgs false
namespace Go.Ab
open Go Go.RowKit

/-! ### Two keys exchanged -/
def sw (p q k : Nat) : Nat := if k = p then q else if k = q then p else k
theorem sw_sw (p q k : Nat) : sw p q (sw p q k) = k := by
  unfold sw
  by_cases h1 : k = p
  · subst h1
    by_cases h2 : q = k
    · subst h2; simp
    · simp [h2]
  · by_cases h2 : k = q
    · subst h2; simp [h1]
    · simp [h1, h2]
theorem sw_inj {p q k j : Nat} (h : sw p q k = sw p q j) : k = j := by have := congrArg (sw p q) h; rwa [sw_sw, sw_sw] at this
def GD (p q : Nat) : V → V
  | .v x => .v x
  | .p k o => .p (sw p q k) o
  | .r k => .r (sw p q k)
  | .s k n => .s (sw p q k) n
  | .e k i s o => .e (sw p q k) i s o
  | .q b x => .q b (GD p q x)
  | .tr k vs => .tr (sw p q k) vs
  | .c f ks => .c f (ks.map (sw p q))
  | .d => .d
theorem swV_d {p q : Nat} {v : V} (h : GD p q v = .d) : v = .d := by cases v <;> simp [GD] at h ⊢
def GA (p q : Nat) : List (Nat × V) → List (Nat × V)
  | [] => []
  | (t, v) :: l => (t, GD p q v) :: GA p q l
def GB (p q : Nat) : List (Nat × Option (List V)) → List (Nat × Option (List V))
  | [] => []
  | (k, some cs) :: l => (sw p q k, some (cs.map (GD p q))) :: GB p q l
  | (k, none) :: l => (sw p q k, none) :: GB p q l
def GC (p q : Nat) : List (Nat × Option Row) → List (Nat × Option Row)
  | [] => []
  | (k, r) :: l => (sw p q k, r) :: GC p q l
def St.sw (p q : Nat) (σ : St) : St := ⟨GA p q σ.t, GB p q σ.b, GC p q σ.x⟩
theorem conc_sw (β : Nat → Nat) (ρ : Nat → Value) (p q : Nat) : ∀ v : V, conc (fun k => β (sw p q k)) (fun k => ρ (sw p q k)) (GD p q v) = conc β ρ v
  | .v _ => rfl
  | .p .. => by simp [GD, conc, sw_sw]
  | .r .. => by simp [GD, conc, sw_sw]
  | .s .. => by simp [GD, conc, sw_sw]
  | .e .. => by simp [GD, conc, sw_sw]
  | .q b x => by simp only [GD, conc]; rw [conc_sw β ρ p q x]
  | .tr .. => by simp [GD, conc, sw_sw]
  | .c f ks => by simp [GD, conc, sw_sw, Function.comp_def]
  | .d => rfl
theorem look_swT (p q : Nat) : ∀ (l : List (Nat × V)) (t : Nat), CS (GA p q l) t = (CS l t).map (GD p q)
  | [], t => rfl
  | (s, u) :: l, t => by
    simp only [GA, look_cons, look_swT p q l t]
    split <;> simp
theorem look_swB (p q : Nat) : ∀ (l : List (Nat × Option (List V))) (k : Nat) (cs : List V), CS (GB p q l) k = some (some cs) → ∃ ds, CS l (Go.Ab.sw p q k) = some (some ds) ∧ cs = ds.map (GD p q)
  | [], k, cs, h => by simp [GB, CS] at h
  | (j, some ds) :: l, k, cs, h => by
    simp only [GB, look_cons] at h ⊢
    by_cases e : Go.Ab.sw p q j = k
    · rw [if_pos e] at h
      simp at h
      rw [if_pos (by rw [← e, sw_sw])]
      exact ⟨ds, rfl, h.symm⟩
    · rw [if_neg e] at h
      rw [if_neg (fun e' => e (by rw [e', sw_sw]))]
      exact look_swB p q l k cs h
  | (j, none) :: l, k, cs, h => by
    simp only [GB, look_cons] at h ⊢
    by_cases e : Go.Ab.sw p q j = k
    · rw [if_pos e] at h; simp at h
    · rw [if_neg e] at h
      rw [if_neg (fun e' => e (by rw [e', sw_sw]))]
      exact look_swB p q l k cs h
theorem look_swX (p q : Nat) : ∀ (l : List (Nat × Option Row)) (k : Nat), CS (GC p q l) k = CS l (Go.Ab.sw p q k)
  | [], k => rfl
  | (j, r) :: l, k => by
    simp only [GC, look_cons, look_swX p q l k]
    by_cases e : Go.Ab.sw p q j = k
    · rw [if_pos e, if_pos (by rw [← e, sw_sw])]
    · rw [if_neg e, if_neg (fun e' => e (by rw [e', sw_sw]))]

theorem Rel.sw {c : Cx} {w0 : Env} {β : Nat → Nat} {ρ : Nat → Value} {σ : St} {a : Act} {w : World} (h : Rel c w0 β ρ σ a w) (hit : c.it = false) (hro : c.ro = []) (p q : Nat) :
    Rel c w0 (fun k => β (sw p q k)) (fun k => ρ (sw p q k)) (σ.sw p q) a w where
  below := h.below
  size := h.size
  defers := h.defers
  slots := fun t v hv hne => by
    simp only [St.sw, look_swT] at hv
    cases hl : CS σ.t t with
    | none => rw [hl] at hv; simp at hv
    | some u =>
      rw [hl] at hv
      simp only [Option.map_some, Option.some.injEq] at hv
      subst hv
      rw [conc_sw]
      exact h.slots t u hl fun e => hne (by rw [e]; rfl)
  boxes := fun k cs hk => by
    obtain ⟨ds, h1, rfl⟩ := look_swB p q _ _ _ hk
    obtain ⟨g1, T, g2⟩ := h.boxes _ _ h1
    refine ⟨fun _ => g1 (by rw [hro]; rfl), T, ?_⟩
    rw [g2]
    congr 3
    rw [List.map_map]
    exact List.map_congr_left fun v _ => (conc_sw β ρ p q v).symm
  balive := fun k cs hk v hv => by
    obtain ⟨ds, h1, rfl⟩ := look_swB p q _ _ _ hk
    obtain ⟨u, hu, rfl⟩ := List.mem_map.1 hv
    exact fun e => h.balive _ _ h1 u hu (swV_d e)
  binj := fun k j cs ds hk hj hne hr => by
    obtain ⟨_, h1, _⟩ := look_swB p q _ _ _ hk
    obtain ⟨_, h2, _⟩ := look_swB p q _ _ _ hj
    exact h.binj _ _ _ _ h1 h2 (fun e => hne (sw_inj e)) (by rw [hro]; rfl)
  rows := fun k R hk => h.rows _ R (by rw [← look_swX]; exact hk)
  rnew := fun k R hk => h.rnew _ R (by rw [← look_swX]; exact hk)
  rold := fun k R hk => h.rold _ R (by rw [← look_swX]; exact hk)
  rsz := fun k R hk => h.rsz _ R (by rw [← look_swX]; exact hk)
  rbox := fun k R j cs hk hj hl hr => by
    obtain ⟨_, h2, _⟩ := look_swB p q _ _ _ hj
    exact h.rbox _ R _ _ (by rw [← look_swX]; exact hk) h2 hl (by rw [hro]; rfl)
  owns := fun k R hk ho => by
    obtain ⟨g1, g2, g3, g4⟩ := h.owns _ R (by rw [← look_swX]; exact hk) ho
    refine ⟨g1, g2, g3, fun b hb => ⟨fun j S hj hne hl => (g4 b hb).1 _ S (by rw [← look_swX]; exact hj) (fun e => hne (sw_inj e)) hl, fun j cs hj => ?_⟩⟩
    obtain ⟨_, h2, _⟩ := look_swB p q _ _ _ hj
    exact (g4 b hb).2 _ _ h2
  seqs := fun k R xs hk hs => by
    obtain ⟨U, g1, g2, g3⟩ := h.seqs _ R xs (by rw [← look_swX]; exact hk) hs
    refine ⟨U, g1, fun j cs hj hr => ?_, fun j S hj => g3 _ S (by rw [← look_swX]; exact hj)⟩
    obtain ⟨_, h2, _⟩ := look_swB p q _ _ _ hj
    exact g2 _ _ h2 (by rw [hro]; rfl)
  frz := h.frz
  gh := h.gh
  gs := fun hi => by rw [hit] at hi; cases hi
  forn := ⟨fun k cs hk => by
    obtain ⟨_, h1, _⟩ := look_swB p q _ _ _ hk
    exact h.forn.1 _ _ h1, fun k R hk => h.forn.2 _ R (by rw [← look_swX]; exact hk)⟩
def HD : List (Nat × Nat) → St → St
  | [], σ => σ
  | (p, q) :: l, σ => HD l (σ.sw p q)
theorem Rel.swaps {c : Cx} {w0 : Env} (hit : c.it = false) (hro : c.ro = []) : ∀ (l : List (Nat × Nat)) {β : Nat → Nat} {ρ : Nat → Value} {σ : St} {a : Act} {w : World}, Rel c w0 β ρ σ a w → ∃ β' ρ', Rel c w0 β' ρ' (Go.Ab.HD l σ) a w
  | [], β, ρ, σ, a, w, h => ⟨β, ρ, h⟩
  | (p, q) :: l, β, ρ, σ, a, w, h => Rel.swaps hit hro l (h.sw hit hro p q)

/-! ### Slots that stay -/
def HB (fz : List Nat) : List (Nat × V) → List (Nat × V)
  | [] => []
  | (t, v) :: l => if fz.contains t then (t, v) :: HB fz l else HB fz l
theorem look_onlyT (fz : List Nat) : ∀ (l : List (Nat × V)) (t : Nat) (v : V), CS (HB fz l) t = some v → fz.contains t = true ∧ CS l t = some v
  | [], t, v, h => by simp [HB, CS] at h
  | (s, u) :: l, t, v, h => by
    simp only [HB] at h
    by_cases e : s = t
    · subst e
      cases hf : fz.contains s with
      | true =>
        rw [if_pos hf, look_cons, if_pos rfl] at h
        exact ⟨rfl, by rw [look_cons, if_pos rfl]; exact h⟩
      | false =>
        rw [if_neg (by rw [hf]; simp)] at h
        have := (look_onlyT fz l s v h).1
        rw [hf] at this; cases this
    · rw [look_cons, if_neg e]
      split at h
      · rw [look_cons, if_neg e] at h; exact look_onlyT fz l t v h
      · exact look_onlyT fz l t v h
def St.only (fz : List Nat) (σ : St) : St := ⟨HB fz σ.t, σ.b, σ.x⟩

def cR (c : Cx) (fz : List Nat) : Cx := { c with rd := true, fz := fz }
theorem cR_ok {c : Cx} (h : OK c) (fz : List Nat) : OK (cR c fz) := ⟨h.τ, h.q, h.m, h.by'⟩

/-- The environment of a round: whatever is not the caller's own must stay. -/
def Env.round (E : Env) (A : World) (M : Nat → Prop) (tm : Array Value) (hM : ∀ b, M b → ¬ E.pr b) (hs : E.w0.heap.size ≤ A.heap.size) : Env :=
  { w0 := A, pr := fun b => b < A.heap.size ∧ ¬ M b, lt := fun _ h => h.1, old := E.old, oldpr := fun b h => ⟨Nat.lt_of_lt_of_le (E.lt b (E.oldpr b h)) hs, fun hm => hM b hm (E.oldpr b h)⟩, tm := tm, st := fun _ _ _ _ => trivial }

/-- What the caller holds that a round may turn. -/
structure Holds (c : Cx) (E : Env) (β : Nat → Nat) (ρ : Nat → Value) (σ : St) (M : Nat → Prop) (w : World) : Prop where
  lt : ∀ b, M b → b < w.heap.size
  pr : ∀ b, M b → ¬ E.pr b
  box : ∀ k cs, CS σ.b k = some (some cs) → M (β k)
  row : ∀ k R, CS σ.x k = some (some R) → R.new = true → R.len ≠ 0 → ∀ b, (ρ k).ownBlock = some b → M b

def HC : List Nat → List Value → List (Nat × V) → List (Nat × V)
  | p :: ps, x :: xs, l => HC ps xs ((p, .v x) :: l)
  | _, _, l => l

theorem bind_rel {c : Cx} {E : Env} {β : Nat → Nat} {ρ : Nat → Value} {b : List (Nat × Option (List V))} {x : List (Nat × Option Row)} {w : World} {ds : List Deferred} : ∀ (ps : List Nat) (vs : List Value) (t : List (Nat × V)) (tmps : Array Value),
    (∀ p ∈ ps, okd c p) → Rel c E β ρ ⟨t, b, x⟩ { tmps := tmps, defers := ds } w → Rel c E β ρ ⟨HC ps vs t, b, x⟩ { tmps := (ps.zip vs).foldl (fun t (p, v) => t.setIfInBounds p v) tmps, defers := ds } w
  | [], vs, t, tmps, _, h => by simpa [HC] using h
  | p :: ps, [], t, tmps, _, h => by simpa [HC] using h
  | p :: ps, v :: vs, t, tmps, hp, h => by
    simp only [HC, List.zip_cons_cons, List.foldl_cons]
    exact bind_rel ps vs _ _ (fun q hq => hp q (List.mem_cons_of_mem _ hq)) (h.put p (hp p (by simp)) (.v v) v fun _ => rfl)

/-- Into a round. -/
theorem Rel.enter {c : Cx} {E : Env} {β : Nat → Nat} {ρ : Nat → Value} {σ : St} {a : Act} {A : World} {M : Nat → Prop} (h : Rel c E β ρ σ a A) (hit : c.it = false) (fz : List Nat) (hm : Holds c E β ρ σ M A) :
    Rel (cR c fz) (E.round A M a.tmps hm.pr h.below.size) β ρ σ { a with defers := [] } A where
  below := Kept.refl _
  size := h.size
  defers := trivial
  slots := h.slots
  boxes := fun k cs hk => by obtain ⟨_, T, hT⟩ := h.boxes k cs hk; exact ⟨fun _ hp => hp.2 (hm.box k cs hk), T, hT⟩
  balive := h.balive
  binj := h.binj
  rows := h.rows
  rnew := fun k R hk hn hl b hb => ⟨fun hp => hp.2 (hm.row k R hk hn hl b hb), (h.rnew k R hk hn hl b hb).2⟩
  rold := h.rold
  rsz := h.rsz
  rbox := h.rbox
  owns := h.owns
  seqs := h.seqs
  frz := fun t _ => rfl
  gh := ⟨trivial, fun b hb => hb.elim, fun _ => ⟨fun _ => trivial, fun b hb => hb⟩⟩
  gs := fun hi => by have : c.it = true := hi; rw [hit] at this; cases this
  forn := ⟨fun k cs _ hb => hb, fun k R _ _ b _ hb => hb⟩

/-- Out of a round. -/
theorem Rel.leave {c : Cx} {E : Env} {β : Nat → Nat} {ρ : Nat → Value} {τ : St} {a' : Act} {A B : World} {M : Nat → Prop} {tm : Array Value} {fz : List Nat} {hM : ∀ b, M b → ¬ E.pr b} {hs : E.w0.heap.size ≤ A.heap.size}
    (h : Rel (cR c fz) (E.round A M tm hM hs) β ρ τ a' B) (hA : Kept E A) (hit : c.it = false) (hfz : c.fz = []) (hN : tm.size = c.N) (hgh : (∀ w, E.J w) ∧ ∀ b, ¬ E.fr b) {ds : List Deferred} (hd : marks E B ds) :
    Rel c E β ρ (τ.only fz) { tmps := tm, defers := ds } B where
  below := ⟨h.below.os.trans hA.os, h.below.tape.trans hA.tape, h.below.output.trans hA.output, Nat.le_trans hA.size h.below.size, fun b hb => (h.below.block b ⟨Nat.lt_of_lt_of_le (E.lt b hb) hs, fun hm => hM b hm hb⟩).trans (hA.block b hb)⟩
  size := hN
  defers := hd
  slots := fun t v hv hne => by
    obtain ⟨h1, h2⟩ := look_onlyT fz _ _ _ hv
    rw [← h.slots t v h2 hne]
    exact (h.frz t h1).symm
  boxes := fun k cs hk => by
    obtain ⟨g1, T, g2⟩ := h.boxes k cs hk
    refine ⟨fun hr hp => g1 hr ⟨Nat.lt_of_lt_of_le (E.lt _ hp) hs, fun hm => hM _ hm hp⟩, T, g2⟩
  balive := h.balive
  binj := h.binj
  rows := h.rows
  rnew := fun k R hk hn hl b hb => ⟨fun hp => (h.rnew k R hk hn hl b hb).1 ⟨Nat.lt_of_lt_of_le (E.lt _ hp) hs, fun hm => hM _ hm hp⟩, (h.rnew k R hk hn hl b hb).2⟩
  rold := h.rold
  rsz := h.rsz
  rbox := h.rbox
  owns := h.owns
  seqs := h.seqs
  frz := fun t ht => by rw [hfz] at ht; simp at ht
  gh := ⟨hgh.1 _, fun b hb => absurd hb (hgh.2 b), fun _ => hgh⟩
  gs := fun hi => by rw [hit] at hi; cases hi
  forn := ⟨fun k cs _ => hgh.2 _, fun k R _ _ b _ => hgh.2 _⟩

end Go.Ab
