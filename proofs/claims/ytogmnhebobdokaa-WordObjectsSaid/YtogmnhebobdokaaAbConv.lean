/- The abstract layer, part 8: other words for a state: keys exchanged, a row begun. -/
import Derived.Test.YtogmnhebobdokaaAbSeq
set_option linter.unusedVariables false
set_option linter.unusedSimpArgs false
namespace Go.Ab
open Go Go.RowKit

/-- Whatever is as the one says is as the other says. -/
def Conv (c : Cx) (σ τ : St) : Prop := ∀ (E : Env) (β : Nat → Nat) (ρ : Nat → Value) (a : Act) (w : World), Rel c E β ρ σ a w → ∃ β' ρ', Rel c E β' ρ' τ a w
theorem Conv.refl (c : Cx) (σ : St) : Conv c σ σ := fun E β ρ a w h => ⟨β, ρ, h⟩
theorem Conv.trans {c : Cx} {σ τ υ : St} (h : Conv c σ τ) (h' : Conv c τ υ) : Conv c σ υ := fun E β ρ a w hr => by
  obtain ⟨β', ρ', g⟩ := h E β ρ a w hr
  exact h' E β' ρ' a w g
theorem Conv.leq {c : Cx} {σ τ : St} (h : CA σ.t τ.t ∧ CB σ.b τ.b ∧ CC σ.x τ.x) : Conv c σ τ := fun E β ρ a w hr => ⟨β, ρ, hr.leq (leq_of h)⟩
theorem Conv.sw {c : Cx} (hit : c.it = false) (hro : c.ro = []) (p q : Nat) (σ : St) : Conv c σ (σ.sw p q) := fun E β ρ a w hr => ⟨_, _, hr.sw hit hro p q⟩

def G9 (ty size : Nat) : Row := { ty := ty, size := size, len := 0, get := fun _ => [], own := true, new := true }
theorem ownOK_empty (w : World) (ty size : Nat) : OwnOK w (.slice none 0 0) (G9 ty size) :=
  ⟨fun _ => rfl, [], World.ownsRow_nil w 0 ty size, fun i hi => by simp [G9] at hi⟩
theorem Rel.begin {c : Cx} {E : Env} {β : Nat → Nat} {ρ : Nat → Value} {σ : St} {a : Act} {w : World} (h : Rel c E β ρ σ a w) (hit : c.it = false) {K ty size : Nat} (hu : σ.unseen K = true) (hz : size ≠ 0) :
    Rel c E (upd β K (β K)) (upd ρ K (.slice none 0 0)) { σ with x := (K, some (G9 ty size)) :: σ.x } a w := by
  have hK : upd ρ K (.slice none 0 0) K = .slice none 0 0 := by simp [upd]
  refine (h.rekey K hu (β K) (.slice none 0 0)).newrow (Below.refl _ _) K (G9 ty size) (fun hi => by rw [hit] at hi; cases hi) hz (fun _ => ?_) rfl (fun hl => absurd rfl hl) (fun _ => ⟨rfl, ?_⟩) (fun xs hx => by cases hx)
  · rw [hK]; exact ⟨none, 0, rfl, Nat.le_refl _, fun i hi => by simp [G9] at hi⟩
  · rw [hK]; exact ownOK_empty w ty size

/-- A slot that holds no row yet, said to hold an empty one. -/
theorem Conv.nil {c : Cx} (hit : c.it = false) {t K ty size : Nat} {σ : St} (ht : CS σ.t t = some (.v (.slice none 0 0))) (hu : σ.unseen K = true) (hz : size ≠ 0) : Conv c σ ⟨(t, .r K) :: σ.t, σ.b, (K, some (G9 ty size)) :: σ.x⟩ := fun E β ρ a w hr => by
  have h := hr.begin hit (ty := ty) hu hz
  refine ⟨_, _, Rel.reslot (t := σ.t) h fun s v hv hne => ?_⟩
  simp only [look_cons] at hv
  split at hv
  · rename_i e; subst e
    simp at hv; subst hv
    rw [hr.slots t _ ht (by simp)]
    simp [conc, upd]
  · exact h.slots s v hv hne
/-- The same of a box of one cell. -/
theorem Conv.nilB {c : Cx} (hit : c.it = false) {k K ty size : Nat} {σ : St} (ht : CS σ.b k = some (some [.v (.slice none 0 0)])) (hu : σ.unseen K = true) (hz : size ≠ 0) : Conv c σ ⟨σ.t, (k, some [.r K]) :: σ.b, (K, some (G9 ty size)) :: σ.x⟩ := fun E β ρ a w hr => by
  have h := hr.begin hit (ty := ty) hu hz
  have hlook : ∀ j cs, CS ((k, some [V.r K]) :: σ.b) j = some (some cs) → ∃ ds, CS σ.b j = some (some ds) ∧ (cs.map (conc (upd β K (β K)) (upd ρ K (.slice none 0 0))) = ds.map (conc (upd β K (β K)) (upd ρ K (.slice none 0 0)))) ∧ ∀ v ∈ cs, v = .r K ∨ v ∈ ds := fun j cs hj => by
    simp only [look_cons] at hj
    split at hj
    · rename_i e; subst e
      simp at hj; subst hj
      exact ⟨_, ht, by simp [conc, upd], fun v hv => .inl (by simpa using hv)⟩
    · exact ⟨cs, hj, rfl, fun v hv => .inr hv⟩
  refine ⟨_, _, ⟨h.below, h.size, h.defers, h.slots, fun j cs hj => ?_, fun j cs hj v hv => ?_, fun j i cs ds hj hi => ?_, h.rows, h.rnew, h.rold, h.rsz, fun j R i cs hj hi => ?_, fun j R hj ho => ?_, fun j R xs hj hs => ?_, h.frz, h.gh, h.gs, ⟨fun j cs hj => ?_, h.forn.2⟩⟩⟩
  · obtain ⟨ds, g1, g2, _⟩ := hlook j cs hj
    rw [g2]
    exact h.boxes j ds g1
  · obtain ⟨ds, g1, _, g3⟩ := hlook j cs hj
    rcases g3 v hv with rfl | hm
    · simp
    · exact h.balive j ds g1 v hm
  · obtain ⟨ds', g1, _⟩ := hlook j cs hj
    obtain ⟨es', g2, _⟩ := hlook i ds hi
    exact h.binj j i ds' es' g1 g2
  · obtain ⟨ds', g1, _⟩ := hlook i cs hi
    exact h.rbox j R i ds' hj g1
  · obtain ⟨g1, g2, g3, g4⟩ := h.owns j R hj ho
    refine ⟨g1, g2, g3, fun b hb => ⟨(g4 b hb).1, fun i cs hi => ?_⟩⟩
    obtain ⟨ds', e1, _⟩ := hlook i cs hi
    exact (g4 b hb).2 i ds' e1
  · obtain ⟨U, g1, g2, g3⟩ := h.seqs j R xs hj hs
    refine ⟨U, g1, fun i cs hi => ?_, g3⟩
    obtain ⟨ds', e1, _⟩ := hlook i cs hi
    exact g2 i ds' e1
  · obtain ⟨ds', e1, _⟩ := hlook j cs hj
    exact h.forn.1 j ds' e1

/-- Such steps in a row. -/
inductive Adj where
  | sw (p q : Nat)
  | nil (t K ty size : Nat)
  | nilB (k K ty size : Nat)
def G6 : Adj → St → St
  | .sw p q, σ => σ.sw p q
  | .nil t K ty size, σ => ⟨(t, .r K) :: σ.t, σ.b, (K, some (G9 ty size)) :: σ.x⟩
  | .nilB k K ty size, σ => ⟨σ.t, (k, some [.r K]) :: σ.b, (K, some (G9 ty size)) :: σ.x⟩
def G8 : Adj → St → Prop
  | .sw .., _ => True
  | .nil t K _ size, σ => CS σ.t t = some (.v (.slice none 0 0)) ∧ σ.unseen K = true ∧ size ≠ 0
  | .nilB k K _ size, σ => CS σ.b k = some (some [.v (.slice none 0 0)]) ∧ σ.unseen K = true ∧ size ≠ 0
def G5 : List Adj → St → St
  | [], σ => σ
  | x :: l, σ => G5 l (G6 x σ)
def G7 : List Adj → St → Prop
  | [], _ => True
  | x :: l, σ => G8 x σ ∧ G7 l (G6 x σ)
theorem Conv.adjs {c : Cx} (hit : c.it = false) (hro : c.ro = []) : ∀ (l : List Adj) {σ : St}, G7 l σ → Conv c σ (Go.Ab.G5 l σ)
  | [], σ, _ => Conv.refl c σ
  | .sw p q :: l, σ, h => (Conv.sw hit hro p q σ).trans (Conv.adjs hit hro l h.2)
  | .nil t K ty size :: l, σ, h => (Conv.nil hit h.1.1 h.1.2.1 h.1.2.2).trans (Conv.adjs hit hro l h.2)
  | .nilB k K ty size :: l, σ, h => (Conv.nilB hit h.1.1 h.1.2.1 h.1.2.2).trans (Conv.adjs hit hro l h.2)
/-- A state, brought under another by such steps. -/
def into (l : List Adj) (σ τ : St) : Prop := G7 l σ ∧ CA (G5 l σ).t τ.t ∧ CB (G5 l σ).b τ.b ∧ CC (G5 l σ).x τ.x
theorem Conv.into {c : Cx} (hit : c.it = false) (hro : c.ro = []) {l : List Adj} {σ τ : St} (h : Go.Ab.into l σ τ) : Conv c σ τ := (Conv.adjs hit hro l h.1).trans (Conv.leq h.2)

theorem AW_conv {c : Cx} {code : Code} {Q : Exit → St → Prop} {σ τ : St} (h : Conv c σ τ) (hw : AW c code Q τ) : AW c code Q σ := fun lr hl G E hG β ρ a w hr => by
  obtain ⟨β', ρ', g⟩ := h E β ρ a w hr
  exact hw lr hl G E hG β' ρ' a w g

theorem AW_loopC {c : Cx} (hc : OK c) {ι : Type} (S : ι → St) (I : ι → Prop) (m : ι → Nat) (i₀ : ι) {body : Code} {Q : Exit → St → Prop} {σ : St} (h0 : Conv c σ (S i₀)) (hi : I i₀)
    (round : ∀ i, I i → awp c body (thenQ (fun τ => ∃ j, I j ∧ m j < m i ∧ Conv c τ (S j)) Q) (S i)) : AW c (.loop body) Q σ := by
  intro lr hl G w0 hG β ρ a w hr
  obtain ⟨β0, ρ0, hr0⟩ := h0 w0 β ρ a w hr
  refine wpIn_loop_ghost (fun n a w => ∃ i w1 β ρ, I i ∧ m i = n ∧ (GenOK c G w1 ∧ Ext c w0 w1) ∧ Rel c w1 β ρ (S i) a w) (m i₀) ⟨i₀, w0, β0, ρ0, hi, rfl, ⟨hG, Ext.refl c w0⟩, hr0⟩ ?_
  rintro n a w ⟨i, w1, β, ρ, hi, rfl, ⟨hG1, hE1⟩, hr⟩
  refine Code.wpIn_mono ?_ (awp_sound hc body _ _ (round i hi) lr hl G w1 hG1 β ρ a w hr)
  rintro e a' w' ⟨w2, β', ρ', σ', ⟨hG2, hE2⟩, hq, hr'⟩
  have hge : GenOK c G w2 ∧ Ext c w0 w2 := ⟨hG2, hE1.trans hE2⟩
  cases e with
  | normal =>
    obtain ⟨j, hj, hlt, hle⟩ := hq
    obtain ⟨β2, ρ2, hr2⟩ := hle w2 β' ρ' a' w' hr'
    exact ⟨m j, hlt, j, w2, β2, ρ2, hj, rfl, hge, hr2⟩
  | ret => exact ⟨w2, β', ρ', σ', hge, hq, hr'⟩
  | exit id => exact ⟨w2, β', ρ', σ', hge, hq, hr'⟩
  | goto l => exact ⟨w2, β', ρ', σ', hge, hq, hr'⟩
  | panic ch => exact ⟨w2, β', ρ', σ', hge, hq, hr'⟩
  | outgrown => exact ⟨w2, β', ρ', σ', hge, hq, hr'⟩

/-- A loop whose states are told in other words at its head and at each round's end. -/
def loopA {ι : Type} (S : ι → St) (I : ι → Prop) (m : ι → Nat) (i : ι) : St → Prop := fun τ => ∃ l j, I j ∧ m j < m i ∧ into l τ (S j)
theorem AWL_loopA {c : Cx} (hc : OK c) (hit : c.it = false) (hro : c.ro = []) {ι : Type} (S : ι → St) (I : ι → Prop) (m : ι → Nat) (l₀ : List Adj) (i₀ : ι) {body : Code} {fs : List Fr} {Q : Exit → St → Prop} {σ : St} (h0 : into l₀ σ (S i₀)) (hi : I i₀)
    (round : ∀ i, I i → ∀ R : Exit → St → Prop, (∀ τ, loopA S I m i τ → R .normal τ) → (∀ τ, cont c fs Q .ret τ → R .ret τ) → (∀ id τ, cont c fs Q (.exit id) τ → R (.exit id) τ) → awk c body [] R (S i)) : AWL c body fs Q σ := by
  refine AW_loopC hc S I m i₀ (Conv.into hit hro h0) hi fun i h => ?_
  refine round i h _ (fun τ => ?_) (fun τ => id) (fun id τ h => h)
  rintro ⟨l, j, h1, h2, h3⟩; exact ⟨j, h1, h2, Conv.into hit hro h3⟩
theorem AWR_into {c : Cx} (hit : c.it = false) (hro : c.ro = []) (l : List Adj) (τ : St) {g : Operand} {ps : Array Tmp} {assign body : Code} {fs : List Fr} {Q : Exit → St → Prop} {σ : St} (h : into l σ τ) (hw : AWR c g ps assign body fs Q τ) : AWR c g ps assign body fs Q σ := AW_conv (Conv.into hit hro h) hw

end Go.Ab
