/- The abstract layer, part 5: regions in the text's order, code, loops, functions. -/
import Derived.Test.YtogmnhebobdokaaAbStep
import Derived.Tactics
import Derived.Deep.LoopGhost
import Derived.Sort.LoopGhostIn
import Derived.OrdersIn
import Derived.RangeFuncNested
set_option linter.unusedVariables false
set_option linter.unusedSimpArgs false
namespace Go.Ab
open Go Go.RowKit

/-- Everything may be called; in a round, or not. -/
def Fw (l : Option Nat) : Fence := { Fence.wide with round := l }
theorem Fw_fn (l : Option Nat) (f : FuncId) : (Fw l).fn f := trivial
theorem calls_in (l : Option Nat) {n : Nat} {P : Program} {f : FuncId} {args : Array Value} {w : World} {R : Ending → World → Prop} (h : Calls P f args w R) : CallsIn (Fw l) n P f args w R :=
  (callsIn_wide (n := n)).2 h
theorem rows_in (l : Option Nat) {n : Nat} {P : Program} {f : String} {args : Array Value} {w : World} {R : Value → World → Prop} (h : Rows P f args w R) : RowsIn (Fw l) n P f args w R :=
  fun c cs _ => by
    obtain ⟨v, w', r, s⟩ := h c cs
    exact ⟨v, w', r, stepsIn_wide.2 s⟩
theorem wpIn_of_wp (l : Option Nat) {P : Program} {o : Oper} {a : Act} {w : World} {K : Act → World → Prop} {Q : Exit → Act → World → Prop} (hd : ∀ c, o.op ≠ .defer c) (h : o.wp P a w K Q) : o.wpIn (Fw l) 0 P a w K Q := by
  refine ⟨fun f _ => trivial, ?_⟩
  have e : o.semAt (Fw l).round a.eval = execOp a.eval o := by
    cases l with
    | none => rfl
    | some l => exact Oper.semAt_some l _ o hd
  rw [e]
  unfold Oper.wp at h
  cases hr : (execOp a.eval o).run P w with
  | ok r w' =>
    rw [hr] at h
    cases r with
    | value v => exact h
    | skip => exact h
    | defer d => exact h
    | enter f args => exact ⟨fun h => (by cases h), calls_in l h⟩
    | row r args => exact ⟨fun h => (by cases h), rows_in l h⟩
    | _ => exact h.elim
  | halt e w' =>
    rw [hr] at h
    cases e <;> first | exact h | exact h.elim

theorem step1_op {c : Cx} {ops : List Oper} {o : Oper} {σ : St} {r : Prop × Eff} (h : step1 c ops o σ = some r) : ∀ d, o.op ≠ .defer d := by
  intro d hd
  simp [step1, hd, opnds, evs, stepE, evalV] at h

section
variable {c : Cx} {w0 : Env} {β : Nat → Nat} {ρ : Nat → Value} {σ : St} {a : Act} {w : World} {K : Act → World → Prop} {Q : Exit → Act → World → Prop}

theorem slot_get (h : Rel c w0 β ρ σ a w) {d : Nat} {v : V} (hl : look σ.t d = some v) (hv : v ≠ .d) (x : Value) (hx : conc β ρ v = x) (hne : x ≠ undef) : a.tmps[d]? = some x := by
  have := h.slots d v hl hv
  rw [hx, Array.getD_eq_getD_getElem?] at this
  cases hg : a.tmps[d]? with
  | none => rw [hg] at this; exact absurd this.symm hne
  | some y => rw [hg] at this; simp at this; rw [this]

theorem undef_not_bool (b : Bool) : (Value.bool b) ≠ undef := by simp [undef]

/-- Whether a guarded operation is wanted. -/
theorem guard_sound (h : Rel c w0 β ρ σ a w) (ops : List Oper) (o : Oper) {g : Option Bool} (hg : guardOf ops σ o.guard = some g) :
    Region.wanted o (yielded ops.toArray a.tmps) = (g.getD true) ∧ (g = none → True) := by
  refine ⟨?_, fun _ => trivial⟩
  unfold guardOf at hg
  unfold Region.wanted
  cases hgd : o.guard with
  | none => rw [hgd] at hg; simp at hg; subst hg; rfl
  | some p =>
    obtain ⟨j, want⟩ := p
    rw [hgd] at hg
    dsimp only at hg ⊢
    have hy : ∀ d, (ops[j]?).bind (·.dst) = some d → yielded ops.toArray a.tmps j = match a.tmps[d]? with | some (.bool b) => some b | _ => none := fun d hd => by
      unfold yielded
      rw [List.getElem?_toArray, hd]
      rfl
    cases hd : (ops[j]?).bind (·.dst) with
    | none => rw [hd] at hg; simp at hg
    | some d =>
      rw [hd] at hg
      dsimp only at hg
      rw [hy d hd]
      split at hg
      · rename_i b hl
        simp only [Option.some.injEq] at hg
        subst hg
        rw [slot_get h hl (by simp) (.bool b) rfl (undef_not_bool b)]
        cases want <;> cases b <;> rfl
      · rename_i g' b hl
        simp only [Option.some.injEq] at hg
        subst hg
        cases g' with
        | true =>
          rw [slot_get h hl (by simp) (.bool b) rfl (undef_not_bool b)]
          cases want <;> cases b <;> rfl
        | false =>
          have := h.slots d _ hl (by simp)
          simp only [conc, Bool.false_eq_true, if_false] at this
          rw [Array.getD_eq_getD_getElem?] at this
          cases hg' : a.tmps[d]? with
          | none => simp
          | some y => rw [hg'] at this; simp at this; subst this; simp [undef]
      · simp at hg

variable (hτ : TOK c.P c.τ) (hq : EQOK c.P c.eqs)
include hτ hq

theorem step1_sound (h : Rel c w0 β ρ σ a w) (ops : List Oper) (o : Oper) {ob : Prop} {e : Eff} (he : step1 c ops o σ = some (ob, e)) (hob : ob) (σ' : St)
    (hσ : match e.key with | some k => Ready c σ σ' k | none => σ' = σ)
    (hK : ∀ β' ρ' a' w', Rel c w0 β' ρ' (σ'.app o.dst e) a' w' → K a' w') :
    if Region.wanted o (yielded ops.toArray a.tmps) then o.wp c.P a w K Q else K (a.put o.dst undef) w := by
  unfold step1 at he
  cases hraw : evs σ (opnds o.op) with
  | none => rw [hraw] at he; simp at he
  | some raw =>
    rw [hraw] at he
    dsimp only at he
    cases hst : stepE c o raw (raw.map fun x => rowOf σ (unq x)) (heads raw fun x => boxOf σ (unq x)) with
    | none => rw [hst] at he; simp at he
    | some r =>
      obtain ⟨ob0, e0⟩ := r
      rw [hst] at he
      dsimp only at he
      split at he
      · rename_i hfit
        cases hg : guardOf ops σ o.guard with
        | none => rw [hg] at he; simp at he
        | some g =>
          have hw := (guard_sound h ops o hg).1
          rw [hg] at he
          cases g with
          | none =>
            simp only [Option.some.injEq, Prod.mk.injEq] at he
            obtain ⟨rfl, rfl⟩ := he
            rw [hw]
            simp only [Option.getD_none, if_true]
            exact stepE_sound hτ hq h o hraw hst hob hfit σ' hσ fun β' ρ' a' w' hr _ => hK β' ρ' a' w' hr
          | some b =>
            dsimp only at he
            split at he
            · rename_i v hv hb hr hk
              simp only [Option.some.injEq, Prod.mk.injEq] at he
              obtain ⟨rfl, rfl⟩ := he
              dsimp only at hσ
              subst hσ
              rw [hw]
              simp only [Option.getD_some]
              have e0eq : e0 = { val := some v } := by cases e0; simp_all
              subst e0eq
              cases b with
              | true =>
                simp only [if_true]
                refine stepE_sound hτ hq h o hraw hst (hob rfl) hfit σ' rfl fun β' ρ' a' w' hr hal => hK β' ρ' a' w' ?_
                refine ⟨hr.below, hr.size, hr.defers, fun t u hu hne => ?_, hr.boxes, hr.balive, hr.binj, hr.rows, hr.rnew, hr.rsz, hr.rbox⟩
                have hs := hr.slots t
                cases hd : o.dst with
                | none => rw [hd] at hu hs; exact hs u hu hne
                | some d =>
                  rw [hd] at hu hs
                  simp only [St.app, look_cons] at hu hs
                  by_cases e : d = t
                  · rw [if_pos e] at hu
                    simp at hu; subst hu
                    have := hs v (by rw [if_pos e]) (hal v rfl)
                    simpa [conc] using this
                  · rw [if_neg e] at hu; exact hs u (by rw [if_neg e]; exact hu) hne
              | false =>
                simp only [Bool.false_eq_true, if_false]
                exact hK β ρ _ _ (h.set _ hfit _ _ fun _ => by simp [conc])
            · simp at he
      · simp at he

/-- A region in the text's order. -/
theorem steps_sound (lr : Option Nat) (ops : List Oper) (Q : Exit → Act → World → Prop) : ∀ (l : List Oper) (σ : St) (β : Nat → Nat) (ρ : Nat → Value) (a : Act) (w : World) (ob : Prop) (σ' : St), steps c ops l σ = some (ob, σ') → ob → Rel c w0 β ρ σ a w →
    (∀ β' ρ' a' w', Rel c w0 β' ρ' σ' a' w' → Q .normal a' w') → wpListIn (Fw lr) 0 c.P ops.toArray Q l a w
  | [], σ, β, ρ, a, w, ob, σ', hs, hob, h, hQ => by
    simp [steps] at hs
    obtain ⟨_, rfl⟩ := hs
    exact hQ β ρ a w h
  | o :: l, σ, β, ρ, a, w, ob, σ', hs, hob, h, hQ => by
    simp only [steps] at hs
    cases h1 : step1 c ops o σ with
    | none => rw [h1] at hs; simp at hs
    | some r =>
      obtain ⟨ob1, e⟩ := r
      rw [h1] at hs
      dsimp only at hs
      cases h2 : steps c ops l ((σ.forget e.key).app o.dst e) with
      | none => rw [h2] at hs; simp at hs
      | some r2 =>
        obtain ⟨ob2, σ2⟩ := r2
        rw [h2] at hs
        simp only [Option.some.injEq, Prod.mk.injEq] at hs
        obtain ⟨rfl, rfl⟩ := hs
        refine wpListIn_step fun K' hK' => ?_
        have hno := step1_op h1
        suffices hh : if Region.wanted o (yielded ops.toArray a.tmps) then o.wp c.P a w K' Q else K' (a.put o.dst undef) w by
          split
          · rename_i hw; rw [if_pos hw] at hh; exact wpIn_of_wp lr hno hh
          · rename_i hw; rw [if_neg hw] at hh; exact ⟨fun f _ => trivial, hh⟩
        refine step1_sound hτ hq h ops o h1 hob.1 (σ.forget e.key) (by
          cases hk : e.key with
          | none => rfl
          | some k => exact ready_kill c σ k) fun β' ρ' a' w' hr => hK' _ _ ?_
        exact steps_sound lr ops Q l _ β' ρ' a' w' ob2 σ2 h2 hob.2 hr hQ

end

/-- What a piece of code does, told of states. -/
def AW (c : Cx) (code : Code) (Q : Exit → St → Prop) (σ : St) : Prop :=
  ∀ (lr : Option Nat), lr.isSome = c.rd → ∀ (w0 : Env) (β : Nat → Nat) (ρ : Nat → Value) (a : Act) (w : World), Rel c w0 β ρ σ a w → code.wpIn (Fw lr) 0 c.P (fun e a' w' => ∃ β' ρ' σ', Q e σ' ∧ Rel c w0 β' ρ' σ' a' w') a w

def evB (σ : St) (x : Operand) : Option Bool :=
  match ev σ x with
  | some (.v (.bool b)) => some b
  | _ => none

def thenQ (K : St → Prop) (Q : Exit → St → Prop) : Exit → St → Prop
  | .normal, σ => K σ
  | e, σ => Q e σ
def blockQ (id : Nat) (Q : Exit → St → Prop) : Exit → St → Prop
  | .exit j, σ => if j = id then Q .normal σ else Q (.exit j) σ
  | e, σ => Q e σ

/-- The same, computed. -/
def awp (c : Cx) : Code → (Exit → St → Prop) → St → Prop
  | .skip, Q, σ => Q .normal σ
  | .ret, Q, σ => Q .ret σ
  | .exit id, Q, σ => Q (.exit id) σ
  | .seq x y, Q, σ => awp c x (thenQ (awp c y Q) Q) σ
  | .block id x, Q, σ => awp c x (blockQ id Q) σ
  | .cond v x y, Q, σ =>
    match evB σ v with
    | some b => (b = true → awp c x Q σ) ∧ (b = false → awp c y Q σ)
    | none => False
  | .region _ ops draw, Q, σ =>
    match draw with
    | false =>
      match steps c ops.toList ops.toList σ with
      | some (ob, σ') => ob ∧ Q .normal σ'
      | none => False
    | true =>
      match dsteps c ops.toList ops.toList σ with
      | some (ob, σ', ks) => chk ops.toList ks = true ∧ ob ∧ Q .normal σ'
      | none => False
  | .loop x, Q, σ => AW c (.loop x) Q σ
  | .rangeFunc f ps x y, Q, σ => AW c (.rangeFunc f ps x y) Q σ
  | .scope x, Q, σ => AW c (.scope x) Q σ
  | .label l, Q, σ => AW c (.label l) Q σ
  | .goto l, Q, σ => AW c (.goto l) Q σ
  | .refuse s, Q, σ => AW c (.refuse s) Q σ

theorem AW_mono {c : Cx} {code : Code} {Q Q' : Exit → St → Prop} {σ : St} (h : AW c code Q σ) (hq : ∀ e σ, Q e σ → Q' e σ) : AW c code Q' σ :=
  fun lr hl w0 β ρ a w hr => Code.wpIn_mono (fun e a w ⟨β', ρ', σ', h1, h2⟩ => ⟨β', ρ', σ', hq _ _ h1, h2⟩) (h lr hl w0 β ρ a w hr)

end Go.Ab
