/- The abstract layer, part 6: code as a whole; loops; a function's contract out of its code. -/
import Derived.Test.YtogmnhebobdokaaAbDraw
import Derived.RangeFuncLeaves
import Derived.RangeFuncRecord
set_option linter.unusedVariables false
set_option linter.unusedSimpArgs false
namespace Go.Ab
open Go Go.RowKit

theorem evB_spec {σ : St} {x : Operand} {b : Bool} (h : CQ σ x = some b) : CP σ x = some (.v (.bool b)) := by
  unfold CQ at h
  split at h
  · simp at h; subst h; assumption
  · simp at h

structure OK (c : Cx) : Prop where
  τ : TOK c.P c.τ
  q : EQOK c.P c.eqs
  m : c.P.follows .mixedOrders = true
  by' : BYOK c.P c.byt

theorem awp_sound {c : Cx} (hc : OK c) : ∀ (code : Code) (Q : Exit → St → Prop) (σ : St), awp c code Q σ → AW c code Q σ
  | .skip, Q, σ, h => fun lr hl G w0 hG β ρ a w hr => wpIn_skip ⟨w0, β, ρ, σ, ⟨hG, Ext.refl c w0⟩, h, hr⟩
  | .ret, Q, σ, h => fun lr hl G w0 hG β ρ a w hr => wpIn_ret ⟨w0, β, ρ, σ, ⟨hG, Ext.refl c w0⟩, h, hr⟩
  | .exit id, Q, σ, h => fun lr hl G w0 hG β ρ a w hr => wpIn_exit ⟨w0, β, ρ, σ, ⟨hG, Ext.refl c w0⟩, h, hr⟩
  | .seq x y, Q, σ, h => fun lr hl G w0 hG β ρ a w hr => by
    refine wpIn_seq (Code.wpIn_mono ?_ (awp_sound hc x _ σ h lr hl G w0 hG β ρ a w hr))
    rintro e a' w' ⟨w0', β', ρ', σ', ⟨hG', hE⟩, hq, hr'⟩
    cases e with
    | normal =>
      refine Code.wpIn_mono ?_ (awp_sound hc y Q σ' hq lr hl G w0' hG' β' ρ' a' w' hr')
      rintro e CX w2 ⟨w02, β2, ρ2, σ2, ⟨hG2, hE2⟩, hq2, hr2⟩
      exact ⟨w02, β2, ρ2, σ2, ⟨hG2, hE.trans hE2⟩, hq2, hr2⟩
    | ret => exact ⟨w0', β', ρ', σ', ⟨hG', hE⟩, hq, hr'⟩
    | exit id => exact ⟨w0', β', ρ', σ', ⟨hG', hE⟩, hq, hr'⟩
    | goto l => exact ⟨w0', β', ρ', σ', ⟨hG', hE⟩, hq, hr'⟩
    | panic ch => exact ⟨w0', β', ρ', σ', ⟨hG', hE⟩, hq, hr'⟩
    | outgrown => exact ⟨w0', β', ρ', σ', ⟨hG', hE⟩, hq, hr'⟩
  | .block id x, Q, σ, h => fun lr hl G w0 hG β ρ a w hr => by
    refine wpIn_block (Code.wpIn_mono ?_ (awp_sound hc x _ σ h lr hl G w0 hG β ρ a w hr))
    rintro e a' w' ⟨w0', β', ρ', σ', hge, hq, hr'⟩
    cases e with
    | exit j =>
      simp only [blockQ] at hq
      simp only [Exit.inBlock]
      by_cases e : j = id
      · rw [if_pos e] at hq ⊢; exact ⟨w0', β', ρ', σ', hge, hq, hr'⟩
      · rw [if_neg e] at hq ⊢; exact ⟨w0', β', ρ', σ', hge, hq, hr'⟩
    | normal => exact ⟨w0', β', ρ', σ', hge, hq, hr'⟩
    | ret => exact ⟨w0', β', ρ', σ', hge, hq, hr'⟩
    | goto l => exact ⟨w0', β', ρ', σ', hge, hq, hr'⟩
    | panic ch => exact ⟨w0', β', ρ', σ', hge, hq, hr'⟩
    | outgrown => exact ⟨w0', β', ρ', σ', hge, hq, hr'⟩
  | .cond v x y, Q, σ, h => fun lr hl G w0 hG β ρ a w hr => by
    simp only [awp] at h
    cases hv : CQ σ v with
    | none => rw [hv] at h; exact h.elim
    | some b =>
      rw [hv] at h
      refine wpIn_cond_split (ev_sound hr (evB_spec hv)) (fun hb => ?_) (fun hb => ?_)
      · exact awp_sound hc x Q σ (h.1 hb) lr hl G w0 hG β ρ a w hr
      · exact awp_sound hc y Q σ (h.2 hb) lr hl G w0 hG β ρ a w hr
  | .region id ops draw, Q, σ, h => fun lr hl G w0 hG β ρ a w hr => by
    cases draw with
    | false =>
      simp only [awp] at h
      cases hs : CJ c ops.toList ops.toList σ with
      | none =>
        rw [hs] at h
        dsimp only at h
        cases hit : c.it with
        | false => rw [hit] at h; exact h.elim
        | true =>
          rw [hit] at h
          refine wpIn_region_list ?_
          have := ysteps_sound hc.τ hc.q hc.by' hit lr G ops.toList (fun e a' w' => ∃ w0' β' ρ' σ', (GenOK c G w0' ∧ Ext c w0 w0') ∧ Q e σ' ∧ Rel c w0' β' ρ' σ' a' w') _ ops.toList σ w0 w0 β ρ a w h hG (Ext.refl c w0) hr
            fun w0' β' ρ' σ' a' w' hk hG' hE' hr' => ⟨w0', β', ρ', σ', ⟨hG', hE'⟩, hk, hr'⟩
          simpa using this
      | some r =>
        obtain ⟨ob, σ'⟩ := r
        rw [hs] at h
        refine wpIn_region_list ?_
        have := steps_sound hc.τ hc.q hc.by' lr ops.toList (fun e a' w' => ∃ w0' β' ρ' σ', (GenOK c G w0' ∧ Ext c w0 w0') ∧ Q e σ' ∧ Rel c w0' β' ρ' σ' a' w') ops.toList σ β ρ a w ob σ' hs h.1 hr fun β' ρ' a' w' hr' => ⟨w0, β', ρ', σ', ⟨hG, Ext.refl c w0⟩, h.2, hr'⟩
        simpa using this
    | true =>
      simp only [awp] at h
      cases hs : CK c ops.toList ops.toList σ with
      | some r =>
        obtain ⟨ob, σ', ks⟩ := r
        rw [hs] at h
        have := draw_sound lr hc.τ hc.q hc.by' hc.m id ops.toList ops.toList [] (by simp) (fun e a' w' => ∃ w0' β' ρ' σ', (GenOK c G w0' ∧ Ext c w0 w0') ∧ Q e σ' ∧ Rel c w0' β' ρ' σ' a' w') σ β ρ a w ob σ' ks hs h.1 (fun j h1 h2 => by omega) h.2.1 hr fun β' ρ' a' w' hr' => wpListIn_nil ⟨w0, β', ρ', σ', ⟨hG, Ext.refl c w0⟩, h.2.2, hr'⟩
        simpa using this
      | none =>
        rw [hs] at h
        dsimp only at h
        cases hc' : BA c ops.toList σ with
        | none => rw [hc'] at h; exact h.elim
        | some r =>
          obtain ⟨ob, σ', ks, n⟩ := r
          rw [hc'] at h
          obtain ⟨⟨hk, hf⟩, hob, hQ⟩ := h
          unfold BA at hc'
          cases h1 : CK c ops.toList (ops.toList.takeWhile notApp) σ with
          | none => rw [h1] at hc'; simp at hc'
          | some r1 =>
            obtain ⟨ob1, σ1, ks1⟩ := r1
            rw [h1] at hc'
            dsimp only at hc'
            cases h2 : CJ c ops.toList (ops.toList.dropWhile notApp) σ1 with
            | none => rw [h2] at hc'; simp at hc'
            | some r2 =>
              obtain ⟨ob2, σ2⟩ := r2
              rw [h2] at hc'
              simp only [Option.some.injEq, Prod.mk.injEq] at hc'
              obtain ⟨rfl, rfl, rfl, rfl⟩ := hc'
              have := draw_sound lr hc.τ hc.q hc.by' hc.m id ops.toList (ops.toList.takeWhile notApp) (ops.toList.dropWhile notApp) (by simp) (fun e a' w' => ∃ w0' β' ρ' σ', (GenOK c G w0' ∧ Ext c w0 w0') ∧ Q e σ' ∧ Rel c w0' β' ρ' σ' a' w') σ β ρ a w ob1 σ1 ks1 h1 hk
                (fun j h1 h2 i hi => by
                  have := List.all_eq_true.1 hf j (List.mem_range.2 h2)
                  have h3 : decide (j < (ops.toList.takeWhile notApp).length) = false := by simp; omega
                  rw [h3, Bool.false_or] at this
                  exact befores_anc _ (List.all_eq_true.1 this i (List.mem_range.2 hi))) hob.1 hr
                fun β' ρ' a' w' hr' => steps_sound hc.τ hc.q hc.by' lr ops.toList (fun e a' w' => ∃ w0' β' ρ' σ', (GenOK c G w0' ∧ Ext c w0 w0') ∧ Q e σ' ∧ Rel c w0' β' ρ' σ' a' w') (ops.toList.dropWhile notApp) σ1 β' ρ' a' w' ob2 σ2 h2 hob.2 hr' fun β' ρ' a' w' hr' => ⟨w0, β', ρ', σ2, ⟨hG, Ext.refl c w0⟩, hQ, hr'⟩
              simpa using this
  | .loop x, Q, σ, h => h
  | .rangeFunc f ps x y, Q, σ, h => h
  | .scope x, Q, σ, h => h
  | .label l, Q, σ, h => h
  | .goto l, Q, σ, h => h
  | .refuse s, Q, σ, h => h

theorem ysteps_mono (c : Cx) (ops : List Oper) : ∀ (l : List Oper) (σ : St) {K K' : St → Prop}, BC c ops l σ K → (∀ σ, K σ → K' σ) → BC c ops l σ K'
  | [], σ, K, K', h, hk => hk σ h
  | o :: l, σ, K, K', h, hk => by
    simp only [BC] at h ⊢
    split at h
    · split at h
      · split at h
        · rename_i hc
          rw [if_pos hc]
          split at h
          · exact ⟨h.1, fun b => ysteps_mono c ops l _ (h.2 b) hk⟩
          · exact ⟨fun hg => ⟨(h.1 hg).1, fun b => ysteps_mono c ops l _ ((h.1 hg).2 b) hk⟩, fun hg => ysteps_mono c ops l _ (h.2 hg) hk⟩
          · exact h.elim
        · exact h.elim
      · exact h.elim
    · split at h
      · exact ⟨h.1, ysteps_mono c ops l _ h.2 hk⟩
      · exact h.elim

theorem awp_mono {c : Cx} : ∀ {code : Code} {Q Q' : Exit → St → Prop} {σ : St}, awp c code Q σ → (∀ e σ, Q e σ → Q' e σ) → awp c code Q' σ
  | .skip, Q, Q', σ, h, hq => hq _ _ h
  | .ret, Q, Q', σ, h, hq => hq _ _ h
  | .exit id, Q, Q', σ, h, hq => hq _ _ h
  | .seq x y, Q, Q', σ, h, hq => by
    refine awp_mono (code := x) h fun e τ => ?_
    cases e with
    | normal => exact fun h => awp_mono (code := y) h hq
    | _ => exact hq _ _
  | .block id x, Q, Q', σ, h, hq => by
    refine awp_mono (code := x) h fun e τ => ?_
    cases e with
    | exit j => simp only [blockQ]; split <;> exact hq _ _
    | _ => exact hq _ _
  | .cond v x y, Q, Q', σ, h, hq => by
    simp only [awp] at h ⊢
    cases hv : CQ σ v with
    | none => rw [hv] at h; exact h.elim
    | some b => rw [hv] at h; exact ⟨fun hb => awp_mono (code := x) (h.1 hb) hq, fun hb => awp_mono (code := y) (h.2 hb) hq⟩
  | .region id ops draw, Q, Q', σ, h, hq => by
    cases draw with
    | false =>
      simp only [awp] at h ⊢
      cases hs : CJ c ops.toList ops.toList σ with
      | none =>
        rw [hs] at h
        dsimp only at h ⊢
        cases hit : c.it with
        | false => rw [hit] at h; exact h.elim
        | true => rw [hit] at h; exact ysteps_mono c ops.toList ops.toList σ h fun σ => hq _ σ
      | some r => rw [hs] at h; exact ⟨h.1, hq _ _ h.2⟩
    | true =>
      simp only [awp] at h ⊢
      cases hs : CK c ops.toList ops.toList σ with
      | none =>
        rw [hs] at h
        dsimp only at h ⊢
        cases hc : BA c ops.toList σ with
        | none => rw [hc] at h; exact h.elim
        | some r => rw [hc] at h; exact ⟨h.1, h.2.1, hq _ _ h.2.2⟩
      | some r => rw [hs] at h; exact ⟨h.1, h.2.1, hq _ _ h.2.2⟩
  | .loop x, Q, Q', σ, h, hq => AW_mono h hq
  | .rangeFunc f ps x y, Q, Q', σ, h, hq => AW_mono h hq
  | .scope x, Q, Q', σ, h, hq => AW_mono h hq
  | .label l, Q, Q', σ, h, hq => AW_mono h hq
  | .goto l, Q, Q', σ, h, hq => AW_mono h hq
  | .refuse s, Q, Q', σ, h, hq => AW_mono h hq

/-! ### For simp: what is still to come is kept as code -/
inductive Fr where
  | seq (y : Code)
  | blk (id : Nat)
def unst (c : Cx) : List Fr → (Exit → St → Prop) → Exit → St → Prop
  | [], Q => Q
  | .seq y :: fs, Q => thenQ (awp c y (unst c fs Q)) (unst c fs Q)
  | .blk id :: fs, Q => blockQ id (unst c fs Q)
def awk (c : Cx) (code : Code) (fs : List Fr) (Q : Exit → St → Prop) (σ : St) : Prop := awp c code (unst c fs Q) σ
def cont (c : Cx) (fs : List Fr) (Q : Exit → St → Prop) (e : Exit) (σ : St) : Prop := unst c fs Q e σ
def B6 (c : Cx) (fs : List Fr) (Q : Exit → St → Prop) (ops : List Oper) (σ : St) : Bool → Prop
  | true => BC c ops ops σ (cont c fs Q .normal)
  | false => False
def C7 (c : Cx) (fs : List Fr) (Q : Exit → St → Prop) (ops : List Oper) (σ : St) : Option (Prop × St) → Prop
  | some (ob, σ) => ob ∧ cont c fs Q .normal σ
  | none => B6 c fs Q ops σ c.it
def B5 (c : Cx) (fs : List Fr) (Q : Exit → St → Prop) (ops : List Oper) : Option (Prop × St × List (List (Nat × Bool)) × Nat) → Prop
  | some (ob, σ, ks, n) => (chk ops ks = true ∧ full ops n = true) ∧ ob ∧ cont c fs Q .normal σ
  | none => False
def C8 (c : Cx) (fs : List Fr) (Q : Exit → St → Prop) (ops : List Oper) (σ : St) : Option (Prop × St × List (List (Nat × Bool))) → Prop
  | some (ob, σ, ks) => chk ops ks = true ∧ ob ∧ cont c fs Q .normal σ
  | none => B5 c fs Q ops (BA c ops σ)
/-- Two ways; one of them alone if b is known. -/
def ZZ (b : Bool) (A B : Prop) : Prop := (b = true → A) ∧ (b = false → B)
theorem ZX {A B : Prop} : ZZ true A B = A := propext ⟨fun h => h.1 rfl, fun h => ⟨fun _ => h, fun g => by cases g⟩⟩
theorem ZY {A B : Prop} : ZZ false A B = B := propext ⟨fun h => h.2 rfl, fun h => ⟨fun g => (by cases g), fun _ => h⟩⟩
def C9 (c : Cx) (x y : Code) (fs : List Fr) (Q : Exit → St → Prop) (σ : St) : Option Bool → Prop
  | some b => ZZ b (awk c x fs Q σ) (awk c y fs Q σ)
  | none => False
section
variable {c : Cx} {Q : Exit → St → Prop} {σ : St} {fs : List Fr}
theorem awk_of {code : Code} (h : awk c code [] Q σ) : awp c code Q σ := h
theorem BR : awk c .skip fs Q σ = cont c fs Q .normal σ := rfl
theorem BS : awk c .ret fs Q σ = cont c fs Q .ret σ := rfl
theorem BT {id : Nat} : awk c (.exit id) fs Q σ = cont c fs Q (.exit id) σ := rfl
theorem BU {x y : Code} : awk c (.seq x y) fs Q σ = awk c x (.seq y :: fs) Q σ := rfl
theorem BV {id : Nat} {x : Code} : awk c (.block id x) fs Q σ = awk c x (.blk id :: fs) Q σ := rfl
theorem BW {v : Operand} {x y : Code} : awk c (.cond v x y) fs Q σ = C9 c x y fs Q σ (CQ σ v) := by
  simp only [awk, awp, C9]
  cases CQ σ v <;> rfl
theorem BX {id : Nat} {ops : Array Oper} : awk c (.region id ops false) fs Q σ = C7 c fs Q ops.toList σ (CJ c ops.toList ops.toList σ) := by
  simp only [awk, awp, C7, B6, cont]
  cases CJ c ops.toList ops.toList σ with
  | some r => rfl
  | none => cases c.it <;> rfl
theorem BY {id : Nat} {ops : Array Oper} : awk c (.region id ops true) fs Q σ = C8 c fs Q ops.toList σ (CK c ops.toList ops.toList σ) := by
  simp only [awk, awp, C8, B5, cont]
  cases CK c ops.toList ops.toList σ with
  | some r => rfl
  | none => cases BA c ops.toList σ <;> rfl
def AWL (c : Cx) (body : Code) (fs : List Fr) (Q : Exit → St → Prop) (σ : St) : Prop := AW c (.loop body) (unst c fs Q) σ
theorem BZ {x : Code} : awk c (.loop x) fs Q σ = AWL c x fs Q σ := rfl
def AWR (c : Cx) (g : Operand) (ps : Array Tmp) (assign body : Code) (fs : List Fr) (Q : Exit → St → Prop) (σ : St) : Prop := AW c (.rangeFunc g ps assign body) (unst c fs Q) σ
theorem BB {c : Cx} {g : Operand} {ps : Array Tmp} {assign body : Code} {fs : List Fr} {Q : Exit → St → Prop} {σ : St} : awk c (.rangeFunc g ps assign body) fs Q σ = AWR c g ps assign body fs Q σ := rfl
theorem C0 {e : Exit} : cont c [] Q e σ = Q e σ := rfl
theorem C1 {y : Code} : cont c (.seq y :: fs) Q .normal σ = awk c y fs Q σ := rfl
theorem C2 {y : Code} : cont c (.seq y :: fs) Q .ret σ = cont c fs Q .ret σ := rfl
theorem C3 {y : Code} {j : Nat} : cont c (.seq y :: fs) Q (.exit j) σ = cont c fs Q (.exit j) σ := rfl
theorem C4 {id : Nat} : cont c (.blk id :: fs) Q .normal σ = cont c fs Q .normal σ := rfl
theorem C5 {id : Nat} : cont c (.blk id :: fs) Q .ret σ = cont c fs Q .ret σ := rfl
theorem C6 {id j : Nat} : cont c (.blk id :: fs) Q (.exit j) σ = if j = id then cont c fs Q .normal σ else cont c fs Q (.exit j) σ := rfl
end

/-! ### Forgetting; loops -/
/-- τ says no more than σ. -/
structure Leq (σ τ : St) : Prop where
  t : ∀ t v, CS τ.t t = some v → v ≠ .d → CS σ.t t = some v
  b : ∀ k cs, CS τ.b k = some (some cs) → CS σ.b k = some (some cs)
  x : ∀ k R, CS τ.x k = some (some R) → ∃ S, CS σ.x k = some (some S) ∧ S.size = R.size ∧ S.len = R.len ∧ S.new = R.new ∧ S.ty = R.ty ∧ S.sp = R.sp ∧ (R.own = true → S.own = true) ∧ ∀ i : Nat, i < R.len → S.get i = R.get i

def CA (l : List (Nat × V)) : List (Nat × V) → Prop
  | [] => True
  | (k, v) :: m => CS l k = some v ∧ CA l m
def CB (l : List (Nat × Option (List V))) : List (Nat × Option (List V)) → Prop
  | [] => True
  | (k, v) :: m => CS l k = some v ∧ CB l m
def CC (l : List (Nat × Option Row)) : List (Nat × Option Row) → Prop
  | [] => True
  | (k, some R) :: m => (match CS l k with
    | some (some S) => S.size = R.size ∧ S.len = R.len ∧ S.new = R.new ∧ S.ty = R.ty ∧ S.sp = R.sp ∧ (R.own = true → S.own = true) ∧ ∀ i : Nat, i < R.len → S.get i = R.get i
    | _ => False) ∧ CC l m
  | (_, none) :: m => CC l m
theorem leqT_look {l : List (Nat × V)} : ∀ {m : List (Nat × V)}, CA l m → ∀ t v, CS m t = some v → CS l t = some v
  | [], _, t, v, h => by simp [CS] at h
  | (k, u) :: m, hl, t, v, h => by
    rw [look_cons] at h
    split at h
    · rename_i e; subst e; simp at h; subst h; exact hl.1
    · exact leqT_look hl.2 t v h
theorem leqB_look {l : List (Nat × Option (List V))} : ∀ {m : List (Nat × Option (List V))}, CB l m → ∀ t v, CS m t = some v → CS l t = some v
  | [], _, t, v, h => by simp [CS] at h
  | (k, u) :: m, hl, t, v, h => by
    rw [look_cons] at h
    split at h
    · rename_i e; subst e; simp at h; subst h; exact hl.1
    · exact leqB_look hl.2 t v h
theorem leqX_look {l : List (Nat × Option Row)} : ∀ {m : List (Nat × Option Row)}, CC l m → ∀ t R, CS m t = some (some R) → ∃ S, CS l t = some (some S) ∧ S.size = R.size ∧ S.len = R.len ∧ S.new = R.new ∧ S.ty = R.ty ∧ S.sp = R.sp ∧ (R.own = true → S.own = true) ∧ ∀ i : Nat, i < R.len → S.get i = R.get i
  | [], _, t, v, h => by simp [CS] at h
  | (k, some u) :: m, hl, t, v, h => by
    rw [look_cons] at h
    split at h
    · rename_i e; subst e; simp at h; subst h
      have h1 := hl.1
      split at h1
      · rename_i S hS; exact ⟨S, hS, h1⟩
      · exact h1.elim
    · exact leqX_look hl.2 t v h
  | (k, none) :: m, hl, t, v, h => by
    rw [look_cons] at h
    split at h
    · simp at h
    · exact leqX_look (m := m) hl t v h
theorem leq_of {σ τ : St} (h : CA σ.t τ.t ∧ CB σ.b τ.b ∧ CC σ.x τ.x) : Leq σ τ :=
  ⟨fun t v hv _ => leqT_look h.1 t v hv, fun k cs hk => leqB_look h.2.1 k _ hk, fun k R hk => leqX_look h.2.2 k R hk⟩

theorem SliceOK.congr {w : World} {v : Value} {R S : Row} (h1 : S.size = R.size) (h2 : S.len = R.len) (h3 : ∀ i : Nat, i < R.len → S.get i = R.get i) (h : SliceOK w v S) : SliceOK w v R := by
  obtain ⟨a, c, hv, hl, hi⟩ := h
  refine ⟨a, c, by rw [hv, h2], by omega, fun i hlt => ?_⟩
  obtain ⟨hs, b, o, ha, hc⟩ := hi i (by omega)
  rw [h3 i hlt, h1] at hs hc
  exact ⟨hs, b, o, ha, hc⟩
theorem RowOK.congr {P : Program} {w : World} {v : Value} {R S : Row} (h1 : S.size = R.size) (h2 : S.len = R.len) (h0 : S.sp = R.sp) (h3 : ∀ i : Nat, i < R.len → S.get i = R.get i) (h : RowOK P w v S) : RowOK P w v R :=
  ⟨fun hs => (h.1 (h0.trans hs)).congr h1 h2 h3, fun xs hs => h.2 xs (h0.trans hs)⟩
theorem OwnOK.congr {w : World} {v : Value} {R S : Row} (h1 : S.size = R.size) (h2 : S.len = R.len) (h0 : S.ty = R.ty) (h3 : ∀ i : Nat, i < R.len → S.get i = R.get i) (h : OwnOK w v S) : OwnOK w v R := by
  obtain ⟨g0, xs, g1, g2⟩ := h
  rw [h0, h1, h2] at g1
  exact ⟨fun e => g0 (by omega), xs, g1, fun i hi => by rw [← h3 i hi, ← h1]; exact g2 i (by omega)⟩

/-- The world has stayed; less is said. -/
theorem Rel.leq {c : Cx} {w0 : Env} {β : Nat → Nat} {ρ : Nat → Value} {σ τ : St} {a : Act} {w : World} (h : Rel c w0 β ρ σ a w) (hl : Leq σ τ) : Rel c w0 β ρ τ a w where
  below := h.below
  size := h.size
  defers := h.defers
  slots := fun t v hv hne => h.slots t v (hl.t t v hv hne) hne
  boxes := fun k cs hk => h.boxes k cs (hl.b k cs hk)
  balive := fun k cs hk => h.balive k cs (hl.b k cs hk)
  binj := fun k j cs ds hk hj => h.binj k j cs ds (hl.b k cs hk) (hl.b j ds hj)
  rows := fun k R hk => by obtain ⟨S, h0, h1, h2, h3, h4, h5, h6, h7⟩ := hl.x k R hk; exact (h.rows k S h0).congr h1 h2 h5 h7
  rnew := fun k R hk hn hn0 => by obtain ⟨S, h0, h1, h2, h3, h4⟩ := hl.x k R hk; exact h.rnew k S h0 (h3.trans hn) (by omega)
  rold := fun k R hk hn => by obtain ⟨S, h0, h1, h2, h3, h4⟩ := hl.x k R hk; exact h.rold k S h0 (h3.trans hn)
  rsz := fun k R hk => by obtain ⟨S, h0, h1, _⟩ := hl.x k R hk; rw [← h1]; exact h.rsz k S h0
  rbox := fun k R j cs hk hj hn => by obtain ⟨S, h0, h1, h2, _⟩ := hl.x k R hk; exact h.rbox k S j cs h0 (hl.b j cs hj) (by omega)
  owns := fun k R hk ho => by
    obtain ⟨S, h0, h1, h2, h3, h4, h5, h6, h7⟩ := hl.x k R hk
    obtain ⟨g1, g2, g3, g4⟩ := h.owns k S h0 (h6 ho)
    refine ⟨h5.symm.trans g1, h3.symm.trans g2, g3.congr h1 h2 h4 h7, fun b hb => ⟨fun j T hj hne hlen => ?_, fun j cs hj => (g4 b hb).2 j cs (hl.b j cs hj)⟩⟩
    obtain ⟨T', k0, k1, k2, _⟩ := hl.x j T hj
    exact (g4 b hb).1 j T' k0 hne (by omega)
  seqs := fun k R xs hk hs => by
    obtain ⟨S, h0, h1, h2, h3, h4, h5, _⟩ := hl.x k R hk
    obtain ⟨U, g1, g2, g3⟩ := h.seqs k S xs h0 (h5.trans hs)
    refine ⟨U, g1, fun j cs hj => g2 j cs (hl.b j cs hj), fun j T hj hn hn0 => ?_⟩
    obtain ⟨T', k0, k1, k2, k3, _⟩ := hl.x j T hj
    exact g3 j T' k0 (k3.trans hn) (by omega)
  frz := h.frz
  gh := h.gh
  gs := fun hit => ⟨(h.gs hit).1, fun R hk => by obtain ⟨S, h0, h1, h2, h3, h4, _⟩ := hl.x _ R hk; rw [← h1, ← h4]; exact (h.gs hit).2 S h0⟩
  forn := ⟨fun k cs hk => h.forn.1 k cs (hl.b k cs hk), fun k R hk hn => by obtain ⟨S, h0, h1, h2, _⟩ := hl.x k R hk; exact h.forn.2 k S h0 (by omega)⟩

/-- A loop, told of states: a family of states, a measure. -/
theorem AW_loop {c : Cx} (hc : OK c) {ι : Type} (S : ι → St) (I : ι → Prop) (m : ι → Nat) (i₀ : ι) {body : Code} {Q : Exit → St → Prop} {σ : St} (h0 : Leq σ (S i₀)) (hi : I i₀)
    (round : ∀ i, I i → awp c body (thenQ (fun τ => ∃ j, I j ∧ m j < m i ∧ Leq τ (S j)) Q) (S i)) : AW c (.loop body) Q σ := by
  intro lr hl G w0 hG β ρ a w hr
  refine wpIn_loop_ghost (fun n a w => ∃ i w1 β ρ, I i ∧ m i = n ∧ (GenOK c G w1 ∧ Ext c w0 w1) ∧ Rel c w1 β ρ (S i) a w) (m i₀) ⟨i₀, w0, β, ρ, hi, rfl, ⟨hG, Ext.refl c w0⟩, hr.leq h0⟩ ?_
  rintro n a w ⟨i, w1, β, ρ, hi, rfl, ⟨hG1, hE1⟩, hr⟩
  refine Code.wpIn_mono ?_ (awp_sound hc body _ _ (round i hi) lr hl G w1 hG1 β ρ a w hr)
  rintro e a' w' ⟨w2, β', ρ', σ', ⟨hG2, hE2⟩, hq, hr'⟩
  have hge : GenOK c G w2 ∧ Ext c w0 w2 := ⟨hG2, hE1.trans hE2⟩
  cases e with
  | normal =>
    obtain ⟨j, hj, hlt, hle⟩ := hq
    exact ⟨m j, hlt, j, w2, β', ρ', hj, rfl, hge, hr'.leq hle⟩
  | ret => exact ⟨w2, β', ρ', σ', hge, hq, hr'⟩
  | exit id => exact ⟨w2, β', ρ', σ', hge, hq, hr'⟩
  | goto l => exact ⟨w2, β', ρ', σ', hge, hq, hr'⟩
  | panic ch => exact ⟨w2, β', ρ', σ', hge, hq, hr'⟩
  | outgrown => exact ⟨w2, β', ρ', σ', hge, hq, hr'⟩

/-- What a round must come to. -/
def loopQ {ι : Type} (S : ι → St) (I : ι → Prop) (m : ι → Nat) (i : ι) : St → Prop := fun τ => ∃ j, I j ∧ m j < m i ∧ CA τ.t (S j).t ∧ CB τ.b (S j).b ∧ CC τ.x (S j).x
/-- A loop, what comes behind it as code; what a round must come to is a letter. -/
theorem AWL_loop {c : Cx} (hc : OK c) {ι : Type} (S : ι → St) (I : ι → Prop) (m : ι → Nat) (i₀ : ι) {body : Code} {fs : List Fr} {Q : Exit → St → Prop} {σ : St} (h0 : CA σ.t (S i₀).t ∧ CB σ.b (S i₀).b ∧ CC σ.x (S i₀).x) (hi : I i₀)
    (round : ∀ i, I i → ∀ R : Exit → St → Prop, (∀ τ, loopQ S I m i τ → R .normal τ) → (∀ τ, cont c fs Q .ret τ → R .ret τ) → (∀ id τ, cont c fs Q (.exit id) τ → R (.exit id) τ) → awk c body [] R (S i)) : AWL c body fs Q σ := by
  refine AW_loop hc S I m i₀ (leq_of h0) hi fun i h => ?_
  refine round i h _ (fun τ => ?_) (fun τ => id) (fun id τ h => h)
  rintro ⟨j, h1, h2, h3⟩; exact ⟨j, h1, h2, leq_of h3⟩

/-! ### A function's contract -/
def E8 : Nat → List V → List (Nat × V)
  | _, [] => []
  | i, .r _ :: l => (i, .r i) :: E8 (i + 1) l
  | i, x :: l => (i, x) :: E8 (i + 1) l
def E9 : Nat → List V → List (Option Row) → List (Nat × Option Row)
  | i, .r _ :: l, some R :: rs => (i, some { R with own := false, new := false }) :: E9 (i + 1) l rs
  | i, _ :: l, _ :: rs => E9 (i + 1) l rs
  | _, _, _ => []
def E7 (args : List V) (rws : List (Option Row)) : St := ⟨E8 0 args, [], E9 0 args rws⟩

def E3 (c : Cx) (σ : St) : ResultVar → Option V
  | .tmp t => CP σ (.tmp t)
  | .cell a t =>
    match CP σ (.tmp a) with
    | some (.p k off) =>
      match (CS σ.b k).bind id, CS c.τ t with
      | some cs, some ti => DA ti (cs.drop off)
      | _, _ => none
    | _ => none
def E5 (c : Cx) (σ : St) : List ResultVar → Option (List V)
  | [] => some []
  | r :: l =>
    match E3 c σ r with
    | some v =>
      match E5 c σ l with
      | some vs => some (v :: vs)
      | none => none
    | none => none

def E6 (σ : St) : List V → List RV → Prop
  | [], [] => True
  | .v x :: l, .v y :: m => x = y ∧ E6 σ l m
  | .r k :: l, .row R :: m => (match CS σ.x k with | some (some S) => (S.sp = none ∧ R.sp = none ∧ S.new = true) ∧ S.size = R.size ∧ S.len = R.len ∧ ∀ i : Nat, i < R.len → S.get i = R.get i | _ => False) ∧ E6 σ l m
  | .v x :: l, .row R :: m => (x = .slice none 0 0 ∧ R.len = 0 ∧ R.sp = none) ∧ E6 σ l m
  | _, _ => False

def E1 (c : Cx) (rs : List ResultVar) (ret : List RV) : Exit → St → Prop
  | .normal, σ | .ret, σ =>
    match E5 c σ rs with
    | some vs => E6 σ vs ret
    | none => False
  | _, _ => False

theorem resV_sound {c : Cx} (hc : OK c) {w0 : Env} {β : Nat → Nat} {ρ : Nat → Value} {σ : St} {a : Act} {w : World} (h : Rel c w0 β ρ σ a w) (f : ResultVar → Sem Value) (hf : ∀ u, f (.tmp u) = pure (a.tmps.getD u undef)) (hg : ∀ x t, f (.cell x t) = (do loadVar t (← asAddr (a.tmps.getD x undef)))) {r : ResultVar} {v : V} (hv : E3 c σ r = some v) :
    (f r).run c.P w = .ok (conc β ρ v) w := by
  cases r with
  | tmp t =>
    have := ev_sound h (x := .tmp t) hv
    simp only [Act.eval] at this
    rw [hf, this]
    rfl
  | cell x t =>
    simp only [E3] at hv
    cases hx : CP σ (.tmp x) with
    | none => rw [hx] at hv; simp at hv
    | some u =>
      rw [hx] at hv
      cases u <;> (try dsimp only at hv) <;> try (simp at hv; done)
      rename_i k off
      have he := ev_sound h hx
      simp only [Act.eval, conc] at he
      cases hb : (CS σ.b k).bind id with
      | none => rw [hb] at hv; simp at hv
      | some cs =>
        cases ht : CS c.τ t with
        | none => rw [hb, ht] at hv; simp at hv
        | some ti =>
          rw [hb, ht] at hv
          dsimp only at hv
          have hl : CS σ.b k = some (some cs) := by
            cases hq : CS σ.b k with
            | none => simp [hq] at hb
            | some u => simp [hq] at hb; subst hb; rfl
          obtain ⟨_, T, hT⟩ := h.boxes k cs hl
          have := whole_load (hc.τ t ti ht) (β := β) (ρ := ρ) w (β k) off _ _ hv (fun j u hu => by
            rw [cell_of_block hT]
            rw [List.map_drop, List.getElem?_drop] at hu
            simpa using hu)
          simp only [Instr.loadAt, Instr.sureAddr, Sem.run_bind, Sem.run_pure, Result.andThen_ok] at this
          rw [hg, he]
          simp only [asAddr, Sem.run_bind, Sem.run_pure, Result.andThen_ok]
          exact this

theorem resVs_sound {c : Cx} (hc : OK c) {w0 : Env} {β : Nat → Nat} {ρ : Nat → Value} {σ : St} {a : Act} {w : World} (h : Rel c w0 β ρ σ a w) (f : ResultVar → Sem Value) (hf : ∀ u, f (.tmp u) = pure (a.tmps.getD u undef)) (hg : ∀ x t, f (.cell x t) = (do loadVar t (← asAddr (a.tmps.getD x undef)))) : ∀ {rs : List ResultVar} {vs : List V}, E5 c σ rs = some vs →
    (rs.mapM f).run c.P w = .ok (vs.map (conc β ρ)) w
  | [], vs, hv => by simp [E5] at hv; subst hv; simp
  | r :: rs, vs, hv => by
    simp only [E5] at hv
    cases h1 : E3 c σ r with
    | none => rw [h1] at hv; simp at hv
    | some v =>
      rw [h1] at hv
      cases h2 : E5 c σ rs with
      | none => rw [h2] at hv; simp at hv
      | some us =>
        rw [h2] at hv
        simp only [Option.some.injEq] at hv
        subst hv
        have e1 := resV_sound hc h f hf hg h1
        have e2 := resVs_sound hc h f hf hg h2
        simp only [List.mapM_cons, Sem.run_bind, Sem.run_pure, List.map_cons]
        rw [e1]
        simp only [Result.andThen_ok]
        rw [e2]
        rfl

theorem results_of {c : Cx} (hc : OK c) {w0 : Env} {β : Nat → Nat} {ρ : Nat → Value} {σ : St} {a : Act} {w : World} (h : Rel c w0 β ρ σ a w) {fn : Func} {vs : List V} (hv : E5 c σ fn.results.toList = some vs) :
    (results fn a.tmps).run c.P w = .ok (retVal (vs.map (conc β ρ))) w := by
  unfold results
  rw [← Array.toArray_toList (xs := fn.results), List.mapM_toArray]
  simp only [Sem.run_bind, Sem.run_map]
  rw [resVs_sound hc h _ (fun _ => rfl) (fun _ _ => rfl) hv]
  simp only [Result.andThen_ok, Sem.run_pure]
  match vs.map (conc β ρ) with
  | [] => rfl
  | [z] => rfl
  | z :: y :: zs => simp [retVal]

theorem resOK_ret {c : Cx} {w1 : World} {ys : List Value} {β : Nat → Nat} {ρ : Nat → Value} {σ : St} {a : Act} {w : World} (h : Rel c (Env.of w1) β ρ σ a w) : ∀ {vs : List V} {ret : List RV}, E6 σ vs ret → retOK c.P ys w1 w ret (vs.map (conc β ρ))
  | [], [], _ => trivial
  | .v x :: l, .v y :: m, hr => ⟨hr.1, resOK_ret h hr.2⟩
  | .v x :: l, .row R :: m, hr => by
    obtain ⟨⟨rfl, h2, h3⟩, h4⟩ := hr
    exact ⟨⟨fun _ => ⟨none, 0, by rw [h2]; rfl, by omega, fun i hi => by omega⟩, fun xs hx => by rw [h3] at hx; cases hx⟩, fun _ b hb => (by cases hb), resOK_ret h h4⟩
  | .r k :: l, .row R :: m, hr => by
    obtain ⟨h1, h2⟩ := hr
    split at h1
    · rename_i S hS
      obtain ⟨⟨g0, g1, g5⟩, g2, g3, g4⟩ := h1
      exact ⟨⟨fun _ => ((h.rows k S hS).1 g0).congr g2 g3 g4, fun xs hx => by rw [g1] at hx; cases hx⟩, fun hl b hb => ⟨Nat.le_of_not_lt (h.rnew k S hS g5 (by omega) b hb).1, (h.rnew k S hS g5 (by omega) b hb).2⟩, resOK_ret h h2⟩
    · exact h1.elim
  | [], _ :: _, hr => hr.elim
  | .v _ :: _, [], hr => hr.elim
  | .r _ :: _, [], hr => hr.elim
  | .r _ :: _, .v _ :: _, hr => hr.elim
  | .p .. :: _, l, hr => by cases l with | nil => exact hr.elim | cons r l => cases r <;> exact hr.elim
  | .s .. :: _, l, hr => by cases l with | nil => exact hr.elim | cons r l => cases r <;> exact hr.elim
  | .c .. :: _, l, hr => by cases l with | nil => exact hr.elim | cons r l => cases r <;> exact hr.elim
  | .e .. :: _, l, hr => by cases l with | nil => exact hr.elim | cons r l => cases r <;> exact hr.elim
  | .q .. :: _, l, hr => by cases l with | nil => exact hr.elim | cons r l => cases r <;> exact hr.elim
  | .tr .. :: _, l, hr => by cases l with | nil => exact hr.elim | cons r l => cases r <;> exact hr.elim
  | .d :: _, l, hr => by cases l with | nil => exact hr.elim | cons r l => cases r <;> exact hr.elim

def atV (t : Nat) : V → V
  | .r _ => .r t
  | x => x

theorem look_startT : ∀ (args : List V) (i t : Nat) (v : V), CS (E8 i args) t = some v → i ≤ t ∧ t - i < args.length ∧ ∃ x, args[t - i]? = some x ∧ v = atV t x
  | [], i, t, v, h => by simp [E8, CS] at h
  | x :: l, i, t, v, h => by
    have key : ∀ u, E8 i (x :: l) = (i, u) :: E8 (i + 1) l → u = atV i x → i ≤ t ∧ t - i < (x :: l).length ∧ ∃ y, (x :: l)[t - i]? = some y ∧ v = atV t y := by
      intro u hu hx
      rw [hu, look_cons] at h
      by_cases e : i = t
      · subst e
        rw [if_pos rfl] at h
        simp only [Option.some.injEq] at h
        subst h
        exact ⟨Nat.le_refl _, by simp, x, by simp, hx⟩
      · rw [if_neg e] at h
        obtain ⟨h1, h2, y, h3, h4⟩ := look_startT l (i + 1) t v h
        refine ⟨by omega, by simp; omega, y, ?_, h4⟩
        rw [show t - i = (t - (i + 1)) + 1 by omega]
        simpa using h3
    cases x <;> exact key _ rfl rfl

theorem look_startX : ∀ (args : List V) (rws : List (Option Row)) (i k : Nat) (R : Row), CS (E9 i args rws) k = some (some R) → i ≤ k ∧ ∃ j S, args[k - i]? = some (.r j) ∧ rws[k - i]? = some (some S) ∧ R = { S with own := false, new := false }
  | [], rws, i, k, R, h => by cases rws <;> simp [E9, CS] at h
  | x :: l, [], i, k, R, h => by cases x <;> simp [E9, CS] at h
  | x :: l, r :: rws, i, k, R, h => by
    have skip : E9 i (x :: l) (r :: rws) = E9 (i + 1) l rws → i ≤ k ∧ ∃ j S, (x :: l)[k - i]? = some (.r j) ∧ (r :: rws)[k - i]? = some (some S) ∧ R = { S with own := false, new := false } := by
      intro e
      rw [e] at h
      obtain ⟨h1, j, S, h2, h3, h4⟩ := look_startX l rws (i + 1) k R h
      refine ⟨by omega, j, S, ?_, ?_, h4⟩
      · rw [show k - i = (k - (i + 1)) + 1 by omega]; simpa using h2
      · rw [show k - i = (k - (i + 1)) + 1 by omega]; simpa using h3
    cases x <;> try exact skip rfl
    rename_i j
    cases r with
    | none => exact skip rfl
    | some S =>
      simp only [E9, look_cons] at h
      by_cases e : i = k
      · subst e
        rw [if_pos rfl] at h
        simp only [Option.some.injEq] at h
        exact ⟨Nat.le_refl _, j, S, by simp, by simp, h.symm⟩
      · rw [if_neg e] at h
        obtain ⟨h1, j', S', h2, h3, h4⟩ := look_startX l rws (i + 1) k R h
        refine ⟨by omega, j', S', ?_, ?_, h4⟩
        · rw [show k - i = (k - (i + 1)) + 1 by omega]; simpa using h2
        · rw [show k - i = (k - (i + 1)) + 1 by omega]; simpa using h3

theorem argOK_get {P : Program} {w : World} : ∀ {args : List V} {rws : List (Option Row)} {ys : List Value}, AU args = true → argOK P w args rws ys → args.length = ys.length ∧ args.length = rws.length ∧
    ∀ (i : Nat) (x : V), args[i]? = some x → (∃ y, x = .v y ∧ ys[i]? = some y) ∨ ∃ k R y, x = .r k ∧ rws[i]? = some (some R) ∧ ys[i]? = some y ∧ RowOK P w y R
  | [], [], [], _, _ => ⟨rfl, rfl, fun i x h => by simp at h⟩
  | .v x :: l, r :: rs, y :: ys, hn, h => by
    obtain ⟨h1, h2⟩ := h
    obtain ⟨g1, g2, g3⟩ := argOK_get (by simpa [AU] using hn) h2
    refine ⟨by simp [g1], by simp [g2], fun i u hu => ?_⟩
    cases i with
    | zero => simp at hu; subst hu; exact .inl ⟨x, rfl, by simp [h1]⟩
    | succ i => simp at hu; simpa using g3 i u hu
  | .r k :: l, some R :: rs, y :: ys, hn, h => by
    obtain ⟨h1, h2⟩ := h
    obtain ⟨g1, g2, g3⟩ := argOK_get (by simpa [AU] using hn) h2
    refine ⟨by simp [g1], by simp [g2], fun i u hu => ?_⟩
    cases i with
    | zero => simp at hu; subst hu; exact .inr ⟨k, R, y, rfl, by simp, by simp, h1⟩
    | succ i => simp at hu; simpa using g3 i u hu
  | .p .. :: _, _, _, hn, _ => by simp [AU] at hn
  | .v _ :: _, [], _, _, h => h.elim
  | .v _ :: _, _ :: _, [], _, h => h.elim
  | .r _ :: _, [], _, _, h => h.elim
  | .r _ :: _, none :: _, _, _, h => h.elim
  | .r _ :: _, some _ :: _, [], _, h => h.elim
  | [], [], _ :: _, _, h => h.elim
  | [], _ :: _, _, _, h => h.elim
  | .s .. :: _, _, _, _, h => h.elim
  | .c .. :: _, _, _, _, h => h.elim
  | .e .. :: _, _, _, _, h => h.elim
  | .q .. :: _, _, _, _, h => h.elim
  | .tr .. :: _, _, _, _, h => h.elim
  | .d :: _, _, _, _, h => h.elim

/-- Sizes of the rows that come in. -/
def sizesOK : List (Option Row) → Prop
  | [] => True
  | some R :: l => R.size ≠ 0 ∧ sizesOK l
  | none :: l => sizesOK l

theorem sizesOK_get : ∀ {l : List (Option Row)} {i : Nat} {R : Row}, sizesOK l → l[i]? = some (some R) → R.size ≠ 0
  | [], i, R, _, h => by simp at h
  | some S :: l, i, R, hs, h => by
    cases i with
    | zero => simp at h; subst h; exact hs.1
    | succ i => simp at h; exact sizesOK_get hs.2 h
  | none :: l, i, R, hs, h => by
    cases i with
    | zero => simp at h
    | succ i => simp at h; exact sizesOK_get (l := l) hs h

/-- The marks are come to, one by one; then the results are read. -/
theorem leavesK {c : Cx} (hit : c.it = false) {E : Env} {β : Nat → Nat} {ρ : Nat → Value} {σ : St} {fn : Func} {Post : Ending → World → Prop}
    (hK : ∀ tmps w, Rel c E β ρ σ { tmps := tmps, defers := [] } w → ∃ v, (results fn tmps).run c.P w = .ok v w ∧ Post (.returned v) w) :
    ∀ (ds : List Deferred) (tmps : Array Value) (w : World), Rel c E β ρ σ { tmps := tmps, defers := ds } w → LeavesInM (Fw none) 0 c.P fn tmps Post ds .returning w
  | [], tmps, w, h => hK tmps w h
  | d :: ds, tmps, w, h => by
    obtain ⟨⟨r, h1, h2, h3, h4⟩, h5⟩ := h.defers
    have hother : ∀ b, b ≠ r → (w.putObj r (.deferred none)).heap[b]? = w.heap[b]? := fun b hb => World.putObj_heap_other hb
    refine ⟨by simp, .inl ⟨r, _, h1, run_takeDeferred h2, ?_⟩⟩
    refine leavesK hit hK ds tmps _ (Rel.keep (a := { tmps := tmps, defers := d :: ds }) (w' := w.putObj r (.deferred none)) h rfl rfl rfl (by simp) (fun b o hb ho => hother b fun e => ?_) (fun b hb => hother b fun e => h3 (e ▸ hb)) ?_ hit)
    · subst e; rw [h2] at hb; simp at hb; subst hb; simp [Obj.isCells] at ho
    · have : ∀ l, marks E w l → (∀ d' ∈ l, d'.target ≠ .collected r) → marks E (w.putObj r (.deferred none)) l := by
        intro l
        induction l with
        | nil => exact fun _ _ => trivial
        | cons d' l ih =>
          rintro ⟨⟨r', g1, g2, g3, g4⟩, g5⟩ hne
          refine ⟨⟨r', g1, (hother r' fun e => ?_).trans g2, g3, g4⟩, ih g5 fun d'' hd => hne d'' (List.mem_cons_of_mem _ hd)⟩
          subst e
          exact hne d' (List.mem_cons_self) g1
      exact this ds h5 h4
theorem leaves {c : Cx} (hc : OK c) (hit : c.it = false) {ys : List Value} {w1 : World} {β : Nat → Nat} {ρ : Nat → Value} {σ : St} {fn : Func} {vs : List V} {ret : List RV} (hv : E5 c σ fn.results.toList = some vs) (hr : E6 σ vs ret)
    (ds : List Deferred) (tmps : Array Value) (w : World) (h : Rel c (Env.of w1) β ρ σ { tmps := tmps, defers := ds } w) :
      LeavesInM (Fw none) 0 c.P fn tmps (fun e w' => ∃ zs, e = .returned (retVal zs) ∧ retOK c.P ys w1 w' ret zs ∧ Below w1.heap.size w1 w') ds .returning w :=
  leavesK hit (fun tmps w h => ⟨_, results_of hc h hv, _, rfl, resOK_ret h hr, h.below.below⟩) ds tmps w h

/-- A frame as it begins. -/
theorem start_rel {c : Cx} {fn : Func} (hN : fn.ntmps = c.N) {args : List V} {rws : List (Option Row)} (hle : args.length ≤ c.N) (hsz : sizesOK rws) (hit : c.it = false) (hnb : AU args = true) {ys : List Value} {w : World} (hy : argOK c.P w args rws ys) (tm : Array Value)
    (hfz : ∀ t, c.fz.contains t = true → (ys.toArray ++ Array.replicate (fn.ntmps - ys.toArray.size) undef).getD t undef = tm.getD t undef) :
    Rel c { Env.of w with tm := tm } (fun _ => 0) (fun k => (ys[k]?).getD undef) (E7 args rws) { tmps := ys.toArray ++ Array.replicate (fn.ntmps - ys.toArray.size) undef, defers := [] } w := by
  obtain ⟨hl1, hl2, hg⟩ := argOK_get hnb hy
  have arow : ∀ k R, CS (E7 args rws).x k = some (some R) → ∃ S y, R = { S with own := false, new := false } ∧ ys[k]? = some y ∧ RowOK c.P w y S ∧ rws[k]? = some (some S) := fun k R hk => by
    obtain ⟨_, j, S, hx, hrw, rfl⟩ := look_startX args rws 0 k R hk
    rw [Nat.sub_zero] at hx hrw
    rcases hg k _ hx with ⟨y, hh, _⟩ | ⟨k', R', y, _, hrw', hy, hR⟩
    · cases hh
    · rw [hrw] at hrw'
      simp only [Option.some.injEq] at hrw'
      subst hrw'
      exact ⟨S, y, rfl, hy, hR, hrw⟩
  refine ⟨Kept.refl _, by simp [hN]; omega, trivial, fun t v hv hne => ?_, fun k cs hk => ?_, fun k cs hk => ?_, fun k j cs ds hk => ?_, fun k R hk => ?_, fun k R hk hn => ?_, fun k R hk hn b hb => ?_, fun k R hk => ?_, fun k R j cs hk hj => ?_, fun k R hk ho => ?_, fun k R xs hk hs => ?_, fun t ht => ?_,
    ⟨trivial, fun b hb => hb.elim, fun _ => ⟨fun _ => trivial, fun b hb => hb⟩⟩, fun hi => (by rw [hit] at hi; cases hi), ⟨fun k cs _ hb => hb, fun k R _ _ b _ hb => hb⟩⟩
  · obtain ⟨_, h2, x, hx, rfl⟩ := look_startT args 0 t v hv
    rw [Nat.sub_zero] at hx h2
    have hlt : t < ys.length := by omega
    have e : (ys.toArray ++ Array.replicate (fn.ntmps - ys.toArray.size) undef).getD t undef = (ys[t]?).getD undef := by
      rw [Array.getD_eq_getD_getElem?, Array.getElem?_append_left (by simpa using hlt)]
      simp
    rw [e]
    rcases hg t x hx with ⟨y, rfl, hy⟩ | ⟨k, R, y, rfl, _, hy, _⟩
    · simp [hy, conc, atV]
    · simp [conc, atV]
  · simp [E7, CS] at hk
  · simp [E7, CS] at hk
  · simp [E7, CS] at hk
  · obtain ⟨S, y, rfl, hy, hR, _⟩ := arow k R hk
    simp only [hy, Option.getD_some]
    exact hR
  · obtain ⟨S, y, rfl, _⟩ := arow k R hk
    simp at hn
  · obtain ⟨S, y, rfl, hy, hR, _⟩ := arow k R hk
    simp only [hy, Option.getD_some] at hb
    show b < w.heap.size
    cases hsp : S.sp with
    | some xs => rw [(hR.own hsp).2] at hb; cases hb
    | none =>
      have hS := hR.1 hsp
      have hl := hS.full hb
      have ho := fullBlock_own hb
      obtain ⟨a', c', hv, _, hi⟩ := hS
      obtain ⟨_, b', o, ha, hc⟩ := hi 0 (by omega)
      rw [hv, ha] at ho
      simp [Value.ownBlock] at ho
      obtain ⟨hs, _⟩ := hi 0 (by omega)
      have hz : S.size ≠ 0 := by
        obtain ⟨_, _, _, _, h5⟩ := arow k _ hk
        exact sizesOK_get hsz (by obtain ⟨S2, y2, e2, _, _, h6⟩ := arow k _ hk; simp at e2; rw [h6]; obtain ⟨e3, e4, e5, e6, e7⟩ := e2; cases S; cases S2; simp_all)
      have hpos : 0 < (S.get (0 : Nat)).length := by rw [hs]; omega
      have := World.block_lt_of_cell? w _ (hc 0 _ (List.getElem?_eq_getElem hpos))
      simp at this
      omega
  · obtain ⟨S, y, rfl, _, _, h5⟩ := arow k R hk
    exact sizesOK_get (R := S) hsz h5
  · simp [E7, CS] at hj
  · obtain ⟨S, y, rfl, _⟩ := arow k R hk
    cases ho
  · obtain ⟨S, y, rfl, hy, hR, _⟩ := arow k R hk
    obtain ⟨U, hU⟩ := hR.2 xs hs
    simp only [hy, Option.getD_some]
    refine ⟨U, hU, fun j cs hj => by simp [E7, CS] at hj, fun j T hj hn => ?_⟩
    obtain ⟨S', y', rfl, _⟩ := arow j T hj
    cases hn
  · exact hfz t ht

/-- **A function's contract, out of its code.** -/
theorem callOK_of_awp {c : Cx} (hc : OK c) {f : FuncId} {fn : Func} {code : Code} (hf : c.P.funcs[f]? = some fn) (hname : (fn.name == "runtime.NumGoroutine") = false) (hb : fn.body = some code) (hN : fn.ntmps = c.N)
    {args : List V} {rws : List (Option Row)} {ret : List RV} (hle : args.length ≤ c.N) (hsz : sizesOK rws) (h : awp c code (E1 c fn.results.toList ret) (E7 args rws)) (hrd : c.rd = false := by rfl) (hit : c.it = false := by rfl) (hfz : c.fz = [] := by rfl) (hnb : AU args = true := by rfl) : CallOK c.P f args rws ret := by
  refine ⟨fun ys w => ?_, fun ys w hy => ?_⟩
  · have h1 : fn.name ≠ "runtime.NumGoroutine" := by simpa using hname
    simp [callFunc, hf, h1, hb, mark]
  · have hr := start_rel hN hle hsz hit hnb hy #[] (fun t ht => by rw [hfz] at ht; simp at ht)
    refine (callsIn_wide (n := 0)).1 (callsIn_of_wp_marks hf hb trivial (Code.wpIn_mono ?_ (awp_sound hc code _ _ h none (by rw [hrd]; rfl) (Gen.none c) _ (fun hi => by rw [hit] at hi; cases hi) _ _ _ w hr)))
    rintro e a' w' ⟨w0', β', ρ', σ', ⟨_, hE⟩, hq, hr'⟩
    obtain rfl := hE.same hit
    have fin : (match E5 c σ' fn.results.toList with | some vs => E6 σ' vs ret | none => False) →
        LeavesInM (Fw none) 0 c.P fn a'.tmps (fun e w' => ∃ zs, e = .returned (retVal zs) ∧ retOK c.P ys w w' ret zs ∧ Below w.heap.size w w') a'.defers .returning w' := by
      intro hq
      cases hv : E5 c σ' fn.results.toList with
      | none => rw [hv] at hq; exact hq.elim
      | some vs =>
        rw [hv] at hq
        exact leaves hc hit hv hq _ _ _ hr'
    cases e with
    | normal => exact fin hq
    | ret => exact fin hq
    | exit id => exact hq.elim
    | goto l => exact hq.elim
    | panic ch => exact hq.elim
    | outgrown => exact hq.elim

end Go.Ab
