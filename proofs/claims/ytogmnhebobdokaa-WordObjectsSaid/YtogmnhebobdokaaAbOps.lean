/- The abstract layer, part 3: each operation comes to what its evaluation says. -/
import Derived.Test.YtogmnhebobdokaaAbRel
import Derived.Laws.Entries
import Derived.Laws.BytesArg
import Derived.Laws.Tables
import Derived.ChangeKeysEq
import Derived.Laws.StructEq
set_option linter.unusedVariables false
set_option linter.unusedSimpArgs false
namespace Go.Ab
open Go Go.RowKit

def viewOK : TypeDesc → DV → Prop
  | .struct fs, .st l => fs.toList.map (fun f => (f.offset, f.type)) = l
  | .int k, .int k' => k = k'
  | .slice e, .sl e' => e = e'
  | .string, .str => True
  | .bool, .bool => True
  | .func _ _ _, .fn => True
  | d, .other => d.isRow = false
  | _, _ => False

/-- The table speaks of this program. -/
def TOK1 (P : Program) (t : Nat) (ti : TInfo) : Prop :=
  (P.info? t).map (fun i => (i.size, i.zero.map (·.cells))) = some (ti.size, some ti.zero.toArray) ∧ ∃ d, P.underlying t = some d ∧ viewOK d ti.view
def TOK (P : Program) (τ : List (Nat × TInfo)) : Prop := ∀ t ti, CS τ t = some ti → TOK1 P t ti

section
variable {P : Program} {t : Nat} {ti : TInfo} (h : TOK1 P t ti) (w : World)
include h

theorem tok_info : ∃ i, P.info? t = some i ∧ i.size = ti.size ∧ ∃ z, i.zero = some z ∧ z.cells = ti.zero.toArray := by
  obtain ⟨h1, _⟩ := h
  cases hi : P.info? t with
  | none => rw [hi] at h1; simp at h1
  | some i =>
    rw [hi] at h1
    simp only [Option.map_some, Option.some.injEq, Prod.mk.injEq] at h1
    cases hz : i.zero with
    | none => rw [hz] at h1; simp at h1
    | some z => rw [hz] at h1; exact ⟨i, rfl, h1.1, z, hz, by simpa using h1.2⟩

theorem tok_size : (sizeOf t).run P w = .ok ti.size w := by
  obtain ⟨i, hi, hs, _⟩ := tok_info h
  simp [sizeOf, typeInfo, hi, hs]

theorem tok_zsize {i : TypeInfo} {z : Value} (hi : P.info? t = some i) (hz : i.zero = some z) : z.cells.size = ti.zero.length := by
  obtain ⟨h1, _⟩ := h
  rw [hi] at h1
  simp only [Option.map_some, Option.some.injEq, Prod.mk.injEq, hz] at h1
  rw [h1.2]; simp

theorem tok_zero : ∃ z, (zeroValue t).run P w = .ok z w ∧ z.cells = ti.zero.toArray := by
  obtain ⟨i, hi, _, z, hz, hc⟩ := tok_info h
  exact ⟨z, by simp [zeroValue, typeInfo, hi, hz], hc⟩

theorem tok_agg : (isAgg t).run P w = .ok ti.view.agg w := by
  obtain ⟨_, d, hd, hv⟩ := h
  cases d <;> cases hw : ti.view <;> rw [hw] at hv <;> simp [viewOK, TypeDesc.isRow] at hv <;> simp [isAgg, run_underlying hd, DV.agg]

theorem tok_row : ∃ d, P.underlying t = some d ∧ d.isRow = ti.view.agg := by
  obtain ⟨_, d, hd, hv⟩ := h
  refine ⟨d, hd, ?_⟩
  cases d <;> cases hw : ti.view <;> rw [hw] at hv <;> simp [viewOK, TypeDesc.isRow] at hv <;> simp [TypeDesc.isRow, DV.agg]

theorem tok_st {l : List (Nat × TypeId)} (hv : ti.view = .st l) : ∃ fs, P.underlying t = some (.struct fs) ∧ fs.toList.map (fun f => (f.offset, f.type)) = l := by
  obtain ⟨_, d, hd, hw⟩ := h
  rw [hv] at hw
  cases d <;> simp [viewOK] at hw
  exact ⟨_, hd, hw⟩
theorem tok_sl {e : TypeId} (hv : ti.view = .sl e) : P.underlying t = some (.slice e) := by
  obtain ⟨_, d, hd, hw⟩ := h
  rw [hv] at hw
  cases d <;> simp [viewOK] at hw
  subst hw; exact hd
theorem tok_str (hv : ti.view = .str) : P.underlying t = some .string := by
  obtain ⟨_, d, hd, hw⟩ := h
  rw [hv] at hw
  cases d <;> simp [viewOK] at hw
  exact hd
theorem tok_int {k : IntKind} (hv : ti.view = .int k) : P.underlying t = some (.int k) := by
  obtain ⟨_, d, hd, hw⟩ := h
  rw [hv] at hw
  cases d <;> simp [viewOK] at hw
  subst hw; exact hd
end

theorem add_mid (b o j : Nat) : (⟨b, o, none⟩ : Addr).add j = ⟨b, o + j, none⟩ := Addr.add_mid b o j

/-- Cells that are there are read whole. -/
theorem run_loadAt {P : Program} {t : Nat} {ti : TInfo} (h : TOK1 P t ti) (w : World) (b o : Nat) (us : List Value)
    (hc : ∀ (j : Nat) (u : Value), us[j]? = some u → w.cell? ⟨b, o + j, none⟩ = some u) (hl : if ti.view.agg then us.length = ti.size else us.length = 1) :
    (Instr.loadAt t (.pointer (some ⟨b, o, none⟩))).run P w = .ok (if ti.view.agg then .agg us.toArray else us[0]?.getD undef) w := by
  simp only [Instr.loadAt, Instr.sureAddr, Sem.run_bind, Sem.run_pure, Result.andThen_ok]
  cases hv : ti.view.agg with
  | true =>
    rw [hv] at hl
    obtain ⟨d, hd, hr⟩ := tok_row h
    obtain ⟨i, hi, hs, _⟩ := tok_info h
    simp only [if_true] at hl ⊢
    exact run_loadVar_mid (P := P) w b o t us d hc hd (by rw [hr, hv]) (by rw [hi]; simp [hs, hl])
  | false =>
    rw [hv] at hl
    simp only [Bool.false_eq_true, if_false] at hl ⊢
    obtain ⟨u, rfl⟩ : ∃ u, us = [u] := by
      match us, hl with
      | [u], _ => exact ⟨u, rfl⟩
    have := hc 0 u rfl
    rw [Nat.add_zero] at this
    simp [loadVar, tok_agg h, hv, load, Sem.run, this]

theorem vals_spec {β : Nat → Nat} {ρ : Nat → Value} : ∀ {l : List V} {xs : List Value}, D9 l = some xs → l = xs.map .v
  | [], xs, h => by simp [D9] at h; subst h; rfl
  | .v x :: l, xs, h => by
    simp only [D9] at h
    cases hl : D9 l with
    | none => rw [hl] at h; simp at h
    | some ys => rw [hl] at h; simp at h; subst h; rw [vals_spec (β := β) (ρ := ρ) hl]; rfl
  | .p .. :: _, _, h => by simp [D9] at h
  | .r .. :: _, _, h => by simp [D9] at h
  | .e .. :: _, _, h => by simp [D9] at h
  | .q .. :: _, _, h => by simp [D9] at h
  | .tr .. :: _, _, h => by simp [D9] at h
  | .d :: _, _, h => by simp [D9] at h

theorem map_conc_v (β : Nat → Nat) (ρ : Nat → Value) (xs : List Value) : (xs.map V.v).map (conc β ρ) = xs := by
  induction xs with
  | nil => rfl
  | cons x xs ih => simp [conc]; simpa using ih

/-- A variable's value, read out of its cells. -/
theorem whole_load {P : Program} {t : Nat} {ti : TInfo} (h : TOK1 P t ti) {β : Nat → Nat} {ρ : Nat → Value} (w : World) (b o : Nat) (cs : List V) (v : V) (hw : DA ti cs = some v)
    (hc : ∀ (j : Nat) (u : Value), (cs.map (conc β ρ))[j]? = some u → w.cell? ⟨b, o + j, none⟩ = some u) :
    (Instr.loadAt t (.pointer (some ⟨b, o, none⟩))).run P w = .ok (conc β ρ v) w := by
  unfold DA at hw
  cases hv : ti.view.agg with
  | true =>
    rw [hv] at hw
    simp only [if_true] at hw
    split at hw
    · rename_i hle
      cases hx : D9 (cs.take ti.size) with
      | none => rw [hx] at hw; simp at hw
      | some l =>
        rw [hx] at hw
        simp at hw
        subst hw
        have e := vals_spec (β := β) (ρ := ρ) hx
        have hlen : l.length = ti.size := by
          have := congrArg List.length e
          simp at this
          omega
        have := run_loadAt h w b o l (fun j u hu => hc j u (by
          have h1 : (cs.take ti.size).map (conc β ρ) = l := by rw [e, map_conc_v]
          rw [← h1] at hu
          rw [List.map_take] at hu
          rw [List.getElem?_take] at hu
          split at hu
          · exact hu
          · simp at hu)) (by rw [hv]; exact hlen)
        rw [this, hv]
        rfl
    · simp at hw
  | false =>
    rw [hv] at hw
    simp only [Bool.false_eq_true, if_false] at hw
    have := run_loadAt h w b o [conc β ρ v] (fun j u hu => hc j u (by
      cases j with
      | zero => simp at hu; subst hu; simp [List.getElem?_map, hw]
      | succ j => simp at hu)) (by rw [hv]; simp)
    rw [this, hv]
    simp

theorem a1_some {β : Type} {l : List V} {f : V → Option β} {r : β} (h : CW l f = some r) : ∃ x, l = [x] ∧ f x = some r := by
  match l, h with
  | [x], h => exact ⟨x, rfl, h⟩
theorem a2_some {β : Type} {l : List V} {f : V → V → Option β} {r : β} (h : CX l f = some r) : ∃ x y, l = [x, y] ∧ f x y = some r := by
  match l, h with
  | [x, y], h => exact ⟨x, y, rfl, h⟩
theorem a3_some {β : Type} {l : List V} {f : V → V → V → Option β} {r : β} (h : CY l f = some r) : ∃ x y z, l = [x, y, z] ∧ f x y z = some r := by
  match l, h with
  | [x, y, z], h => exact ⟨x, y, z, rfl, h⟩
theorem onInt_some {β : Type} {x : V} {f : IntKind → Int → Option β} {r : β} (h : CZ x f = some r) : ∃ k n, x = .v (.int k n) ∧ f k n = some r := by
  unfold CZ at h
  split at h
  · exact ⟨_, _, rfl, h⟩
  · simp at h
theorem onBool_some {β : Type} {x : V} {f : Bool → Option β} {r : β} (h : D0 x f = some r) : ∃ b, x = .v (.bool b) ∧ f b = some r := by
  unfold D0 at h
  split at h
  · exact ⟨_, rfl, h⟩
  · simp at h

theorem cmpI_run (P : Program) (w : World) (o : BinOp) (a b : Int) (r : Bool) (h : D2 o a b = some r) : (Op.intCmp o a b).run P w = .ok (.bool r) w := by
  cases o <;> simp [D2] at h <;> subst h <;> simp [Op.intCmp]

theorem arithI_run (P : Program) (w : World) (t : TypeId) (o : BinOp) (k : IntKind) (a b : Int) (x y : Operand) (ob : Prop) (v : V) (β : Nat → Nat) (ρ : Nat → Value) (h : D3 o k a b = some (ob, v)) (hob : ob) (hne : o ≠ .shl ∧ o ≠ .shr) :
    (do eqGuard o t x y (.int k a) (.int k b); binOp o t (.int k a) (.int k b)).run P w = .ok (conc β ρ v) w ∧ v ≠ .d := by
  cases o <;> simp [D3, D2] at h <;> (try obtain ⟨hb, rfl⟩ := h) <;> simp_all [eqGuard, binOp, Op.intArith, Op.intDiv, Op.intCmp, conc]

/-- The table of struct types that are compared speaks of this program. -/
def EQOK (P : Program) (eqs : List (Nat × List (Option IntKind))) : Prop :=
  ∀ t ls, CS eqs t = some ls → P.eqGuardType P.depth t = false ∧ ∀ (xs ys : Array Value) (r : Bool) (w : World), D6 ls xs.toList ys.toList = some r → (Op.equal t (.agg xs) (.agg ys)).run P w = .ok r w

theorem eq_bool {P : Program} {t : TypeId} (hu : P.underlying t = some .bool) (w : World) (a b : Bool) : (Op.equal t (.bool a) (.bool b)).run P w = .ok (a == b) w :=
  run_equalIn_bool w 9999 t a b hu

theorem binV_bool {P : Program} {t : TypeId} (hu : P.underlying t = some .bool) (w : World) (x y : Operand) (a b : Bool) :
    (do eqGuard .eql t x y (.bool a) (.bool b); binOp .eql t (.bool a) (.bool b)).run P w = .ok (.bool (a == b)) w ∧
    (do eqGuard .neq t x y (.bool a) (.bool b); binOp .neq t (.bool a) (.bool b)).run P w = .ok (.bool (!(a == b))) w := by
  constructor <;> simp only [eqGuard, binOp, Sem.run_bind, eq_bool hu] <;> simp [eq_bool hu]

theorem binV_agg {P : Program} {t : TypeId} (hg : P.eqGuardType P.depth t = false) (w : World) (x y : Operand) (a b : Array Value) (r : Bool) (hr : (Op.equal t (.agg a) (.agg b)).run P w = .ok r w) :
    (do eqGuard .eql t x y (.agg a) (.agg b); binOp .eql t (.agg a) (.agg b)).run P w = .ok (.bool r) w ∧
    (do eqGuard .neq t x y (.agg a) (.agg b); binOp .neq t (.agg a) (.agg b)).run P w = .ok (.bool (!r)) w := by
  constructor <;> simp only [eqGuard, binOp, Sem.run_bind] <;> simp [program, Sem.run, hg, hr]

theorem binV_str (P : Program) (t : TypeId) (w : World) (x y : Operand) (a b : ByteArray) :
    (do eqGuard .eql t x y (.string a) (.string b); binOp .eql t (.string a) (.string b)).run P w = .ok (.bool (a.toList == b.toList)) w ∧
    (do eqGuard .neq t x y (.string a) (.string b); binOp .neq t (.string a) (.string b)).run P w = .ok (.bool (!(a.toList == b.toList))) w ∧
    (a.size + b.size ≤ 9223372036854775807 → (do eqGuard .add t x y (.string a) (.string b); binOp .add t (.string a) (.string b)).run P w = .ok (.string (a ++ b)) w) := by
  refine ⟨by simp [eqGuard, binOp, Op.stringOp], by simp [eqGuard, binOp, Op.stringOp], fun h => ?_⟩
  have : ¬ ((((a.size + b.size : Nat)) : Int) > IntKind.i64.max) := by
    have e : IntKind.i64.max = 9223372036854775807 := by decide
    rw [e]; omega
  simp only [eqGuard, binOp, Op.stringOp]
  rw [if_neg this]
  simp

theorem isBool_spec {c : Cx} (hτ : TOK c.P c.τ) {t : TypeId} (h : D7 c t DV.isBool = true) : c.P.underlying t = some .bool := by
  unfold D7 at h
  cases ht : CS c.τ t with
  | none => rw [ht] at h; simp at h
  | some ti =>
    rw [ht] at h
    dsimp only at h
    obtain ⟨_, d, hd, hw⟩ := hτ t ti ht
    cases hv : ti.view <;> rw [hv] at h hw <;> simp [DV.isBool] at h
    cases d <;> simp [viewOK] at hw
    exact hd

theorem binV_sound {c : Cx} (hτ : TOK c.P c.τ) (hq : EQOK c.P c.eqs) (w : World) {t : TypeId} {o : BinOp} {x y v : V} {ob : Prop} (β : Nat → Nat) (ρ : Nat → Value) (p q : Operand) (he : D4 c t o x y = some (ob, v)) (hob : ob) :
    (do eqGuard o t p q (conc β ρ x) (conc β ρ y); binOp o t (conc β ρ x) (conc β ρ y)).run c.P w = .ok (conc β ρ v) w ∧ v ≠ .d := by
  unfold D4 at he
  split at he
  · split at he
    · rename_i hk
      subst hk
      have hne : o ≠ .shl ∧ o ≠ .shr := by constructor <;> rintro rfl <;> simp [D3, D2] at he
      exact arithI_run c.P w t o _ _ _ p q ob v β ρ he hob hne
    · simp at he
  · have := binV_str c.P t w p q
    split at he <;> simp only [Option.some.injEq, Prod.mk.injEq, reduceCtorEq] at he <;> obtain ⟨rfl, rfl⟩ := he <;> refine ⟨?_, by simp⟩
    · exact (this _ _).1
    · exact (this _ _).2.1
    · exact (this _ _).2.2 hob
  · split at he
    · rename_i hb
      have := binV_bool (isBool_spec hτ hb) w p q
      split at he <;> simp only [Option.some.injEq, Prod.mk.injEq, reduceCtorEq] at he <;> obtain ⟨rfl, rfl⟩ := he <;> refine ⟨?_, by simp⟩
      · exact (this _ _).1
      · exact (this _ _).2
    · simp at he
  · split at he
    · rename_i ls hls
      obtain ⟨hg, hr⟩ := hq t ls hls
      split at he
      · rename_i r hr'
        have := binV_agg hg w p q _ _ r (hr _ _ r w hr')
        split at he <;> simp only [Option.some.injEq, Prod.mk.injEq, reduceCtorEq] at he <;> obtain ⟨rfl, rfl⟩ := he <;> refine ⟨?_, by simp⟩
        · exact this.1
        · exact this.2
      · simp at he
    · simp at he
  · simp at he

theorem bt_get (s : ByteArray) (i : Int) (h0 : 0 ≤ i) (h1 : i < s.size) : ∃ u : UInt8, s[i.toNat]? = some u ∧ bt s i = u.toNat := by
  have hl : i.toNat < s.size := by omega
  exact ⟨s[i.toNat], by simp [hl], by simp [bt, hl]⟩

theorem fieldOf_spec {c : Cx} (hτ : TOK c.P c.τ) {s : TypeId} {f off : Nat} {ft : TypeId} (h : DC c s f = some (off, ft)) :
    ∃ fs, c.P.underlying s = some (.struct fs) ∧ ∃ fd, fs[f]? = some fd ∧ fd.offset = off ∧ fd.type = ft ∧ ∃ tf, CS c.τ ft = some tf ∧ tf.size ≠ 0 := by
  unfold DC at h
  cases hs : CS c.τ s with
  | none => rw [hs] at h; simp at h
  | some ti =>
    rw [hs] at h
    dsimp only at h
    cases hv : ti.view <;> rw [hv] at h <;> simp only [] at h <;> try (simp at h; done)
    rename_i l
    obtain ⟨fs, hu, hl⟩ := tok_st (hτ s ti hs) hv
    refine ⟨fs, hu, ?_⟩
    cases hf : l[f]? with
    | none => rw [hf] at h; simp at h
    | some p =>
      obtain ⟨o', ft'⟩ := p
      rw [hf] at h
      simp only [] at h
      cases ht : CS c.τ ft' with
      | none => rw [ht] at h; simp at h
      | some tf =>
        rw [ht] at h
        simp only [] at h
        split at h
        · simp at h
        · rename_i hz
          simp only [Option.some.injEq, Prod.mk.injEq] at h
          obtain ⟨rfl, rfl⟩ := h
          rw [← hl] at hf
          simp only [List.getElem?_map] at hf
          cases hg : fs.toList[f]? with
          | none => rw [hg] at hf; simp at hf
          | some fd =>
            rw [hg] at hf
            simp only [Option.map_some, Option.some.injEq, Prod.mk.injEq] at hf
            exact ⟨fd, by simpa using hg, hf.1, hf.2, tf, ht, hz⟩

theorem fieldAt_run {c : Cx} (hτ : TOK c.P c.τ) (w : World) {s : TypeId} {f off : Nat} {ft : TypeId} (h : DC c s f = some (off, ft)) (b o : Nat) :
    (Instr.fieldAt s (.pointer (some ⟨b, o, none⟩)) f).run c.P w = .ok (.pointer (some ⟨b, o + off, none⟩)) w := by
  obtain ⟨fs, hu, fd, hf, ho, ht, tf, hl, hz⟩ := fieldOf_spec hτ h
  subst ho; subst ht
  simp [Instr.fieldAt, run_underlying hu, hf, Instr.sureAddr, fieldPlace, tok_size (hτ _ tf hl), hz, add_mid]

theorem take_set1 {α : Type} (l : List α) (m : Nat) (v : α) (h : m < l.length) : (l.set m v).take (m + 1) = l.take m ++ [v] := by
  rw [List.set_eq_take_append_cons_drop, if_pos h, List.take_append]
  have : (l.take m).length = m := by simp; omega
  rw [this]
  simp [List.take_take]
theorem drop_set1 {α : Type} (l : List α) (m k : Nat) (v : α) : (l.set m v).drop (m + 1 + k) = l.drop (m + 1 + k) := by
  rw [List.drop_set, if_pos (by omega)]

theorem fold_set (off : Nat) : ∀ (vs : List Value) (n : Nat) (cs : Array Value), off + n + vs.length ≤ cs.size →
    (vs.zipIdx n).foldl (fun cs (p : Value × Nat) => cs.setIfInBounds (off + p.2) p.1) cs = (cs.toList.take (off + n) ++ vs ++ cs.toList.drop (off + n + vs.length)).toArray
  | [], n, cs, _ => by simp
  | v :: vs, n, cs, h => by
    simp only [List.length_cons] at h
    simp only [List.zipIdx_cons, List.foldl_cons]
    rw [fold_set off vs (n + 1) _ (by simp; omega)]
    congr 1
    have hlt : off + n < cs.toList.length := by simp; omega
    simp only [Array.toList_setIfInBounds]
    rw [show off + (n + 1) = off + n + 1 from rfl, take_set1 _ _ _ hlt, drop_set1]
    simp only [List.length_cons, List.append_assoc, List.cons_append, List.nil_append]
    rw [show off + n + 1 + vs.length = off + n + (vs.length + 1) by omega]

theorem mapM_get {α β : Type} {f : α → Option β} : ∀ {l : List α} {r : List β}, l.mapM f = some r → ∀ {i : Nat} {x : α} {y : β}, l[i]? = some x → f x = some y → r[i]? = some y
  | [], r, h, i, x, y, hx, hy => by simp at hx
  | a :: l, r, h, i, x, y, hx, hy => by
    simp only [List.mapM_cons, Option.bind_eq_bind, Option.pure_def] at h
    cases ha : f a with
    | none => rw [ha] at h; simp at h
    | some b =>
      rw [ha] at h
      cases hl : l.mapM f with
      | none => rw [hl] at h; simp at h
      | some bs =>
        rw [hl] at h
        simp at h
        subst h
        cases i with
        | zero => simp at hx; subst hx; rw [ha] at hy; simpa using hy
        | succ i => simp at hx; simpa using mapM_get hl hx hy

theorem fills_fill {c : Cx} (hτ : TOK c.P c.τ) {t : TypeId} {fs : Array Field} (hu : c.P.underlying t = some (.struct fs)) (pl : List (Nat × Nat))
    (hp : fs.toList.mapM (fun f => (c.P.info? f.type).map fun i => (f.offset, i.size)) = some pl) :
    ∀ (is : List Nat) (xs : List V) (cs us : List Value) (ys : List Value), DF c t cs is xs = some us → xs = ys.map .v → Instr.fill (pl.toArray[·]?) cs.toArray (is.zip ys) = some us.toArray
  | [], [], cs, us, ys, h, hy => by
    simp [DF] at h; subst h
    simp at hy; subst hy
    simp [Instr.fill]
  | [], _ :: _, cs, us, ys, h, hy => by simp [DF] at h
  | _ :: _, [], cs, us, ys, h, hy => by simp [DF] at h
  | i :: is, x :: xs, cs, us, ys, h, hy => by
    cases ys with
    | nil => simp at hy
    | cons y ys =>
      simp only [List.map_cons, List.cons.injEq] at hy
      obtain ⟨rfl, hy⟩ := hy
      simp only [DF] at h
      cases hf : DC c t i with
      | none => rw [hf] at h; simp at h
      | some q =>
        obtain ⟨off, ft⟩ := q
        rw [hf] at h
        dsimp only at h
        obtain ⟨fs', hu', fd, hfd, ho, hft, tf, hl, hz⟩ := fieldOf_spec hτ hf
        rw [hu] at hu'
        obtain rfl : fs = fs' := by simpa using hu'
        rw [hl] at h
        dsimp only at h
        split at h
        · rename_i hle
          obtain ⟨ii, hi, his, _⟩ := tok_info (hτ ft tf hl)
          have hpl : pl[i]? = some (off, tf.size) := by
            have h2 : fs.toList[i]? = some fd := by simpa using hfd
            exact mapM_get hp h2 (by simp [hft, hi, ho, his])
          simp only [List.zip_cons_cons, Instr.fill]
          rw [List.getElem?_toArray, hpl]
          dsimp only
          have hn : ¬ (y.cells.size ≠ tf.size ∨ off + y.cells.size > cs.toArray.size) := by
            have := hle.1
            have := hle.2
            simp at *
            omega
          rw [if_neg (by simpa using hn)]
          rw [← Array.foldl_toList]
          rw [Array.toList_zipIdx]
          have := fold_set off y.cells.toList 0 cs.toArray (by have := hle.1; have := hle.2; simp at *; omega)
          simp only [Nat.add_zero] at this
          rw [show (fun (cs : Array Value) (x : Value × Nat) => match x with | (c, j) => cs.setIfInBounds (off + j) c) = fun cs p => cs.setIfInBounds (off + p.2) p.1 from rfl, this]
          have hl1 := hle.1
          rw [hl1]
          exact fills_fill hτ hu pl hp is xs _ us ys h hy
        · simp at h

theorem boxOf_some {σ : St} {x : V} {cs : List V} (h : DH σ x = some cs) : ∃ k o, x = .p k o ∧ CS σ.b k = some (some cs) := by
  unfold DH at h
  split at h
  · rename_i k o
    cases hl : CS σ.b k with
    | none => rw [hl] at h; simp at h
    | some u => rw [hl] at h; simp at h; subst h; exact ⟨k, o, rfl, hl⟩
  · simp at h
theorem rowOf_r {σ : St} {k : Nat} {R : Row} (h : DG σ (.r k) = some R) : CS σ.x k = some (some R) := by
  unfold DG at h
  cases hl : CS σ.x k with
  | none => simp [hl] at h
  | some u => simp [hl] at h; subst h; rfl
theorem rowOf_e {σ : St} {k : Nat} {i : Int} {s o : Nat} {R : Row} (h : DG σ (.e k i s o) = some R) : CS σ.x k = some (some R) := by
  unfold DG at h
  cases hl : CS σ.x k with
  | none => simp [hl] at h
  | some u => simp [hl] at h; subst h; rfl

theorem slOf_spec {c : Cx} (hτ : TOK c.P c.τ) {t : TypeId} {n : Nat} (h : D8 c t n = true) (w : World) : ∃ e, c.P.underlying t = some (.slice e) ∧ (sizeOf e).run c.P w = .ok n w := by
  unfold D8 at h
  cases ht : CS c.τ t with
  | none => rw [ht] at h; simp at h
  | some ti =>
    rw [ht] at h
    dsimp only at h
    cases hv : ti.view <;> rw [hv] at h <;> simp only [] at h <;> try (simp at h; done)
    rename_i e
    cases he : CS c.τ e with
    | none => rw [he] at h; simp at h
    | some te =>
      rw [he] at h
      simp at h
      exact ⟨e, tok_sl (hτ t ti ht) hv, by rw [← h]; exact tok_size (hτ e te he) w⟩
theorem isStr_spec {c : Cx} (hτ : TOK c.P c.τ) {t : TypeId} (h : D7 c t DV.isStr = true) : c.P.underlying t = some .string := by
  unfold D7 at h
  cases ht : CS c.τ t with
  | none => rw [ht] at h; simp at h
  | some ti =>
    rw [ht] at h
    dsimp only at h
    cases hv : ti.view <;> rw [hv] at h <;> simp [DV.isStr] at h
    exact tok_str (hτ t ti ht) hv
theorem isFn_spec {c : Cx} (hτ : TOK c.P c.τ) {t : TypeId} (h : D7 c t DV.isFn = true) : ∃ a b d, c.P.underlying t = some (.func a b d) := by
  unfold D7 at h
  cases ht : CS c.τ t with
  | none => rw [ht] at h; simp at h
  | some ti =>
    rw [ht] at h
    dsimp only at h
    obtain ⟨_, d, hd, hw⟩ := hτ t ti ht
    cases hv : ti.view <;> rw [hv] at h hw <;> simp [DV.isFn] at h
    cases d <;> simp [viewOK] at hw
    exact ⟨_, _, _, hd⟩
theorem boxKeys_conc (β : Nat → Nat) (ρ : Nat → Value) : ∀ {l : List V} {ks : List Nat}, AN l = some ks → l.map (conc β ρ) = ks.map fun k => .pointer (some ⟨β k, 0, none⟩)
  | [], ks, h => by simp [AN] at h; subst h; rfl
  | .p k 0 :: l, ks, h => by
    simp only [AN] at h
    cases hl : AN l with
    | none => rw [hl] at h; simp at h
    | some js =>
      rw [hl] at h
      simp at h
      subst h
      simp only [List.map_cons, conc, boxKeys_conc β ρ hl]
  | .p k (n + 1) :: l, ks, h => by simp [AN] at h
  | .v _ :: _, _, h => by simp [AN] at h
  | .r _ :: _, _, h => by simp [AN] at h
  | .s .. :: _, _, h => by simp [AN] at h
  | .e .. :: _, _, h => by simp [AN] at h
  | .q .. :: _, _, h => by simp [AN] at h
  | .tr .. :: _, _, h => by simp [AN] at h
  | .c .. :: _, _, h => by simp [AN] at h
  | .d :: _, _, h => by simp [AN] at h
theorem isSl_spec {c : Cx} (hτ : TOK c.P c.τ) {t : TypeId} (h : D7 c t DV.isSl = true) : ∃ e, c.P.underlying t = some (.slice e) := by
  unfold D7 at h
  cases ht : CS c.τ t with
  | none => rw [ht] at h; simp at h
  | some ti =>
    rw [ht] at h
    dsimp only at h
    cases hv : ti.view <;> rw [hv] at h <;> simp [DV.isSl] at h
    exact ⟨_, tok_sl (hτ t ti ht) hv⟩

theorem whole_alive {ti : TInfo} {cs : List V} {v : V} (h : DA ti cs = some v) (hcs : ∀ u ∈ cs, u ≠ .d) : v ≠ .d := by
  unfold DA at h
  split at h
  · split at h
    · split at h
      · simp at h; subst h; simp
      · simp at h
    · simp at h
  · exact hcs v (List.mem_of_getElem? h)

section
variable {c : Cx} {w0 : Env} {β : Nat → Nat} {ρ : Nat → Value} {σ : St} {a : Act} {w : World} (hτ : TOK c.P c.τ) (hq : EQOK c.P c.eqs) (h : Rel c w0 β ρ σ a w)
include hτ hq h

omit hτ hq h in
theorem plainR_some {r : Option Row} {R : Row} (hr : AL r = some R) : r = some R ∧ R.sp = none := by
  unfold AL at hr
  split at hr
  · split at hr
    · simp at hr
    · rename_i hs; simp at hr; subst hr; exact ⟨rfl, hs⟩
  · simp at hr

omit hq in
theorem loadV_sound {t : TypeId} {x v : V} {ob : Prop} (he : DB c t (AL (DG σ x)) (DH σ x) x = some (ob, v)) (hob : ob) :
    (Instr.loadAt t (conc β ρ x)).run c.P w = .ok (conc β ρ v) w ∧ v ≠ .d := by
  unfold DB at he
  cases x <;> simp only [] at he <;> try (simp at he; done)
  case p k off =>
    cases ht : CS c.τ t with
    | none => rw [ht] at he; simp at he
    | some ti =>
      cases hb : DH σ (.p k off) with
      | none => rw [ht, hb] at he; simp at he
      | some cs =>
        rw [ht, hb] at he
        dsimp only at he
        cases hw : DA ti (cs.drop off) with
        | none => rw [hw] at he; simp at he
        | some u =>
          rw [hw] at he
          simp at he
          obtain ⟨_, rfl⟩ := he
          obtain ⟨k', o', e, hl⟩ := boxOf_some hb
          simp at e
          obtain ⟨rfl, rfl⟩ := e
          obtain ⟨_, T, hT⟩ := h.boxes k cs hl
          refine ⟨whole_load (hτ t ti ht) w _ _ _ _ hw (fun j u hu => ?_), whole_alive hw (fun u hu => h.balive k cs hl u (List.mem_of_mem_drop hu))⟩
          rw [cell_of_block hT]
          rw [List.map_drop, List.getElem?_drop] at hu
          simpa using hu
  case e k i s off =>
    cases ht : CS c.τ t with
    | none => rw [ht] at he; simp at he
    | some ti =>
      cases hb : AL (DG σ (.e k i s off)) with
      | none => rw [ht, hb] at he; simp at he
      | some R =>
        rw [ht, hb] at he
        dsimp only at he
        split at he
        · rename_i hs
          cases hw : DA ti (((R.get i).drop off).map .v) with
          | none => rw [hw] at he; simp at he
          | some u =>
            rw [hw] at he
            simp only [Option.map_some, Option.some.injEq, Prod.mk.injEq] at he
            obtain ⟨rfl, rfl⟩ := he
            obtain ⟨hb, hsp⟩ := plainR_some hb
            have hl := rowOf_e hb
            obtain ⟨a', c', hv, _, hi⟩ := (h.rows k R hl).1 hsp
            obtain ⟨n, rfl⟩ : ∃ n : Nat, i = n := ⟨i.toNat, by omega⟩
            obtain ⟨_, b, o, ha, hc⟩ := hi n (by omega)
            subst hs
            simp only [conc, hv, ha]
            refine ⟨whole_load (hτ t ti ht) w _ _ _ _ hw (fun j u hu => ?_), whole_alive hw (fun u hu => ?_)⟩
            · rw [map_conc_v, List.getElem?_drop] at hu
              have := hc (off + j) u hu
              rw [← this]
              congr 2
              simp; omega
            · obtain ⟨y, _, rfl⟩ := List.mem_map.1 hu; simp
        · simp at he

theorem evalV_sound (o : Oper) {args : List V} {v : V} {ob : Prop} (he : CN c o.op args ((args[0]?).bind (DG σ)) (DM args (DH σ)) = some (ob, v)) (hob : ob)
    (hxs : (CT o.op).map a.eval = args.map (conc β ρ)) (hal : ∀ u ∈ args, u ≠ .d) :
    (execOp a.eval o).run c.P w = .ok (.value (conc β ρ v)) w ∧ v ≠ .d := by
  cases hop : o.op <;> rw [hop] at he hxs <;> simp only [CN] at he <;> try (simp at he; done)
  case move x =>
    obtain ⟨y, rfl, hy⟩ := a1_some he
    simp at hy
    obtain ⟨_, rfl⟩ := hy
    simp [CT] at hxs
    exact ⟨by simp [execOp, hop, hxs], hal _ (by simp)⟩
  case assign x =>
    obtain ⟨y, rfl, hy⟩ := a1_some he
    simp at hy
    obtain ⟨_, rfl⟩ := hy
    simp [CT] at hxs
    exact ⟨by simp [execOp, hop, hxs], hal _ (by simp)⟩
  case build t ps =>
    cases ht : CS c.τ t with
    | none => rw [ht] at he; simp at he
    | some ti =>
      rw [ht] at he
      dsimp only at he
      cases hv : ti.view <;> rw [hv] at he <;> simp only [] at he <;> try (simp at he; done)
      rename_i l
      split at he
      · rename_i hall
        cases hf : DF c t ti.zero (ps.toList.map (·.1)) args with
        | none => rw [hf] at he; simp at he
        | some us =>
          rw [hf] at he
          simp at he
          obtain ⟨_, rfl⟩ := he
          refine ⟨?_, by simp⟩
          obtain ⟨fs, hu, hfs⟩ := tok_st (hτ t ti ht) hv
          obtain ⟨i, hi, _, z, hz, hzc⟩ := tok_info (hτ t ti ht)
          have hpl : ∃ pl, fs.toList.mapM (fun f => (c.P.info? f.type).map fun i => (f.offset, i.size)) = some pl := by
            have : ∀ (l : List Field), (∀ f ∈ l, ∃ i, c.P.info? f.type = some i) → ∃ pl, l.mapM (fun f => (c.P.info? f.type).map fun i => (f.offset, i.size)) = some pl := by
              intro l
              induction l with
              | nil => intro _; exact ⟨[], by simp⟩
              | cons f l ih =>
                intro hl
                obtain ⟨pl, hp⟩ := ih fun g hg => hl g (List.mem_cons_of_mem _ hg)
                obtain ⟨i, hi⟩ := hl f (by simp)
                exact ⟨(f.offset, i.size) :: pl, by simp [hp, hi]⟩
            refine this _ fun f hf' => ?_
            have hm : (f.offset, f.type) ∈ l := by rw [← hfs]; exact List.mem_map.2 ⟨f, hf', rfl⟩
            have := List.all_eq_true.1 hall _ hm
            cases hlk : CS c.τ f.type with
            | none => simp [hlk] at this
            | some tf => obtain ⟨i, hi, _⟩ := tok_info (hτ _ tf hlk); exact ⟨i, hi⟩
          obtain ⟨pl, hp⟩ := hpl
          have hargs : ∃ ys : List Value, args = ys.map V.v := by
            have : ∀ (is : List Nat) (xs : List V) (cs : List Value) {us : List Value}, DF c t cs is xs = some us → ∃ ys : List Value, xs = ys.map V.v := by
              intro is
              induction is with
              | nil => intro xs cs us hh; cases xs with | nil => exact ⟨[], rfl⟩ | cons x xs => simp [DF] at hh
              | cons i is ih =>
                intro xs cs us hh
                cases xs with
                | nil => simp [DF] at hh
                | cons x xs =>
                  simp only [DF] at hh
                  split at hh
                  · split at hh
                    · split at hh
                      · obtain ⟨ys, rfl⟩ := ih xs _ hh; exact ⟨_ :: ys, rfl⟩
                      · simp at hh
                    · simp at hh
                  · simp at hh
            exact this _ _ _ hf
          obtain ⟨ys, rfl⟩ := hargs
          have hfill := fills_fill hτ hu pl hp _ _ _ _ ys hf rfl
          have hb : c.P.built t ((ps.toList.map (·.1)).zip ys) = some us.toArray := by
            unfold Program.built
            rw [hi, hu]
            dsimp only
            rw [hz, hp]
            dsimp only
            rw [hzc]; exact hfill
          have hys : ps.toList.map (fun p => a.eval p.2) = ys := by
            rw [map_conc_v] at hxs
            simpa [CT, Function.comp_def] using hxs
          have hz2 : (ps.map fun (p : Nat × Operand) => (p.1, a.eval p.2)).toList = (ps.toList.map (·.1)).zip ys := by
            rw [← hys]
            simp [List.zip_map']
          have := run_build (P := c.P) w t (ps.map fun (p : Nat × Operand) => (p.1, a.eval p.2)) us.toArray (by rw [hz2]; exact hb)
          simp only [execOp, hop]
          simp [this, conc]
      · simp at he
  case load t x =>
    obtain ⟨y, rfl, hy⟩ := a1_some he
    simp [CT] at hxs
    have := loadV_sound hτ h (by simpa [DM] using hy) hob
    exact ⟨by simp [execOp, hop, hxs, this.1], this.2⟩
  case binOp o' t x y t2 =>
    obtain ⟨x', y', rfl, hy⟩ := a2_some he
    simp [CT] at hxs
    cases hb : D4 c t o' x' y' with
    | some r =>
      rw [hb] at hy
      simp only [Option.some.injEq] at hy
      subst hy
      have := binV_sound hτ hq w β ρ x y hb hob
      refine ⟨?_, this.2⟩
      simp only [execOp, hop, hxs.1, hxs.2]
      simp only [Sem.run_bind, Result.andThen_ok, Sem.run_pure] at this ⊢
      rw [this.1]
      rfl
    | none =>
      rw [hb] at hy
      dsimp only at hy
      unfold AM at hy
      split at hy
      · rename_i k R hrw
        split at hy
        · rename_i xs hsp
          split at hy
          · split at hy
            · rename_i hf
              simp only [Option.some.injEq, Prod.mk.injEq] at hy
              obtain ⟨rfl, rfl⟩ := hy
              simp only [List.getElem?_cons_zero, Option.bind_some] at hrw
              obtain ⟨U, w1, ⟨gf, lb, hv, _⟩, _⟩ := (h.rows k R (rowOf_r hrw)).2 xs hsp
              obtain ⟨f1, f2, f3, hu⟩ := isFn_spec hτ hf
              refine ⟨?_, by simp⟩
              simp only [conc, hv] at hxs ⊢
              simp only [execOp, hop, hxs.1, hxs.2]
              have hq : (Op.equal t (.func (.func gf) #[] lb) .nilFunc).run c.P w = .ok false w := by
                have : ∀ d, (Op.equalIn (d + 1) t (.func (.func gf) #[] lb) .nilFunc).run c.P w = .ok false w := fun d => by simp [Op.equalIn, run_underlying hu]
                exact this 9999
              simp only [eqGuard, binOp, Sem.run_bind]
              simp [hq]
            · simp at hy
          · simp at hy
        · simp at hy
      · simp at hy
  case makeFunc fn first cap =>
    split at he
    · rename_i f hfe
      cases hk : AN args with
      | none => rw [hk] at he; simp at he
      | some ks =>
        rw [hk] at he
        simp only [Option.map_some, Option.some.injEq, Prod.mk.injEq] at he
        obtain ⟨_, rfl⟩ := he
        have hf0 : first = #[] := by simpa using hfe
        subst hf0
        refine ⟨?_, by simp⟩
        have hx : (cap.map a.eval) = (ks.map fun k => (Value.pointer (some ⟨β k, 0, none⟩) : Value)).toArray := by
          apply Array.toList_inj.1
          have e := boxKeys_conc β ρ hk
          rw [e] at hxs
          simpa [CT] using hxs
        simp [execOp, hop, Instr.makeFunc, hx, conc]
    · simp at he
  case slice t x lo hi mx =>
    unfold AO at he
    split at he
    · rename_i hlo hhi hmx
      obtain ⟨lo, rfl⟩ := Option.isSome_iff_exists.1 hlo
      obtain ⟨hi, rfl⟩ := Option.isSome_iff_exists.1 hhi
      obtain rfl : mx = none := by simpa using hmx
      split at he
      · rename_i hs
        simp only [Option.some.injEq, Prod.mk.injEq] at he
        obtain ⟨rfl, rfl⟩ := he
        have hu := isStr_spec hτ hs
        simp [CT, conc] at hxs
        refine ⟨?_, by simp⟩
        simp only [execOp, hop, hxs.1, hxs.2, Option.map_some, Option.map_none]
        obtain ⟨g1, g2, g3⟩ := hob
        simp [Instr.sliceAt, run_underlying hu, Instr.slice, Instr.sliceBounds, Instr.sliceBound, asIntOf, g1, g2, g3, conc, (by omega : 0 ≤ (_ : Int)), Int.toNat_of_nonneg (Int.le_trans g1 g2), Int.le_trans g1 g2]
      · simp at he
    · rename_i hlo hhi hmx
      obtain rfl : lo = none := by simpa using hlo
      obtain ⟨hi, rfl⟩ := Option.isSome_iff_exists.1 hhi
      obtain rfl : mx = none := by simpa using hmx
      split at he
      · rename_i hs
        simp only [Option.some.injEq, Prod.mk.injEq] at he
        obtain ⟨rfl, rfl⟩ := he
        have hu := isStr_spec hτ hs
        simp [CT, conc] at hxs
        refine ⟨?_, by simp⟩
        simp only [execOp, hop, hxs.1, hxs.2, Option.map_some, Option.map_none]
        simp [Instr.sliceAt, run_underlying hu, Instr.slice, Instr.sliceBounds, Instr.sliceBound, asIntOf, hob.1, hob.2, conc]
      · simp at he
    · rename_i hlo hhi hmx
      obtain ⟨lo, rfl⟩ := Option.isSome_iff_exists.1 hlo
      obtain rfl : hi = none := by simpa using hhi
      obtain rfl : mx = none := by simpa using hmx
      split at he
      · rename_i hs
        simp only [Option.some.injEq, Prod.mk.injEq] at he
        obtain ⟨rfl, rfl⟩ := he
        have hu := isStr_spec hτ hs
        simp [CT, conc] at hxs
        refine ⟨?_, by simp⟩
        simp only [execOp, hop, hxs.1, hxs.2, Option.map_some, Option.map_none]
        simp [Instr.sliceAt, run_underlying hu, Instr.slice, Instr.sliceBounds, Instr.sliceBound, asIntOf, hob.1, hob.2, conc]
      · simp at he
    · rename_i k kk n hlo hhi hmx
      obtain rfl : lo = none := by simpa using hlo
      obtain ⟨hi, rfl⟩ := Option.isSome_iff_exists.1 hhi
      obtain rfl : mx = none := by simpa using hmx
      split at he
      · rename_i R hrw
        simp only [List.getElem?_cons_zero, Option.bind_some] at hrw
        obtain ⟨hr, hsp⟩ := plainR_some hrw
        split at he
        · rename_i hs
          simp only [Option.some.injEq, Prod.mk.injEq] at he
          obtain ⟨rfl, rfl⟩ := he
          obtain ⟨e, hu, hi2⟩ := slOf_spec hτ hs w
          obtain ⟨a', c', hv, hlc, hi'⟩ := (h.rows k R (rowOf_r hr)).1 hsp
          simp [CT, conc] at hxs
          rw [hv] at hxs
          refine ⟨?_, by simp⟩
          simp only [execOp, hop, hxs.1, hxs.2, Option.map_some, Option.map_none]
          have g2 : n ≤ (c' : Int) := by omega
          simp [Instr.sliceAt, run_underlying hu, Instr.slice, Instr.sliceBounds, Instr.sliceBound, asIntOf, hob.1, g2, conc, hv, hi2]
          intro _
          cases a' with
          | none => rfl
          | some A => simp [Addr.add]
        · simp at he
      · simp at he
    · simp at he
  case unOp o' t x =>
    unfold D5 at he
    split at he <;> try (simp at he; done)
    obtain ⟨y, rfl, hy⟩ := a1_some he
    obtain ⟨b, rfl, hy2⟩ := onBool_some hy
    simp only [Option.some.injEq, Prod.mk.injEq] at hy2
    obtain ⟨_, rfl⟩ := hy2
    simp [CT, conc] at hxs
    exact ⟨by simp [execOp, hop, hxs, Op.unary, conc], by simp⟩
  case convert s d x =>
    split at he
    · rename_i r hcb
      simp only [Option.some.injEq] at he
      subst he
      unfold B7 at hcb
      split at hcb <;> try (simp at hcb; done)
      rename_i k R hrw
      split at hcb <;> try (simp at hcb; done)
      rename_i e hvs hvd
      split at hcb <;> try (simp at hcb; done)
      rename_i hve
      split at hcb <;> try (simp at hcb; done)
      rename_i hsz
      split at hcb <;> try (simp at hcb; done)
      rename_i n hget
      simp only [Option.some.injEq, Prod.mk.injEq] at hcb
      obtain ⟨_, rfl⟩ := hcb
      simp only [Bool.and_eq_true, beq_iff_eq] at hsz
      simp only [List.getElem?_cons_zero, Option.bind_some] at hrw
      obtain ⟨hr, hsp⟩ := plainR_some hrw
      obtain ⟨ts, hs, hvs'⟩ := Option.map_eq_some_iff.1 hvs
      obtain ⟨td, hd, hvd'⟩ := Option.map_eq_some_iff.1 hvd
      obtain ⟨te, he', hve'⟩ := Option.map_eq_some_iff.1 hve
      have hus := tok_sl (hτ s ts hs) hvs'
      have hud := tok_str (hτ d td hd) hvd'
      have hue := tok_int (hτ e te he') hve'
      obtain ⟨a', c', hv, hlc, hi'⟩ := (h.rows k R (rowOf_r hr)).1 hsp
      simp [CT, conc] at hxs
      rw [hv] at hxs
      obtain ⟨_, b, o', ha, hc⟩ := hi' 0 (by omega)
      rw [hsz.2, ha] at hxs
      refine ⟨?_, by simp⟩
      have := run_convert_bytes_arg (P := c.P) w s e hus hue b o' 1 c' [n] rfl (fun i hi => by
        obtain rfl : i = 0 := by omega
        have := hc 0 (.int .u8 n) (by rw [show ((0 : Nat) : Int) = 0 from rfl, hget]; rfl)
        simpa using this) d hud
      simp only [execOp, hop, hxs]
      simp only [Sem.run_bind, this, Result.andThen_ok, conc, strOfNums]
      rfl
    obtain ⟨y, rfl, hy⟩ := a1_some he
    obtain ⟨k, n, rfl, hy2⟩ := onInt_some hy
    replace hy := hy2
    clear hy2
    simp [CT, conc] at hxs
    cases hs : CS c.τ s with
    | none => rw [hs] at hy; simp at hy
    | some ts =>
      cases hd : CS c.τ d with
      | none => rw [hs, hd] at hy; simp at hy
      | some td =>
        rw [hs, hd] at hy
        simp only [Option.bind_some] at hy
        cases hv : td.view <;> rw [hv] at hy <;> (try dsimp only at hy) <;> try (simp at hy; done)
        simp at hy
        obtain ⟨_, rfl⟩ := hy
        obtain ⟨ds, hus, _⟩ := (hτ s ts hs).2
        have hud := tok_int (hτ d td hd) hv
        exact ⟨by simp [execOp, hop, hxs, convert, run_underlying hus, run_underlying hud, Conv.intToInt, conc], by simp⟩
  case fieldAddr s x f =>
    obtain ⟨y, rfl, hy⟩ := a1_some he
    simp [CT] at hxs
    cases hf : DC c s f with
    | none => rw [hf] at hy; simp at hy
    | some q =>
      obtain ⟨off, ft⟩ := q
      rw [hf] at hy
      cases y <;> (try dsimp only at hy) <;> try (simp at hy; done)
      case p k o' =>
        simp at hy
        obtain ⟨_, rfl⟩ := hy
        simp only [conc] at hxs
        exact ⟨by simp [execOp, hop, hxs, fieldAt_run hτ w hf, conc], by simp⟩
      case e k i z o' =>
        cases hr : AL (DG σ (.e k i z o')) with
        | none => simp [hr] at hy
        | some R =>
          simp only [List.getElem?_cons_zero, Option.bind_some, hr, Option.some.injEq, Prod.mk.injEq] at hy
          obtain ⟨rfl, rfl⟩ := hy
          obtain ⟨hr, hsp⟩ := plainR_some hr
          obtain ⟨a', c', hv, _, hi⟩ := (h.rows k R (rowOf_e hr)).1 hsp
          obtain ⟨_, b, o1, ha, _⟩ := hi i.toNat (by omega)
          refine ⟨?_, by simp⟩
          simp only [conc, hv, ha] at hxs ⊢
          have e : o1 + (i.toNat * z + o') + off = o1 + (i.toNat * z + (o' + off)) := by omega
          simp [execOp, hop, hxs, fieldAt_run hτ w hf, e]
  case field s x f =>
    obtain ⟨y, rfl, hy⟩ := a1_some he
    simp [CT] at hxs
    cases hf : DC c s f with
    | none => rw [hf] at hy; simp at hy
    | some q =>
      obtain ⟨off, ft⟩ := q
      rw [hf] at hy
      cases y <;> (try dsimp only at hy) <;> try (simp at hy; done)
      rename_i val
      cases val <;> (try dsimp only at hy) <;> try (simp at hy; done)
      rename_i cs
      simp only [conc] at hxs
      obtain ⟨fs, hu, fd, hfd, ho, hft, tf, hl, hz⟩ := fieldOf_spec hτ hf
      rw [hl] at hy
      dsimp only at hy
      cases hw : DA tf ((cs.toList.drop off).map .v) with
      | none => rw [hw] at hy; simp at hy
      | some u =>
        rw [hw] at hy
        simp at hy
        obtain ⟨_, rfl⟩ := hy
        subst ho; subst hft
        refine ⟨?_, whole_alive hw (fun u hu => by obtain ⟨y, _, rfl⟩ := List.mem_map.1 hu; simp)⟩
        have hag := tok_agg (hτ _ tf hl) w
        have hsz := tok_size (hτ _ tf hl) w
        have hp : (part fd.type cs fd.offset).run c.P w = .ok (conc β ρ u) w := by
          unfold DA at hw
          cases hv : tf.view.agg with
          | true =>
            rw [hv] at hw
            simp only [if_true] at hw
            split at hw
            · cases hx : D9 ((((cs.toList.drop fd.offset).map V.v)).take tf.size) with
              | none => rw [hx] at hw; simp at hw
              | some l =>
                rw [hx] at hw
                simp at hw
                subst hw
                have e := vals_spec (β := β) (ρ := ρ) hx
                have e2 : (cs.toList.drop fd.offset).take tf.size = l := by
                  have := congrArg (List.map (conc β ρ)) e
                  rw [map_conc_v, ← List.map_take, map_conc_v] at this
                  exact this
                have e3 : cs.extract fd.offset (fd.offset + tf.size) = l.toArray := by
                  apply Array.toList_inj.1
                  rw [Array.toList_extract, List.extract_eq_take_drop]
                  simpa using e2
                simp [part, hag, hv, hsz, e3, conc]
            · simp at hw
          | false =>
            rw [hv] at hw
            simp only [Bool.false_eq_true, if_false] at hw
            have : ∃ x, cs[fd.offset]? = some x ∧ u = .v x := by
              simp only [List.getElem?_map, List.getElem?_drop, Nat.add_zero] at hw
              cases hg : cs[fd.offset]? with
              | none => simp [hg] at hw
              | some x => simp [hg] at hw; exact ⟨x, rfl, hw.symm⟩
            obtain ⟨x, hx, rfl⟩ := this
            simp [part, hag, hv, hx, conc]
        simp [execOp, hop, hxs, Instr.field, run_underlying hu, hfd, asAgg, hp]
  case indexAddr t x y =>
    obtain ⟨x', y', rfl, hy⟩ := a2_some he
    obtain ⟨k, i, rfl, hy2⟩ := onInt_some hy
    replace hy := hy2
    clear hy2
    simp [CT] at hxs
    cases x' <;> (try dsimp only at hy) <;> try (simp at hy; done)
    rename_i kr
    cases hr : AL (DG σ (.r kr)) with
    | none => simp [hr] at hy
    | some R =>
      simp only [List.getElem?_cons_zero, Option.bind_some, hr] at hy
      split at hy
      · rename_i hs
        simp only [Option.some.injEq, Prod.mk.injEq] at hy
        obtain ⟨rfl, rfl⟩ := hy
        obtain ⟨e, hu, hsz⟩ := slOf_spec hτ hs w
        obtain ⟨hr, hsp⟩ := plainR_some hr
        obtain ⟨a', c', hv, _, hi⟩ := (h.rows kr R (rowOf_r hr)).1 hsp
        obtain ⟨_, b, o1, ha, _⟩ := hi i.toNat (by omega)
        refine ⟨?_, by simp⟩
        simp only [conc, hv, ha] at hxs ⊢
        simp only [execOp, hop, hxs.1, hxs.2]
        simp [Instr.indexAt, asIntOf, run_underlying hu, hsz, hob, add_mid]
      · simp at hy
  case index t x y =>
    obtain ⟨x', y', rfl, hy⟩ := a2_some he
    obtain ⟨k, i, rfl, hy2⟩ := onInt_some hy
    replace hy := hy2
    clear hy2
    simp [CT] at hxs
    cases x' <;> (try dsimp only at hy) <;> try (simp at hy; done)
    rename_i val
    cases val <;> (try dsimp only at hy) <;> try (simp at hy; done)
    rename_i s
    split at hy
    · rename_i hs
      simp only [Option.some.injEq, Prod.mk.injEq] at hy
      obtain ⟨rfl, rfl⟩ := hy
      have hu := isStr_spec hτ hs
      obtain ⟨u, hu1, hu2⟩ := bt_get s i hob.1 hob.2
      refine ⟨?_, by simp⟩
      simp only [conc] at hxs ⊢
      simp only [execOp, hop, hxs.1, hxs.2]
      simp [Instr.index, asIntOf, run_underlying hu, hob.1, hu1, hu2]
    · simp at hy
  case extract x i =>
    obtain ⟨y, rfl, hy⟩ := a1_some he
    simp [CT] at hxs
    cases y <;> (try dsimp only at hy) <;> try (simp at hy; done)
    case v val =>
      cases val <;> (try dsimp only at hy) <;> try (simp at hy; done)
      rename_i vs
      cases hg : vs.toList[i]? with
      | none => rw [hg] at hy; simp at hy
      | some u =>
        rw [hg] at hy
        simp at hy
        obtain ⟨_, rfl⟩ := hy
        simp only [conc] at hxs ⊢
        have hg' : vs[i]? = some u := by simpa using hg
        exact ⟨by simp [execOp, hop, hxs, Instr.extract, hg'], by simp⟩
    case tr k vs =>
      cases i with
      | zero =>
        simp at hy
        obtain ⟨_, rfl⟩ := hy
        simp only [conc] at hxs ⊢
        exact ⟨by simp [execOp, hop, hxs, Instr.extract], by simp⟩
      | succ i =>
        simp only [] at hy
        cases hg : vs[i]? with
        | none => rw [hg] at hy; simp at hy
        | some u =>
          rw [hg] at hy
          simp at hy
          obtain ⟨_, rfl⟩ := hy
          simp only [conc] at hxs ⊢
          exact ⟨by simp [execOp, hop, hxs, Instr.extract, hg], by simp⟩
  case call cl =>
    cases hcal : cl.callee <;> rw [hcal] at he <;> (try dsimp only at he) <;> try (simp at he; done)
    rename_i b
    have hargs : (cl.args.map a.eval).toList = args.map (conc β ρ) := by simpa [CT, hcal] using hxs
    unfold DE at he
    split at he
    · split at he
      · simp at he
      · rename_i hts
        obtain ⟨x, rfl, hy⟩ := a1_some he
        have harr : cl.args.map a.eval = #[conc β ρ x] := by apply Array.toList_inj.1; simpa using hargs
        obtain ⟨t0, ts, hts'⟩ : ∃ t0 ts, cl.argTypes.toList = t0 :: ts := by
          cases hl : cl.argTypes.toList with
          | nil => simp [hl] at hts
          | cons t0 ts => exact ⟨t0, ts, rfl⟩
        have ht0 : cl.argTypes[0]? = some t0 := by
          rw [← Array.getElem?_toList, hts']; rfl
        unfold DD at hy
        split at hy
        · rename_i k
          split at hy
          · rename_i hv
            rw [hts'] at hv
            simp only [List.headD_cons] at hv
            obtain ⟨e, hu⟩ := isSl_spec hτ hv
            simp only [List.getElem?_cons_zero, Option.bind_some] at hy
            cases hr : AL (DG σ (.r k)) with
            | none => rw [hr] at hy; simp at hy
            | some R =>
              rw [hr] at hy
              simp at hy
              obtain ⟨_, rfl⟩ := hy
              obtain ⟨hr, hsp⟩ := plainR_some hr
              obtain ⟨a', c', hv', _, _⟩ := (h.rows k R (rowOf_r hr)).1 hsp
              refine ⟨?_, by simp⟩
              simp only [conc, hv'] at harr ⊢
              simp [execOp, hop, resolve, hcal, invoke, builtin, harr, Builtin.len_, ht0, run_underlying hu, goInt]
          · simp at hy
        · rename_i s
          split at hy
          · rename_i hv
            rw [hts'] at hv
            simp only [List.headD_cons] at hv
            have hu := isStr_spec hτ hv
            simp at hy
            obtain ⟨_, rfl⟩ := hy
            refine ⟨?_, by simp⟩
            simp only [conc] at harr ⊢
            simp [execOp, hop, resolve, hcal, invoke, builtin, harr, Builtin.len_, ht0, run_underlying hu, goInt]
          · simp at hy
        · split at hy
          · rename_i hv
            rw [hts'] at hv
            simp only [List.headD_cons] at hv
            obtain ⟨e, hu⟩ := isSl_spec hτ hv
            simp at hy
            obtain ⟨_, rfl⟩ := hy
            refine ⟨?_, by simp⟩
            simp only [conc] at harr ⊢
            simp [execOp, hop, resolve, hcal, invoke, builtin, harr, Builtin.len_, ht0, run_underlying hu, goInt]
          · simp at hy
        · simp at hy
    · obtain ⟨x, y, rfl, hy⟩ := a2_some he
      obtain ⟨k, m, rfl, hy2⟩ := onInt_some hy
      obtain ⟨j, n, rfl, hy3⟩ := onInt_some hy2
      have harr : cl.args.map a.eval = #[.int k m, .int j n] := by apply Array.toList_inj.1; simpa [conc] using hargs
      simp only [Option.some.injEq, Prod.mk.injEq] at hy3
      obtain ⟨_, rfl⟩ := hy3
      refine ⟨?_, by simp⟩
      simp [execOp, hop, resolve, hcal, invoke, builtin, harr, Builtin.min_, Builtin.min2, conc]
    · obtain ⟨x, y, rfl, hy⟩ := a2_some he
      obtain ⟨k, m, rfl, hy2⟩ := onInt_some hy
      obtain ⟨j, n, rfl, hy3⟩ := onInt_some hy2
      have harr : cl.args.map a.eval = #[.int k m, .int j n] := by apply Array.toList_inj.1; simpa [conc] using hargs
      simp only [Option.some.injEq, Prod.mk.injEq] at hy3
      obtain ⟨_, rfl⟩ := hy3
      refine ⟨?_, by simp⟩
      simp [execOp, hop, resolve, hcal, invoke, builtin, harr, Builtin.max_, Builtin.max2, conc]
    · simp at he

end

end Go.Ab
