/- The abstract layer: a region that draws its order comes to what the text's order comes to. -/
import Derived.Test.YtogmnhebobdokaaAbRun
set_option linter.unusedVariables false
set_option linter.unusedSimpArgs false
namespace Go.Ab
open Go Go.RowKit

/-! ### Updates, some of them made -/
def ups {α : Type} (p : Nat → Bool) : Nat → List (Option (Nat × α)) → List (Nat × α) → List (Nat × α)
  | _, [], l => l
  | i, u :: us, l => ups p (i + 1) us (match p i, u with | true, some kv => kv :: l | _, _ => l)

theorem look_ups_congr {α : Type} {p q : Nat → Bool} {t : Nat} : ∀ (us : List (Option (Nat × α))) (i : Nat) (l l' : List (Nat × α)), (∀ (j : Nat) (u : Nat × α), us[j]? = some (some u) → u.1 = t → p (i + j) = q (i + j)) → CS l t = CS l' t → CS (ups p i us l) t = CS (ups q i us l') t
  | [], i, l, l', _, h => h
  | u :: us, i, l, l', hp, h => by
    simp only [ups]
    refine look_ups_congr us (i + 1) _ _ (fun j v hj hv => by have := hp (j + 1) v (by simpa using hj) hv; rw [show i + 1 + j = i + (j + 1) by omega]; exact this) ?_
    cases u with
    | none => cases p i <;> cases q i <;> exact h
    | some kv =>
      by_cases e : kv.1 = t
      · have := hp 0 kv (by simp) e
        rw [Nat.add_zero] at this
        rw [this]
        cases q i
        · exact h
        · obtain ⟨k, v⟩ := kv
          simp only [look_cons]
          rw [if_pos e, if_pos e]
      · have hh : ∀ b : Bool, ∀ m : List (Nat × α), CS (match b, some kv with | true, some kv => kv :: m | _, _ => m) t = CS m t := fun b m => by
          cases b
          · rfl
          · obtain ⟨k, v⟩ := kv
            simp only [look_cons]
            rw [if_neg e]
        rw [hh, hh]; exact h

theorem look_ups_last {α : Type} {p : Nat → Bool} {t : Nat} {v : α} : ∀ (us : List (Option (Nat × α))) (i j : Nat) (l : List (Nat × α)), us[j]? = some (some (t, v)) → p (i + j) = true →
    (∀ (m : Nat) (u : Nat × α), j < m → us[m]? = some (some u) → u.1 = t → p (i + m) = false) → CS (ups p i us l) t = some v
  | [], i, j, l, h, _, _ => by simp at h
  | u :: us, i, 0, l, h, hp, hl => by
    simp at h
    subst h
    simp only [ups]
    rw [Nat.add_zero] at hp
    rw [hp]
    have : ∀ (us : List (Option (Nat × α))) (i : Nat) (l : List (Nat × α)), (∀ (m : Nat) (u : Nat × α), us[m]? = some (some u) → u.1 = t → p (i + m) = false) → CS l t = some v → CS (ups p i us l) t = some v := by
      intro us
      induction us with
      | nil => intro i l _ h; exact h
      | cons u us ih =>
        intro i l hm h
        simp only [ups]
        refine ih (i + 1) _ (fun m w hw e => by have := hm (m + 1) w (by simpa using hw) e; rw [show i + 1 + m = i + (m + 1) by omega]; exact this) ?_
        cases u with
        | none => cases p i <;> exact h
        | some kv =>
          cases hpi : p i with
          | false => exact h
          | true =>
            have e : kv.1 ≠ t := fun e => by have := hm 0 kv (by simp) e; rw [Nat.add_zero, hpi] at this; cases this
            obtain ⟨k, x⟩ := kv
            simp only [look_cons]
            rw [if_neg e]; exact h
    exact this us (i + 1) _ (fun m w hw e => by have := hl (m + 1) w (by omega) (by simpa using hw) e; rw [show i + 1 + m = i + (m + 1) by omega]; exact this) (by simp [look_cons])
  | u :: us, i, j + 1, l, h, hp, hl => by
    simp only [ups]
    refine look_ups_last us (i + 1) j _ (by simpa using h) (by rw [show i + 1 + j = i + (j + 1) by omega]; exact hp) (fun m w hm hw e => ?_)
    have := hl (m + 1) w (by omega) (by simpa using hw) e
    rw [show i + 1 + m = i + (m + 1) by omega]; exact this

/-- One more is made: it might as well have been made last. -/
theorem look_ups_add {α : Type} {p : Nat → Bool} (us : List (Option (Nat × α))) (j : Nat) (l : List (Nat × α)) (hj : p j = false)
    (hl : ∀ (u v : Nat × α), us[j]? = some (some u) → ∀ m, j < m → us[m]? = some (some v) → v.1 = u.1 → p m = false) (t : Nat) :
    CS (ups (fun i => p i || i == j) 0 us l) t = CS (match us[j]? with | some (some u) => u :: ups p 0 us l | _ => ups p 0 us l) t := by
  have same : (∀ u, us[j]? = some (some u) → u.1 ≠ t) → CS (ups (fun i => p i || i == j) 0 us l) t = CS (ups p 0 us l) t := fun h =>
    look_ups_congr us 0 l l (fun m u hm e => by
      have : m ≠ j := fun e' => h u (by rw [← e']; exact hm) e
      simp [this]) rfl
  cases hu : us[j]? with
  | none => exact same fun u h => by rw [hu] at h; cases h
  | some o =>
    cases o with
    | none => exact same fun u h => by rw [hu] at h; cases h
    | some u =>
      obtain ⟨k, v⟩ := u
      simp only [look_cons]
      by_cases e : k = t
      · subst e
        rw [if_pos rfl]
        refine look_ups_last us 0 j l hu (by simp) fun m w hm hw e => ?_
        have := hl (k, v) w hu m hm hw e
        simp [this]
        omega
      · rw [if_neg e]
        exact same fun u h => by rw [hu] at h; simp at h; subst h; exact e

theorem ups_none {α : Type} {p : Nat → Bool} : ∀ (us : List (Option (Nat × α))) (i : Nat) (l : List (Nat × α)), (∀ j, i ≤ j → p j = false) → ups p i us l = l
  | [], i, l, _ => rfl
  | u :: us, i, l, h => by
    simp only [ups]
    rw [h i (Nat.le_refl _)]
    exact ups_none us (i + 1) l fun j hj => h j (by omega)

/-- What has been made lies in the list. -/
theorem mem_ups {α : Type} {p : Nat → Bool} {x : Nat × α} : ∀ (us : List (Option (Nat × α))) (i : Nat) (l : List (Nat × α)), x ∈ ups p i us l → x ∈ l ∨ ∃ j, us[j]? = some (some x) ∧ p (i + j) = true
  | [], i, l, h => .inl h
  | u :: us, i, l, h => by
    simp only [ups] at h
    rcases mem_ups us (i + 1) _ h with h | ⟨j, h1, h2⟩
    · cases hp : p i with
      | false => rw [hp] at h; exact .inl h
      | true =>
        cases u with
        | none => rw [hp] at h; exact .inl h
        | some kv =>
          rw [hp] at h
          rcases List.mem_cons.1 h with rfl | h
          · exact .inr ⟨0, by simp, by simpa using hp⟩
          · exact .inl h
    · exact .inr ⟨j + 1, by simpa using h1, by rw [show i + (j + 1) = i + 1 + j by omega]; exact h2⟩

/-! ### States, some of whose effects have come -/
def tU (x : Oper × Eff) : Option (Nat × V) :=
  match x.1.dst, x.2.val with
  | some d, some v => some (d, v)
  | _, _ => none
def bU (x : Oper × Eff) : Option (Nat × Option (List V)) := x.2.box.map fun q => (q.1, some q.2)
def xU (x : Oper × Eff) : Option (Nat × Option Row) := x.2.row.map fun q => (q.1, some q.2)
def part (p : Nat → Bool) (L : List (Oper × Eff)) (σ : St) : St := ⟨ups p 0 (L.map tU) σ.t, ups p 0 (L.map bU) σ.b, ups p 0 (L.map xU) σ.x⟩

def ucons {α : Type} (u : Option (Nat × α)) (l : List (Nat × α)) : List (Nat × α) :=
  match u with
  | some kv => kv :: l
  | none => l
theorem app_eq (σ : St) (o : Oper) (e : Eff) (hl : e.lose = none) : σ.app o.dst e = ⟨ucons (tU (o, e)) σ.t, ucons (bU (o, e)) σ.b, ucons (xU (o, e)) σ.x⟩ := by
  unfold St.app tU bU xU
  rw [hl]
  cases o.dst <;> cases e.val <;> cases e.box <;> cases e.row <;> rfl

/-- In the text's order. -/
theorem ups_lt {α : Type} : ∀ (us : List (Option (Nat × α))) (i j : Nat) (l : List (Nat × α)), ups (fun m => decide (m < i + (j + 1))) i us l = (match us[j]? with | some u => ucons u (ups (fun m => decide (m < i + j)) i us l) | none => ups (fun m => decide (m < i + j)) i us l)
  | [], i, j, l => by simp [ups]
  | u :: us, i, 0, l => by
    simp only [ups, List.getElem?_cons_zero]
    rw [ups_none us (i + 1) _ (fun m hm => by simp; omega), ups_none us (i + 1) _ (fun m hm => by simp; omega)]
    simp
    cases u <;> rfl
  | u :: us, i, j + 1, l => by
    simp only [ups, List.getElem?_cons_succ]
    have := ups_lt us (i + 1) j (match decide (i < i + (j + 1 + 1)), u with | true, some kv => kv :: l | _, _ => l)
    rw [show i + 1 + (j + 1) = i + (j + 1 + 1) by omega, show i + 1 + j = i + (j + 1) by omega] at this
    rw [this]
    have e1 : decide (i < i + (j + 1 + 1)) = true := by simp
    have e2 : decide (i < i + (j + 1)) = true := by simp
    rw [e1, e2]

theorem part_lt (L : List (Oper × Eff)) (σ : St) (j : Nat) {x : Oper × Eff} (hx : L[j]? = some x) (hl : x.2.lose = none) : part (fun m => decide (m < j + 1)) L σ = (part (fun m => decide (m < j)) L σ).app x.1.dst x.2 := by
  rw [app_eq _ _ _ hl]
  unfold part
  have h1 := ups_lt (L.map tU) 0 j σ.t
  have h2 := ups_lt (L.map bU) 0 j σ.b
  have h3 := ups_lt (L.map xU) 0 j σ.x
  simp only [Nat.zero_add, List.getElem?_map, hx, Option.map_some] at h1 h2 h3
  rw [h1, h2, h3]

theorem part_zero (L : List (Oper × Eff)) (σ : St) : part (fun m => decide (m < 0)) L σ = σ := by
  unfold part
  rw [ups_none, ups_none, ups_none] <;> intros <;> simp

/-- The text's order, laid open. -/
theorem dsteps_open {c : Cx} (ops : List Oper) : ∀ (l : List Oper) (σ : St) (ob : Prop) (σ' : St) (ks : List (List (Nat × Bool))), CK c ops l σ = some (ob, σ', ks) → ob →
    ∃ L : List (Oper × Eff), L.map (·.1) = l ∧ ks.length = l.length ∧ σ' = part (fun m => decide (m < l.length)) L σ ∧
      ∀ j o e, L[j]? = some (o, e) → (∃ obj, CL c ops o (part (fun m => decide (m < j)) L σ) = some (obj, e) ∧ obj) ∧ ((part (fun m => decide (m < j)) L σ).newOK e.key = true ∧ e.lose = none) ∧ ks[j]? = some (DJ (part (fun m => decide (m < j)) L σ) o e)
  | [], σ, ob, σ', ks, h, hob => by
    simp [CK] at h
    obtain ⟨_, rfl, rfl⟩ := h
    exact ⟨[], rfl, rfl, by simp [part, ups], fun j o e hj => by simp at hj⟩
  | o :: l, σ, ob, σ', ks, h, hob => by
    simp only [CK] at h
    cases h1 : CL c ops o σ with
    | none => rw [h1] at h; simp at h
    | some r =>
      obtain ⟨ob1, e⟩ := r
      rw [h1] at h
      dsimp only at h
      split at h
      · rename_i hnew
        rw [Bool.and_eq_true] at hnew
        have hlo : e.lose = none := by simpa using hnew.2
        cases h2 : CK c ops l (σ.app o.dst e) with
        | none => rw [h2] at h; simp at h
        | some r2 =>
          obtain ⟨ob2, σ2, ks2⟩ := r2
          rw [h2] at h
          simp only [Option.some.injEq, Prod.mk.injEq] at h
          obtain ⟨rfl, rfl, rfl⟩ := h
          obtain ⟨L, hL, hk, hs, hall⟩ := dsteps_open ops l _ _ _ _ h2 hob.2
          have sh : ∀ n, part (fun m => decide (m < n + 1)) ((o, e) :: L) σ = part (fun m => decide (m < n)) L (σ.app o.dst e) := fun n => by
            rw [app_eq _ _ _ hlo]
            unfold part
            have g : ∀ {α : Type} (u : Option (Nat × α)) (us : List (Option (Nat × α))) (b : List (Nat × α)), ups (fun m => decide (m < n + 1)) 0 (u :: us) b = ups (fun m => decide (m < n)) 0 us (ucons u b) := fun {α} u us b => by
              have shift : ∀ (us : List (Option (Nat × α))) (i : Nat) (b : List (Nat × α)), ups (fun m => decide (m < n + 1)) (i + 1) us b = ups (fun m => decide (m < n)) i us b := by
                intro us
                induction us with
                | nil => intro i b; rfl
                | cons u us ih =>
                  intro i b
                  simp only [ups]
                  rw [ih]
                  have : decide (i + 1 < n + 1) = decide (i < n) := by simp
                  rw [this]
              simp only [ups]
              rw [shift]
              cases u <;> simp [ucons]
            simp only [List.map_cons, g]
          refine ⟨(o, e) :: L, by simp [hL], by simp [hk], by rw [hs]; exact (sh l.length).symm, fun j o' e' hj => ?_⟩
          cases j with
          | zero =>
            simp at hj
            obtain ⟨rfl, rfl⟩ := hj
            rw [part_zero]
            exact ⟨⟨ob1, h1, hob.1⟩, ⟨hnew.1, hlo⟩, by simp⟩
          | succ j =>
            rw [sh j]
            simpa using hall j o' e' (by simpa using hj)
      · simp at h

/-! ### Who waits for whom -/
inductive Anc (ops : List Oper) : Nat → Nat → Prop
  | one {j : Nat} {o : Oper} {e : Edge} : ops[j]? = some o → e ∈ o.after.toList → Region.binds .any e = true → Anc ops j e.on
  | more {j i : Nat} {o : Oper} {e : Edge} : ops[j]? = some o → e ∈ o.after.toList → Region.binds .any e = true → Anc ops e.on i → Anc ops j i

theorem or_fold (acc : List Nat) (i : Nat) : ∀ (es : List Edge) (s : Nat), (es.foldl (fun s e => if Region.binds .any e then s ||| 2 ^ e.on ||| acc.getD e.on 0 else s) s).testBit i = true →
    s.testBit i = true ∨ ∃ e ∈ es, Region.binds .any e = true ∧ (e.on = i ∨ (acc.getD e.on 0).testBit i = true)
  | [], s, h => .inl h
  | e :: es, s, h => by
    simp only [List.foldl_cons] at h
    rcases or_fold acc i es _ h with h | ⟨e', h1, h2⟩
    · split at h
      · rename_i hb
        rw [Nat.testBit_or, Nat.testBit_or, Bool.or_eq_true, Bool.or_eq_true] at h
        rcases h with (h | h) | h
        · exact .inl h
        · rw [Nat.testBit_two_pow] at h
          exact .inr ⟨e, by simp, hb, .inl (by simpa using h)⟩
        · exact .inr ⟨e, by simp, hb, .inr h⟩
      · exact .inl h
    · exact .inr ⟨e', List.mem_cons_of_mem _ h1, h2⟩

theorem befores_spec (ops : List Oper) : ∀ (l pre : List Oper) (acc : List Nat), ops = pre ++ l → acc.length = pre.length → (∀ j i, (acc.getD j 0).testBit i = true → Anc ops j i) →
    ∀ j i, ((l.foldl (fun acc o => acc ++ [o.after.toList.foldl (fun s e => if Region.binds .any e then s ||| 2 ^ e.on ||| acc.getD e.on 0 else s) 0]) acc).getD j 0).testBit i = true → Anc ops j i
  | [], pre, acc, _, _, h, j, i, hb => h j i hb
  | o :: l, pre, acc, he, hl, h, j, i, hb => by
    simp only [List.foldl_cons] at hb
    refine befores_spec ops l (pre ++ [o]) _ (by simp [he]) (by simp [hl]) ?_ j i hb
    intro j i hb
    by_cases hlt : j < acc.length
    · rw [List.getD_eq_getElem?_getD, List.getElem?_append_left hlt, ← List.getD_eq_getElem?_getD] at hb
      exact h j i hb
    · by_cases e : j = acc.length
      · subst e
        rw [List.getD_eq_getElem?_getD, List.getElem?_append_right (Nat.le_refl _)] at hb
        simp only [Nat.sub_self, List.getElem?_cons_zero, Option.getD_some] at hb
        have ho : ops[acc.length]? = some o := by rw [he, List.getElem?_append_right (by omega)]; simp [hl]
        rcases or_fold acc i _ _ hb with h0 | ⟨e, h1, h2, h3⟩
        · simp at h0
        · rcases h3 with rfl | h3
          · exact .one ho h1 h2
          · exact .more ho h1 h2 (h _ _ h3)
      · rw [List.getD_eq_getElem?_getD, List.getElem?_eq_none (by simp; omega)] at hb
        simp at hb

theorem befores_anc (ops : List Oper) {j i : Nat} (h : ((befores ops).getD j 0).testBit i = true) : Anc ops j i :=
  befores_spec ops ops [] [] rfl rfl (fun j i hb => by simp at hb) j i h

/-- A set that holds whatever its members wait for. -/
def Down (ops : List Oper) (p : Nat → Bool) : Prop := ∀ j o, ops[j]? = some o → p j = true → ∀ e ∈ o.after.toList, Region.binds .any e = true → p e.on = true

theorem anc_down {ops : List Oper} {p : Nat → Bool} (hd : Down ops p) {j i : Nat} (h : Anc ops j i) : p j = true → p i = true := by
  induction h with
  | one h1 h2 h3 => exact fun hj => hd _ _ h1 hj _ h2 h3
  | more h1 h2 h3 _ ih => exact fun hj => ih (hd _ _ h1 hj _ h2 h3)
theorem anc_ready {ops : List Oper} {p : Nat → Bool} (hd : Down ops p) {j i : Nat} (h : Anc ops j i) (hr : ∀ o, ops[j]? = some o → ∀ e ∈ o.after.toList, Region.binds .any e = true → p e.on = true) : p i = true := by
  cases h with
  | one h1 h2 h3 => exact hr _ h1 _ h2 h3
  | more h1 h2 h3 h4 => exact anc_down hd h4 (hr _ h1 _ h2 h3)

theorem chk_spec {ops : List Oper} {ks : List (List (Nat × Bool))} (h : chk ops ks = true) :
    (∀ i j o p, i < j → ops[i]? = some o → ops[j]? = some p → clash ops o p (ks.getD i []) (ks.getD j []) = true → Anc ops j i) ∧
    (∀ j o, ops[j]? = some o → ∀ e ∈ o.after.toList, Region.binds .any e = true → e.on < j) := by
  unfold chk at h
  rw [Bool.and_eq_true, List.all_eq_true, List.all_eq_true] at h
  obtain ⟨h1, h2⟩ := h
  refine ⟨fun i j o p hij ho hp hc => ?_, fun j o ho e he hb => ?_⟩
  · have hj : j < ops.length := (List.getElem?_eq_some_iff.1 hp).1
    have := List.all_eq_true.1 (h1 j (List.mem_range.2 hj)) i (List.mem_range.2 hij)
    rw [ho, hp] at this
    dsimp only at this
    rw [hc] at this
    simp only [Bool.not_true, Bool.false_or] at this
    exact befores_anc ops this
  · have hj : j < ops.length := (List.getElem?_eq_some_iff.1 ho).1
    have := h2 j (List.mem_range.2 hj)
    rw [ho] at this
    have := List.all_eq_true.1 this e he
    rw [hb] at this
    simpa using this

/-! ### An operation sees no more than its slots and keys -/
def seesT (ops : List Oper) (o : Oper) (t : Nat) : Prop := t ∈ reads ops o

theorem evs_congr {σ τ : St} : ∀ {l : List Operand}, (∀ t, .tmp t ∈ l → CS σ.t t = CS τ.t t) → CO σ l = CO τ l
  | [], _ => rfl
  | x :: l, h => by
    have hx : CP σ x = CP τ x := by
      cases x with
      | tmp t => simp only [CP]; rw [h t (by simp)]
      | const v => rfl
      | func f => rfl
      | global g => rfl
    simp only [CO, hx]
    rw [evs_congr (l := l) fun t ht => h t (List.mem_cons_of_mem _ ht)]

theorem step1_congr {c : Cx} {ops : List Oper} {o : Oper} {σ τ : St} {raw : List V} (hT : ∀ t ∈ reads ops o, CS σ.t t = CS τ.t t) (hraw : CO σ (CT o.op) = some raw)
    (hB : ∀ x ∈ raw, ∀ k ∈ DK x, CS σ.b k = CS τ.b k) (hX : ∀ x ∈ raw, ∀ k ∈ DK x, CS σ.x k = CS τ.x k) : CL c ops o σ = CL c ops o τ := by
  have he : CO σ (CT o.op) = CO τ (CT o.op) := evs_congr fun t ht => hT t (by
    unfold reads
    exact List.mem_append_left _ (List.mem_filterMap.2 ⟨.tmp t, ht, rfl⟩))
  have hrow : ∀ x ∈ raw, DG σ (CU x) = DG τ (CU x) := fun x hx => by
    have := hX x hx
    cases x <;> try rfl
    · simp only [CU, DG]; rw [this _ (by simp [DK])]
    · simp only [CU, DG]; rw [this _ (by simp [DK])]
    · simp only [CU, DG]; rw [this _ (by simp [DK])]
    · rename_i b y
      cases y <;> try rfl
      · simp only [CU, DG]; rw [this _ (by simp [DK])]
      · simp only [CU, DG]; rw [this _ (by simp [DK])]
      · simp only [CU, DG]; rw [this _ (by simp [DK])]
  have hbox : ∀ x ∈ raw, DH σ (CU x) = DH τ (CU x) := fun x hx => by
    have := hB x hx
    cases x <;> try rfl
    · simp only [CU, DH]; rw [this _ (by simp [DK])]
    · rename_i b y
      cases y <;> try rfl
      · simp only [CU, DH]; rw [this _ (by simp [DK])]
  have hg : DZ ops σ o.guard = DZ ops τ o.guard := by
    unfold DZ
    cases hgd : o.guard with
    | none => rfl
    | some q =>
      obtain ⟨j, want⟩ := q
      dsimp only
      cases hd : (ops[j]?).bind (·.dst) with
      | none => rfl
      | some d =>
        dsimp only
        rw [hT d (by unfold reads; rw [hgd]; dsimp only; rw [hd]; simp)]
  unfold CL
  rw [← he, hraw, hg]
  dsimp only
  have e1 : (raw.map fun x => DG σ (CU x)) = raw.map fun x => DG τ (CU x) := List.map_congr_left hrow
  have e2 : (DM raw fun x => DH σ (CU x)) = DM raw fun x => DH τ (CU x) := by
    cases raw with
    | nil => rfl
    | cons x l => exact hbox x (by simp)
  rw [e1, e2]

theorem mem_keysVs {k : Nat} : ∀ {l : List V} {x : V}, x ∈ l → k ∈ DK x → (k, false) ∈ DL l
  | y :: l, x, hx, hk => by
    simp only [DL, List.mem_append]
    rcases List.mem_cons.1 hx with rfl | hx
    · exact .inl (List.mem_map.2 ⟨k, hk, rfl⟩)
    · exact .inr (mem_keysVs hx hk)

theorem mention_keys {k : Nat} : ∀ {x : V}, DR k x = true → k ∈ DK x
  | .p j o, h => by simp [DR] at h; simp [DK, h]
  | .r j, h => by simp [DR] at h; simp [DK, h]
  | .e j i s o, h => by simp [DR] at h; simp [DK, h]
  | .tr j vs, h => by simp [DR] at h; simp [DK, h]
  | .q b x, h => by simp only [DR] at h; simp only [DK]; exact mention_keys h
  | .v x, h => by simp [DR] at h
  | .d, h => by simp [DR] at h
  | .s j n, h => by simp [DR] at h; simp [DK, h]
  | .c f ks, h => by simpa [DR, DK] using h

theorem Rel.ext {c : Cx} {w0 : Env} {β : Nat → Nat} {ρ : Nat → Value} {σ τ : St} {a : Act} {w : World} (h : Rel c w0 β ρ σ a w) (hT : ∀ t, CS τ.t t = CS σ.t t) (hB : ∀ k, CS τ.b k = CS σ.b k) (hX : ∀ k, CS τ.x k = CS σ.x k) : Rel c w0 β ρ τ a w where
  below := h.below
  size := h.size
  defers := h.defers
  slots := fun t v hv => h.slots t v (by rw [← hT]; exact hv)
  boxes := fun k cs hk => h.boxes k cs (by rw [← hB]; exact hk)
  balive := fun k cs hk => h.balive k cs (by rw [← hB]; exact hk)
  binj := fun k j cs ds hk hj => h.binj k j cs ds (by rw [← hB]; exact hk) (by rw [← hB]; exact hj)
  rows := fun k R hk => h.rows k R (by rw [← hX]; exact hk)
  rnew := fun k R hk => h.rnew k R (by rw [← hX]; exact hk)
  rold := fun k R hk => h.rold k R (by rw [← hX]; exact hk)
  rsz := fun k R hk => h.rsz k R (by rw [← hX]; exact hk)
  rbox := fun k R j cs hk hj => h.rbox k R j cs (by rw [← hX]; exact hk) (by rw [← hB]; exact hj)
  owns := fun k R hk ho => by
    obtain ⟨g1, g2, g3, g4⟩ := h.owns k R (by rw [← hX]; exact hk) ho
    exact ⟨g1, g2, g3, fun b hb => ⟨fun j S hj => (g4 b hb).1 j S (by rw [← hX]; exact hj), fun j cs hj => (g4 b hb).2 j cs (by rw [← hB]; exact hj)⟩⟩
  seqs := fun k R xs hk hs => by
    obtain ⟨U, g1, g2, g3⟩ := h.seqs k R xs (by rw [← hX]; exact hk) hs
    exact ⟨U, g1, fun j cs hj => g2 j cs (by rw [← hB]; exact hj), fun j S hj => g3 j S (by rw [← hX]; exact hj)⟩
  frz := h.frz
  gh := h.gh
  gs := fun hit => ⟨(h.gs hit).1, fun R hk => (h.gs hit).2 R (by rw [← hX]; exact hk)⟩
  forn := ⟨fun k cs hk => h.forn.1 k cs (by rw [← hB]; exact hk), fun k R hk => h.forn.2 k R (by rw [← hX]; exact hk)⟩

def cnt (p : Nat → Bool) : Nat → Nat
  | 0 => 0
  | n + 1 => cnt p n + if p n then 0 else 1
theorem cnt_congr {p q : Nat → Bool} : ∀ n, (∀ i, i < n → p i = q i) → cnt p n = cnt q n
  | 0, _ => rfl
  | n + 1, h => by simp only [cnt]; rw [cnt_congr n fun i hi => h i (by omega), h n (by omega)]
theorem cnt_add {p : Nat → Bool} {j : Nat} : ∀ n, j < n → p j = false → cnt (fun i => p i || i == j) n + 1 = cnt p n
  | n + 1, hj, hp => by
    simp only [cnt]
    by_cases e : j = n
    · subst e
      rw [cnt_congr j (q := p) fun i hi => by have : (i == j) = false := by simp; omega
                                              rw [this, Bool.or_false]]
      simp [hp]
    · have := cnt_add n (by omega) hp
      have hn : (n == j) = false := by simp; omega
      simp only [hn, Bool.or_false]
      omega
theorem mem_ups_base {α : Type} {p : Nat → Bool} {x : Nat × α} : ∀ (us : List (Option (Nat × α))) (i : Nat) (l : List (Nat × α)), x ∈ l → x ∈ ups p i us l
  | [], i, l, h => h
  | u :: us, i, l, h => by
    simp only [ups]
    refine mem_ups_base us (i + 1) _ ?_
    cases p i <;> cases u <;> first | exact h | exact List.mem_cons_of_mem _ h
theorem mem_ups_of {α : Type} {p : Nat → Bool} {x : Nat × α} : ∀ (us : List (Option (Nat × α))) (i : Nat) (l : List (Nat × α)) (j : Nat), us[j]? = some (some x) → p (i + j) = true → x ∈ ups p i us l
  | [], i, l, j, h, _ => by simp at h
  | u :: us, i, l, 0, h, hp => by
    simp at h; subst h
    simp only [ups]
    rw [Nat.add_zero] at hp
    rw [hp]
    exact mem_ups_base us (i + 1) _ (by simp)
  | u :: us, i, l, j + 1, h, hp => by
    simp only [ups]
    exact mem_ups_of us (i + 1) _ j (by simpa using h) (by rw [show i + 1 + j = i + (j + 1) by omega]; exact hp)

theorem unseenT_iff {k : Nat} : ∀ {l : List (Nat × V)}, DW k l = true ↔ ∀ x ∈ l, DR k x.2 = false
  | [] => by simp [DW]
  | (t, v) :: l => by simp [DW, unseenT_iff (l := l)]
theorem unseenB_iff {k : Nat} : ∀ {l : List (Nat × Option (List V))}, DX k l = true ↔ ∀ x ∈ l, x.1 ≠ k ∧ (x.2.getD []).any (DR k) = false
  | [] => by simp [DX]
  | (t, v) :: l => by simp [DX, unseenB_iff (l := l), and_assoc]
theorem unseenX_iff {k : Nat} : ∀ {l : List (Nat × Option Row)}, DY k l = true ↔ ∀ x ∈ l, x.1 ≠ k
  | [] => by simp [DY]
  | (t, v) :: l => by simp [DY, unseenX_iff (l := l)]

theorem cnt_zero {p : Nat → Bool} : ∀ n, cnt p n = 0 → ∀ i, i < n → p i = true
  | n + 1, h, i, hi => by
    simp only [cnt] at h
    by_cases e : i = n
    · subst e
      cases hp : p i with
      | true => rfl
      | false => rw [hp] at h; simp at h
    · exact cnt_zero n (by omega) i (by omega)

theorem clash_keys {ops : List Oper} {o p : Oper} {ko kp : List (Nat × Bool)} {k : Nat} {b b' : Bool} (h1 : (k, b) ∈ ko) (h2 : (k, b') ∈ kp) (hb : (b || b') = true) : clash ops o p ko kp = true := by
  unfold clash
  have : (ko.any fun x => kp.any fun y => x.1 == y.1 && (x.2 || y.2)) = true := by
    rw [List.any_eq_true]
    exact ⟨_, h1, List.any_eq_true.2 ⟨_, h2, by simpa using hb⟩⟩
  rw [this]
  simp

/-- What is left stands in the text's order: each waits for all ahead of it. -/
theorem tail_sound (lr : Option Nat) {P : Program} (ops : List Oper) (Q : Exit → Act → World → Prop) (hc2 : ∀ j o, ops[j]? = some o → ∀ e ∈ o.after.toList, Region.binds .any e = true → e.on < j) (m : Nat)
    (hfull : ∀ j, m ≤ j → j < ops.length → ∀ i, i < j → Anc ops j i) : ∀ (suf : List Oper) (k : Nat) (listed : Array Bool) (a : Act) (w : World), ops.drop k = suf → m ≤ k → (∀ i, listed.getD i false = decide (i < k)) → listed.size = ops.length →
    wpListIn (Fw lr) 0 P ops.toArray Q suf a w → wpAnyIn (Fw lr) 0 P .any ops.toArray Q suf.length listed a w
  | [], k, listed, a, w, hd, hk, hl, hs, h => by
    refine ⟨?_, h⟩
    rw [List.eq_nil_iff_forall_not_mem]
    intro j hj
    obtain ⟨h1, o, ho, _⟩ := mem_ready.1 hj
    have hlt : j < ops.length := by simpa using (Array.getElem?_eq_some_iff.1 ho).1
    have hkl : ops.length ≤ k := by simpa using hd
    have h2 := hl j
    rw [Array.getD_eq_getD_getElem?] at h1 h2
    have hjl : j < listed.size := by omega
    simp [hjl] at h1 h2
    rw [h1] at h2
    simp at h2
    omega
  | o :: rest, k, listed, a, w, hd, hk, hl, hs, h => by
    have hko : ops[k]? = some o := by
      have := congrArg (fun l => l[0]?) hd
      simpa using this
    have hkl : k < ops.length := (List.getElem?_eq_some_iff.1 hko).1
    have hdrop : ops.drop (k + 1) = rest := by
      have := congrArg (List.drop 1) hd
      simpa [Nat.add_comm] using this
    have hmem : k ∈ Region.ready .any ops.toArray listed := by
      rw [mem_ready]
      refine ⟨?_, o, by simpa using hko, fun e he hb => ?_⟩
      · have := hl k
        rw [Array.getD_eq_getD_getElem?] at this ⊢
        have hjl : k < listed.size := by omega
        simp [hjl] at this ⊢
        exact this
      · rw [hl]
        simpa using hc2 k o hko e (by simpa using he) hb
    refine ⟨fun h0 => (by rw [h0] at hmem; cases hmem), fun j hj => ?_⟩
    obtain ⟨h1, oj, hoj, hrd⟩ := mem_ready.1 hj
    have hjl : j < ops.length := by simpa using (Array.getElem?_eq_some_iff.1 hoj).1
    have hge : k ≤ j := by
      have h2 := hl j
      rw [Array.getD_eq_getD_getElem?] at h1 h2
      have : j < listed.size := by omega
      simp [this] at h1 h2
      rw [h1] at h2
      simpa using h2
    have hjk : j = k := by
      rcases Nat.lt_or_ge k j with hlt | hge'
      · have := anc_ready (p := fun i => decide (i < k)) (fun q oq hq hp e he hb => by
            have := hc2 q oq hq e he hb
            simp at hp ⊢; omega) (hfull j (by omega) hjl k hlt) (fun o' ho' e he hb => by
            have ho'' : oj = o' := by simp at hoj; rw [hoj] at ho'; simpa using ho'
            subst ho''
            have := hrd e (by simpa using he) hb
            rw [hl] at this
            exact this)
        simp at this
      · omega
    subst hjk
    unfold wpOpIn
    rw [hoj]
    have : oj = o := by simp at hoj; rw [hoj] at hko; simpa using hko
    subst this
    dsimp only
    have next : ∀ a' w', wpListIn (Fw lr) 0 P ops.toArray Q rest a' w' → wpAnyIn (Fw lr) 0 P .any ops.toArray Q rest.length (listed.setIfInBounds j true) a' w' := fun a' w' h' =>
      tail_sound lr ops Q hc2 m hfull rest (j + 1) _ a' w' hdrop (by omega) (fun i => by
        by_cases e : j = i
        · subst e
          rw [Array.getD_eq_getD_getElem?]
          have : j < listed.size := by omega
          simp [this]
        · rw [getD_set_ne false e, hl]
          simp; omega) (by simpa using hs) h'
    unfold wpListIn at h
    split
    · rename_i hw; rw [if_pos hw] at h; exact Oper.wpIn_mono next h
    · rename_i hw; rw [if_neg hw] at h; exact ⟨h.1, next _ _ h.2⟩

theorem cnt_all {p : Nat → Bool} : ∀ n, (∀ i, i < n → p i = true) → cnt p n = 0
  | 0, _ => rfl
  | n + 1, h => by simp only [cnt]; rw [cnt_all n fun i hi => h i (by omega), h n (by omega)]; rfl

theorem draw_sound (lr : Option Nat) {c : Cx} {w0 : Env} (hτ : TOK c.P c.τ) (hq : EQOK c.P c.eqs) (hby : BYOK c.P c.byt) (hm : c.P.follows .mixedOrders = true) (id : Nat) (ops pre suf : List Oper) (hops : ops = pre ++ suf) (Q : Exit → Act → World → Prop)
    (σ : St) (β : Nat → Nat) (ρ : Nat → Value) (a : Act) (w : World) (ob : Prop) (σ' : St) (ks : List (List (Nat × Bool))) (hs : CK c ops pre σ = some (ob, σ', ks)) (hk : chk ops ks = true) (hfull : ∀ j, pre.length ≤ j → j < ops.length → ∀ i, i < j → Anc ops j i) (hob : ob) (h : Rel c w0 β ρ σ a w)
    (hQ : ∀ β' ρ' a' w', Rel c w0 β' ρ' σ' a' w' → wpListIn (Fw lr) 0 c.P ops.toArray Q suf a' w') : (Code.region id ops.toArray true).wpIn (Fw lr) 0 c.P Q a w := by
  obtain ⟨L, hL, hkl, rfl, hall⟩ := dsteps_open ops pre σ ob σ' ks hs hob
  have hlens : ops.length = pre.length + suf.length := by rw [hops]; simp
  obtain ⟨hc1, hc2⟩ := chk_spec hk
  have hlen : L.length = pre.length := by rw [← hL]; simp
  have hpre : ∀ i, i < pre.length → ops[i]? = pre[i]? := fun i hi => by rw [hops, List.getElem?_append_left hi]
  have hget : ∀ (i : Nat) (o : Oper) (e : Eff), L[i]? = some (o, e) → ops[i]? = some o := fun i o e hi => by
    rw [hpre i (by rw [← hlen]; exact (List.getElem?_eq_some_iff.1 hi).1), ← hL]; simp [hi]
  have hgetL : ∀ (i : Nat) (o : Oper), i < pre.length → ops[i]? = some o → ∃ e, L[i]? = some (o, e) := fun i o hlt hi => by
    rw [hpre i hlt, ← hL] at hi
    simp only [List.getElem?_map] at hi
    cases hh : L[i]? with
    | none => simp [hh] at hi
    | some x => obtain ⟨o', e⟩ := x; simp [hh] at hi; subst hi; exact ⟨e, rfl⟩
  -- the keys of each
  have hkd : ∀ (i : Nat) (o : Oper) (e : Eff), L[i]? = some (o, e) → ks.getD i [] = DJ (part (fun m => decide (m < i)) L σ) o e := fun i o e hi => by
    rw [List.getD_eq_getElem?_getD, (hall i o e hi).2.2]; rfl
  have kbox : ∀ (i : Nat) (o : Oper) (e : Eff) (k : Nat) (cs : List V), L[i]? = some (o, e) → e.box = some (k, cs) → (k, true) ∈ ks.getD i [] ∧ ∀ x ∈ DL cs, x ∈ ks.getD i [] := fun i o e k cs hi hb => by
    rw [hkd i o e hi]
    unfold DJ
    rw [hb]
    exact ⟨by simp, fun x hx => by simp [hx]⟩
  have krow : ∀ (i : Nat) (o : Oper) (e : Eff) (k : Nat) (R : Row), L[i]? = some (o, e) → e.row = some (k, R) → (k, true) ∈ ks.getD i [] := fun i o e k R hi hb => by
    rw [hkd i o e hi]
    unfold DJ
    rw [hb]
    simp
  have kkey : ∀ (i : Nat) (o : Oper) (e : Eff) (k : Nat), L[i]? = some (o, e) → e.key = some k → (k, true) ∈ ks.getD i [] := fun i o e k hi hb => by
    rw [hkd i o e hi]
    unfold DJ
    rw [hb]
    simp
  have kval : ∀ (i : Nat) (o : Oper) (e : Eff) (v : V), L[i]? = some (o, e) → e.val = some v → ∀ k ∈ DK v, (k, false) ∈ ks.getD i [] := fun i o e v hi hb k hkv => by
    rw [hkd i o e hi]
    unfold DJ
    rw [hb]
    have : (k, false) ∈ DL [v] := mem_keysVs (by simp) hkv
    simp [this]
  have kraw : ∀ (i : Nat) (o : Oper) (e : Eff) (raw : List V), L[i]? = some (o, e) → CO (part (fun m => decide (m < i)) L σ) (CT o.op) = some raw → ∀ x ∈ raw, ∀ k ∈ DK x, (k, false) ∈ ks.getD i [] := fun i o e raw hi hb x hx k hkv => by
    rw [hkd i o e hi]
    unfold DJ
    rw [hb]
    have : (k, false) ∈ DL raw := mem_keysVs hx hkv
    simp [this]
  have main : ∀ (fuel : Nat) (listed : Array Bool) (p : Nat → Bool) (β : Nat → Nat) (ρ : Nat → Value) (a : Act) (w : World), (∀ i, listed.getD i false = p i) → listed.size = ops.length → Down ops p → (∀ i, pre.length ≤ i → p i = false) → cnt p pre.length = fuel →
      Rel c w0 β ρ (part p L σ) a w → wpAnyIn (Fw lr) 0 c.P .any ops.toArray Q (fuel + suf.length) listed a w := by
    have finish : ∀ (p : Nat → Bool) (β : Nat → Nat) (ρ : Nat → Value) (a : Act) (w : World), (∀ i, i < pre.length → p i = true) → Rel c w0 β ρ (part p L σ) a w → wpListIn (Fw lr) 0 c.P ops.toArray Q suf a w := fun p β ρ a w hp hr => by
      refine hQ β ρ a w (hr.ext (fun t => ?_) (fun k => ?_) (fun k => ?_)) <;>
      · refine look_ups_congr _ 0 _ _ (fun m u hm _ => ?_) rfl
        have hlt : m < pre.length := by
          have := (List.getElem?_eq_some_iff.1 hm).1
          simpa [hlen] using this
        simp [hp m hlt, hlt]
    intro fuel
    induction fuel with
    | zero =>
      intro listed p β ρ a w hpl hsz hd hnp hc hr
      have hp := cnt_zero pre.length hc
      rw [Nat.zero_add]
      refine tail_sound lr ops Q hc2 pre.length hfull suf pre.length listed a w (by rw [hops]; simp) (Nat.le_refl _) (fun i => ?_) hsz (finish p β ρ a w hp hr)
      rw [hpl]
      by_cases hi : i < pre.length
      · rw [hp i hi]; simp [hi]
      · rw [hnp i (by omega)]; simp; omega
    | succ fuel ih =>
      intro listed p β ρ a w hpl hsz hd hnp hc hr
      have notyet : ∀ j, j < ops.length → listed.getD j true = false → p j = false := fun j hlt h1 => by
        rw [← hpl j]
        rw [Array.getD_eq_getD_getElem?] at h1 ⊢
        have : j < listed.size := by omega
        simp [this] at h1 ⊢
        exact h1
      have some_undone : ∃ i, i < pre.length ∧ p i = false := by
        rcases Classical.em (∃ i, i < pre.length ∧ p i = false) with h | h
        · exact h
        · have := cnt_all (p := p) pre.length fun i hi => by
            cases hp : p i with
            | true => rfl
            | false => exact absurd ⟨i, hi, hp⟩ h
          omega
      rw [show fuel + 1 + suf.length = (fuel + suf.length) + 1 by omega]
      refine ⟨fun h0 => ?_, fun j hj => ?_⟩
      · obtain ⟨i, hi, hp⟩ := some_undone
        exact absurd (show False by
          -- the first that has not come up is ready
          have : ∃ j, j < pre.length ∧ p j = false ∧ ∀ m, m < j → p m = true := by
            induction i using Nat.strongRecOn with
            | _ i ihi =>
              by_cases hm : ∃ m, m < i ∧ p m = false
              · obtain ⟨m, h1, h2⟩ := hm
                exact ihi m h1 (by omega) h2
              · exact ⟨i, hi, hp, fun m hm' => by
                  cases hpm : p m with
                  | true => rfl
                  | false => exact absurd ⟨m, hm', hpm⟩ hm⟩
          obtain ⟨j, h1, h2, h3⟩ := this
          have hmem : j ∈ Region.ready .any ops.toArray listed := by
            rw [mem_ready]
            refine ⟨?_, ops[j]'(by omega), by simp, fun e he hb => ?_⟩
            · have := hpl j
              rw [h2] at this
              rw [Array.getD_eq_getD_getElem?] at this ⊢
              have hlt : j < listed.size := by omega
              simp [hlt] at this ⊢
              exact this
            · rw [hpl]
              exact h3 _ (hc2 j (ops[j]'(by omega)) (by simp) e (by simpa using he) hb)
          rw [h0] at hmem
          cases hmem) (fun h => h)
      · obtain ⟨h1, o, ho, hrd⟩ := mem_ready.1 hj
        have hlt : j < ops.length := by simpa using (Array.getElem?_eq_some_iff.1 ho).1
        have ho' : ops[j]? = some o := by simpa using ho
        have hready : ∀ o', ops[j]? = some o' → ∀ e ∈ o'.after.toList, Region.binds .any e = true → p e.on = true := fun o' h' e he hb => by
          rw [ho'] at h'
          simp only [Option.some.injEq] at h'
          subst h'
          rw [← hpl]
          exact hrd e (by simpa using he) hb
        have hltp : j < pre.length := by
          rcases Nat.lt_or_ge j pre.length with hh | hh
          · exact hh
          · obtain ⟨i, hi, hp⟩ := some_undone
            have := anc_ready hd (hfull j hh hlt i (by omega)) hready
            rw [hp] at this; cases this
        obtain ⟨e, hLj⟩ := hgetL j o hltp ho'
        have hpj := notyet j hlt h1
        have hready : ∀ o', ops[j]? = some o' → ∀ e ∈ o'.after.toList, Region.binds .any e = true → p e.on = true := fun o' h' e he hb => by
          rw [ho'] at h'
          simp only [Option.some.injEq] at h'
          subst h'
          rw [← hpl]
          exact hrd e (by simpa using he) hb
        obtain ⟨⟨obj, hst, hobj⟩, ⟨hnew, hlo⟩, hkj⟩ := hall j o e hLj
        -- whoever clashes stands where the text's order has it
        have ag1 : ∀ (i : Nat) (oi : Oper), ops[i]? = some oi → i < j → clash ops oi o (ks.getD i []) (ks.getD j []) = true → p i = true := fun i oi hi hij hcl =>
          anc_ready hd (hc1 i j oi o hij hi ho' hcl) hready
        have ag2 : ∀ (i : Nat) (oi : Oper), ops[i]? = some oi → j < i → clash ops o oi (ks.getD j []) (ks.getD i []) = true → p i = false := fun i oi hi hij hcl => by
          cases hp : p i with
          | false => rfl
          | true =>
            have := anc_down hd (hc1 j i o oi hij ho' hi hcl) hp
            rw [hpj] at this; cases this
        have ag : ∀ (i : Nat) (oi : Oper), ops[i]? = some oi → (i < j → clash ops oi o (ks.getD i []) (ks.getD j []) = true) → (j < i → clash ops o oi (ks.getD j []) (ks.getD i []) = true) → p (0 + i) = decide (0 + i < j) := fun i oi hi c1 c2 => by
          rw [Nat.zero_add]
          rcases Nat.lt_trichotomy i j with hlt' | rfl | hgt
          · rw [ag1 i oi hi hlt' (c1 hlt')]; simp [hlt']
          · simp [hpj]
          · rw [ag2 i oi hi hgt (c2 hgt)]; simp; omega
        have hT : ∀ t ∈ reads ops o, CS (part (fun m => decide (m < j)) L σ).t t = CS (part p L σ).t t := fun t ht => by
          refine (look_ups_congr _ 0 _ _ (fun i u hi hu => ?_) rfl).symm
          simp only [List.getElem?_map] at hi
          cases hLi : L[i]? with
          | none => simp [hLi] at hi
          | some x =>
            obtain ⟨oi, ei⟩ := x
            simp only [hLi, Option.map_some, Option.some.injEq, tU] at hi
            have hdst : oi.dst = some t := by
              cases hd' : oi.dst <;> cases hv' : ei.val <;> rw [hd', hv'] at hi <;> simp at hi
              subst hi
              simp at hu
              rw [hu]
            refine ag i oi (hget i oi ei hLi) (fun _ => ?_) (fun _ => ?_)
            · unfold clash
              rw [hdst]
              have : (reads ops o).contains t = true := by simpa using ht
              simp [ht]
            · unfold clash
              rw [hdst]
              simp [ht]
        unfold wpOpIn
        rw [ho]
        dsimp only
        have hraw : ∃ raw, CO (part (fun m => decide (m < j)) L σ) (CT o.op) = some raw := by
          unfold CL at hst
          cases hh : CO (part (fun m => decide (m < j)) L σ) (CT o.op) with
          | none => rw [hh] at hst; simp at hst
          | some raw => exact ⟨raw, rfl⟩
        obtain ⟨raw, hraw⟩ := hraw
        have hB : ∀ x ∈ raw, ∀ k ∈ DK x, CS (part (fun m => decide (m < j)) L σ).b k = CS (part p L σ).b k := fun x hx k hkx => by
          refine (look_ups_congr _ 0 _ _ (fun i u hi hu => ?_) rfl).symm
          simp only [List.getElem?_map] at hi
          cases hLi : L[i]? with
          | none => simp [hLi] at hi
          | some y =>
            obtain ⟨oi, ei⟩ := y
            simp only [hLi, Option.map_some, Option.some.injEq, bU] at hi
            cases hb : ei.box with
            | none => rw [hb] at hi; simp at hi
            | some q =>
              obtain ⟨k', cs⟩ := q
              rw [hb] at hi
              simp at hi
              subst hi
              simp at hu
              subst hu
              have g1 := (kbox i oi ei _ cs hLi hb).1
              have g2 := kraw j o e raw hLj hraw x hx _ hkx
              exact ag i oi (hget i oi ei hLi) (fun _ => clash_keys g1 g2 rfl) (fun _ => clash_keys g2 g1 rfl)
        have hX : ∀ x ∈ raw, ∀ k ∈ DK x, CS (part (fun m => decide (m < j)) L σ).x k = CS (part p L σ).x k := fun x hx k hkx => by
          refine (look_ups_congr _ 0 _ _ (fun i u hi hu => ?_) rfl).symm
          simp only [List.getElem?_map] at hi
          cases hLi : L[i]? with
          | none => simp [hLi] at hi
          | some y =>
            obtain ⟨oi, ei⟩ := y
            simp only [hLi, Option.map_some, Option.some.injEq, xU] at hi
            cases hb : ei.row with
            | none => rw [hb] at hi; simp at hi
            | some q =>
              obtain ⟨k', R⟩ := q
              rw [hb] at hi
              simp at hi
              subst hi
              simp at hu
              subst hu
              have g1 := krow i oi ei _ R hLi hb
              have g2 := kraw j o e raw hLj hraw x hx _ hkx
              exact ag i oi (hget i oi ei hLi) (fun _ => clash_keys g1 g2 rfl) (fun _ => clash_keys g2 g1 rfl)
        rw [step1_congr hT hraw hB hX] at hst
        -- a new key has no traces
        have hnew' : (part p L σ).newOK e.key = true := by
          cases hke : e.key with
          | none => rfl
          | some k =>
            rw [hke] at hnew
            simp only [St.newOK, St.unseen, Bool.and_eq_true] at hnew ⊢
            obtain ⟨⟨n1, n2⟩, n3⟩ := hnew
            have gk := kkey j o e k hLj hke
            have later : ∀ (i : Nat) (oi : Oper) (ei : Eff), L[i]? = some (oi, ei) → p i = true → ¬ i < j → ∀ x ∈ ks.getD i [], x.1 ≠ k := fun i oi ei hi hp hij x hx he => by
              have hne : i ≠ j := fun e' => by rw [e', hpj] at hp; cases hp
              have := ag2 i oi (hget i oi ei hi) (by omega) (clash_keys (b := true) (b' := x.2) gk (by rw [← he]; exact hx) rfl)
              rw [this] at hp; cases hp
            refine ⟨⟨unseenT_iff.2 fun x hx => ?_, unseenB_iff.2 fun x hx => ?_⟩, unseenX_iff.2 fun x hx => ?_⟩
            · rcases mem_ups _ 0 _ hx with hx | ⟨i, hi, hp⟩
              · exact unseenT_iff.1 n1 x (mem_ups_base _ 0 _ hx)
              · rw [Nat.zero_add] at hp
                by_cases hij : i < j
                · exact unseenT_iff.1 n1 x (mem_ups_of _ 0 _ i hi (by simpa using hij))
                · simp only [List.getElem?_map] at hi
                  cases hLi : L[i]? with
                  | none => simp [hLi] at hi
                  | some y =>
                    obtain ⟨oi, ei⟩ := y
                    simp only [hLi, Option.map_some, Option.some.injEq, tU] at hi
                    have hv : ei.val = some x.2 := by
                      cases hd' : oi.dst <;> cases hv' : ei.val <;> rw [hd', hv'] at hi <;> simp at hi
                      rw [← hi]
                    cases hmn : DR k x.2 with
                    | false => rfl
                    | true => exact absurd rfl (later i oi ei hLi hp hij _ (kval i oi ei _ hLi hv k (mention_keys hmn)))
            · rcases mem_ups _ 0 _ hx with hx | ⟨i, hi, hp⟩
              · exact unseenB_iff.1 n2 x (mem_ups_base _ 0 _ hx)
              · rw [Nat.zero_add] at hp
                by_cases hij : i < j
                · exact unseenB_iff.1 n2 x (mem_ups_of _ 0 _ i hi (by simpa using hij))
                · simp only [List.getElem?_map] at hi
                  cases hLi : L[i]? with
                  | none => simp [hLi] at hi
                  | some y =>
                    obtain ⟨oi, ei⟩ := y
                    simp only [hLi, Option.map_some, Option.some.injEq, bU] at hi
                    cases hb : ei.box with
                    | none => rw [hb] at hi; simp at hi
                    | some q =>
                      obtain ⟨k', cs⟩ := q
                      rw [hb] at hi
                      simp at hi
                      obtain ⟨g1, g2⟩ := kbox i oi ei _ cs hLi hb
                      rw [← hi]
                      refine ⟨later i oi ei hLi hp hij _ g1, ?_⟩
                      rw [Bool.eq_false_iff]
                      intro hany
                      obtain ⟨v, hv, hmn⟩ := List.any_eq_true.1 hany
                      exact later i oi ei hLi hp hij _ (g2 _ (mem_keysVs hv (mention_keys hmn))) rfl
            · rcases mem_ups _ 0 _ hx with hx | ⟨i, hi, hp⟩
              · exact unseenX_iff.1 n3 x (mem_ups_base _ 0 _ hx)
              · rw [Nat.zero_add] at hp
                by_cases hij : i < j
                · exact unseenX_iff.1 n3 x (mem_ups_of _ 0 _ i hi (by simpa using hij))
                · simp only [List.getElem?_map] at hi
                  cases hLi : L[i]? with
                  | none => simp [hLi] at hi
                  | some y =>
                    obtain ⟨oi, ei⟩ := y
                    simp only [hLi, Option.map_some, Option.some.injEq, xU] at hi
                    cases hb : ei.row with
                    | none => rw [hb] at hi; simp at hi
                    | some q =>
                      obtain ⟨k', R⟩ := q
                      rw [hb] at hi
                      simp at hi
                      have g1 := krow i oi ei _ R hLi hb
                      rw [← hi]
                      exact later i oi ei hLi hp hij _ g1
        have hfin : ∀ (β' : Nat → Nat) (ρ' : Nat → Value) (a' : Act) (w' : World), Rel c w0 β' ρ' ((part p L σ).app o.dst e) a' w' → wpAnyIn (Fw lr) 0 c.P .any ops.toArray Q (fuel + suf.length) (listed.setIfInBounds j true) a' w' := fun β' ρ' a' w' hr' => by
          have hsz' : j < listed.size := by omega
          refine ih (listed.setIfInBounds j true) (fun i => p i || i == j) β' ρ' a' w' (fun i => ?_) (by simpa using hsz) (fun i oi hi hp e' he' hb' => ?_) (fun i hi => by rw [hnp i hi]; simp; omega) (by have := cnt_add pre.length hltp hpj; omega) ?_
          · by_cases e' : j = i
            · subst e'
              rw [Array.getD_eq_getD_getElem?]
              simp [hsz']
            · rw [getD_set_ne false e', hpl]
              have : (i == j) = false := by simp; omega
              rw [this, Bool.or_false]
          · rw [Bool.or_eq_true] at hp ⊢
            rcases hp with hp | hp
            · exact .inl (hd i oi hi hp e' he' hb')
            · have : i = j := by simpa using hp
              subst this
              exact .inl (hready oi hi e' he' hb')
          · rw [app_eq _ _ _ hlo] at hr'
            refine hr'.ext (fun t => ?_) (fun k => ?_) (fun k => ?_)
            · have := look_ups_add (p := p) (L.map tU) j σ.t hpj (fun u v hu m hjm hv huv => ?_) t
              · rw [show (part (fun i => p i || i == j) L σ).t = ups (fun i => p i || i == j) 0 (L.map tU) σ.t from rfl, this]
                simp only [List.getElem?_map, hLj, Option.map_some]
                cases tU (o, e) <;> rfl
              · simp only [List.getElem?_map] at hu hv
                rw [hLj] at hu
                cases hLm : L[m]? with
                | none => simp [hLm] at hv
                | some y =>
                  obtain ⟨om, em⟩ := y
                  simp only [hLm, Option.map_some, Option.some.injEq, tU] at hu hv
                  have hd1 : o.dst = some u.1 := by
                    cases hd' : o.dst <;> cases hv' : e.val <;> rw [hd', hv'] at hu <;> simp at hu
                    rw [← hu]
                  have hd2 : om.dst = some v.1 := by
                    cases hd' : om.dst <;> cases hv' : em.val <;> rw [hd', hv'] at hv <;> simp at hv
                    rw [← hv]
                  refine ag2 m om (hget m om em hLm) hjm ?_
                  unfold clash
                  rw [hd1, hd2, huv]
                  simp
            · have := look_ups_add (p := p) (L.map bU) j σ.b hpj (fun u v hu m hjm hv huv => ?_) k
              · rw [show (part (fun i => p i || i == j) L σ).b = ups (fun i => p i || i == j) 0 (L.map bU) σ.b from rfl, this]
                simp only [List.getElem?_map, hLj, Option.map_some]
                cases bU (o, e) <;> rfl
              · simp only [List.getElem?_map] at hu hv
                rw [hLj] at hu
                cases hLm : L[m]? with
                | none => simp [hLm] at hv
                | some y =>
                  obtain ⟨om, em⟩ := y
                  simp only [hLm, Option.map_some, Option.some.injEq, bU] at hu hv
                  cases hb1 : e.box with
                  | none => rw [hb1] at hu; simp at hu
                  | some q1 =>
                    cases hb2 : em.box with
                    | none => rw [hb2] at hv; simp at hv
                    | some q2 =>
                      obtain ⟨k1, cs1⟩ := q1
                      obtain ⟨k2, cs2⟩ := q2
                      rw [hb1] at hu; rw [hb2] at hv
                      simp at hu hv
                      subst hu; subst hv
                      simp at huv
                      subst huv
                      exact ag2 m om (hget m om em hLm) hjm (clash_keys (kbox j o e _ cs1 hLj hb1).1 (kbox m om em _ cs2 hLm hb2).1 rfl)
            · have := look_ups_add (p := p) (L.map xU) j σ.x hpj (fun u v hu m hjm hv huv => ?_) k
              · rw [show (part (fun i => p i || i == j) L σ).x = ups (fun i => p i || i == j) 0 (L.map xU) σ.x from rfl, this]
                simp only [List.getElem?_map, hLj, Option.map_some]
                cases xU (o, e) <;> rfl
              · simp only [List.getElem?_map] at hu hv
                rw [hLj] at hu
                cases hLm : L[m]? with
                | none => simp [hLm] at hv
                | some y =>
                  obtain ⟨om, em⟩ := y
                  simp only [hLm, Option.map_some, Option.some.injEq, xU] at hu hv
                  cases hb1 : e.row with
                  | none => rw [hb1] at hu; simp at hu
                  | some q1 =>
                    cases hb2 : em.row with
                    | none => rw [hb2] at hv; simp at hv
                    | some q2 =>
                      obtain ⟨k1, R1⟩ := q1
                      obtain ⟨k2, R2⟩ := q2
                      rw [hb1] at hu; rw [hb2] at hv
                      simp at hu hv
                      subst hu; subst hv
                      simp at huv
                      subst huv
                      exact ag2 m om (hget m om em hLm) hjm (clash_keys (krow j o e _ R1 hLj hb1) (krow m om em _ R2 hLm hb2) rfl)
        have := step1_sound hτ hq hby (Q := Q) hr ops o hst hobj (part p L σ) (by
          cases hke : e.key with
          | none => rfl
          | some k => rw [hke] at hnew'; exact ready_unseen c _ k hnew') hfin
        split
        · rename_i hw; rw [if_pos hw] at this; exact wpIn_of_wp lr (step1_op hst) this
        · rename_i hw; rw [if_neg hw] at this; exact ⟨fun f _ => trivial, this⟩
  refine wpIn_region_any hm ?_
  rw [show ops.toArray.size = pre.length + suf.length by simpa using hlens]
  have hrep : Array.replicate (pre.length + suf.length) false = Array.replicate ops.length false := by rw [hlens]
  rw [hrep]
  refine main pre.length (Array.replicate ops.length false) (fun _ => false) β ρ a _ (fun i => ?_) (by simp) (fun j o ho hp => by cases hp) (fun _ _ => rfl) (by
    have : ∀ n, cnt (fun _ => false) n = n := fun n => by
      induction n with
      | zero => rfl
      | succ n ih => simp [cnt, ih]
    exact this _) ?_
  · rw [Array.getD_eq_getD_getElem?]
    by_cases hi : i < ops.length
    · simp [hi]
    · simp [hi]
  · have : part (fun _ => false) L σ = σ := by
      unfold part
      rw [ups_none, ups_none, ups_none] <;> intros <;> rfl
    rw [this]
    exact h.world ⟨rfl, rfl, rfl, Nat.le_refl _, fun _ _ => rfl⟩

end Go.Ab
