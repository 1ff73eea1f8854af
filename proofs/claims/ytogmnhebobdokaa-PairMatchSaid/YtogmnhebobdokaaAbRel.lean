/- The abstract layer, part 2: what a state says of a frame and of memory. -/
import Derived.Test.YtogmnhebobdokaaAbDef
import Derived.RangeFuncOwn
set_option linter.unusedVariables false
set_option linter.unusedSimpArgs false
namespace Go.Ab
open Go Go.RowKit

def conc (β : Nat → Nat) (ρ : Nat → Value) : V → Value
  | .v x => x
  | .p k o => .pointer (some ⟨β k, o, none⟩)
  | .r k => ρ k
  | .e k i s o =>
    match ρ k with
    | .slice (some A) _ _ => .pointer (some ⟨A.block, A.off + (i.toNat * s + o), none⟩)
    | _ => undef
  | .q b x => if b then conc β ρ x else undef
  | .tr k vs => .tuple (ρ k :: vs).toArray
  | .d => undef

/-- Where a frame stands: the world that it began in, the blocks that it must leave as they were. -/
structure Env where
  w0 : World
  pr : Nat → Prop
  lt : ∀ k, pr k → k < w0.heap.size
/-- A call of its own: all that lay must lie. -/
def Env.of (w : World) : Env := ⟨w, fun k => k < w.heap.size, fun _ h => h⟩
structure Kept (E : Env) (w : World) : Prop where
  os : w.os = E.w0.os
  tape : w.tape = E.w0.tape
  output : w.output = E.w0.output
  size : E.w0.heap.size ≤ w.heap.size
  block : ∀ k, E.pr k → w.heap[k]? = E.w0.heap[k]?
theorem Kept.refl (E : Env) : Kept E E.w0 := ⟨rfl, rfl, rfl, Nat.le_refl _, fun _ _ => rfl⟩
theorem Kept.step {E : Env} {w w' : World} (h : Kept E w) (k : Below w.heap.size w w') : Kept E w' :=
  ⟨k.os.trans h.os, k.tape.trans h.tape, k.output.trans h.output, Nat.le_trans h.size k.size, fun b hb => (k.block b (Nat.lt_of_lt_of_le (E.lt b hb) h.size)).trans (h.block b hb)⟩
theorem Kept.fresh {E : Env} {w : World} (h : Kept E w) {b : Nat} (hb : w.heap.size ≤ b) : ¬ E.pr b := fun hp => by have := E.lt b hp; have := h.size; omega
theorem Kept.below {w w' : World} (h : Kept (Env.of w) w') : Below w.heap.size w w' := ⟨h.os, h.tape, h.output, h.size, h.block⟩

/-- The marks of ranges over functions that have ended. -/
def marks (E : Env) (w : World) : List Deferred → Prop
  | [] => True
  | d :: ds => (∃ r, d.target = .collected r ∧ w.heap[r]? = some (Obj.deferred (some [])) ∧ ¬ E.pr r ∧ ∀ d' ∈ ds, d'.target ≠ .collected r) ∧ marks E w ds
theorem marks.mono {E : Env} {w w' : World} : ∀ {l : List Deferred}, marks E w l → (∀ r : Nat, w.heap[r]? = some (Obj.deferred (some [])) → w'.heap[r]? = w.heap[r]?) → marks E w' l
  | [], _, _ => trivial
  | d :: ds, ⟨⟨r, h1, h2, h3, h4⟩, h5⟩, hk => ⟨⟨r, h1, (hk r h2).trans h2, h3, h4⟩, marks.mono h5 hk⟩

structure Rel (c : Cx) (w0 : Env) (β : Nat → Nat) (ρ : Nat → Value) (σ : St) (a : Act) (w : World) : Prop where
  below : Kept w0 w
  size : a.tmps.size = c.N
  defers : marks w0 w a.defers
  slots : ∀ t v, look σ.t t = some v → v ≠ .d → a.tmps.getD t undef = conc β ρ v
  boxes : ∀ k cs, look σ.b k = some (some cs) → ¬ w0.pr (β k) ∧ ∃ T, w.heap[β k]? = some (.cells (cs.map (conc β ρ)).toArray T (0, 0))
  balive : ∀ k cs, look σ.b k = some (some cs) → ∀ v ∈ cs, v ≠ .d
  binj : ∀ k j cs ds, look σ.b k = some (some cs) → look σ.b j = some (some ds) → k ≠ j → β k ≠ β j
  rows : ∀ k R, look σ.x k = some (some R) → RowOK w (ρ k) R
  rnew : ∀ k R, look σ.x k = some (some R) → R.new = true → ∀ b, (ρ k).ownBlock = some b → ¬ w0.pr b
  rsz : ∀ k R, look σ.x k = some (some R) → R.size ≠ 0
  rbox : ∀ k R j cs, look σ.x k = some (some R) → look σ.b j = some (some cs) → R.len ≠ 0 → (ρ k).ownBlock ≠ some (β j)

theorem look_cons {α : Type} (k : Nat) (v : α) (l : List (Nat × α)) (n : Nat) : look ((k, v) :: l) n = if k = n then some v else look l n := rfl

theorem alive_some {u v : V} (h : alive (some u) = some v) : u = v ∧ u ≠ .d := by
  unfold alive at h
  split at h
  · simp at h
  · simp at h
  · rename_i h1 h2; simp at h; exact ⟨h, fun e => h1 (by rw [e])⟩

theorem alive_unq {u : Option V} {v : V} (h : alive u = some v) : unq v ≠ .d := by
  unfold alive at h
  split at h
  · simp at h
  · simp at h
  · rename_i h1 h2
    subst h
    cases v <;> simp [unq]
    · rename_i b x; intro e; subst e; exact h2 b rfl
    · exact h1 rfl

theorem ev_sound {c : Cx} {w0 : Env} {β : Nat → Nat} {ρ : Nat → Value} {σ : St} {a : Act} {w : World} (h : Rel c w0 β ρ σ a w) {x : Operand} {v : V} (hx : ev σ x = some v) : a.eval x = conc β ρ v := by
  cases x with
  | tmp t =>
    simp only [ev] at hx
    cases hl : look σ.t t with
    | none => rw [hl] at hx; simp [alive] at hx
    | some u =>
      rw [hl] at hx
      obtain ⟨rfl, hd⟩ : u = v ∧ u ≠ .d := alive_some hx
      simp only [Act.eval]
      exact h.slots t u hl hd
  | const x => simp [ev] at hx; subst hx; rfl
  | func f => simp [ev] at hx; subst hx; rfl
  | global g => simp [ev] at hx

theorem ev_unq {σ : St} {x : Operand} {v : V} (hx : ev σ x = some v) : unq v ≠ .d := by
  cases x with
  | tmp t => exact alive_unq hx
  | const x => simp [ev] at hx; subst hx; simp [unq]
  | func f => simp [ev] at hx; subst hx; simp [unq]
  | global g => simp [ev] at hx

theorem evs_unq {σ : St} : ∀ {l : List Operand} {vs : List V}, evs σ l = some vs → ∀ v ∈ vs, unq v ≠ .d
  | [], vs, he => by simp [evs] at he; subst he; simp
  | x :: l, vs, he => by
    simp only [evs] at he
    cases hx : ev σ x with
    | none => rw [hx] at he; simp at he
    | some v =>
      rw [hx] at he
      cases hl : evs σ l with
      | none => rw [hl] at he; simp at he
      | some us =>
        rw [hl] at he
        simp at he
        subst he
        intro u hu
        rcases List.mem_cons.1 hu with rfl | hu
        · exact ev_unq hx
        · exact evs_unq hl u hu

theorem evs_sound {c : Cx} {w0 : Env} {β : Nat → Nat} {ρ : Nat → Value} {σ : St} {a : Act} {w : World} (h : Rel c w0 β ρ σ a w) : ∀ {l : List Operand} {vs : List V}, evs σ l = some vs → l.map a.eval = vs.map (conc β ρ)
  | [], vs, he => by simp [evs] at he; subst he; rfl
  | x :: l, vs, he => by
    simp only [evs] at he
    cases hx : ev σ x with
    | none => rw [hx] at he; simp at he
    | some v =>
      rw [hx] at he
      cases hl : evs σ l with
      | none => rw [hl] at he; simp at he
      | some us =>
        rw [hl] at he
        simp at he
        subst he
        simp only [List.map_cons, ev_sound h hx, evs_sound h hl]

/-! ### Blocks -/
theorem cell_of_block {w : World} {b : Nat} {cs : Array Value} {T : TypeId} (h : w.heap[b]? = some (.cells cs T (0, 0))) (o : Nat) : w.cell? ⟨b, o, none⟩ = cs[o]? := by
  simp [World.cell?, h]
theorem frozen_of_block {w : World} {b : Nat} {cs : Array Value} {T : TypeId} (h : w.heap[b]? = some (.cells cs T (0, 0))) (o : Nat) : w.frozen? ⟨b, o, none⟩ = false := by
  simp [World.frozen?, h]
theorem block_lt {w : World} {b : Nat} {o : Obj} (h : w.heap[b]? = some o) : b < w.heap.size := (Array.getElem?_eq_some_iff.1 h).1

theorem below_block {w w' : World} (h : Below w.heap.size w w') {b : Nat} {o : Obj} (hb : w.heap[b]? = some o) : w'.heap[b]? = some o := by
  rw [h.block b (block_lt hb)]; exact hb

theorem below_cell {w w' : World} (h : Below w.heap.size w w') {p : Addr} {v : Value} (hc : w.cell? p = some v) : w'.cell? p = some v :=
  (h.cell (World.block_lt_of_cell? w p hc)).trans hc

theorem RowOK.below {w w' : World} (h : Below w.heap.size w w') {v : Value} {R : Row} (hr : RowOK w v R) : RowOK w' v R := by
  obtain ⟨a, c, hv, hl, hi⟩ := hr
  refine ⟨a, c, hv, hl, fun i hlt => ?_⟩
  obtain ⟨hs, b, o, ha, hc⟩ := hi i hlt
  exact ⟨hs, b, o, ha, fun j u hu => below_cell h (hc j u hu)⟩


/-- The world has grown above all that lay. -/
theorem Rel.world {c : Cx} {w0 : Env} {β : Nat → Nat} {ρ : Nat → Value} {σ : St} {a : Act} {w w' : World} (h : Rel c w0 β ρ σ a w) (k : Below w.heap.size w w') : Rel c w0 β ρ σ a w' where
  below := h.below.step k
  size := h.size
  defers := h.defers.mono fun r hr => k.block r (block_lt hr)
  slots := h.slots
  boxes := fun j cs hj => by obtain ⟨h1, T, hT⟩ := h.boxes j cs hj; exact ⟨h1, T, below_block k hT⟩
  balive := h.balive
  binj := h.binj
  rows := fun j R hj => (h.rows j R hj).below k
  rnew := h.rnew
  rsz := h.rsz
  rbox := h.rbox

theorem RowOK.keep {w w' : World} (hc : ∀ (b : Nat) (o : Obj), w.heap[b]? = some o → o.isCells = true → w'.heap[b]? = w.heap[b]?) {v : Value} {R : Row} (hr : RowOK w v R) : RowOK w' v R := by
  obtain ⟨a, c, hv, hl, hi⟩ := hr
  refine ⟨a, c, hv, hl, fun i hlt => ?_⟩
  obtain ⟨hs, b, o, ha, hcl⟩ := hi i hlt
  refine ⟨hs, b, o, ha, fun j u hu => ?_⟩
  have h1 := hcl j u hu
  obtain ⟨x, hx, hxc⟩ := cells_of_cell h1
  exact (World.cell?_of_block (hc _ x hx hxc)).trans h1

/-- Whatever is no cells may turn. -/
theorem Rel.keep {c : Cx} {w0 : Env} {β : Nat → Nat} {ρ : Nat → Value} {σ : St} {a : Act} {w w' : World} (h : Rel c w0 β ρ σ a w) (hos : w'.os = w.os) (htp : w'.tape = w.tape) (hou : w'.output = w.output) (hsz : w.heap.size ≤ w'.heap.size)
    (hc : ∀ (b : Nat) (o : Obj), w.heap[b]? = some o → o.isCells = true → w'.heap[b]? = w.heap[b]?) (hp : ∀ b : Nat, w0.pr b → w'.heap[b]? = w.heap[b]?) {ds : List Deferred} (hd : marks w0 w' ds) :
    Rel c w0 β ρ σ { a with defers := ds } w' where
  below := ⟨hos.trans h.below.os, htp.trans h.below.tape, hou.trans h.below.output, Nat.le_trans h.below.size hsz, fun b hb => (hp b hb).trans (h.below.block b hb)⟩
  size := h.size
  defers := hd
  slots := h.slots
  boxes := fun j cs hj => by obtain ⟨h1, T, hT⟩ := h.boxes j cs hj; exact ⟨h1, T, (hc _ _ hT rfl).trans hT⟩
  balive := h.balive
  binj := h.binj
  rows := fun j R hj => (h.rows j R hj).keep hc
  rnew := h.rnew
  rsz := h.rsz
  rbox := h.rbox

theorem put_getD (a : Act) (d : Nat) (v : Value) (hd : d < a.tmps.size) (t : Nat) : (a.put (some d) v).tmps.getD t undef = if d = t then v else a.tmps.getD t undef := by
  simp only [Act.put, Array.getD_eq_getD_getElem?]
  by_cases e : d = t
  · subst e; simp [hd]
  · rw [if_neg e, Array.getElem?_setIfInBounds_ne e]

/-- A slot is written. -/
theorem Rel.put {c : Cx} {w0 : Env} {β : Nat → Nat} {ρ : Nat → Value} {σ : St} {a : Act} {w : World} (h : Rel c w0 β ρ σ a w) (d : Nat) (hd : d < c.N) (v : V) (x : Value) (hx : v ≠ .d → x = conc β ρ v) :
    Rel c w0 β ρ { σ with t := (d, v) :: σ.t } (a.put (some d) x) w where
  below := h.below
  size := by simpa [Act.put] using h.size
  defers := h.defers
  slots := fun t u hu hne => by
    rw [put_getD a d x (by rw [h.size]; exact hd) t]
    simp only [look_cons] at hu
    by_cases e : d = t
    · rw [if_pos e] at hu ⊢; simp at hu; subst hu; exact hx hne
    · rw [if_neg e] at hu ⊢; exact h.slots t u hu hne
  boxes := h.boxes
  balive := h.balive
  binj := h.binj
  rows := h.rows
  rnew := h.rnew
  rsz := h.rsz
  rbox := h.rbox

/-! ### What a key's change leaves alone -/
def upd {α : Type} (f : Nat → α) (k : Nat) (x : α) : Nat → α := fun j => if j = k then x else f j
theorem upd_same {α : Type} (f : Nat → α) (k : Nat) (x : α) : upd f k x k = x := by simp [upd]
theorem upd_other {α : Type} (f : Nat → α) {k j : Nat} (x : α) (h : j ≠ k) : upd f k x j = f j := by simp [upd, h]

theorem conc_upd (β : Nat → Nat) (ρ : Nat → Value) (k : Nat) (b : Nat) (x : Value) : ∀ v : V, mention k v = false → conc (upd β k b) (upd ρ k x) v = conc β ρ v
  | .v _, _ => rfl
  | .p j o, h => by simp [mention] at h; simp [conc, upd_other _ _ h]
  | .r j, h => by simp [mention] at h; simp [conc, upd_other _ _ h]
  | .e j i s o, h => by simp [mention] at h; simp [conc, upd_other _ _ h]
  | .q g x, h => by simp only [mention] at h; simp only [conc]; rw [conc_upd β ρ k b _ x h]
  | .tr j vs, h => by simp [mention] at h; simp [conc, upd_other _ _ h]
  | .d, _ => rfl

theorem unseenT_look {k : Nat} : ∀ {l : List (Nat × V)} {t : Nat} {v : V}, unseenT k l = true → look l t = some v → mention k v = false
  | [], t, v, _, h => by simp [look] at h
  | (s, u) :: l, t, v, hu, h => by
    simp [unseenT] at hu
    rw [look_cons] at h
    split at h
    · simp at h; subst h; exact hu.1
    · exact unseenT_look hu.2 h
theorem unseenB_look {k : Nat} : ∀ {l : List (Nat × Option (List V))} {j : Nat} {cs : List V}, unseenB k l = true → look l j = some (some cs) → j ≠ k ∧ ∀ v ∈ cs, mention k v = false
  | [], j, cs, _, h => by simp [look] at h
  | (s, u) :: l, j, cs, hu, h => by
    simp [unseenB] at hu
    rw [look_cons] at h
    split at h
    · rename_i e; subst e; simp at h; subst h
      exact ⟨hu.1.1, by simpa using hu.1.2⟩
    · exact unseenB_look hu.2 h
theorem unseenX_look {k : Nat} : ∀ {l : List (Nat × Option Row)} {j : Nat} {r : Option Row}, unseenX k l = true → look l j = some r → j ≠ k
  | [], j, r, _, h => by simp [look] at h
  | (s, u) :: l, j, r, hu, h => by
    simp [unseenX] at hu
    rw [look_cons] at h
    split at h
    · rename_i e; subst e; exact hu.1
    · exact unseenX_look hu.2 h

/-- A key of which nothing is known may mean anything. -/
theorem Rel.rekey {c : Cx} {w0 : Env} {β : Nat → Nat} {ρ : Nat → Value} {σ : St} {a : Act} {w : World} (h : Rel c w0 β ρ σ a w) (k : Nat) (hu : σ.unseen k = true) (b : Nat) (x : Value) :
    Rel c w0 (upd β k b) (upd ρ k x) σ a w := by
  simp only [St.unseen, Bool.and_eq_true] at hu
  obtain ⟨⟨ht, hb⟩, hxx⟩ := hu
  refine ⟨h.below, h.size, h.defers, fun t v hv hne => ?_, fun j cs hj => ?_, fun j cs hj => ?_, fun j j' cs ds hj hj' hne => ?_, fun j R hj => ?_, fun j R hj => ?_, fun j R hj => ?_, fun j R j' cs hj hj' => ?_⟩
  · rw [conc_upd _ _ _ _ _ v (unseenT_look ht hv)]; exact h.slots t v hv hne
  · obtain ⟨h1, h2⟩ := unseenB_look hb hj
    rw [upd_other _ _ h1]
    obtain ⟨h3, T, hT⟩ := h.boxes j cs hj
    refine ⟨h3, T, ?_⟩
    rw [hT]
    congr 3
    exact List.map_congr_left fun v hv => (conc_upd _ _ _ _ _ v (h2 v hv)).symm
  · exact h.balive j cs hj
  · rw [upd_other _ _ (unseenB_look hb hj).1, upd_other _ _ (unseenB_look hb hj').1]; exact h.binj j j' cs ds hj hj' hne
  · rw [upd_other _ _ (unseenX_look hxx hj)]; exact h.rows j R hj
  · rw [upd_other _ _ (unseenX_look hxx hj)]; exact h.rnew j R hj
  · exact h.rsz j R hj
  · rw [upd_other _ _ (unseenX_look hxx hj), upd_other _ _ (unseenB_look hb hj').1]; exact h.rbox j R j' cs hj hj'

theorem look_killT (k : Nat) : ∀ (l : List (Nat × V)) (t : Nat), look (killT k l) t = (look l t).map fun v => if mention k v then .d else v
  | [], t => rfl
  | (s, u) :: l, t => by
    simp only [killT, look_cons, look_killT k l t]
    split <;> simp
theorem look_killB (k : Nat) : ∀ (l : List (Nat × Option (List V))) (j : Nat), look (killB k l) j = (look l j).map fun cs => if j == k || (cs.getD []).any (mention k) then none else cs
  | [], j => rfl
  | (s, u) :: l, j => by
    simp only [killB, look_cons, look_killB k l j]
    split
    · rename_i e; subst e; simp
    · rfl
theorem look_killX (k : Nat) : ∀ (l : List (Nat × Option Row)) (j : Nat), look (killX k l) j = (look l j).map fun r => if j == k then none else r
  | [], j => rfl
  | (s, u) :: l, j => by
    simp only [killX, look_cons, look_killX k l j]
    split
    · rename_i e; subst e; simp
    · rfl

/-- The same, with its old traces forgotten. -/
theorem Rel.kill {c : Cx} {w0 : Env} {β : Nat → Nat} {ρ : Nat → Value} {σ : St} {a : Act} {w : World} (h : Rel c w0 β ρ σ a w) (k : Nat) (b : Nat) (x : Value) :
    Rel c w0 (upd β k b) (upd ρ k x) (σ.kill k) a w := by
  have hT : ∀ t v, look (σ.kill k).t t = some v → v ≠ .d → look σ.t t = some v ∧ mention k v = false := fun t v hv hne => by
    simp only [St.kill, look_killT] at hv
    cases hl : look σ.t t with
    | none => rw [hl] at hv; simp at hv
    | some u =>
      rw [hl] at hv
      simp only [Option.map_some, Option.some.injEq] at hv
      by_cases hm : mention k u = true
      · rw [if_pos hm] at hv; exact absurd hv.symm hne
      · rw [if_neg hm] at hv; subst hv; exact ⟨rfl, by simpa using hm⟩
  have hB : ∀ j cs, look (σ.kill k).b j = some (some cs) → look σ.b j = some (some cs) ∧ j ≠ k ∧ ∀ v ∈ cs, mention k v = false := fun j cs hj => by
    simp only [St.kill, look_killB] at hj
    cases hl : look σ.b j with
    | none => rw [hl] at hj; simp at hj
    | some u =>
      rw [hl] at hj
      simp only [Option.map_some, Option.some.injEq] at hj
      split at hj
      · simp at hj
      · rename_i hm; subst hj; simp at hm; exact ⟨rfl, hm.1, hm.2⟩
  have hX : ∀ j R, look (σ.kill k).x j = some (some R) → look σ.x j = some (some R) ∧ j ≠ k := fun j R hj => by
    simp only [St.kill, look_killX] at hj
    cases hl : look σ.x j with
    | none => rw [hl] at hj; simp at hj
    | some u =>
      rw [hl] at hj
      simp only [Option.map_some, Option.some.injEq] at hj
      split at hj
      · simp at hj
      · rename_i hm; subst hj; simp at hm; exact ⟨rfl, hm⟩
  refine ⟨h.below, h.size, h.defers, fun t v hv hne => ?_, fun j cs hj => ?_, fun j cs hj => ?_, fun j j' cs ds hj hj' hne => ?_, fun j R hj => ?_, fun j R hj => ?_, fun j R hj => ?_, fun j R j' cs hj hj' => ?_⟩
  · obtain ⟨h1, h2⟩ := hT t v hv hne
    rw [conc_upd _ _ _ _ _ v h2]; exact h.slots t v h1 hne
  · obtain ⟨h0, h1, h2⟩ := hB j cs hj
    rw [upd_other _ _ h1]
    obtain ⟨h3, T, hT⟩ := h.boxes j cs h0
    refine ⟨h3, T, ?_⟩
    rw [hT]
    congr 3
    exact List.map_congr_left fun v hv => (conc_upd _ _ _ _ _ v (h2 v hv)).symm
  · exact h.balive j cs (hB j cs hj).1
  · obtain ⟨h0, h1, _⟩ := hB j cs hj
    obtain ⟨h0', h1', _⟩ := hB j' ds hj'
    rw [upd_other _ _ h1, upd_other _ _ h1']; exact h.binj j j' cs ds h0 h0' hne
  · obtain ⟨h0, h1⟩ := hX j R hj
    rw [upd_other _ _ h1]; exact h.rows j R h0
  · obtain ⟨h0, h1⟩ := hX j R hj
    rw [upd_other _ _ h1]; exact h.rnew j R h0
  · exact h.rsz j R (hX j R hj).1
  · obtain ⟨h0, h1⟩ := hX j R hj
    obtain ⟨h0', h1', _⟩ := hB j' cs hj'
    rw [upd_other _ _ h1, upd_other _ _ h1']; exact h.rbox j R j' cs h0 h0'

/-- A new box. -/
theorem Rel.newbox {c : Cx} {w0 : Env} {β : Nat → Nat} {ρ : Nat → Value} {σ : St} {a : Act} {w : World} (h : Rel c w0 β ρ σ a w) (k d : Nat) (hβ : β k = w.heap.size)
    (hk : ∀ cs, look σ.b k ≠ some (some cs)) (hd : d < c.N) (cs : List V) (hcs : ∀ v ∈ cs, v ≠ .d) (T : TypeId) :
    Rel c w0 β ρ { t := (d, .p k 0) :: σ.t, b := (k, some cs) :: σ.b, x := σ.x } (a.put (some d) (.pointer (some ⟨w.heap.size, 0, none⟩))) (w.alloc (.cells (cs.map (conc β ρ)).toArray T)) := by
  have hB : Below w.heap.size w (w.alloc (.cells (cs.map (conc β ρ)).toArray T)) := (Below.refl _ _).alloc (Nat.le_refl _) _
  have h1 := (h.world hB).put d hd (.p k 0) (.pointer (some ⟨w.heap.size, 0, none⟩)) (fun _ => by simp [conc, hβ])
  have lt : ∀ j ds, look σ.b j = some (some ds) → β j < w.heap.size := fun j ds hj => by
    obtain ⟨_, T, hT⟩ := h.boxes j ds hj
    exact block_lt hT
  refine ⟨h1.below, h1.size, h1.defers, h1.slots, fun j ds hj => ?_, fun j ds hj => ?_, fun j j' ds es hj hj' hne => ?_, h1.rows, h1.rnew, h1.rsz, fun j R j' ds hj hj' hl => ?_⟩
  · simp only [look_cons] at hj
    by_cases e : k = j
    · subst e
      rw [if_pos rfl] at hj; simp at hj; subst hj
      exact ⟨by rw [hβ]; exact h.below.fresh (Nat.le_refl _), T, by rw [hβ]; show (w.heap.push _)[w.heap.size]? = _; simp⟩
    · rw [if_neg e] at hj; exact h1.boxes j ds hj
  · simp only [look_cons] at hj
    by_cases e : k = j
    · subst e; rw [if_pos rfl] at hj; simp at hj; subst hj; exact hcs
    · rw [if_neg e] at hj; exact h1.balive j ds hj
  · simp only [look_cons] at hj hj'
    by_cases e : k = j
    · subst e
      rw [if_neg hne] at hj'
      have := lt j' es hj'
      rw [hβ]; omega
    · rw [if_neg e] at hj
      by_cases e' : k = j'
      · subst e'
        have := lt j ds hj
        rw [hβ]; omega
      · rw [if_neg e'] at hj'; exact h1.binj j j' ds es hj hj' hne
  · simp only [look_cons] at hj'
    by_cases e : k = j'
    · subst e
      obtain ⟨a', c', hv, _, hi⟩ := h.rows j R hj
      obtain ⟨_, b, o, ha, hc⟩ := hi 0 (by omega)
      intro hb
      rw [hv, ha] at hb
      simp [Value.ownBlock] at hb
      by_cases hz : R.size = 0
      · exact absurd hz (h.rsz j R hj)
      · obtain ⟨hs, _⟩ := hi 0 (by omega)
        have hpos : 0 < (R.get (0 : Nat)).length := by rw [hs]; omega
        have := World.block_lt_of_cell? w _ (hc 0 _ (List.getElem?_eq_getElem hpos))
        simp at this
        omega
    · rw [if_neg e] at hj'; exact h1.rbox j R j' ds hj hj' hl

/-- A box is stored into. -/
theorem Rel.store {c : Cx} {w0 : Env} {β : Nat → Nat} {ρ : Nat → Value} {σ : St} {a : Act} {w w' : World} (h : Rel c w0 β ρ σ a w) (k : Nat) (old cs : List V) (hcs : ∀ v ∈ cs, v ≠ .d) (T : TypeId)
    (hk : look σ.b k = some (some old)) (hos : w'.os = w.os) (htp : w'.tape = w.tape) (hou : w'.output = w.output) (hsz : w'.heap.size = w.heap.size)
    (hnew : w'.heap[β k]? = some (.cells (cs.map (conc β ρ)).toArray T (0, 0))) (hoth : ∀ b, b ≠ β k → w'.heap[b]? = w.heap[b]?) :
    Rel c w0 β ρ { σ with b := (k, some cs) :: σ.b } a w' := by
  obtain ⟨hge, T0, hT0⟩ := h.boxes k old hk
  refine ⟨?_, h.size, h.defers.mono fun r hr => hoth r (fun e => by rw [e, hT0] at hr; simp at hr), h.slots, fun j ds hj => ?_, fun j ds hj => ?_, fun j j' ds es hj hj' hne => ?_, fun j R hj => ?_, h.rnew, h.rsz, fun j R j' ds hj hj' hl => ?_⟩
  · exact ⟨hos.trans h.below.os, htp.trans h.below.tape, hou.trans h.below.output, by have := h.below.size; omega, fun b hb => (hoth b (fun e => hge (e ▸ hb))).trans (h.below.block b hb)⟩
  · simp only [look_cons] at hj
    by_cases e : k = j
    · subst e; rw [if_pos rfl] at hj; simp at hj; subst hj; exact ⟨hge, T, hnew⟩
    · rw [if_neg e] at hj
      obtain ⟨h1, T', hT⟩ := h.boxes j ds hj
      exact ⟨h1, T', by rw [hoth _ (h.binj j k ds old hj hk (Ne.symm e))]; exact hT⟩
  · simp only [look_cons] at hj
    by_cases e : k = j
    · subst e; rw [if_pos rfl] at hj; simp at hj; subst hj; exact hcs
    · rw [if_neg e] at hj; exact h.balive j ds hj
  · simp only [look_cons] at hj hj'
    have g : ∀ j ds, (if k = j then some (some cs) else look σ.b j) = some (some ds) → ∃ es, look σ.b j = some (some es) := fun j ds hj => by
      by_cases e : k = j
      · subst e; exact ⟨old, hk⟩
      · rw [if_neg e] at hj; exact ⟨ds, hj⟩
    obtain ⟨_, g1⟩ := g j ds hj
    obtain ⟨_, g2⟩ := g j' es hj'
    exact h.binj j j' _ _ g1 g2 hne
  · obtain ⟨a', c', hv, hlc, hi⟩ := h.rows j R hj
    refine ⟨a', c', hv, hlc, fun i hlt => ?_⟩
    obtain ⟨hs, b, o, ha, hc⟩ := hi i hlt
    refine ⟨hs, b, o, ha, fun n u hu => ?_⟩
    have hne : b ≠ β k := fun e => h.rbox j R k old hj hk (by omega) (by rw [hv, ha]; simp [Value.ownBlock, e])
    rw [← hc n u hu]
    exact World.cell?_of_block (hoth b hne)
  · simp only [look_cons] at hj'
    by_cases e : k = j'
    · subst e; exact h.rbox j R k old hj hk hl
    · rw [if_neg e] at hj'; exact h.rbox j R j' ds hj hj' hl

/-- A row has come. -/
theorem Rel.newrow {c : Cx} {w0 : Env} {β : Nat → Nat} {ρ : Nat → Value} {σ : St} {a : Act} {w : World} (h : Rel c w0 β ρ σ a w) (k : Nat) (R : Row) (hR : RowOK w (ρ k) R) (hz : R.size ≠ 0)
    (hn : R.new = true → ∀ b, (ρ k).ownBlock = some b → ¬ w0.pr b) (hb : ∀ j cs, look σ.b j = some (some cs) → R.len ≠ 0 → (ρ k).ownBlock ≠ some (β j)) :
    Rel c w0 β ρ { σ with x := (k, some R) :: σ.x } a w := by
  refine ⟨h.below, h.size, h.defers, h.slots, h.boxes, h.balive, h.binj, fun j S hj => ?_, fun j S hj => ?_, fun j S hj => ?_, fun j S j' ds hj hj' hl => ?_⟩
  · simp only [look_cons] at hj
    by_cases e : k = j
    · subst e; rw [if_pos rfl] at hj; simp at hj; subst hj; exact hR
    · rw [if_neg e] at hj; exact h.rows j S hj
  · simp only [look_cons] at hj
    by_cases e : k = j
    · subst e; rw [if_pos rfl] at hj; simp at hj; subst hj; exact hn
    · rw [if_neg e] at hj; exact h.rnew j S hj
  · simp only [look_cons] at hj
    by_cases e : k = j
    · subst e; rw [if_pos rfl] at hj; simp at hj; subst hj; exact hz
    · rw [if_neg e] at hj; exact h.rsz j S hj
  · simp only [look_cons] at hj
    by_cases e : k = j
    · subst e; rw [if_pos rfl] at hj; simp at hj; subst hj; exact hb j' ds hj' hl
    · rw [if_neg e] at hj; exact h.rbox j S j' ds hj hj' hl

end Go.Ab
