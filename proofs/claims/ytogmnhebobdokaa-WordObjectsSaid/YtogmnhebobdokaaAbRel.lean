/- The abstract layer, part 2: what a state says of a frame and of memory. -/
import Derived.Test.YtogmnhebobdokaaAbDef
import Derived.RangeFuncOwn
set_option linter.unusedVariables false
set_option linter.unusedSimpArgs false
namespace Go.Ab
open Go Go.RowKit

def conc (β : Nat → Nat) (ρ : Nat → Value) : V → Value
  | .v x => x
  | .p k o => .pointer (some ⟨β k, o, none⟩)
  | .r k => ρ k
  | .s k n =>
    match ρ k with
    | .slice a _ m => .slice a n m
    | _ => undef
  | .c f ks => .func (.func f) #[] (ks.map fun k => .pointer (some ⟨β k, 0, none⟩)).toArray
  | .e k i s o =>
    match ρ k with
    | .slice (some A) _ _ => .pointer (some ⟨A.block, A.off + (i.toNat * s + o), none⟩)
    | _ => undef
  | .q b x => if b then conc β ρ x else undef
  | .tr k vs => .tuple (ρ k :: vs).toArray
  | .d => undef

/-- Where a frame stands: the world that it began in, the blocks that it must leave as they were. -/
structure Env where
  w0 : World
  pr : Nat → Prop
  lt : ∀ k, pr k → k < w0.heap.size
  old : Nat → Prop := pr
  oldpr : ∀ k, old k → pr k := by intros; assumption
  tm : Array Value := #[]
  fr : Nat → Prop := fun _ => False
  J : World → Prop := fun _ => True
  st : ∀ A B, J A → Below A.heap.size A B → J B := by intros; trivial
  cnt : Nat := 0
  done : Bool := false
/-- A call of its own: all that lay must lie. -/
def Env.of (w : World) : Env := { w0 := w, pr := fun k => k < w.heap.size, lt := fun _ h => h, oldpr := fun _ h => h, st := fun _ _ _ _ => trivial }
structure Kept (E : Env) (w : World) : Prop where
  os : w.os = E.w0.os
  tape : w.tape = E.w0.tape
  output : w.output = E.w0.output
  size : E.w0.heap.size ≤ w.heap.size
  block : ∀ k, E.pr k → w.heap[k]? = E.w0.heap[k]?
theorem Kept.refl (E : Env) : Kept E E.w0 := ⟨rfl, rfl, rfl, Nat.le_refl _, fun _ _ => rfl⟩
theorem Kept.step {E : Env} {w w' : World} (h : Kept E w) (k : Below w.heap.size w w') : Kept E w' :=
  ⟨k.os.trans h.os, k.tape.trans h.tape, k.output.trans h.output, Nat.le_trans h.size k.size, fun b hb => (k.block b (Nat.lt_of_lt_of_le (E.lt b hb) h.size)).trans (h.block b hb)⟩
theorem Kept.fresh {E : Env} {w : World} (h : Kept E w) {b : Nat} (hb : w.heap.size ≤ b) : ¬ E.pr b := fun hp => by have := E.lt b hp; have := h.size; omega
theorem Kept.below {w w' : World} (h : Kept (Env.of w) w') : Below w.heap.size w w' := ⟨h.os, h.tape, h.output, h.size, h.block⟩

/-- The marks of ranges over functions that have ended. -/
def marks (E : Env) (w : World) : List Deferred → Prop
  | [] => True
  | d :: ds => (∃ r, d.target = .collected r ∧ w.heap[r]? = some (Obj.deferred (some [])) ∧ ¬ E.pr r ∧ ∀ d' ∈ ds, d'.target ≠ .collected r) ∧ marks E w ds
theorem marks.mono {E : Env} {w w' : World} : ∀ {l : List Deferred}, marks E w l → (∀ r : Nat, w.heap[r]? = some (Obj.deferred (some [])) → w'.heap[r]? = w.heap[r]?) → marks E w' l
  | [], _, _ => trivial
  | d :: ds, ⟨⟨r, h1, h2, h3, h4⟩, h5⟩, hk => ⟨⟨r, h1, (hk r h2).trans h2, h3, h4⟩, marks.mono h5 hk⟩

/-- A row that may be appended to. -/
def OwnOK (w : World) (v : Value) (R : Row) : Prop :=
  (R.len = 0 → v.ownBlock = none) ∧ ∃ xs, w.ownsRow 0 R.ty R.size v R.len xs ∧ ∀ i, i < R.len → (xs.drop (i * R.size)).take R.size = R.get i

structure Rel (c : Cx) (w0 : Env) (β : Nat → Nat) (ρ : Nat → Value) (σ : St) (a : Act) (w : World) : Prop where
  below : Kept w0 w
  size : a.tmps.size = c.N
  defers : marks w0 w a.defers
  slots : ∀ t v, CS σ.t t = some v → v ≠ .d → a.tmps.getD t undef = conc β ρ v
  boxes : ∀ k cs, CS σ.b k = some (some cs) → (c.ro.contains k = false → ¬ w0.pr (β k)) ∧ ∃ T, w.heap[β k]? = some (.cells (cs.map (conc β ρ)).toArray T (0, 0))
  balive : ∀ k cs, CS σ.b k = some (some cs) → ∀ v ∈ cs, v ≠ .d
  binj : ∀ k j cs ds, CS σ.b k = some (some cs) → CS σ.b j = some (some ds) → k ≠ j → c.ro.contains k = false → β k ≠ β j
  rows : ∀ k R, CS σ.x k = some (some R) → RowOK c.P w (ρ k) R
  rnew : ∀ k R, CS σ.x k = some (some R) → R.new = true → R.len ≠ 0 → ∀ b, (ρ k).ownBlock = some b → ¬ w0.pr b ∧ b < w.heap.size
  rold : ∀ k R, CS σ.x k = some (some R) → R.new = false → ∀ b, AV (ρ k) = some b → w0.old b
  rsz : ∀ k R, CS σ.x k = some (some R) → R.size ≠ 0
  rbox : ∀ k R j cs, CS σ.x k = some (some R) → CS σ.b j = some (some cs) → R.len ≠ 0 → c.ro.contains j = false → (ρ k).ownBlock ≠ some (β j)
  owns : ∀ k R, CS σ.x k = some (some R) → R.own = true → R.sp = none ∧ R.new = true ∧ OwnOK w (ρ k) R ∧
    ∀ b, (ρ k).ownBlock = some b → (∀ j S, CS σ.x j = some (some S) → j ≠ k → S.len ≠ 0 → (ρ j).ownBlock ≠ some b) ∧ ∀ j cs, CS σ.b j = some (some cs) → β j ≠ b
  seqs : ∀ k R xs, CS σ.x k = some (some R) → R.sp = some xs → ∃ U, SpOK c.P w (ρ k) xs U ∧ (∀ j cs, CS σ.b j = some (some cs) → c.ro.contains j = false → ¬ U (β j)) ∧
    ∀ j S, CS σ.x j = some (some S) → S.new = true → S.len ≠ 0 → ∀ b, (ρ j).ownBlock = some b → ¬ U b
  frz : ∀ t, c.fz.contains t = true → a.tmps.getD t undef = w0.tm.getD t undef
  gh : w0.J w ∧ (∀ b, w0.fr b → b < w.heap.size) ∧ (c.it = false → (∀ w, w0.J w) ∧ ∀ b, ¬ w0.fr b)
  gs : c.it = true → (a.defers = [] ∧ c.fz = []) ∧ ∀ R, CS σ.x c.N = some (some R) → R.ty = w0.cnt ∧ R.size = if w0.done then 2 else 1
  forn : (∀ k cs, CS σ.b k = some (some cs) → ¬ w0.fr (β k)) ∧ ∀ k R, CS σ.x k = some (some R) → R.len ≠ 0 → ∀ b, (ρ k).ownBlock = some b → ¬ w0.fr b

theorem look_cons {α : Type} (k : Nat) (v : α) (l : List (Nat × α)) (n : Nat) : CS ((k, v) :: l) n = if k = n then some v else CS l n := rfl

theorem alive_some {u v : V} (h : CR (some u) = some v) : u = v ∧ u ≠ .d := by
  unfold CR at h
  split at h
  · simp at h
  · simp at h
  · rename_i h1 h2; simp at h; exact ⟨h, fun e => h1 (by rw [e])⟩

theorem alive_unq {u : Option V} {v : V} (h : CR u = some v) : CU v ≠ .d := by
  unfold CR at h
  split at h
  · simp at h
  · simp at h
  · rename_i h1 h2
    subst h
    cases v <;> simp [CU]
    · rename_i b x; intro e; subst e; exact h2 b rfl
    · exact h1 rfl

theorem ev_sound {c : Cx} {w0 : Env} {β : Nat → Nat} {ρ : Nat → Value} {σ : St} {a : Act} {w : World} (h : Rel c w0 β ρ σ a w) {x : Operand} {v : V} (hx : CP σ x = some v) : a.eval x = conc β ρ v := by
  cases x with
  | tmp t =>
    simp only [CP] at hx
    cases hl : CS σ.t t with
    | none => rw [hl] at hx; simp [CR] at hx
    | some u =>
      rw [hl] at hx
      obtain ⟨rfl, hd⟩ : u = v ∧ u ≠ .d := alive_some hx
      simp only [Act.eval]
      exact h.slots t u hl hd
  | const x => simp [CP] at hx; subst hx; rfl
  | func f => simp [CP] at hx; subst hx; rfl
  | global g => simp [CP] at hx

theorem ev_unq {σ : St} {x : Operand} {v : V} (hx : CP σ x = some v) : CU v ≠ .d := by
  cases x with
  | tmp t => exact alive_unq hx
  | const x => simp [CP] at hx; subst hx; simp [CU]
  | func f => simp [CP] at hx; subst hx; simp [CU]
  | global g => simp [CP] at hx

theorem evs_unq {σ : St} : ∀ {l : List Operand} {vs : List V}, CO σ l = some vs → ∀ v ∈ vs, CU v ≠ .d
  | [], vs, he => by simp [CO] at he; subst he; simp
  | x :: l, vs, he => by
    simp only [CO] at he
    cases hx : CP σ x with
    | none => rw [hx] at he; simp at he
    | some v =>
      rw [hx] at he
      cases hl : CO σ l with
      | none => rw [hl] at he; simp at he
      | some us =>
        rw [hl] at he
        simp at he
        subst he
        intro u hu
        rcases List.mem_cons.1 hu with rfl | hu
        · exact ev_unq hx
        · exact evs_unq hl u hu

theorem evs_sound {c : Cx} {w0 : Env} {β : Nat → Nat} {ρ : Nat → Value} {σ : St} {a : Act} {w : World} (h : Rel c w0 β ρ σ a w) : ∀ {l : List Operand} {vs : List V}, CO σ l = some vs → l.map a.eval = vs.map (conc β ρ)
  | [], vs, he => by simp [CO] at he; subst he; rfl
  | x :: l, vs, he => by
    simp only [CO] at he
    cases hx : CP σ x with
    | none => rw [hx] at he; simp at he
    | some v =>
      rw [hx] at he
      cases hl : CO σ l with
      | none => rw [hl] at he; simp at he
      | some us =>
        rw [hl] at he
        simp at he
        subst he
        simp only [List.map_cons, ev_sound h hx, evs_sound h hl]

/-! ### Blocks -/
theorem cell_of_block {w : World} {b : Nat} {cs : Array Value} {T : TypeId} (h : w.heap[b]? = some (.cells cs T (0, 0))) (o : Nat) : w.cell? ⟨b, o, none⟩ = cs[o]? := by
  simp [World.cell?, h]
theorem frozen_of_block {w : World} {b : Nat} {cs : Array Value} {T : TypeId} (h : w.heap[b]? = some (.cells cs T (0, 0))) (o : Nat) : w.frozen? ⟨b, o, none⟩ = false := by
  simp [World.frozen?, h]
theorem block_lt {w : World} {b : Nat} {o : Obj} (h : w.heap[b]? = some o) : b < w.heap.size := (Array.getElem?_eq_some_iff.1 h).1

theorem below_block {w w' : World} (h : Below w.heap.size w w') {b : Nat} {o : Obj} (hb : w.heap[b]? = some o) : w'.heap[b]? = some o := by
  rw [h.block b (block_lt hb)]; exact hb

theorem below_cell {w w' : World} (h : Below w.heap.size w w') {p : Addr} {v : Value} (hc : w.cell? p = some v) : w'.cell? p = some v :=
  (h.cell (World.block_lt_of_cell? w p hc)).trans hc

theorem SliceOK.below {w w' : World} (h : Below w.heap.size w w') {v : Value} {R : Row} (hr : SliceOK w v R) : SliceOK w' v R := by
  obtain ⟨a, c, hv, hl, hi⟩ := hr
  refine ⟨a, c, hv, hl, fun i hlt => ?_⟩
  obtain ⟨hs, b, o, ha, hc⟩ := hi i hlt
  exact ⟨hs, b, o, ha, fun j u hu => below_cell h (hc j u hu)⟩
theorem SpOK.mono {P : Program} {w w' : World} {v : Value} {xs : List (List Value)} {U : Nat → Prop} (hr : SpOK P w v xs U) (h : ∀ (b : Nat) (o : Obj), U b → w.heap[b]? = some o → o.isCells = true → w'.heap[b]? = w.heap[b]?) : SpOK P w' v xs U := by
  obtain ⟨w1, h1, h2⟩ := hr
  refine ⟨w1, h1, fun b hb => ?_⟩
  obtain ⟨o, g1, g2, g3⟩ := h2 b hb
  exact ⟨o, (h b o hb g1 g2).trans g1, g2, g3⟩
theorem SpOK.below {P : Program} {w w' : World} (h : Below w.heap.size w w') {v : Value} {xs : List (List Value)} {U : Nat → Prop} (hr : SpOK P w v xs U) : SpOK P w' v xs U :=
  hr.mono fun b o _ hb _ => h.block b (block_lt hb)
theorem SpOK.lt {P : Program} {w : World} {v : Value} {xs : List (List Value)} {U : Nat → Prop} (h : SpOK P w v xs U) {b : Nat} (hb : U b) : b < w.heap.size := by
  obtain ⟨w1, h1, h2⟩ := h
  obtain ⟨o, g1, _⟩ := h2 b hb
  exact block_lt g1
theorem SpOK.own {P : Program} {w : World} {v : Value} {xs : List (List Value)} {U : Nat → Prop} (h : SpOK P w v xs U) : v.ownBlock = none ∧ AV v = none := by
  obtain ⟨w1, ⟨gf, lb, rfl, _⟩, _⟩ := h
  exact ⟨rfl, rfl⟩
theorem RowOK.below {P : Program} {w w' : World} (h : Below w.heap.size w w') {v : Value} {R : Row} (hr : RowOK P w v R) : RowOK P w' v R :=
  ⟨fun hs => (hr.1 hs).below h, fun xs hs => by obtain ⟨U, hU⟩ := hr.2 xs hs; exact ⟨U, hU.below h⟩⟩
theorem RowOK.own {P : Program} {w : World} {v : Value} {R : Row} (hr : RowOK P w v R) {xs : List (List Value)} (hs : R.sp = some xs) : v.ownBlock = none ∧ AV v = none := by
  obtain ⟨U, hU⟩ := hr.2 xs hs; exact hU.own
theorem fullBlock_own {v : Value} {b : Nat} (h : AV v = some b) : v.ownBlock = some b := by
  unfold AV at h
  split at h
  · simp at h; subst h; rfl
  · simp at h
theorem SliceOK.full {w : World} {v : Value} {R : Row} (hr : SliceOK w v R) {b : Nat} (h : AV v = some b) : R.len ≠ 0 := by
  obtain ⟨a, c, rfl, _⟩ := hr
  intro e
  rw [e] at h
  simp [AV] at h
theorem SliceOK.of_full {w : World} {v : Value} {R : Row} (hr : SliceOK w v R) (hl : R.len ≠ 0) {b : Nat} (h : v.ownBlock = some b) : AV v = some b := by
  obtain ⟨a, c, rfl, _⟩ := hr
  obtain ⟨n, hn⟩ : ∃ n, R.len = n + 1 := ⟨R.len - 1, by omega⟩
  rw [hn] at h ⊢
  cases a with
  | none => simp [Value.ownBlock] at h
  | some a => exact h
theorem OwnOK.lt {w : World} {v : Value} {R : Row} (h : OwnOK w v R) {b : Nat} (hb : v.ownBlock = some b) : b < w.heap.size := by
  obtain ⟨_, xs, h1, _⟩ := h
  exact (h1.lt b hb).2
theorem OwnOK.same {w w' : World} {v : Value} {R : Row} (h : OwnOK w v R) (hs : ∀ (b : Nat) (o : Obj), v.ownBlock = some b → w.heap[b]? = some o → o.isCells = true → w'.heap[b]? = w.heap[b]?) : OwnOK w' v R := by
  obtain ⟨h0, xs, ⟨h1, h2⟩, h3⟩ := h
  refine ⟨h0, xs, ⟨h1, ?_⟩, h3⟩
  rcases h2 with h2 | ⟨g, cap, cur, rfl, hb, hg, rest⟩
  · exact .inl h2
  · exact .inr ⟨g, cap, cur, rfl, hb, (hs g _ rfl hg rfl).trans hg, rest⟩
theorem OwnOK.below {w w' : World} (h : Below w.heap.size w w') {v : Value} {R : Row} (hr : OwnOK w v R) : OwnOK w' v R :=
  hr.same fun b o _ hb _ => h.block b (block_lt hb)

/-- The world has grown above all that lay. -/
theorem Rel.world {c : Cx} {w0 : Env} {β : Nat → Nat} {ρ : Nat → Value} {σ : St} {a : Act} {w w' : World} (h : Rel c w0 β ρ σ a w) (k : Below w.heap.size w w') : Rel c w0 β ρ σ a w' where
  below := h.below.step k
  size := h.size
  defers := h.defers.mono fun r hr => k.block r (block_lt hr)
  slots := h.slots
  boxes := fun j cs hj => by obtain ⟨h1, T, hT⟩ := h.boxes j cs hj; exact ⟨h1, T, below_block k hT⟩
  balive := h.balive
  binj := h.binj
  rows := fun j R hj => (h.rows j R hj).below k
  rnew := fun j R hj hn hl b hb => ⟨(h.rnew j R hj hn hl b hb).1, Nat.lt_of_lt_of_le (h.rnew j R hj hn hl b hb).2 k.size⟩
  rold := h.rold
  rsz := h.rsz
  rbox := h.rbox
  owns := fun j R hj ho => by obtain ⟨h1, h2, h3, h4⟩ := h.owns j R hj ho; exact ⟨h1, h2, h3.below k, h4⟩
  seqs := fun j R xs hj hs => by obtain ⟨U, h1, h2, h3⟩ := h.seqs j R xs hj hs; exact ⟨U, h1.below k, h2, h3⟩
  frz := h.frz
  gh := ⟨w0.st _ _ h.gh.1 k, fun b hb => Nat.lt_of_lt_of_le (h.gh.2.1 b hb) k.size, h.gh.2.2⟩
  gs := h.gs
  forn := h.forn

theorem SliceOK.keep {w w' : World} (hc : ∀ (b : Nat) (o : Obj), w.heap[b]? = some o → o.isCells = true → w'.heap[b]? = w.heap[b]?) {v : Value} {R : Row} (hr : SliceOK w v R) : SliceOK w' v R := by
  obtain ⟨a, c, hv, hl, hi⟩ := hr
  refine ⟨a, c, hv, hl, fun i hlt => ?_⟩
  obtain ⟨hs, b, o, ha, hcl⟩ := hi i hlt
  refine ⟨hs, b, o, ha, fun j u hu => ?_⟩
  have h1 := hcl j u hu
  obtain ⟨x, hx, hxc⟩ := cells_of_cell h1
  exact (World.cell?_of_block (hc _ x hx hxc)).trans h1

/-- Whatever is no cells may turn. -/
theorem Rel.keep {c : Cx} {w0 : Env} {β : Nat → Nat} {ρ : Nat → Value} {σ : St} {a : Act} {w w' : World} (h : Rel c w0 β ρ σ a w) (hos : w'.os = w.os) (htp : w'.tape = w.tape) (hou : w'.output = w.output) (hsz : w.heap.size ≤ w'.heap.size)
    (hc : ∀ (b : Nat) (o : Obj), w.heap[b]? = some o → o.isCells = true → w'.heap[b]? = w.heap[b]?) (hp : ∀ b : Nat, w0.pr b → w'.heap[b]? = w.heap[b]?) {ds : List Deferred} (hd : marks w0 w' ds) (hit : c.it = false) :
    Rel c w0 β ρ σ { a with defers := ds } w' where
  below := ⟨hos.trans h.below.os, htp.trans h.below.tape, hou.trans h.below.output, Nat.le_trans h.below.size hsz, fun b hb => (hp b hb).trans (h.below.block b hb)⟩
  size := h.size
  defers := hd
  slots := h.slots
  boxes := fun j cs hj => by obtain ⟨h1, T, hT⟩ := h.boxes j cs hj; exact ⟨h1, T, (hc _ _ hT rfl).trans hT⟩
  balive := h.balive
  binj := h.binj
  rows := fun j R hj => ⟨fun hs => ((h.rows j R hj).1 hs).keep hc, fun xs hs => by obtain ⟨U, hU⟩ := (h.rows j R hj).2 xs hs; exact ⟨U, hU.mono fun b o _ => hc b o⟩⟩
  rnew := fun j R hj hn hl b hb => ⟨(h.rnew j R hj hn hl b hb).1, Nat.lt_of_lt_of_le (h.rnew j R hj hn hl b hb).2 hsz⟩
  rold := h.rold
  rsz := h.rsz
  rbox := h.rbox
  owns := fun j R hj ho => by obtain ⟨h1, h2, h3, h4⟩ := h.owns j R hj ho; exact ⟨h1, h2, h3.same fun b o _ => hc b o, h4⟩
  seqs := fun j R xs hj hs => by obtain ⟨U, h1, h2, h3⟩ := h.seqs j R xs hj hs; exact ⟨U, h1.mono fun b o _ => hc b o, h2, h3⟩
  frz := h.frz
  gh := ⟨(h.gh.2.2 hit).1 _, fun b hb => absurd hb ((h.gh.2.2 hit).2 b), h.gh.2.2⟩
  gs := fun hi => by rw [hit] at hi; cases hi
  forn := h.forn

theorem put_getD (a : Act) (d : Nat) (v : Value) (hd : d < a.tmps.size) (t : Nat) : (a.put (some d) v).tmps.getD t undef = if d = t then v else a.tmps.getD t undef := by
  simp only [Act.put, Array.getD_eq_getD_getElem?]
  by_cases e : d = t
  · subst e; simp [hd]
  · rw [if_neg e, Array.getElem?_setIfInBounds_ne e]

/-- A slot is written. -/
theorem Rel.put {c : Cx} {w0 : Env} {β : Nat → Nat} {ρ : Nat → Value} {σ : St} {a : Act} {w : World} (h : Rel c w0 β ρ σ a w) (d : Nat) (hd : okd c d) (v : V) (x : Value) (hx : v ≠ .d → x = conc β ρ v) :
    Rel c w0 β ρ { σ with t := (d, v) :: σ.t } (a.put (some d) x) w where
  below := h.below
  size := by simpa [Act.put] using h.size
  defers := h.defers
  slots := fun t u hu hne => by
    rw [put_getD a d x (by rw [h.size]; exact hd.1) t]
    simp only [look_cons] at hu
    by_cases e : d = t
    · rw [if_pos e] at hu ⊢; simp at hu; subst hu; exact hx hne
    · rw [if_neg e] at hu ⊢; exact h.slots t u hu hne
  boxes := h.boxes
  balive := h.balive
  binj := h.binj
  rows := h.rows
  rnew := h.rnew
  rold := h.rold
  rsz := h.rsz
  rbox := h.rbox
  owns := h.owns
  seqs := h.seqs
  frz := fun t ht => by
    rw [put_getD a d x (by rw [h.size]; exact hd.1) t, if_neg (fun e => by subst e; rw [hd.2] at ht; cases ht)]
    exact h.frz t ht
  gh := h.gh
  gs := h.gs
  forn := h.forn

/-! ### What a key's change leaves alone -/
def upd {α : Type} (f : Nat → α) (k : Nat) (x : α) : Nat → α := fun j => if j = k then x else f j
theorem upd_same {α : Type} (f : Nat → α) (k : Nat) (x : α) : upd f k x k = x := by simp [upd]
theorem upd_other {α : Type} (f : Nat → α) {k j : Nat} (x : α) (h : j ≠ k) : upd f k x j = f j := by simp [upd, h]

theorem conc_upd (β : Nat → Nat) (ρ : Nat → Value) (k : Nat) (b : Nat) (x : Value) : ∀ v : V, DR k v = false → conc (upd β k b) (upd ρ k x) v = conc β ρ v
  | .v _, _ => rfl
  | .p j o, h => by simp [DR] at h; simp [conc, upd_other _ _ h]
  | .r j, h => by simp [DR] at h; simp [conc, upd_other _ _ h]
  | .e j i s o, h => by simp [DR] at h; simp [conc, upd_other _ _ h]
  | .s j n, h => by simp [DR] at h; simp [conc, upd_other _ _ h]
  | .c f ks, h => by
    simp only [DR, List.any_eq_false, beq_iff_eq] at h
    simp only [conc]
    congr 2
    exact List.map_congr_left fun j hj => by rw [upd_other _ _ (h j hj)]
  | .q g x, h => by simp only [DR] at h; simp only [conc]; rw [conc_upd β ρ k b _ x h]
  | .tr j vs, h => by simp [DR] at h; simp [conc, upd_other _ _ h]
  | .d, _ => rfl

theorem unseenT_look {k : Nat} : ∀ {l : List (Nat × V)} {t : Nat} {v : V}, DW k l = true → CS l t = some v → DR k v = false
  | [], t, v, _, h => by simp [CS] at h
  | (s, u) :: l, t, v, hu, h => by
    simp [DW] at hu
    rw [look_cons] at h
    split at h
    · simp at h; subst h; exact hu.1
    · exact unseenT_look hu.2 h
theorem unseenB_look {k : Nat} : ∀ {l : List (Nat × Option (List V))} {j : Nat} {cs : List V}, DX k l = true → CS l j = some (some cs) → j ≠ k ∧ ∀ v ∈ cs, DR k v = false
  | [], j, cs, _, h => by simp [CS] at h
  | (s, u) :: l, j, cs, hu, h => by
    simp [DX] at hu
    rw [look_cons] at h
    split at h
    · rename_i e; subst e; simp at h; subst h
      exact ⟨hu.1.1, by simpa using hu.1.2⟩
    · exact unseenB_look hu.2 h
theorem unseenX_look {k : Nat} : ∀ {l : List (Nat × Option Row)} {j : Nat} {r : Option Row}, DY k l = true → CS l j = some r → j ≠ k
  | [], j, r, _, h => by simp [CS] at h
  | (s, u) :: l, j, r, hu, h => by
    simp [DY] at hu
    rw [look_cons] at h
    split at h
    · rename_i e; subst e; exact hu.1
    · exact unseenX_look hu.2 h

/-- What does not speak of key k holds whatever key k means. -/
theorem Rel.sub {c : Cx} {w0 : Env} {β : Nat → Nat} {ρ : Nat → Value} {σ τ : St} {a : Act} {w : World} (h : Rel c w0 β ρ σ a w) (k : Nat) (b : Nat) (x : Value)
    (hT : ∀ t v, CS τ.t t = some v → v ≠ .d → CS σ.t t = some v ∧ DR k v = false)
    (hB : ∀ j cs, CS τ.b j = some (some cs) → CS σ.b j = some (some cs) ∧ j ≠ k ∧ ∀ v ∈ cs, DR k v = false)
    (hX : ∀ j R, CS τ.x j = some (some R) → CS σ.x j = some (some R) ∧ j ≠ k) : Rel c w0 (upd β k b) (upd ρ k x) τ a w where
  below := h.below
  size := h.size
  defers := h.defers
  slots := fun t v hv hne => by
    obtain ⟨h1, h2⟩ := hT t v hv hne
    rw [conc_upd _ _ _ _ _ v h2]; exact h.slots t v h1 hne
  boxes := fun j cs hj => by
    obtain ⟨h0, h1, h2⟩ := hB j cs hj
    rw [upd_other _ _ h1]
    obtain ⟨h3, T, hT⟩ := h.boxes j cs h0
    refine ⟨h3, T, ?_⟩
    rw [hT]
    congr 3
    exact List.map_congr_left fun v hv => (conc_upd _ _ _ _ _ v (h2 v hv)).symm
  balive := fun j cs hj => h.balive j cs (hB j cs hj).1
  binj := fun j j' cs ds hj hj' hne => by
    obtain ⟨h0, h1, _⟩ := hB j cs hj
    obtain ⟨h0', h1', _⟩ := hB j' ds hj'
    rw [upd_other _ _ h1, upd_other _ _ h1']; exact h.binj j j' cs ds h0 h0' hne
  rows := fun j R hj => by obtain ⟨h0, h1⟩ := hX j R hj; rw [upd_other _ _ h1]; exact h.rows j R h0
  rnew := fun j R hj => by obtain ⟨h0, h1⟩ := hX j R hj; rw [upd_other _ _ h1]; exact h.rnew j R h0
  rold := fun j R hj => by obtain ⟨h0, h1⟩ := hX j R hj; rw [upd_other _ _ h1]; exact h.rold j R h0
  rsz := fun j R hj => h.rsz j R (hX j R hj).1
  rbox := fun j R j' cs hj hj' => by
    obtain ⟨h0, h1⟩ := hX j R hj
    obtain ⟨h0', h1', _⟩ := hB j' cs hj'
    rw [upd_other _ _ h1, upd_other _ _ h1']; exact h.rbox j R j' cs h0 h0'
  owns := fun j R hj ho => by
    obtain ⟨h0, h1⟩ := hX j R hj
    rw [upd_other _ _ h1]
    obtain ⟨g1, g2, g3, g4⟩ := h.owns j R h0 ho
    refine ⟨g1, g2, g3, fun bb hbb => ⟨fun j' S hj' hne hl => ?_, fun j' cs hj' => ?_⟩⟩
    · obtain ⟨h0', h1'⟩ := hX j' S hj'
      rw [upd_other _ _ h1']; exact (g4 bb hbb).1 j' S h0' hne hl
    · obtain ⟨h0', h1', _⟩ := hB j' cs hj'
      rw [upd_other _ _ h1']; exact (g4 bb hbb).2 j' cs h0'
  seqs := fun j R xs hj hs => by
    obtain ⟨h0, h1⟩ := hX j R hj
    rw [upd_other _ _ h1]
    obtain ⟨U, g1, g2, g3⟩ := h.seqs j R xs h0 hs
    refine ⟨U, g1, fun j' cs hj' hr => ?_, fun j' S hj' hn => ?_⟩
    · obtain ⟨h0', h1', _⟩ := hB j' cs hj'
      rw [upd_other _ _ h1']; exact g2 j' cs h0' hr
    · obtain ⟨h0', h1'⟩ := hX j' S hj'
      rw [upd_other _ _ h1']; exact g3 j' S h0' hn
  frz := h.frz
  gh := h.gh
  gs := fun hit => ⟨(h.gs hit).1, fun R hj => (h.gs hit).2 R (hX _ R hj).1⟩
  forn := ⟨fun j cs hj => by
    obtain ⟨h0, h1, _⟩ := hB j cs hj
    rw [upd_other _ _ h1]; exact h.forn.1 j cs h0, fun j R hj => by
    obtain ⟨h0, h1⟩ := hX j R hj
    rw [upd_other _ _ h1]; exact h.forn.2 j R h0⟩

/-- A key of which nothing is known may mean anything. -/
theorem Rel.rekey {c : Cx} {w0 : Env} {β : Nat → Nat} {ρ : Nat → Value} {σ : St} {a : Act} {w : World} (h : Rel c w0 β ρ σ a w) (k : Nat) (hu : σ.unseen k = true) (b : Nat) (x : Value) :
    Rel c w0 (upd β k b) (upd ρ k x) σ a w := by
  simp only [St.unseen, Bool.and_eq_true] at hu
  obtain ⟨⟨ht, hb⟩, hxx⟩ := hu
  exact h.sub k b x (fun t v hv _ => ⟨hv, unseenT_look ht hv⟩) (fun j cs hj => ⟨hj, unseenB_look hb hj⟩) (fun j R hj => ⟨hj, unseenX_look hxx hj⟩)

theorem look_killT (k : Nat) : ∀ (l : List (Nat × V)) (t : Nat), CS (DS k l) t = (CS l t).map fun v => if DR k v then .d else v
  | [], t => rfl
  | (s, u) :: l, t => by
    simp only [DS, look_cons, look_killT k l t]
    split <;> simp
theorem look_killB (k : Nat) : ∀ (l : List (Nat × Option (List V))) (j : Nat), CS (DT k l) j = (CS l j).map fun cs => if j == k || (cs.getD []).any (DR k) then none else cs
  | [], j => rfl
  | (s, u) :: l, j => by
    simp only [DT, look_cons, look_killB k l j]
    split
    · rename_i e; subst e; simp
    · rfl
theorem look_killX (k : Nat) : ∀ (l : List (Nat × Option Row)) (j : Nat), CS (DU k l) j = (CS l j).map fun r => if j == k then none else r
  | [], j => rfl
  | (s, u) :: l, j => by
    simp only [DU, look_cons, look_killX k l j]
    split
    · rename_i e; subst e; simp
    · rfl

/-- The same, with its old traces forgotten. -/
theorem Rel.kill {c : Cx} {w0 : Env} {β : Nat → Nat} {ρ : Nat → Value} {σ : St} {a : Act} {w : World} (h : Rel c w0 β ρ σ a w) (k : Nat) (b : Nat) (x : Value) :
    Rel c w0 (upd β k b) (upd ρ k x) (σ.kill k) a w := by
  have hT : ∀ t v, CS (σ.kill k).t t = some v → v ≠ .d → CS σ.t t = some v ∧ DR k v = false := fun t v hv hne => by
    simp only [St.kill, look_killT] at hv
    cases hl : CS σ.t t with
    | none => rw [hl] at hv; simp at hv
    | some u =>
      rw [hl] at hv
      simp only [Option.map_some, Option.some.injEq] at hv
      by_cases hm : DR k u = true
      · rw [if_pos hm] at hv; exact absurd hv.symm hne
      · rw [if_neg hm] at hv; subst hv; exact ⟨rfl, by simpa using hm⟩
  have hB : ∀ j cs, CS (σ.kill k).b j = some (some cs) → CS σ.b j = some (some cs) ∧ j ≠ k ∧ ∀ v ∈ cs, DR k v = false := fun j cs hj => by
    simp only [St.kill, look_killB] at hj
    cases hl : CS σ.b j with
    | none => rw [hl] at hj; simp at hj
    | some u =>
      rw [hl] at hj
      simp only [Option.map_some, Option.some.injEq] at hj
      split at hj
      · simp at hj
      · rename_i hm; subst hj; simp at hm; exact ⟨rfl, hm.1, hm.2⟩
  have hX : ∀ j R, CS (σ.kill k).x j = some (some R) → CS σ.x j = some (some R) ∧ j ≠ k := fun j R hj => by
    simp only [St.kill, look_killX] at hj
    cases hl : CS σ.x j with
    | none => rw [hl] at hj; simp at hj
    | some u =>
      rw [hl] at hj
      simp only [Option.map_some, Option.some.injEq] at hj
      split at hj
      · simp at hj
      · rename_i hm; subst hj; simp at hm; exact ⟨rfl, hm⟩
  exact h.sub k b x hT hB hX

/-- A new box. -/
theorem Rel.newbox {c : Cx} {w0 : Env} {β : Nat → Nat} {ρ : Nat → Value} {σ : St} {a : Act} {w : World} (h : Rel c w0 β ρ σ a w) (k d : Nat) (hβ : β k = w.heap.size)
    (hk : ∀ cs, CS σ.b k ≠ some (some cs)) (hd : okd c d) (cs : List V) (hcs : ∀ v ∈ cs, v ≠ .d) (T : TypeId) :
    Rel c w0 β ρ { t := (d, .p k 0) :: σ.t, b := (k, some cs) :: σ.b, x := σ.x } (a.put (some d) (.pointer (some ⟨w.heap.size, 0, none⟩))) (w.alloc (.cells (cs.map (conc β ρ)).toArray T)) := by
  have hB : Below w.heap.size w (w.alloc (.cells (cs.map (conc β ρ)).toArray T)) := (Below.refl _ _).alloc (Nat.le_refl _) _
  have h1 := (h.world hB).put d hd (.p k 0) (.pointer (some ⟨w.heap.size, 0, none⟩)) (fun _ => by simp [conc, hβ])
  have lt : ∀ j ds, CS σ.b j = some (some ds) → β j < w.heap.size := fun j ds hj => by
    obtain ⟨_, T, hT⟩ := h.boxes j ds hj
    exact block_lt hT
  have cases' : ∀ {p : Prop} j ds, CS ((k, some cs) :: σ.b) j = some (some ds) → (k = j → ds = cs → p) → (CS σ.b j = some (some ds) → p) → p := fun {p} j ds hj f g => by
    simp only [look_cons] at hj
    by_cases e : k = j
    · rw [if_pos e] at hj; simp at hj; exact f e hj.symm
    · rw [if_neg e] at hj; exact g hj
  refine ⟨h1.below, h1.size, h1.defers, h1.slots, fun j ds hj => ?_, fun j ds hj => ?_, fun j j' ds es hj hj' hne hr => ?_, h1.rows, h1.rnew, h1.rold, h1.rsz, fun j R j' ds hj hj' hl hr => ?_, fun j R hj ho => ?_, fun j R xs hj hs => ?_, h1.frz, h1.gh, h1.gs, ⟨fun j ds hj => ?_, h1.forn.2⟩⟩
  · refine cases' j ds hj (fun e1 e2 => ?_) fun hj => h1.boxes j ds hj
    subst e1; subst e2
    exact ⟨fun _ => by rw [hβ]; exact h.below.fresh (Nat.le_refl _), T, by rw [hβ]; show (w.heap.push _)[w.heap.size]? = _; simp⟩
  · exact cases' j ds hj (fun _ e2 => by subst e2; exact hcs) fun hj => h1.balive j ds hj
  · refine cases' j ds hj (fun e1 e2 => ?_) fun hj => cases' j' es hj' (fun e1 e2 => ?_) fun hj' => h1.binj j j' ds es hj hj' hne hr
    · subst e1
      simp only [look_cons] at hj'
      rw [if_neg hne] at hj'
      have := lt j' es hj'
      rw [hβ]; omega
    · subst e1
      have := lt j ds hj
      rw [hβ]; omega
  · refine cases' j' ds hj' (fun e1 e2 => ?_) fun hj' => h1.rbox j R j' ds hj hj' hl hr
    subst e1
    intro hb
    cases hsp : R.sp with
    | some xs => rw [((h.rows j R hj).own hsp).1] at hb; cases hb
    | none =>
      obtain ⟨a', c', hv, _, hi⟩ := (h.rows j R hj).1 hsp
      obtain ⟨_, b, o, ha, hc⟩ := hi 0 (by omega)
      rw [hv, ha] at hb
      simp [Value.ownBlock] at hb
      obtain ⟨hs, _⟩ := hi 0 (by omega)
      have hpos : 0 < (R.get (0 : Nat)).length := by have := h.rsz j R hj; rw [hs]; omega
      have := World.block_lt_of_cell? w _ (hc 0 _ (List.getElem?_eq_getElem hpos))
      simp at this
      omega
  · obtain ⟨g1, g2, g3, g4⟩ := h1.owns j R hj ho
    obtain ⟨_, _, g3', _⟩ := h.owns j R hj ho
    refine ⟨g1, g2, g3, fun bb hbb => ⟨(g4 bb hbb).1, fun j' ds hj' => cases' j' ds hj' (fun e1 e2 => ?_) fun hj' => (g4 bb hbb).2 j' ds hj'⟩⟩
    subst e1
    have := g3'.lt hbb
    rw [hβ]; omega
  · obtain ⟨U, g1, g2, g3⟩ := h.seqs j R xs hj hs
    refine ⟨U, g1.below hB, fun j' ds hj' hr => cases' j' ds hj' (fun e1 e2 => ?_) fun hj' => g2 j' ds hj' hr, g3⟩
    subst e1
    intro hU
    have := g1.lt hU
    omega
  · refine cases' j ds hj (fun e1 e2 => ?_) fun hj => h1.forn.1 j ds hj
    subst e1
    intro hf
    have := h.gh.2.1 _ hf
    omega

/-- A box is stored into. -/
theorem Rel.store {c : Cx} {w0 : Env} {β : Nat → Nat} {ρ : Nat → Value} {σ : St} {a : Act} {w w' : World} (h : Rel c w0 β ρ σ a w) (k : Nat) (old cs : List V) (hcs : ∀ v ∈ cs, v ≠ .d) (T : TypeId)
    (hk : CS σ.b k = some (some old)) (hro : c.ro.contains k = false) (hit : c.it = false) (hos : w'.os = w.os) (htp : w'.tape = w.tape) (hou : w'.output = w.output) (hsz : w'.heap.size = w.heap.size)
    (hnew : w'.heap[β k]? = some (.cells (cs.map (conc β ρ)).toArray T (0, 0))) (hoth : ∀ b, b ≠ β k → w'.heap[b]? = w.heap[b]?) :
    Rel c w0 β ρ { σ with b := (k, some cs) :: σ.b } a w' := by
  obtain ⟨hge0, T0, hT0⟩ := h.boxes k old hk
  have hge := hge0 hro
  have g : ∀ j ds, CS ((k, some cs) :: σ.b) j = some (some ds) → ∃ es, CS σ.b j = some (some es) := fun j ds hj => by
    simp only [look_cons] at hj
    by_cases e : k = j
    · subst e; exact ⟨old, hk⟩
    · rw [if_neg e] at hj; exact ⟨ds, hj⟩
  refine ⟨?_, h.size, h.defers.mono fun r hr => hoth r (fun e => by rw [e, hT0] at hr; simp at hr), h.slots, fun j ds hj => ?_, fun j ds hj => ?_, fun j j' ds es hj hj' hne hr => ?_, fun j R hj => ⟨fun hs => ?_, fun xs hs => ?_⟩,
    fun j R hj hn hl b hb => ⟨(h.rnew j R hj hn hl b hb).1, by rw [hsz]; exact (h.rnew j R hj hn hl b hb).2⟩, h.rold, h.rsz, fun j R j' ds hj hj' hl hr => ?_, fun j R hj ho => ?_, fun j R xs hj hs => ?_, h.frz,
    ⟨(h.gh.2.2 hit).1 _, fun b hb => absurd hb ((h.gh.2.2 hit).2 b), h.gh.2.2⟩, h.gs, ⟨fun j ds hj => ?_, h.forn.2⟩⟩
  · exact ⟨hos.trans h.below.os, htp.trans h.below.tape, hou.trans h.below.output, by have := h.below.size; omega, fun b hb => (hoth b (fun e => hge (e ▸ hb))).trans (h.below.block b hb)⟩
  · simp only [look_cons] at hj
    by_cases e : k = j
    · subst e; rw [if_pos rfl] at hj; simp at hj; subst hj; exact ⟨hge0, T, hnew⟩
    · rw [if_neg e] at hj
      obtain ⟨h1, T', hT⟩ := h.boxes j ds hj
      exact ⟨h1, T', by rw [hoth _ (Ne.symm (h.binj k j old ds hk hj e hro))]; exact hT⟩
  · simp only [look_cons] at hj
    by_cases e : k = j
    · subst e; rw [if_pos rfl] at hj; simp at hj; subst hj; exact hcs
    · rw [if_neg e] at hj; exact h.balive j ds hj
  · obtain ⟨_, g1⟩ := g j ds hj
    obtain ⟨_, g2⟩ := g j' es hj'
    exact h.binj j j' _ _ g1 g2 hne hr
  · obtain ⟨a', c', hv, hlc, hi⟩ := (h.rows j R hj).1 hs
    refine ⟨a', c', hv, hlc, fun i hlt => ?_⟩
    obtain ⟨hs, b, o, ha, hc⟩ := hi i hlt
    refine ⟨hs, b, o, ha, fun n u hu => ?_⟩
    have hne : b ≠ β k := fun e => h.rbox j R k old hj hk (by omega) hro (by rw [hv, ha]; simp [Value.ownBlock, e])
    rw [← hc n u hu]
    exact World.cell?_of_block (hoth b hne)
  · obtain ⟨U, g1, g2, _⟩ := h.seqs j R xs hj hs
    exact ⟨U, g1.mono fun b o hU _ _ => hoth b fun e => g2 k old hk hro (e ▸ hU)⟩
  · obtain ⟨_, g2⟩ := g j' ds hj'
    exact h.rbox j R j' _ hj g2 hl hr
  · obtain ⟨g1, g2, g3, g4⟩ := h.owns j R hj ho
    refine ⟨g1, g2, g3.same fun b o hb _ _ => hoth b fun e => (g4 b hb).2 k old hk e.symm, fun bb hbb => ⟨(g4 bb hbb).1, fun j' ds hj' => ?_⟩⟩
    obtain ⟨_, g5⟩ := g j' ds hj'
    exact (g4 bb hbb).2 j' _ g5
  · obtain ⟨U, g1, g2, g3⟩ := h.seqs j R xs hj hs
    refine ⟨U, g1.mono fun b o hU _ _ => hoth b fun e => g2 k old hk hro (e ▸ hU), fun j' ds hj' hr => ?_, g3⟩
    obtain ⟨_, g5⟩ := g j' ds hj'
    exact g2 j' _ g5 hr
  · obtain ⟨_, g5⟩ := g j ds hj
    exact h.forn.1 j _ g5

/-- A row has come: it lies in a new block, or in none; or it is a function over yield. -/
theorem Rel.newrow {c : Cx} {w0 : Env} {β : Nat → Nat} {ρ : Nat → Value} {σ : St} {a : Act} {w w' : World} (h : Rel c w0 β ρ σ a w) (hB : Below w.heap.size w w') (k : Nat) (R : Row) (hkN : c.it = true → k ≠ c.N)
    (hz : R.size ≠ 0) (hR : R.sp = none → SliceOK w' (ρ k) R) (hn : R.new = true) (hfr : R.len ≠ 0 → ∀ b, (ρ k).ownBlock = some b → w.heap.size ≤ b ∧ b < w'.heap.size)
    (ho : R.own = true → R.sp = none ∧ OwnOK w' (ρ k) R)
    (hs : ∀ xs, R.sp = some xs → ∃ U, SpOK c.P w' (ρ k) xs U ∧ ∀ b, U b → w.heap.size ≤ b ∨ w0.pr b) :
    Rel c w0 β ρ { σ with x := (k, some R) :: σ.x } a w' := by
  have hw := h.world hB
  have ltb : ∀ j ds, CS σ.b j = some (some ds) → β j < w.heap.size := fun j ds hj => by
    obtain ⟨_, T, hT⟩ := h.boxes j ds hj
    exact block_lt hT
  have cases' : ∀ {p : Prop} j S, CS ((k, some R) :: σ.x) j = some (some S) → (k = j → S = R → p) → (k ≠ j → CS σ.x j = some (some S) → p) → p := fun {p} j S hj f g => by
    simp only [look_cons] at hj
    by_cases e : k = j
    · rw [if_pos e] at hj; simp at hj; exact f e hj.symm
    · rw [if_neg e] at hj; exact g e hj
  refine ⟨hw.below, hw.size, hw.defers, hw.slots, hw.boxes, hw.balive, hw.binj, fun j S hj => ?_, fun j S hj => ?_, fun j S hj => ?_, fun j S hj => ?_, fun j S j' ds hj hj' hl hr => ?_, fun j S hj hso => ?_, fun j S xs hj hsp => ?_, hw.frz, hw.gh, fun hit => ⟨(hw.gs hit).1, fun S hj => ?_⟩, ⟨hw.forn.1, fun j S hj => ?_⟩⟩
  · refine cases' j S hj (fun e1 e2 => ?_) fun _ hj => hw.rows j S hj
    subst e1; subst e2
    exact ⟨hR, fun xs hxs => by obtain ⟨U, g1, _⟩ := hs xs hxs; exact ⟨U, g1⟩⟩
  · refine cases' j S hj (fun e1 e2 => ?_) fun _ hj => hw.rnew j S hj
    subst e1; subst e2
    exact fun _ hl b hb => ⟨h.below.fresh (hfr hl b hb).1, (hfr hl b hb).2⟩
  · refine cases' j S hj (fun e1 e2 => ?_) fun _ hj => hw.rold j S hj
    subst e1; subst e2
    intro hn'; rw [hn] at hn'; cases hn'
  · exact cases' j S hj (fun e1 e2 => by subst e1; subst e2; exact hz) fun _ hj => hw.rsz j S hj
  · refine cases' j S hj (fun e1 e2 => ?_) fun _ hj => hw.rbox j S j' ds hj hj' hl hr
    subst e1; subst e2
    intro hb
    have := (hfr hl _ hb).1
    have := ltb j' ds hj'
    omega
  · refine cases' j S hj (fun e1 e2 => ?_) fun hne hj => ?_
    · subst e1; subst e2
      obtain ⟨o1, o2⟩ := ho hso
      have hlen : ∀ b, (ρ k).ownBlock = some b → S.len ≠ 0 := fun b hb e => by rw [o2.1 e] at hb; cases hb
      refine ⟨o1, hn, o2, fun b hb => ⟨fun j' S' hj' hne hl => ?_, fun j' ds hj' => ?_⟩⟩
      · refine cases' j' S' hj' (fun e1 _ => absurd e1.symm hne) fun _ hj' => ?_
        intro hb'
        have h1 := (hfr (hlen b hb) b hb).1
        cases hsp : S'.sp with
        | some xs => rw [((h.rows j' S' hj').own hsp).1] at hb'; cases hb'
        | none =>
          obtain ⟨a', c', hv, _, hi⟩ := (h.rows j' S' hj').1 hsp
          obtain ⟨_, b', o, ha, hc⟩ := hi 0 (by omega)
          rw [hv, ha] at hb'
          simp [Value.ownBlock] at hb'
          obtain ⟨hs, _⟩ := hi 0 (by omega)
          have hpos : 0 < (S'.get (0 : Nat)).length := by have := h.rsz j' S' hj'; rw [hs]; omega
          have := World.block_lt_of_cell? w _ (hc 0 _ (List.getElem?_eq_getElem hpos))
          simp at this
          omega
      · have := (hfr (hlen b hb) b hb).1
        have := ltb j' ds hj'
        omega
    · obtain ⟨g1, g2, g3, g4⟩ := hw.owns j S hj hso
      obtain ⟨_, _, g3', _⟩ := h.owns j S hj hso
      refine ⟨g1, g2, g3, fun b hb => ⟨fun j' S' hj' hne' hl => cases' j' S' hj' (fun e1 e2 => ?_) fun _ hj' => (g4 b hb).1 j' S' hj' hne' hl, (g4 b hb).2⟩⟩
      subst e1; subst e2
      intro hb'
      have := (hfr hl b hb').1
      have := g3'.lt hb
      omega
  · refine cases' j S hj (fun e1 e2 => ?_) fun hne hj => ?_
    · subst e1; subst e2
      obtain ⟨U, g1, g2⟩ := hs xs hsp
      refine ⟨U, g1, fun j' ds hj' hr hU => ?_, fun j' S' hj' hn' hl' b hb hU => ?_⟩
      · rcases g2 _ hU with g | g
        · have := ltb j' ds hj'; omega
        · exact (h.boxes j' ds hj').1 hr g
      · refine cases' j' S' hj' (fun e1 e2 => ?_) fun _ hj' => ?_
        · subst e1; subst e2
          rw [g1.own.1] at hb; cases hb
        · obtain ⟨r1, r2⟩ := h.rnew j' S' hj' hn' hl' b hb
          rcases g2 _ hU with g | g
          · omega
          · exact r1 g
    · obtain ⟨U, g1, g2, g3⟩ := h.seqs j S xs hj hsp
      refine ⟨U, g1.below hB, g2, fun j' S' hj' hn' hl' b hb hU => cases' j' S' hj' (fun e1 e2 => ?_) fun _ hj' => g3 j' S' hj' hn' hl' b hb hU⟩
      subst e1; subst e2
      have := (hfr hl' b hb).1
      have := g1.lt hU
      omega
  · exact cases' _ S hj (fun e1 _ => absurd e1 (hkN hit)) fun _ hj => (hw.gs hit).2 S hj
  · refine cases' j S hj (fun e1 e2 => ?_) fun _ hj => hw.forn.2 j S hj
    subst e1; subst e2
    intro hl b hb hf
    have := (hfr hl b hb).1
    have := h.gh.2.1 b hf
    omega

/-- One of the rows that may be appended to has grown: in place, or into a new block; it bears a new key. -/
theorem Rel.appended {c : Cx} {w0 : Env} {β : Nat → Nat} {ρ : Nat → Value} {σ τ : St} {a : Act} {w w' : World} (h : Rel c w0 β ρ σ a w) (d : Nat) (hd : okd c d) (hit : c.it = false)
    {v' : Value} (hrel : Rel c w0 (upd β d 0) (upd ρ d v') τ a w) (hτb : ∀ j cs, CS τ.b j = some (some cs) → j ≠ d ∧ CS σ.b j = some (some cs)) (hτx : ∀ j S, CS τ.x j = some (some S) → CS σ.x j = some (some S) ∧ j ≠ d)
    {k : Nat} {R : Row} (hk : CS σ.x k = some (some R)) (ho : R.own = true) (hg : w.grownBy w' (ρ k).ownBlock) (R' : Row) (hn' : R'.new = true) (hsp' : R'.sp = none) (hz' : R'.size ≠ 0)
    (hO : OwnOK w' v' R') (hS : SliceOK w' v' R') (hv : ∀ b, v'.ownBlock = some b → (ρ k).ownBlock = some b ∨ b = w.heap.size) :
    Rel c w0 (upd β d 0) (upd ρ d v') ⟨(d, .r d) :: τ.t, τ.b, (d, some R') :: (k, none) :: τ.x⟩ (a.put (some d) v') w' := by
  obtain ⟨o1, o2, o3, o4⟩ := h.owns k R hk ho
  have klen : ∀ b, (ρ k).ownBlock = some b → R.len ≠ 0 := fun b hb hl => by rw [o3.1 hl] at hb; cases hb
  have hold : ∀ b, (ρ k).ownBlock = some b → ¬ w0.pr b ∧ b < w.heap.size := fun b hb => h.rnew k R hk o2 (klen b hb) b hb
  have holdc : ∀ b, (ρ k).ownBlock = some b → ∃ o : Obj, w.heap[b]? = some o ∧ o.isCells = true := fun b hb => by
    obtain ⟨_, xs, ⟨_, h2⟩, _⟩ := o3
    rcases h2 with ⟨e, _⟩ | ⟨g, cap, cur, e, _, hg', _⟩
    · rw [e] at hb; cases hb
    · rw [e] at hb; simp [Value.ownBlock] at hb; subst hb; exact ⟨_, hg', rfl⟩
  have same : ∀ b, b < w.heap.size → (ρ k).ownBlock ≠ some b → w'.heap[b]? = w.heap[b]? := fun b hb hne => hg.block b hb fun e => hne e.symm
  have updx : ∀ j, j ≠ d → upd ρ d v' j = ρ j := fun j hj => upd_other _ _ hj
  have updb : ∀ j, j ≠ d → upd β d 0 j = β j := fun j hj => upd_other _ _ hj
  have vlt : ∀ b, v'.ownBlock = some b → ¬ w0.pr b ∧ b < w'.heap.size := fun b hb => ⟨by
    rcases hv b hb with e | e
    · exact (hold b e).1
    · exact h.below.fresh (by omega), hO.lt hb⟩
  have bounds : ∀ {p : Prop} j S, CS ((d, some R') :: (k, none) :: τ.x) j = some (some S) → (j = d → S = R' → p) → (j ≠ d → j ≠ k → CS τ.x j = some (some S) → p) → p := fun {p} j S hj f g => by
    simp only [look_cons] at hj
    by_cases e : d = j
    · rw [if_pos e] at hj; simp at hj; exact f e.symm hj.symm
    · rw [if_neg e] at hj
      by_cases e2 : k = j
      · rw [if_pos e2] at hj; simp at hj
      · rw [if_neg e2] at hj; exact g (Ne.symm e) (Ne.symm e2) hj
  have rowne : ∀ j S, CS τ.x j = some (some S) → j ≠ k → S.len ≠ 0 → ∀ b, (ρ k).ownBlock = some b → (ρ j).ownBlock ≠ some b := fun j S hj hne hl b hb => (o4 b hb).1 j S (hτx j S hj).1 hne hl
  have boxne : ∀ j cs, CS τ.b j = some (some cs) → ∀ b, (ρ k).ownBlock = some b → β j ≠ b := fun j cs hj b hb => (o4 b hb).2 j cs (hτb j cs hj).2
  have hput : ∀ t u, CS ((d, V.r d) :: τ.t) t = some u → u ≠ .d → (a.put (some d) v').tmps.getD t undef = conc (upd β d 0) (upd ρ d v') u := fun t u hu hne => by
    rw [put_getD a d v' (by rw [h.size]; exact hd.1) t]
    simp only [look_cons] at hu
    by_cases e : d = t
    · rw [if_pos e] at hu ⊢; simp at hu; subst hu; simp [conc, upd_same]
    · rw [if_neg e] at hu ⊢; exact hrel.slots t u hu hne
  have rowlt : ∀ j S, CS τ.x j = some (some S) → S.sp = none → S.len ≠ 0 → ∀ b, (ρ j).ownBlock = some b → b < w.heap.size := fun j S hj hsp hl b hb => by
    obtain ⟨hσ, hjd⟩ := hτx j S hj
    obtain ⟨a', c', hv, _, hi⟩ := (h.rows j S hσ).1 hsp
    obtain ⟨_, b', o, ha, hc⟩ := hi 0 (by omega)
    rw [hv, ha] at hb
    simp [Value.ownBlock] at hb
    obtain ⟨hs, _⟩ := hi 0 (by omega)
    have hpos : 0 < (S.get (0 : Nat)).length := by have := h.rsz j S hσ; rw [hs]; omega
    have := World.block_lt_of_cell? w _ (hc 0 _ (List.getElem?_eq_getElem hpos))
    simp at this
    omega
  refine ⟨⟨hg.os.trans h.below.os, hg.tape.trans h.below.tape, hg.output.trans h.below.output, Nat.le_trans h.below.size hg.size, fun b hb => ?_⟩, by simpa [Act.put] using h.size, ?_, hput, fun j cs hj => ?_, hrel.balive, hrel.binj, fun j S hj => ?_, fun j S hj => ?_, fun j S hj => ?_, fun j S hj => ?_, fun j S j' cs hj hj' hl hr => ?_, fun j S hj hso => ?_, fun j S xs hj hsp => ?_, fun t ht => ?_,
    ⟨(h.gh.2.2 hit).1 _, fun b hb => absurd hb ((h.gh.2.2 hit).2 b), h.gh.2.2⟩, fun hi => (by rw [hit] at hi; cases hi), ⟨fun j cs _ => (h.gh.2.2 hit).2 _, fun j S _ _ b _ => (h.gh.2.2 hit).2 _⟩⟩
  · exact (same b (Nat.lt_of_lt_of_le (w0.lt b hb) h.below.size) fun e => (hold b e).1 hb).trans (h.below.block b hb)
  · refine h.defers.mono fun r hr => same r (block_lt hr) fun e => ?_
    obtain ⟨o, g1, g2⟩ := holdc r e
    rw [hr] at g1; simp at g1; subst g1; simp [Obj.isCells] at g2
  · obtain ⟨h1, T, hT⟩ := hrel.boxes j cs hj
    refine ⟨h1, T, ?_⟩
    rw [updb j (hτb j cs hj).1] at hT ⊢
    exact (same _ (block_lt hT) fun e => boxne j cs hj _ e rfl).trans hT
  · refine bounds j S hj (fun e1 e2 => ?_) fun h1 h2 hj => ?_
    · subst e1; subst e2
      rw [upd_same]
      exact ⟨fun _ => hS, fun xs hx => by rw [hsp'] at hx; cases hx⟩
    · rw [updx j h1]
      refine ⟨fun hs => ?_, fun xs hs => ?_⟩
      · obtain ⟨a', c', hv1, hlc, hi⟩ := (h.rows j S (hτx j S hj).1).1 hs
        refine ⟨a', c', hv1, hlc, fun i hlt => ?_⟩
        obtain ⟨hs, b, o, ha, hc⟩ := hi i hlt
        refine ⟨hs, b, o, ha, fun n u hu => ?_⟩
        have hcell := hc n u hu
        have hb : (ρ j).ownBlock = some b := by rw [hv1, ha]; rfl
        exact (World.cell?_of_block (same b (World.block_lt_of_cell? w _ hcell) fun e => rowne j S hj h2 (by omega) b e hb)).trans hcell
      · obtain ⟨U, g1, _, g3⟩ := h.seqs j S xs (hτx j S hj).1 hs
        exact ⟨U, g1.mono fun b o hU hb _ => same b (block_lt hb) fun e => g3 k R hk o2 (klen b e) b e hU⟩
  · refine bounds j S hj (fun e1 e2 => ?_) fun h1 h2 hj => ?_
    · subst e1; subst e2; rw [upd_same]; exact fun _ _ b hb => vlt b hb
    · intro hn hl b hb
      have := hrel.rnew j S hj hn hl b hb
      exact ⟨this.1, Nat.lt_of_lt_of_le this.2 hg.size⟩
  · refine bounds j S hj (fun e1 e2 => ?_) fun h1 h2 hj => hrel.rold j S hj
    subst e1; subst e2
    intro hn; rw [hn'] at hn; cases hn
  · exact bounds j S hj (fun e1 e2 => by subst e2; exact hz') fun h1 h2 hj => hrel.rsz j S hj
  · refine bounds j S hj (fun e1 e2 => ?_) fun h1 h2 hj => hrel.rbox j S j' cs hj hj' hl hr
    subst e1; subst e2
    rw [upd_same, updb j' (hτb j' cs hj').1]
    intro hb
    rcases hv _ hb with e | e
    · exact boxne j' cs hj' _ e rfl
    · obtain ⟨_, T, hT⟩ := h.boxes j' cs (hτb j' cs hj').2
      have := block_lt hT
      omega
  · refine bounds j S hj (fun e1 e2 => ?_) fun h1 h2 hj => ?_
    · subst e1; subst e2
      rw [upd_same]
      refine ⟨hsp', hn', hO, fun b hb => ⟨fun j' S' hj' hne hl => ?_, fun j' cs hj' => ?_⟩⟩
      · refine bounds j' S' hj' (fun e1 _ => absurd e1 hne) fun h1' h2' hj' => ?_
        rw [updx j' h1']
        intro hb'
        cases hsp : S'.sp with
        | some xs => rw [((h.rows j' S' (hτx j' S' hj').1).own hsp).1] at hb'; cases hb'
        | none =>
          rcases hv b hb with e | e
          · exact rowne j' S' hj' h2' hl b e hb'
          · have := rowlt j' S' hj' hsp hl b hb'; omega
      · rw [updb j' (hτb j' cs hj').1]
        rcases hv b hb with e | e
        · exact boxne j' cs hj' b e
        · obtain ⟨_, T, hT⟩ := h.boxes j' cs (hτb j' cs hj').2
          have := block_lt hT
          omega
    · obtain ⟨g1, g2, g3, g4⟩ := h.owns j S (hτx j S hj).1 hso
      rw [updx j h1]
      have bne : ∀ b, (ρ j).ownBlock = some b → (ρ k).ownBlock ≠ some b := fun b hb e => by
        refine (g4 b hb).1 k R hk (Ne.symm h2) (fun hl => ?_) e
        rw [o3.1 hl] at e; cases e
      refine ⟨g1, g2, g3.same fun b o hb ho' _ => same b (block_lt ho') (bne b hb), fun b hb => ⟨fun j' S' hj' hne hl => ?_, fun j' cs hj' => ?_⟩⟩
      · refine bounds j' S' hj' (fun e1 e2 => ?_) fun h1' h2' hj' => ?_
        · subst e1; subst e2
          rw [upd_same]
          intro hb'
          rcases hv b hb' with e | e
          · exact bne b hb e
          · have := g3.lt hb; omega
        · rw [updx j' h1']; exact (g4 b hb).1 j' S' (hτx j' S' hj').1 hne hl
      · rw [updb j' (hτb j' cs hj').1]; exact (g4 b hb).2 j' cs (hτb j' cs hj').2
  · refine bounds j S hj (fun e1 e2 => ?_) fun h1 h2 hj => ?_
    · subst e2; rw [hsp'] at hsp; cases hsp
    · rw [updx j h1]
      obtain ⟨U, g1, g2, g3⟩ := h.seqs j S xs (hτx j S hj).1 hsp
      refine ⟨U, g1.mono fun b o hU hb _ => same b (block_lt hb) fun e => g3 k R hk o2 (klen b e) b e hU, fun j' cs hj' hr => ?_, fun j' S' hj' hn hl b hb hU => ?_⟩
      · rw [updb j' (hτb j' cs hj').1]; exact g2 j' cs (hτb j' cs hj').2 hr
      · refine bounds j' S' hj' (fun e1 e2 => ?_) fun h1' h2' hj' => ?_
        · subst e1; subst e2
          rw [upd_same] at hb
          rcases hv b hb with e | e
          · exact g3 k R hk o2 (klen b e) b e hU
          · have := g1.lt hU; omega
        · rw [updx j' h1'] at hb; exact g3 j' S' (hτx j' S' hj').1 hn hl b hb hU
  · rw [put_getD a d v' (by rw [h.size]; exact hd.1) t, if_neg (fun e => by subst e; rw [hd.2] at ht; cases ht)]
    exact h.frz t ht

theorem piece_len {α : Type} {xs : List α} {n s i : Nat} (hl : xs.length = n * s) (hi : i < n) : ((xs.drop (i * s)).take s).length = s := by
  have : (i + 1) * s ≤ n * s := Nat.mul_le_mul_right _ hi
  rw [Nat.add_mul, Nat.one_mul] at this
  simp; omega

/-- What may be appended to may be read. -/
theorem OwnOK.slice {w : World} {v : Value} {R : Row} (h : OwnOK w v R) : SliceOK w v R := by
  obtain ⟨_, xs, ⟨h1, h2⟩, h3⟩ := h
  rcases h2 with ⟨rfl, e⟩ | ⟨g, cap, cur, rfl, _, hg, hc, _, hs, ht⟩
  · exact ⟨none, 0, by rw [e], by omega, fun i hi => by omega⟩
  · refine ⟨_, cap, rfl, hc, fun i hi => ⟨by rw [← h3 i hi]; exact piece_len h1 hi, g, 0, rfl, fun j u hu => ?_⟩⟩
    rw [← h3 i hi, List.getElem?_take] at hu
    split at hu
    · rename_i hj
      rw [List.getElem?_drop, ← ht, List.getElem?_take] at hu
      split at hu
      · rw [cell_of_block hg, Nat.zero_add]
        simpa using hu
      · cases hu
    · cases hu

theorem splice_get {α : Type} (xs us : List α) (p q : Nat) (hp : p + us.length ≤ xs.length) : (xs.take p ++ us ++ xs.drop (p + us.length))[q]? = if q < p then xs[q]? else if q < p + us.length then us[q - p]? else xs[q]? := by
  have hlen : (xs.take p).length = p := by simp; omega
  by_cases h1 : q < p
  · rw [if_pos h1, List.append_assoc, List.getElem?_append_left (by omega), List.getElem?_take, if_pos h1]
  · rw [if_neg h1, List.append_assoc, List.getElem?_append_right (by omega), hlen]
    by_cases h2 : q < p + us.length
    · rw [if_pos h2, List.getElem?_append_left (by omega)]
    · rw [if_neg h2, List.getElem?_append_right (by omega), List.getElem?_drop]
      congr 1
      omega

theorem splice_piece {α : Type} (xs us : List α) (n s i j off : Nat) (hl : xs.length = n * s) (hi : i < n) (hj : j < n) (ho : off + us.length ≤ s) :
    ((xs.take (i * s + off) ++ us ++ xs.drop (i * s + off + us.length)).drop (j * s)).take s =
      if j = i then ((xs.drop (i * s)).take s).take off ++ us ++ ((xs.drop (i * s)).take s).drop (off + us.length) else (xs.drop (j * s)).take s := by
  have hn : (i + 1) * s ≤ n * s := Nat.mul_le_mul_right _ hi
  rw [Nat.add_mul, Nat.one_mul] at hn
  have hle : i * s + off + us.length ≤ xs.length := by omega
  apply List.ext_getElem?
  intro q
  rw [List.getElem?_take, List.getElem?_drop, splice_get _ _ _ _ hle]
  by_cases e : j = i
  · subst e
    rw [if_pos rfl]
    have hpl := piece_len hl hj
    rw [splice_get _ _ _ _ (by rw [hpl]; exact ho)]
    by_cases hq : q < s
    · rw [if_pos hq]
      simp only [List.getElem?_take, List.getElem?_drop, if_pos hq]
      by_cases h1 : q < off
      · rw [if_pos h1, if_pos (by omega)]
      · rw [if_neg h1, if_neg (by omega)]
        by_cases h2 : q < off + us.length
        · rw [if_pos h2, if_pos (by omega)]; congr 1; omega
        · rw [if_neg h2, if_neg (by omega)]
    · rw [if_neg hq, if_neg (by omega), if_neg (by omega)]
      simp only [List.getElem?_take, if_neg hq]
  · rw [if_neg e, List.getElem?_take, List.getElem?_drop]
    by_cases hq : q < s
    · rw [if_pos hq, if_pos hq]
      rcases Nat.lt_or_ge j i with h | h
      · have : (j + 1) * s ≤ i * s := Nat.mul_le_mul_right _ h
        rw [Nat.add_mul, Nat.one_mul] at this
        rw [if_pos (by omega)]
      · have : (i + 1) * s ≤ j * s := Nat.mul_le_mul_right _ (by omega)
        rw [Nat.add_mul, Nat.one_mul] at this
        rw [if_neg (by omega), if_neg (by omega)]
    · rw [if_neg hq, if_neg hq]

/-- An element of a row of the call's own has turned. -/
theorem Rel.setrow {c : Cx} {w0 : Env} {β : Nat → Nat} {ρ : Nat → Value} {σ : St} {a : Act} {w w' : World} (h : Rel c w0 β ρ σ a w) (hit : c.it = false) {k : Nat} {R : Row} (hk : CS σ.x k = some (some R)) (ho : R.own = true)
    (R' : Row) (hsz' : R'.size = R.size) (hlen' : R'.len = R.len) (hn' : R'.new = true) (hsp' : R'.sp = none) (hos : w'.os = w.os) (htp : w'.tape = w.tape) (hou : w'.output = w.output) (hsz : w'.heap.size = w.heap.size)
    (hoth : ∀ b : Nat, (ρ k).ownBlock ≠ some b → w'.heap[b]? = w.heap[b]?) (hO : OwnOK w' (ρ k) R') : Rel c w0 β ρ { σ with x := (k, some R') :: σ.x } a w' := by
  obtain ⟨o1, o2, o3, o4⟩ := h.owns k R hk ho
  have klen : ∀ b, (ρ k).ownBlock = some b → R.len ≠ 0 := fun b hb hl => by rw [o3.1 hl] at hb; cases hb
  have hold : ∀ b, (ρ k).ownBlock = some b → ¬ w0.pr b := fun b hb => (h.rnew k R hk o2 (klen b hb) b hb).1
  have holdc : ∀ b, (ρ k).ownBlock = some b → ∃ o : Obj, w.heap[b]? = some o ∧ o.isCells = true := fun b hb => by
    obtain ⟨_, xs, ⟨_, h2⟩, _⟩ := o3
    rcases h2 with ⟨e, _⟩ | ⟨g, cap, cur, e, _, hg', _⟩
    · rw [e] at hb; cases hb
    · rw [e] at hb; simp [Value.ownBlock] at hb; subst hb; exact ⟨_, hg', rfl⟩
  have bounds : ∀ {p : Prop} j S, CS ((k, some R') :: σ.x) j = some (some S) → (j = k → S = R' → p) → (j ≠ k → CS σ.x j = some (some S) → p) → p := fun {p} j S hj f g => by
    simp only [look_cons] at hj
    by_cases e : k = j
    · rw [if_pos e] at hj; simp at hj; exact f e.symm hj.symm
    · rw [if_neg e] at hj; exact g (Ne.symm e) hj
  refine ⟨⟨hos.trans h.below.os, htp.trans h.below.tape, hou.trans h.below.output, by have := h.below.size; omega, fun b hb => (hoth b fun e => hold b e hb).trans (h.below.block b hb)⟩, h.size, h.defers.mono fun r hr => hoth r fun e => ?_, h.slots, fun j cs hj => ?_, h.balive, h.binj, fun j S hj => ?_, fun j S hj => ?_, fun j S hj => ?_, fun j S hj => ?_, fun j S j' cs hj hj' hl hr => ?_, fun j S hj hso => ?_, fun j S xs hj hsp => ?_, h.frz,
    ⟨(h.gh.2.2 hit).1 _, fun b hb => absurd hb ((h.gh.2.2 hit).2 b), h.gh.2.2⟩, fun hi => (by rw [hit] at hi; cases hi), ⟨fun j cs _ => (h.gh.2.2 hit).2 _, fun j S _ _ b _ => (h.gh.2.2 hit).2 _⟩⟩
  · obtain ⟨o, g1, g2⟩ := holdc r e
    rw [hr] at g1; simp at g1; subst g1; simp [Obj.isCells] at g2
  · obtain ⟨h1, T, hT⟩ := h.boxes j cs hj
    exact ⟨h1, T, (hoth _ fun e => (o4 _ e).2 j cs hj rfl).trans hT⟩
  · refine bounds j S hj (fun e1 e2 => ?_) fun h1 hj => ?_
    · subst e1; subst e2
      exact ⟨fun _ => hO.slice, fun xs hx => by rw [hsp'] at hx; cases hx⟩
    · refine ⟨fun hs => ?_, fun xs hs => ?_⟩
      · obtain ⟨a', c', hv1, hlc, hi⟩ := (h.rows j S hj).1 hs
        refine ⟨a', c', hv1, hlc, fun i hlt => ?_⟩
        obtain ⟨hs, b, o, ha, hc⟩ := hi i hlt
        refine ⟨hs, b, o, ha, fun n u hu => ?_⟩
        have hb : (ρ j).ownBlock = some b := by rw [hv1, ha]; rfl
        exact (World.cell?_of_block (hoth b fun e => (o4 b e).1 j S hj h1 (by omega) hb)).trans (hc n u hu)
      · obtain ⟨U, g1, _, g3⟩ := h.seqs j S xs hj hs
        exact ⟨U, g1.mono fun b o hU hb _ => hoth b fun e => g3 k R hk o2 (klen b e) b e hU⟩
  · refine bounds j S hj (fun e1 e2 => ?_) fun h1 hj hn hl b hb => ⟨(h.rnew j S hj hn hl b hb).1, by rw [hsz]; exact (h.rnew j S hj hn hl b hb).2⟩
    subst e1; subst e2
    exact fun _ _ b hb => ⟨hold b hb, by rw [hsz]; exact (h.rnew j R hk o2 (klen b hb) b hb).2⟩
  · refine bounds j S hj (fun e1 e2 => ?_) fun h1 hj => h.rold j S hj
    subst e2
    intro hn; rw [hn'] at hn; cases hn
  · exact bounds j S hj (fun e1 e2 => by subst e1; subst e2; rw [hsz']; exact h.rsz j R hk) fun h1 hj => h.rsz j S hj
  · refine bounds j S hj (fun e1 e2 => ?_) fun h1 hj => h.rbox j S j' cs hj hj' hl hr
    subst e1; subst e2
    exact h.rbox j R j' cs hk hj' (by omega) hr
  · refine bounds j S hj (fun e1 e2 => ?_) fun h1 hj => ?_
    · subst e1; subst e2
      exact ⟨hsp', hn', hO, fun b hb => ⟨fun j' S' hj' hne hl => bounds j' S' hj' (fun e1 _ => absurd e1 hne) fun _ hj' => (o4 b hb).1 j' S' hj' hne hl, (o4 b hb).2⟩⟩
    · obtain ⟨g1, g2, g3, g4⟩ := h.owns j S hj hso
      refine ⟨g1, g2, g3.same fun b o hb _ _ => hoth b fun e => (g4 b hb).1 k R hk (Ne.symm h1) (klen b e) e, fun b hb => ⟨fun j' S' hj' hne hl => bounds j' S' hj' (fun e1 e2 => ?_) fun _ hj' => (g4 b hb).1 j' S' hj' hne hl, (g4 b hb).2⟩⟩
      subst e1; subst e2
      exact (g4 b hb).1 j' R hk hne (by omega)
  · refine bounds j S hj (fun e1 e2 => by subst e2; rw [hsp'] at hsp; cases hsp) fun h1 hj => ?_
    obtain ⟨U, g1, g2, g3⟩ := h.seqs j S xs hj hsp
    refine ⟨U, g1.mono fun b o hU hb _ => hoth b fun e => g3 k R hk o2 (klen b e) b e hU, g2, fun j' S' hj' hn hl b hb => bounds j' S' hj' (fun e1 e2 => ?_) fun _ hj' => g3 j' S' hj' hn hl b hb⟩
    subst e1; subst e2
    exact g3 j' R hk o2 (by omega) b hb

/-- Other words on the slots alone. -/
theorem Rel.reslot {c : Cx} {w0 : Env} {β : Nat → Nat} {ρ : Nat → Value} {t t' : List (Nat × V)} {b : List (Nat × Option (List V))} {x : List (Nat × Option Row)} {a : Act} {w : World} (h : Rel c w0 β ρ ⟨t, b, x⟩ a w)
    (hs : ∀ s v, CS t' s = some v → v ≠ .d → a.tmps.getD s undef = conc β ρ v) : Rel c w0 β ρ ⟨t', b, x⟩ a w :=
  ⟨h.below, h.size, h.defers, hs, h.boxes, h.balive, h.binj, h.rows, h.rnew, h.rold, h.rsz, h.rbox, h.owns, h.seqs, h.frz, h.gh, h.gs, h.forn⟩

end Go.Ab
