/- The types of this translation, for the abstract layer. -/
import Derived.Test.YtogmnhebobdokaaAbFn
import Derived.Test.YtogmnhebobdokaaProg
import Derived.KernelRfl
set_option linter.unusedVariables false
set_option linter.unusedSimpArgs false
namespace Go.Ab
open Go Go.RowKit Go.Proofs

def TOKs (P : Program) : List (Nat × TInfo) → Prop
  | [] => True
  | (t, ti) :: l => TOK1 P t ti ∧ TOKs P l
theorem tok_of {P : Program} : ∀ {l : List (Nat × TInfo)}, TOKs P l → TOK P l
  | [], _, t, ti, h => by simp [CS] at h
  | (s, si) :: l, hs, t, ti, h => by
    rw [look_cons] at h
    split at h
    · rename_i e; subst e; simp at h; subst h; exact hs.1
    · exact tok_of hs.2 t ti h

abbrev i64 (n : Int) : Value := .int .i64 n

def EA : List (Nat × TInfo) :=
  (3, ⟨1, [.int .i64 0], .int .i64⟩) ::
  (4, ⟨1, [.bool false], .bool⟩) ::
  (34, ⟨2, [.int .i64 0, .int .i64 0], .st [(0, 3), (1, 3)]⟩) ::
  (9, ⟨1, [.string ⟨#[]⟩], .str⟩) ::
  (32, ⟨1, [.slice none 0 0], .sl 9⟩) ::
  (5, ⟨1, [.int .u8 0], .int .u8⟩) ::
  (35, ⟨1, [.int .u16 0], .int .u16⟩) ::
  (66, ⟨5, [.int .i64 0, .int .i64 0, .int .i64 0, .bool false, .int .i64 0], .st [(0, 34), (2, 3), (3, 4), (4, 3)]⟩) ::
  (38, ⟨1, [.slice none 0 0], .sl 34⟩) ::
  (41, ⟨5, [.int .i64 0, .int .i64 0, .int .i64 0, .int .i64 0, .int .i64 0], .st [(0, 3), (1, 34), (3, 34)]⟩) ::
  (50, ⟨2, [.int .i64 0, .int .i64 0], .st [(0, 3), (1, 3)]⟩) ::
  (23, ⟨1, [.slice none 0 0], .sl 50⟩) ::
  (52, ⟨1, [.slice none 0 0], .sl 3⟩) ::
  (39, ⟨1, [.slice none 0 0], .sl 5⟩) ::
  (87, ⟨3, [.int .i64 0, .int .i64 0, .bool false], .st [(0, 3), (1, 3), (2, 4)]⟩) ::
  (83, ⟨1, [.slice none 0 0], .sl 87⟩) ::
  (57, ⟨6, [.int .u8 0, .int .i64 0, .string ⟨#[]⟩, .string ⟨#[]⟩, .int .u8 0, .string ⟨#[]⟩], .st [(0, 5), (1, 3), (2, 9), (3, 9), (4, 5), (5, 9)]⟩) ::
  (58, ⟨1, [.slice none 0 0], .sl 57⟩) ::
  (26, ⟨1, [.nilFunc], .fn⟩) ::
  (105, ⟨1, [.nilFunc], .fn⟩) ::
  []

theorem tab_ok : TOK Try.prog EA := tok_of (
  ⟨⟨by kernel_rfl, _, Try.underlying3, rfl⟩,
  ⟨⟨by kernel_rfl, _, Try.underlying4, trivial⟩,
  ⟨⟨by kernel_rfl, _, Try.underlying34, rfl⟩,
  ⟨⟨by kernel_rfl, _, Try.underlying9, trivial⟩,
  ⟨⟨by kernel_rfl, _, Try.underlying32, rfl⟩,
  ⟨⟨by kernel_rfl, _, Try.underlying5, rfl⟩,
  ⟨⟨by kernel_rfl, _, Try.underlying35, rfl⟩,
  ⟨⟨by kernel_rfl, _, Try.underlying66, rfl⟩,
  ⟨⟨by kernel_rfl, _, Try.underlying38, rfl⟩,
  ⟨⟨by kernel_rfl, _, Try.underlying41, rfl⟩,
  ⟨⟨by kernel_rfl, _, Try.underlying50, rfl⟩,
  ⟨⟨by kernel_rfl, _, Try.underlying23, rfl⟩,
  ⟨⟨by kernel_rfl, _, Try.underlying52, rfl⟩,
  ⟨⟨by kernel_rfl, _, Try.underlying39, rfl⟩,
  ⟨⟨by kernel_rfl, _, Try.underlying87, rfl⟩,
  ⟨⟨by kernel_rfl, _, Try.underlying83, rfl⟩,
  ⟨⟨by kernel_rfl, _, Try.underlying57, rfl⟩,
  ⟨⟨by kernel_rfl, _, Try.underlying58, rfl⟩,
  ⟨⟨by kernel_rfl, _, Try.underlying26, trivial⟩,
  ⟨⟨by kernel_rfl, _, Try.underlying105, trivial⟩,
  trivial
  ⟩
  ⟩
  ⟩
  ⟩
  ⟩
  ⟩
  ⟩
  ⟩
  ⟩
  ⟩
  ⟩
  ⟩
  ⟩
  ⟩
  ⟩
  ⟩
  ⟩
  ⟩
  ⟩
  ⟩
  )

def BH : List (Nat × Nat) :=
  (3, 8) ::
  (4, 1) ::
  (34, 16) ::
  (9, 16) ::
  (5, 1) ::
  (50, 16) ::
  (87, 24) ::
  []
def BYs (P : Program) : List (Nat × Nat) → Prop
  | [] => True
  | (t, n) :: l => (P.info? t).map (·.bytes) = some n ∧ BYs P l
theorem by_of {P : Program} : ∀ {l : List (Nat × Nat)}, BYs P l → BYOK P l
  | [], _, t, n, h => by simp [CS] at h
  | (s, m) :: l, hs, t, n, h => by
    rw [look_cons] at h
    split at h
    · rename_i e; subst e; simp at h; subst h
      have := hs.1
      cases hi : P.info? s with
      | none => rw [hi] at this; simp at this
      | some i => rw [hi] at this; simp at this; exact ⟨i, rfl, this⟩
    · exact by_of hs.2 t n h
theorem bytab_ok : BYOK Try.prog BH := by_of (
  ⟨by kernel_rfl,
  ⟨by kernel_rfl,
  ⟨by kernel_rfl,
  ⟨by kernel_rfl,
  ⟨by kernel_rfl,
  ⟨by kernel_rfl,
  ⟨by kernel_rfl,
  trivial
  ⟩
  ⟩
  ⟩
  ⟩
  ⟩
  ⟩
  ⟩
  )

theorem follows_ok : Try.prog.follows .mixedOrders = true := by kernel_rfl

/-! ### '==' of structs -/
theorem leaf_int {k : IntKind} {ls : List (Option IntKind)} {l m : List Value} {r : Bool} (h : D6 (some k :: ls) l m = some r) :
    ∃ a b l' m' r', l = .int k a :: l' ∧ m = .int k b :: m' ∧ D6 ls l' m' = some r' ∧ r = (a == b && r') := by
  cases l with
  | nil => simp [D6] at h
  | cons x l' =>
    cases m with
    | nil => cases x <;> simp [D6] at h
    | cons y m' =>
      cases x <;> cases y <;> simp [D6] at h
      rename_i i a j b
      obtain ⟨⟨rfl, rfl⟩, h⟩ := h
      cases hr : D6 ls l' m' with
      | none => rw [hr] at h; simp at h
      | some r' => rw [hr] at h; simp at h; exact ⟨a, b, l', m', r', rfl, rfl, hr, h.symm⟩
theorem leaf_bool {ls : List (Option IntKind)} {l m : List Value} {r : Bool} (h : D6 (none :: ls) l m = some r) :
    ∃ a b l' m' r', l = .bool a :: l' ∧ m = .bool b :: m' ∧ D6 ls l' m' = some r' ∧ r = (a == b && r') := by
  cases l with
  | nil => simp [D6] at h
  | cons x l' =>
    cases m with
    | nil => cases x <;> simp [D6] at h
    | cons y m' =>
      cases x <;> cases y <;> simp [D6] at h
      rename_i a b
      cases hr : D6 ls l' m' with
      | none => rw [hr] at h; simp at h
      | some r' => rw [hr] at h; simp at h; exact ⟨a, b, l', m', r', rfl, rfl, hr, h.symm⟩
theorem leaf_nil {l m : List Value} {r : Bool} (h : D6 [] l m = some r) : l = [] ∧ m = [] ∧ r = true := by
  unfold D6 at h
  split at h <;> simp_all

theorem eq_pos (a b c d : Int) (w : World) : (Op.equal 34 (.agg #[.int .i64 a, .int .i64 b]) (.agg #[.int .i64 c, .int .i64 d])).run Try.prog w = .ok (a == c && (b == d && true)) w := by
  have hu := Try.underlying34
  have hi := Try.underlying3
  simp [Op.equal, Op.maxDepth, go_sem, hu, hi]
  by_cases h1 : a = c <;> by_cases h2 : b = d <;> simp [h1, h2]
theorem eq_range (a b c d e a' b' c' d' e' : Int) (w : World) : (Op.equal 41 (.agg #[.int .i64 a, .int .i64 b, .int .i64 c, .int .i64 d, .int .i64 e]) (.agg #[.int .i64 a', .int .i64 b', .int .i64 c', .int .i64 d', .int .i64 e'])).run Try.prog w = .ok (a == a' && (b == b' && (c == c' && (d == d' && (e == e' && true))))) w := by
  have hu := Try.underlying34
  have hr := Try.underlying41
  have hi := Try.underlying3
  simp [Op.equal, Op.maxDepth, go_sem, hu, hi, hr]
  by_cases h1 : a = a' <;> by_cases h2 : b = b' <;> by_cases h3 : c = c' <;> by_cases h4 : d = d' <;> by_cases h5 : e = e' <;> simp [h1, h2, h3, h4, h5]
theorem eq_move (a b c : Int) (d : Bool) (e a' b' c' : Int) (d' : Bool) (e' : Int) (w : World) : (Op.equal 66 (.agg #[.int .i64 a, .int .i64 b, .int .i64 c, .bool d, .int .i64 e]) (.agg #[.int .i64 a', .int .i64 b', .int .i64 c', .bool d', .int .i64 e'])).run Try.prog w = .ok (a == a' && (b == b' && (c == c' && (d == d' && (e == e' && true))))) w := by
  have hu := Try.underlying34
  have hr := Try.underlying66
  have hi := Try.underlying3
  have hb := Try.underlying4
  simp [Op.equal, Op.maxDepth, go_sem, hu, hi, hr, hb]
  by_cases h1 : a = a' <;> by_cases h2 : b = b' <;> by_cases h3 : c = c' <;> by_cases h4 : d = d' <;> by_cases h5 : e = e' <;> simp [h1, h2, h3, h4, h5]
theorem eq_run (a b c d : Int) (w : World) : (Op.equal 50 (.agg #[.int .i64 a, .int .i64 b]) (.agg #[.int .i64 c, .int .i64 d])).run Try.prog w = .ok (a == c && (b == d && true)) w := by
  have hu := Try.underlying50
  have hi := Try.underlying3
  simp [Op.equal, Op.maxDepth, go_sem, hu, hi]
  by_cases h1 : a = c <;> by_cases h2 : b = d <;> simp [h1, h2]

def EB : List (Nat × List (Option IntKind)) :=
  (34, [some .i64, some .i64]) ::
  (41, [some .i64, some .i64, some .i64, some .i64, some .i64]) ::
  (66, [some .i64, some .i64, some .i64, none, some .i64]) ::
  (50, [some .i64, some .i64]) ::
  []
def EQ1 (P : Program) (t : Nat) (ls : List (Option IntKind)) : Prop :=
  P.eqGuardType P.depth t = false ∧ ∀ (xs ys : Array Value) (r : Bool) (w : World), D6 ls xs.toList ys.toList = some r → (Op.equal t (.agg xs) (.agg ys)).run P w = .ok r w
def EQs (P : Program) : List (Nat × List (Option IntKind)) → Prop
  | [] => True
  | (t, ls) :: l => EQ1 P t ls ∧ EQs P l
theorem eq_of {P : Program} : ∀ {l : List (Nat × List (Option IntKind))}, EQs P l → EQOK P l
  | [], _, t, ls, h => by simp [CS] at h
  | (s, ms) :: l, hs, t, ls, h => by
    rw [look_cons] at h
    split at h
    · rename_i e; subst e; simp at h; subst h; exact hs.1
    · exact eq_of hs.2 t ls h

theorem eq1_pair {P : Program} {t : Nat} (h0 : P.eqGuardType P.depth t = false) (h : ∀ (a b c d : Int) (w : World), (Op.equal t (.agg #[.int .i64 a, .int .i64 b]) (.agg #[.int .i64 c, .int .i64 d])).run P w = .ok (a == c && (b == d && true)) w) : EQ1 P t [some .i64, some .i64] := by
  refine ⟨h0, fun xs ys r w h0 => ?_⟩
  obtain ⟨a, b, l, m, r1, hx, hy, h1, rfl⟩ := leaf_int h0
  obtain ⟨a', b', l', m', r2, rfl, rfl, h2, rfl⟩ := leaf_int h1
  obtain ⟨rfl, rfl, rfl⟩ := leaf_nil h2
  obtain rfl : xs = #[.int .i64 a, .int .i64 a'] := Array.toList_inj.1 hx
  obtain rfl : ys = #[.int .i64 b, .int .i64 b'] := Array.toList_inj.1 hy
  exact h _ _ _ _ w
theorem eq1_range : EQ1 Try.prog 41 [some .i64, some .i64, some .i64, some .i64, some .i64] := by
  refine ⟨by kernel_rfl, fun xs ys r w h0 => ?_⟩
  obtain ⟨a, b, l, m, r1, hx, hy, h1, rfl⟩ := leaf_int h0
  obtain ⟨CX, b2, l, m, r2, rfl, rfl, h2, rfl⟩ := leaf_int h1
  obtain ⟨CY, b3, l, m, r3, rfl, rfl, h3, rfl⟩ := leaf_int h2
  obtain ⟨a4, b4, l, m, r4, rfl, rfl, h4, rfl⟩ := leaf_int h3
  obtain ⟨a5, b5, l, m, r5, rfl, rfl, h5, rfl⟩ := leaf_int h4
  obtain ⟨rfl, rfl, rfl⟩ := leaf_nil h5
  obtain rfl : xs = #[.int .i64 a, .int .i64 CX, .int .i64 CY, .int .i64 a4, .int .i64 a5] := Array.toList_inj.1 hx
  obtain rfl : ys = #[.int .i64 b, .int .i64 b2, .int .i64 b3, .int .i64 b4, .int .i64 b5] := Array.toList_inj.1 hy
  exact eq_range _ _ _ _ _ _ _ _ _ _ w
theorem eq1_move : EQ1 Try.prog 66 [some .i64, some .i64, some .i64, none, some .i64] := by
  refine ⟨by kernel_rfl, fun xs ys r w h0 => ?_⟩
  obtain ⟨a, b, l, m, r1, hx, hy, h1, rfl⟩ := leaf_int h0
  obtain ⟨CX, b2, l, m, r2, rfl, rfl, h2, rfl⟩ := leaf_int h1
  obtain ⟨CY, b3, l, m, r3, rfl, rfl, h3, rfl⟩ := leaf_int h2
  obtain ⟨a4, b4, l, m, r4, rfl, rfl, h4, rfl⟩ := leaf_bool h3
  obtain ⟨a5, b5, l, m, r5, rfl, rfl, h5, rfl⟩ := leaf_int h4
  obtain ⟨rfl, rfl, rfl⟩ := leaf_nil h5
  obtain rfl : xs = #[.int .i64 a, .int .i64 CX, .int .i64 CY, .bool a4, .int .i64 a5] := Array.toList_inj.1 hx
  obtain rfl : ys = #[.int .i64 b, .int .i64 b2, .int .i64 b3, .bool b4, .int .i64 b5] := Array.toList_inj.1 hy
  exact eq_move _ _ _ _ _ _ _ _ _ _ w

theorem eqtab_ok : EQOK Try.prog EB := eq_of (
  ⟨eq1_pair (by kernel_rfl) eq_pos,
  ⟨eq1_range,
  ⟨eq1_move,
  ⟨eq1_pair (by kernel_rfl) eq_run,
  trivial
  ⟩
  ⟩
  ⟩⟩)

end Go.Ab
