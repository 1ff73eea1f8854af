/- Contracts: the law's own helps: same, known. -/
import Derived.Test.Ytogmnhebobdokab18
import Derived.Test.Ytogmnhebobdokab17
set_option linter.unusedVariables false
set_option linter.unusedSimpArgs false
namespace Go.Ab
open Go Go.RowKit Go.Proofs

/-- A row that reads alike serves. -/
theorem CallOK.row {P : Program} {f : FuncId} {k : Nat} {args : List V} {R S : Row} {rws : List (Option Row)} {ret : List RV} (h : CallOK P f (.r k :: args) (some R :: rws) ret)
    (h1 : S.size = R.size) (h2 : S.len = R.len) (h3 : ∀ i : Nat, i < R.len → S.get i = R.get i) (h0 : S.sp = R.sp := by rfl) : CallOK P f (.r k :: args) (some S :: rws) ret := by
  refine ⟨h.1, fun ys w hy => h.2 ys w ?_⟩
  cases ys with
  | nil => exact hy.elim
  | cons y ys => exact ⟨hy.1.congr h1 h2 h0 h3, hy.2⟩

def kl1 : List ByteArray := [⟨#[40, 97, 40, 98, 41, 41]⟩]
def kl2 : List ByteArray := [⟨#[40, 97]⟩]
def klOf (args : List V) : List ByteArray :=
  match args with
  | .r k :: _ => if k = 13 then kl1 else kl2
  | _ => kl2
def matchV (l : List ByteArray) (args : List V) : Option (List RV) :=
  match args with
  | [_, .v p] => some [.v (moveP (matchI l (p1 p) (p2 p))), .v (.bool (matchI l (p1 p) (p2 p)).isSome)]
  | _ => none
def encV (l : List ByteArray) (args : List V) : Option (List RV) :=
  match args with
  | [_, .v p, .v o, .v n] => some [.v (encA (encI l (p1 p) (p2 p) (iv o) (iv n))), .v (encB (encI l (p1 p) (p2 p) (iv o) (iv n))), .v (.bool (encI l (p1 p) (p2 p) (iv o) (iv n)).isSome)]
  | _ => none
def Gk (f : FuncId) (args : List V) : Option (List RV) :=
  if f = 16 then matchV (klOf args) args else if f = 17 then encV (klOf args) args else if f = 53 then kindV args else none

theorem fit_kl1 : Fit kl1 := ⟨by decide, fun a => by
  unfold sz kl1
  rcases a with _ | a
  · decide
  · simp [List.getD_cons_succ]; decide⟩
theorem fit_kl2 : Fit kl2 := ⟨by decide, fun a => by
  unfold sz kl2
  rcases a with _ | a
  · decide
  · simp [List.getD_cons_succ]; decide⟩
theorem kM1 : matchI kl1 0 1 = some (0, 4) := by kernel_rfl
theorem kM2 : matchI kl2 0 0 = none := by kernel_rfl
theorem kE1 : encI kl1 0 3 40 2 = some ((0, 0), (0, 5)) := by
  unfold encI
  rw [if_neg (by decide)]
  kernel_rfl


end Go.Ab
