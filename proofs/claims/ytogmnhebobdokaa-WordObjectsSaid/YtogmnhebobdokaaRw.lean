/- A row that reads alike serves. -/
import Derived.Test.Ytogmnhebobdokaa10
set_option linter.unusedVariables false
set_option linter.unusedSimpArgs false
namespace Go.Ab
open Go Go.RowKit Go.Proofs

/-- A row that reads alike serves. -/
theorem CallOK.row {P : Program} {f : FuncId} {k : Nat} {args : List V} {R S : Row} {rws : List (Option Row)} {ret : List RV} (h : CallOK P f (.r k :: args) (some R :: rws) ret)
    (h1 : S.size = R.size) (h2 : S.len = R.len) (h3 : ∀ i : Nat, i < R.len → S.get i = R.get i) (h0 : S.sp = R.sp := by rfl) : CallOK P f (.r k :: args) (some S :: rws) ret := by
  refine ⟨h.1, fun ys w hy => h.2 ys w ?_⟩
  cases ys with
  | nil => exact hy.elim
  | cons y ys => exact ⟨hy.1.congr h1 h2 h0 h3, hy.2⟩

/-- A second row that reads alike serves. -/
theorem CallOK.row2 {P : Program} {f : FuncId} {j k : Nat} {args : List V} {T R S : Row} {rws : List (Option Row)} {ret : List RV} (h : CallOK P f (.r j :: .r k :: args) (some T :: some R :: rws) ret)
    (h1 : S.size = R.size) (h2 : S.len = R.len) (h3 : ∀ i : Nat, i < R.len → S.get i = R.get i) (h0 : S.sp = R.sp := by rfl) : CallOK P f (.r j :: .r k :: args) (some T :: some S :: rws) ret := by
  refine ⟨h.1, fun ys w hy => h.2 ys w ?_⟩
  match ys, hy with
  | [], hy => exact hy.elim
  | [y], hy => exact hy.2.elim
  | y :: z :: ys, hy => exact ⟨hy.1, hy.2.1.congr h1 h2 h0 h3, hy.2.2⟩


end Go.Ab
