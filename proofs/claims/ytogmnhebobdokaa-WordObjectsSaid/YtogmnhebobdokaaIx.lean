/- The contexts of functions over yield, of their makers and of rounds. -/
import Derived.Test.Ytogmnhebobdokaa10
import Derived.Test.YtogmnhebobdokaaAbMake
import Derived.Test.YtogmnhebobdokaaAbConv
set_option linter.unusedVariables false
set_option linter.unusedSimpArgs false
namespace Go.Ab
open Go Go.RowKit Go.Proofs

/-- Of a function over yield: what it has captured is only read. -/
noncomputable def ix (Γ : FuncId → List V → Option (List RV)) (N : Nat) (ro : List Nat) (ys : List (List Value)) (l : Nat) : Cx := { P := Try.prog, τ := EA, Γ := Γ, N := N, eqs := EB, byt := BH, it := true, ro := ro, ys := ys, yl := l }
/-- Of a maker: some slots stay as they are. -/
noncomputable def fx (Γ : FuncId → List V → Option (List RV)) (N : Nat) (fz : List Nat) : Cx := { P := Try.prog, τ := EA, Γ := Γ, N := N, eqs := EB, byt := BH, fz := fz }
section
variable (Γ : FuncId → List V → Option (List RV)) (N : Nat) (ro fz : List Nat) (ys : List (List Value)) (l : Nat)
theorem GH : (ix Γ N ro ys l).τ = EA := rfl
theorem GI : (ix Γ N ro ys l).Γ = Γ := rfl
theorem GJ : (ix Γ N ro ys l).N = N := rfl
theorem GK : (ix Γ N ro ys l).P = Try.prog := rfl
theorem GL : (ix Γ N ro ys l).eqs = EB := rfl
theorem GM : (ix Γ N ro ys l).byt = BH := rfl
theorem GN : (ix Γ N ro ys l).it = true := rfl
theorem GO : (ix Γ N ro ys l).fz = [] := rfl
theorem GP : (ix Γ N ro ys l).ro = ro := rfl
theorem GQ : (ix Γ N ro ys l).ys = ys := rfl
theorem GR : (ix Γ N ro ys l).yl = l := rfl
theorem ix_ok : OK (ix Γ N ro ys l) := ⟨tab_ok, eqtab_ok, follows_ok, bytab_ok⟩
theorem GS : (fx Γ N fz).τ = EA := rfl
theorem GT : (fx Γ N fz).Γ = Γ := rfl
theorem GU : (fx Γ N fz).N = N := rfl
theorem GV : (fx Γ N fz).P = Try.prog := rfl
theorem GW : (fx Γ N fz).eqs = EB := rfl
theorem GX : (fx Γ N fz).byt = BH := rfl
theorem GY : (fx Γ N fz).it = false := rfl
theorem GZ : (fx Γ N fz).fz = fz := rfl
theorem H0 : (fx Γ N fz).ro = [] := rfl
theorem fx_ok : OK (fx Γ N fz) := ⟨tab_ok, eqtab_ok, follows_ok, bytab_ok⟩
theorem H1 : (cR (cx Γ N) fz).τ = EA := rfl
theorem H2 : (cR (cx Γ N) fz).Γ = Γ := rfl
theorem H4 : (cR (cx Γ N) fz).N = N := rfl
theorem H5 : (cR (cx Γ N) fz).P = Try.prog := rfl
theorem H6 : (cR (cx Γ N) fz).eqs = EB := rfl
theorem H7 : (cR (cx Γ N) fz).byt = BH := rfl
theorem H8 : (cR (cx Γ N) fz).it = false := rfl
theorem H9 : (cR (cx Γ N) fz).fz = fz := rfl
theorem HA : (cR (cx Γ N) fz).ro = [] := rfl
end

theorem dom_of {S : Nat → St} {fz : List Nat} (h : ∀ i, (S i).t.all (fun p => fz.contains p.1) = true) : ∀ i t v, CS (S i).t t = some v → fz.contains t = true := by
  have key : ∀ (l : List (Nat × V)) (t : Nat) (v : V), l.all (fun p => fz.contains p.1) = true → CS l t = some v → fz.contains t = true := by
    intro l
    induction l with
    | nil => intro t v _ h; simp [CS] at h
    | cons p l ih =>
      intro t v ha h
      rw [List.all_cons, Bool.and_eq_true] at ha
      rw [look_cons] at h
      split at h
      · rename_i e; rw [← e]; exact ha.1
      · exact ih t v ha.2 h
  exact fun i t v hv => key _ t v (h i) hv

end Go.Ab
