/- The Go law WordRuns answers true for every input: a line's runs are the document's, one behind another, all of it, and whoever breaks off ends it No condition. (The row, out of the law's contract.) -/
import Derived.Test.YtogmnhebobdokaaRows
import Derived.Test.Ytogmnhebobdokaa87
import Derived.Test.YtogmnhebobdokaaLift
import Derived.WalkKit
import Derived.ProofKit
import Derived.OpenShut
import Derived.ShutString
import Derived.ChangeOld
import Derived.Below
import Derived.SliceStrings
import Derived.Carry
import Derived.Lib.SmallJoins
import Derived.ChangeMaps5
namespace Go.Proofs.Ytogmnhebobdokaa.wordRuns
open Go.ChangeShapes Go.WideShapes Go.ChangeAt Go.RowKit Go.Ab
set_option linter.unusedVariables false
set_option linter.unusedSimpArgs false
theorem own : ownKnob Try.prog.godebug = none := by kernel_rfl
theorem laidOut : laidOutB Try.prog = true := by kernel_rfl

set_option maxRecDepth 100000 in
theorem lifted (os : Os) (started : os.Started) (H : Type) (enc : TypeId × Value → H) :
    ReturnsInHanded {} Try.checked os 6 .any (Rows.wordRunsSpec.pre6 enc Try.prog Try.f6 Rows.wordRunsRow.domain false) (Rows.wordRunsSpec.post enc Try.prog Try.f6 false true false false) := by
  refine returnsInHanded_of_change_sized (C := Try.checked) own started (by kernel_rfl) Try.func6
    (ChangeSpec.witness6 (enc := enc) (C := Try.checked) false ⟨#[], #[.string ⟨#[]⟩, .bool false, .int .u8 0], []⟩ 8 (by kernel_rfl) (by kernel_rfl) (by kernel_rfl) (by kernel_rfl)) ?_
  intro W base args ds gs before hval0 hW hcnd hsz0 _
  have hsz : (DataW.weightsEach Try.prog (Try.f6.params.toList ++ Rows.wordRunsSpec.plain.varTypes Try.prog) (ds ++ gs)).all (· ≤ reachBytes) = true := hsz0
  have hval : ∀ (j : Nat) t v, Try.f6.params[j]? = some t → args[j]? = some v → Value.okWide Try.prog W .any base t v := hval0
  have hW' := hW
  obtain ⟨p, q, hA0, hV, rfl, hfz, hnd⟩ := hW
  have hA : DataW.TrodAll enc Try.prog W 0 (fun _ => true) true Try.f6.params.toList args.toList ds p := hA0
  rw [Try.params6] at hA hval hsz
  obtain ⟨v0, vs0, d0, ds0, p0, q0, hargs, rfl, rfl, h0, r0⟩ := trodAll_cons hA
  obtain ⟨v1, vs1, d1, ds1, p1, q1, rfl, rfl, rfl, h1, r1⟩ := trodAll_cons r0
  obtain ⟨v2, vs2, d2, ds2, p2, q2, rfl, rfl, rfl, h2, r2⟩ := trodAll_cons r1
  obtain ⟨rfl, rfl, rfl⟩ := trodAll_nil r2
  obtain rfl : args = #[v0, v1, v2] := by cases args; simp_all
  obtain ⟨rfl, rfl⟩ := trodVars_none hV
  obtain ⟨u, rfl, rfl, rfl, zu⟩ := Go.ChangeMaps.open_string Try.underlying9 (hval 0 9 v0 rfl rfl) h0
  have hw0 : u.size ≤ reachBytes := by simpa using List.all_eq_true.1 hsz _ (DataW.weights_mem_each (j := 0) (t := 9) rfl rfl u.size (by simp [DataW.weights]))
  obtain ⟨big, rfl, rfl, rfl⟩ := open_bool Try.underlying4 (hval 1 4 v1 rfl rfl) h1
  obtain ⟨m, rfl, rfl, rfl, zm⟩ := open_int Try.underlying5 (hval 2 5 v2 rfl rfl) h2
  have ym : 0 ≤ m ∧ m < 256 := by have h := zm; simp [Lit.wf, IntKind.min, IntKind.max, IntKind.signed, IntKind.bits] at h; omega
  obtain ⟨m, rfl⟩ : ∃ z9 : Nat, m = z9 := ⟨m.toNat, by omega⟩
  clear hA0 hval0 hsz0 hsz
  have walk := (law_WordRuns u (Nat.le_trans hw0 (by decide)) big m (by omega)).2 [.string u, .bool big, .int .u8 m] W ⟨rfl, rfl, rfl, trivial⟩
  refine walk.mono fun e W' he => ?_
  obtain ⟨zs, rfl, hz, bel⟩ := he
  match zs, hz with
  | [z], hz =>
    obtain ⟨rfl, _⟩ := hz
    exact ⟨_, rfl, _, _, _, [], _, [], hW', trodAll_mk1 (shut_bool Try.underlying4 _), (trodAll_cons_mk (Go.ChangeMaps.shut_string Try.underlying9 zu) (trodAll_cons_mk (shut_bool Try.underlying4 _) (trodAll_cons_mk (shut_int Try.underlying5 zm) trodAll_mk0))), rfl, bel.frame _, fun h => by cases h⟩

theorem over : Rows.wordRunsRow.holds Try.pinned (OpenSpec.ofChange Rows.wordRunsSpec) :=
  OpenClaim.holds_of_wide 6 Try.f6 rfl rfl rfl rfl rfl rfl rfl ⟨rfl, rfl, rfl, rfl, rfl⟩ rfl rfl rfl rfl rfl (by kernel_rfl) Try.func6 (by kernel_rfl)
    (of_decide_eq_true (by kernel_rfl)) (by unfold Func.isWrapper; first | (rw [if_pos (by decide +kernel)]; kernel_rfl) | (rw [if_neg (by decide +kernel)]; exact ⟨rfl, rfl⟩))
    (fun os started H enc _ => lifted os started H enc)

end Go.Proofs.Ytogmnhebobdokaa.wordRuns
namespace Go.Proofs.Ytogmnhebobdokaa
/-- The row, under a short name, for the claim. -/
theorem wordRuns_holds : Rows.WordRunsSaid := wordRuns.over
#print axioms wordRuns_holds
end Go.Proofs.Ytogmnhebobdokaa
