/- The Go law ParaSentence answers true for every input: a sentence has its place in it, and without blanks it ends behind a byte that is none. No condition. (The row, out of the law's contract.) -/
import Derived.Test.YtogmnhebobdokacRows
import Derived.Test.Ytogmnhebobdokac69
import Derived.Test.YtogmnhebobdokacLift
import Derived.WalkKit
import Derived.ProofKit
import Derived.OpenShut
import Derived.ShutString
import Derived.ChangeOld
import Derived.Below
import Derived.SliceStrings
import Derived.Carry
import Derived.Lib.SmallJoins
namespace Go.Proofs.Ytogmnhebobdokac.paraSentence
open Go.ChangeShapes Go.WideShapes Go.ChangeAt Go.RowKit Go.Ab
set_option linter.unusedVariables false
set_option linter.unusedSimpArgs false
theorem own : ownKnob Try.prog.godebug = none := by kernel_rfl
theorem laidOut : laidOutB Try.prog = true := by kernel_rfl

set_option maxRecDepth 100000 in
theorem lifted (os : Os) (started : os.Started) (H : Type) (enc : TypeId × Value → H) :
    ReturnsInHanded {} Try.checked os 3 .any (Rows.paraSentenceSpec.pre6 enc Try.prog Try.f3 Rows.paraSentenceRow.domain false) (Rows.paraSentenceSpec.post enc Try.prog Try.f3 false true false false) := by
  refine returnsInHanded_of_change_sized (C := Try.checked) own started (by kernel_rfl) Try.func3
    (ChangeSpec.witness6 (enc := enc) (C := Try.checked) false ⟨#[], #[.slice none 0 0, .int .u16 0, .int .u16 0], []⟩ 8 (by kernel_rfl) (by kernel_rfl) (by kernel_rfl) (by kernel_rfl)) ?_
  intro W base args ds gs before hval0 hW hcnd hsz0 _
  have hsz : (DataW.weightsEach Try.prog (Try.f3.params.toList ++ Rows.paraSentenceSpec.plain.varTypes Try.prog) (ds ++ gs)).all (· ≤ reachBytes) = true := hsz0
  have hval : ∀ (j : Nat) t v, Try.f3.params[j]? = some t → args[j]? = some v → Value.okWide Try.prog W .any base t v := hval0
  have hW' := hW
  obtain ⟨p, q, hA0, hV, rfl, hfz, hnd⟩ := hW
  have hA : DataW.TrodAll enc Try.prog W 0 (fun _ => true) true Try.f3.params.toList args.toList ds p := hA0
  rw [Try.params3] at hA hval hsz
  obtain ⟨v0, vs0, d0, ds0, p0, q0, hargs, rfl, rfl, h0, r0⟩ := trodAll_cons hA
  obtain ⟨v1, vs1, d1, ds1, p1, q1, rfl, rfl, rfl, h1, r1⟩ := trodAll_cons r0
  obtain ⟨v2, vs2, d2, ds2, p2, q2, rfl, rfl, rfl, h2, r2⟩ := trodAll_cons r1
  obtain ⟨rfl, rfl, rfl⟩ := trodAll_nil r2
  obtain rfl : args = #[v0, v1, v2] := by cases args; simp_all
  obtain ⟨rfl, rfl⟩ := trodVars_none hV
  obtain ⟨l, hrow0, hw0⟩ := rowOK_strings Try.underlying22 Try.underlying9 (by kernel_rfl) (okWide_slice Try.underlying22 (hval 0 22 v0 rfl rfl)) h0
    (fun n hn => by simpa using List.all_eq_true.1 hsz _ (DataW.weights_mem_each (j := 0) (t := 22) rfl rfl n hn))
  obtain ⟨a, rfl, rfl, rfl, za⟩ := open_int Try.underlying23 (hval 1 23 v1 rfl rfl) h1
  obtain ⟨b, rfl, rfl, rfl, zb⟩ := open_int Try.underlying23 (hval 2 23 v2 rfl rfl) h2
  have lt0 : ∀ x ∈ p0, x.block < W.heap.size := by obtain ⟨m, hm⟩ := h0; exact DataW.trod_lt m _ _ _ hm
  have ya : 0 ≤ a ∧ a < 65536 := by have h := za; simp [Lit.wf, IntKind.min, IntKind.max, IntKind.signed, IntKind.bits] at h; omega
  obtain ⟨a, rfl⟩ : ∃ z9 : Nat, a = z9 := ⟨a.toNat, by omega⟩
  have yb : 0 ≤ b ∧ b < 65536 := by have h := zb; simp [Lit.wf, IntKind.min, IntKind.max, IntKind.signed, IntKind.bits] at h; omega
  obtain ⟨b, rfl⟩ : ∃ z9 : Nat, b = z9 := ⟨b.toNat, by omega⟩
  clear hA0 hval0 hsz0 hsz
  have walk := (law_ParaSentence l hw0 a b (by omega) (by omega) 0).2 [v0, .int .u16 a, .int .u16 b] W ⟨hrow0, rfl, rfl, trivial⟩
  refine walk.mono fun e W' he => ?_
  obtain ⟨zs, rfl, hz, bel⟩ := he
  match zs, hz with
  | [z], hz =>
    obtain ⟨rfl, _⟩ := hz
    exact ⟨_, rfl, _, _, _, [], _, [], hW', trodAll_mk1 (shut_bool Try.underlying4 _), (trodAll_cons_mk (Below.trod laidOut (by kernel_rfl) (of_decide_eq_true (by kernel_rfl)) h0 bel lt0) (trodAll_cons_mk (shut_int Try.underlying23 za) (trodAll_cons_mk (shut_int Try.underlying23 zb) trodAll_mk0))), rfl, bel.frame _, fun h => by cases h⟩

theorem over : Rows.paraSentenceRow.holds Try.pinned (OpenSpec.ofChange Rows.paraSentenceSpec) :=
  OpenClaim.holds_of_wide 3 Try.f3 rfl rfl rfl rfl rfl rfl rfl ⟨rfl, rfl, rfl, rfl, rfl⟩ rfl rfl rfl rfl rfl (by kernel_rfl) Try.func3 (by kernel_rfl)
    (of_decide_eq_true (by kernel_rfl)) (by unfold Func.isWrapper; first | (rw [if_pos (by decide +kernel)]; kernel_rfl) | (rw [if_neg (by decide +kernel)]; exact ⟨rfl, rfl⟩))
    (fun os started H enc _ => lifted os started H enc)

end Go.Proofs.Ytogmnhebobdokac.paraSentence
namespace Go.Proofs.Ytogmnhebobdokac
/-- The row, under a short name, for the claim. -/
theorem paraSentence_holds : Rows.ParaSentenceSaid := paraSentence.over
#print axioms paraSentence_holds
end Go.Proofs.Ytogmnhebobdokac
