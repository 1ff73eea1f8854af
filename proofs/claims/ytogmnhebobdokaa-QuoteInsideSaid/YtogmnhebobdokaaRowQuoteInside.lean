/- The Go law QuoteInside answers true for every input: inner has no quote in it, around has two, and blanks alone stand beside. No condition. (The row, out of the law's contract.) -/
import Derived.Test.YtogmnhebobdokaaRows
import Derived.Test.Ytogmnhebobdokaa76
import Derived.Test.YtogmnhebobdokaaLift
import Derived.WalkKit
import Derived.ProofKit
import Derived.OpenShut
import Derived.ShutString
import Derived.ChangeOld
import Derived.Below
import Derived.SliceStrings
import Derived.Carry
import Derived.Lib.SmallJoins
namespace Go.Proofs.Ytogmnhebobdokaa.quoteInside
open Go.ChangeShapes Go.WideShapes Go.ChangeAt Go.RowKit Go.Ab
set_option linter.unusedVariables false
set_option linter.unusedSimpArgs false
theorem own : ownKnob Try.prog.godebug = none := by kernel_rfl
theorem laidOut : laidOutB Try.prog = true := by kernel_rfl

set_option maxRecDepth 100000 in
theorem lifted (os : Os) (started : os.Started) (H : Type) (enc : TypeId × Value → H) :
    ReturnsInHanded {} Try.checked os 5 .any (Rows.quoteInsideSpec.pre6 enc Try.prog Try.f5 Rows.quoteInsideRow.domain false) (Rows.quoteInsideSpec.post enc Try.prog Try.f5 false true false false) := by
  refine returnsInHanded_of_change_sized (C := Try.checked) own started (by kernel_rfl) Try.func5
    (ChangeSpec.witness6 (enc := enc) (C := Try.checked) false ⟨#[], #[.slice none 0 0, .int .u16 0, .int .u16 0, .int .u8 0], []⟩ 8 (by kernel_rfl) (by kernel_rfl) (by kernel_rfl) (by kernel_rfl)) ?_
  intro W base args ds gs before hval0 hW hcnd hsz0 _
  have hsz : (DataW.weightsEach Try.prog (Try.f5.params.toList ++ Rows.quoteInsideSpec.plain.varTypes Try.prog) (ds ++ gs)).all (· ≤ reachBytes) = true := hsz0
  have hval : ∀ (j : Nat) t v, Try.f5.params[j]? = some t → args[j]? = some v → Value.okWide Try.prog W .any base t v := hval0
  have hW' := hW
  obtain ⟨p, q, hA0, hV, rfl, hfz, hnd⟩ := hW
  have hA : DataW.TrodAll enc Try.prog W 0 (fun _ => true) true Try.f5.params.toList args.toList ds p := hA0
  rw [Try.params5] at hA hval hsz
  obtain ⟨v0, vs0, d0, ds0, p0, q0, hargs, rfl, rfl, h0, r0⟩ := trodAll_cons hA
  obtain ⟨v1, vs1, d1, ds1, p1, q1, rfl, rfl, rfl, h1, r1⟩ := trodAll_cons r0
  obtain ⟨v2, vs2, d2, ds2, p2, q2, rfl, rfl, rfl, h2, r2⟩ := trodAll_cons r1
  obtain ⟨v3, vs3, d3, ds3, p3, q3, rfl, rfl, rfl, h3, r3⟩ := trodAll_cons r2
  obtain ⟨rfl, rfl, rfl⟩ := trodAll_nil r3
  obtain rfl : args = #[v0, v1, v2, v3] := by cases args; simp_all
  obtain ⟨rfl, rfl⟩ := trodVars_none hV
  obtain ⟨l, hrow0, hw0⟩ := rowOK_strings Try.underlying32 Try.underlying9 (by kernel_rfl) (okWide_slice Try.underlying32 (hval 0 32 v0 rfl rfl)) h0
    (fun n hn => by simpa using List.all_eq_true.1 hsz _ (DataW.weights_mem_each (j := 0) (t := 32) rfl rfl n hn))
  obtain ⟨a, rfl, rfl, rfl, za⟩ := open_int Try.underlying35 (hval 1 35 v1 rfl rfl) h1
  obtain ⟨b, rfl, rfl, rfl, zb⟩ := open_int Try.underlying35 (hval 2 35 v2 rfl rfl) h2
  obtain ⟨n, rfl, rfl, rfl, zn⟩ := open_int Try.underlying5 (hval 3 5 v3 rfl rfl) h3
  have lt0 : ∀ x ∈ p0, x.block < W.heap.size := by obtain ⟨m, hm⟩ := h0; exact DataW.trod_lt m _ _ _ hm
  have ya : 0 ≤ a ∧ a < 65536 := by have h := za; simp [Lit.wf, IntKind.min, IntKind.max, IntKind.signed, IntKind.bits] at h; omega
  obtain ⟨a, rfl⟩ : ∃ z9 : Nat, a = z9 := ⟨a.toNat, by omega⟩
  have yb : 0 ≤ b ∧ b < 65536 := by have h := zb; simp [Lit.wf, IntKind.min, IntKind.max, IntKind.signed, IntKind.bits] at h; omega
  obtain ⟨b, rfl⟩ : ∃ z9 : Nat, b = z9 := ⟨b.toNat, by omega⟩
  have yn : 0 ≤ n ∧ n < 256 := by have h := zn; simp [Lit.wf, IntKind.min, IntKind.max, IntKind.signed, IntKind.bits] at h; omega
  obtain ⟨n, rfl⟩ : ∃ z9 : Nat, n = z9 := ⟨n.toNat, by omega⟩
  clear hA0 hval0 hsz0 hsz
  have walk := (law_QuoteInside l hw0 a b (by omega) (by omega) n (by omega) 0).2 [v0, .int .u16 a, .int .u16 b, .int .u8 n] W ⟨hrow0, rfl, rfl, rfl, trivial⟩
  refine walk.mono fun e W' he => ?_
  obtain ⟨zs, rfl, hz, bel⟩ := he
  match zs, hz with
  | [z], hz =>
    obtain ⟨rfl, _⟩ := hz
    exact ⟨_, rfl, _, _, _, [], _, [], hW', trodAll_mk1 (shut_bool Try.underlying4 _), (trodAll_cons_mk (Below.trod laidOut (by kernel_rfl) (of_decide_eq_true (by kernel_rfl)) h0 bel lt0) (trodAll_cons_mk (shut_int Try.underlying35 za) (trodAll_cons_mk (shut_int Try.underlying35 zb) (trodAll_cons_mk (shut_int Try.underlying5 zn) trodAll_mk0)))), rfl, bel.frame _, fun h => by cases h⟩

theorem over : Rows.quoteInsideRow.holds Try.pinned (OpenSpec.ofChange Rows.quoteInsideSpec) :=
  OpenClaim.holds_of_wide 5 Try.f5 rfl rfl rfl rfl rfl rfl rfl ⟨rfl, rfl, rfl, rfl, rfl⟩ rfl rfl rfl rfl rfl (by kernel_rfl) Try.func5 (by kernel_rfl)
    (of_decide_eq_true (by kernel_rfl)) (by unfold Func.isWrapper; first | (rw [if_pos (by decide +kernel)]; kernel_rfl) | (rw [if_neg (by decide +kernel)]; exact ⟨rfl, rfl⟩))
    (fun os started H enc _ => lifted os started H enc)

end Go.Proofs.Ytogmnhebobdokaa.quoteInside
namespace Go.Proofs.Ytogmnhebobdokaa
/-- The row, under a short name, for the claim. -/
theorem quoteInside_holds : Rows.QuoteInsideSaid := quoteInside.over
#print axioms quoteInside_holds
end Go.Proofs.Ytogmnhebobdokaa
