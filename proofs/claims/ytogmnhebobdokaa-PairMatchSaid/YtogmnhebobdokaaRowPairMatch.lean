/- The Go law PairMatch answers true for every input: from any place of any lines the bracket that belongs to the next one is found as the document says, or none. No condition. (The row, out of the law.s contract.) -/
import Derived.Test.YtogmnhebobdokaaRows
import Derived.Test.Ytogmnhebobdokaa21
import Derived.Test.YtogmnhebobdokaaLift
import Derived.WalkKit
import Derived.ProofKit
import Derived.OpenShut
import Derived.ShutString
import Derived.ChangeOld
import Derived.Below
import Derived.SliceStrings
import Derived.Carry
import Derived.Lib.SmallJoins
namespace Go.Proofs.Ytogmnhebobdokaa.pairMatch
open Go.ChangeShapes Go.WideShapes Go.ChangeAt Go.RowKit Go.Ab
set_option linter.unusedVariables false
set_option linter.unusedSimpArgs false
theorem own : ownKnob Try.prog.godebug = none := by kernel_rfl
theorem laidOut : laidOutB Try.prog = true := by kernel_rfl

set_option maxRecDepth 100000 in
theorem lifted (os : Os) (started : os.Started) (H : Type) (enc : TypeId × Value → H) :
    ReturnsInHanded {} Try.checked os 11 .any (Rows.pairMatchSpec.pre6 enc Try.prog Try.f11 Rows.pairMatchRow.domain false) (Rows.pairMatchSpec.post enc Try.prog Try.f11 false true false false) := by
  refine returnsInHanded_of_change_sized (C := Try.checked) own started (by kernel_rfl) Try.func11
    (ChangeSpec.witness6 (enc := enc) (C := Try.checked) false ⟨#[], #[.slice none 0 0, .agg #[.int .i64 0, .int .i64 0], .int .u16 0, .int .u16 0, .int .u8 0], []⟩ 8 (by kernel_rfl) (by kernel_rfl) (by kernel_rfl) (by kernel_rfl)) ?_
  intro W base args ds gs before hval0 hW hcnd hsz0 _
  have hsz : (DataW.weightsEach Try.prog (Try.f11.params.toList ++ Rows.pairMatchSpec.plain.varTypes Try.prog) (ds ++ gs)).all (· ≤ reachBytes) = true := hsz0
  have hval : ∀ (j : Nat) t v, Try.f11.params[j]? = some t → args[j]? = some v → Value.okWide Try.prog W .any base t v := hval0
  have hW' := hW
  obtain ⟨p, q, hA0, hV, rfl, hfz, hnd⟩ := hW
  have hA : DataW.TrodAll enc Try.prog W 0 (fun _ => true) true Try.f11.params.toList args.toList ds p := hA0
  rw [Try.params11] at hA hval hsz
  obtain ⟨v0, vs0, d0, ds0, p0, q0, hargs, rfl, rfl, h0, r0⟩ := trodAll_cons hA
  obtain ⟨v1, vs1, d1, ds1, p1, q1, rfl, rfl, rfl, h1, r1⟩ := trodAll_cons r0
  obtain ⟨v2, vs2, d2, ds2, p2, q2, rfl, rfl, rfl, h2, r2⟩ := trodAll_cons r1
  obtain ⟨v3, vs3, d3, ds3, p3, q3, rfl, rfl, rfl, h3, r3⟩ := trodAll_cons r2
  obtain ⟨v4, vs4, d4, ds4, p4, q4, rfl, rfl, rfl, h4, r4⟩ := trodAll_cons r3
  obtain ⟨rfl, rfl, rfl⟩ := trodAll_nil r4
  obtain rfl : args = #[v0, v1, v2, v3, v4] := by cases args; simp_all
  obtain ⟨rfl, rfl⟩ := trodVars_none hV
  obtain ⟨l, hrow, hw⟩ := rowOK_strings Try.underlying32 Try.underlying9 (by kernel_rfl) (okWide_slice Try.underlying32 (hval 0 32 v0 rfl rfl)) h0
    (fun n hn => by simpa using List.all_eq_true.1 hsz _ (DataW.weights_mem_each (j := 0) (t := 32) rfl rfl n hn))
  obtain ⟨w0, w1, y0, y1, m, rfl, rfl, rfl, g0, g1⟩ := Joins.open_agg2 Try.underlying34 (by kernel_rfl) (by kernel_rfl) (hval 1 34 v1 rfl rfl) h1
  obtain ⟨ra, e0, rfl, wa⟩ := DataW.trod_int Try.underlying3 g0
  obtain ⟨rb, e1, rfl, wb⟩ := DataW.trod_int Try.underlying3 g1
  simp at e0 e1
  subst e0 e1
  obtain ⟨a, rfl, rfl, rfl, za⟩ := open_int Try.underlying35 (hval 2 35 v2 rfl rfl) h2
  obtain ⟨b, rfl, rfl, rfl, zb⟩ := open_int Try.underlying35 (hval 3 35 v3 rfl rfl) h3
  obtain ⟨c, rfl, rfl, rfl, zc⟩ := open_int Try.underlying5 (hval 4 5 v4 rfl rfl) h4
  have lt0 : ∀ x ∈ p0, x.block < W.heap.size := by obtain ⟨m, hm⟩ := h0; exact DataW.trod_lt m _ _ _ hm
  have ya : 0 ≤ a ∧ a < 65536 := by simp [Lit.wf, IntKind.min, IntKind.max, IntKind.signed, IntKind.bits] at za; omega
  have yb : 0 ≤ b ∧ b < 65536 := by simp [Lit.wf, IntKind.min, IntKind.max, IntKind.signed, IntKind.bits] at zb; omega
  obtain ⟨a, rfl⟩ : ∃ n : Nat, a = n := ⟨a.toNat, by omega⟩
  obtain ⟨b, rfl⟩ : ∃ n : Nat, b = n := ⟨b.toNat, by omega⟩
  clear hA0 hval0 hsz0 hsz
  have structReads : ∀ (W' : World) (sp : Nat → Bool), DataW.Trod enc Try.prog W' 0 sp true 34 (.agg #[.int .i64 ra, .int .i64 rb]) (.agg [.lit (.int .i64 ra), .lit (.int .i64 rb)]) [] := fun W' sp =>
    Joins.shut_agg2 (y0 := (.lit (.int .i64 ra), [])) (y1 := (.lit (.int .i64 rb), [])) Try.underlying34 (by kernel_rfl) (by kernel_rfl) ⟨1, by simp [DataW.trod, Try.underlying3, wa]⟩ ⟨1, by simp [DataW.trod, Try.underlying3, wb]⟩
  have walk := (law_PairMatch l hw ra rb a b (by omega) (by omega) c 0).2 [v0, .agg #[.int .i64 ra, .int .i64 rb], .int .u16 a, .int .u16 b, .int .u8 c] W ⟨hrow, rfl, rfl, rfl, rfl, trivial⟩
  refine walk.mono fun e W' he => ?_
  obtain ⟨zs, rfl, hz, bel⟩ := he
  match zs, hz with
  | [z], hz =>
    obtain ⟨rfl, _⟩ := hz
    exact ⟨_, rfl, _, _, _, [], _, [], hW', trodAll_mk1 (shut_bool Try.underlying4 _), trodAll_cons_mk (Below.trod laidOut (by kernel_rfl) (of_decide_eq_true (by kernel_rfl)) h0 bel lt0) (trodAll_cons_mk (structReads _ _) (trodAll_cons_mk (shut_int Try.underlying35 za) (trodAll_cons_mk (shut_int Try.underlying35 zb) (trodAll_cons_mk (shut_int Try.underlying5 zc) trodAll_mk0)))), rfl, bel.frame _, fun h => by cases h⟩

theorem over : Rows.pairMatchRow.holds Try.pinned (OpenSpec.ofChange Rows.pairMatchSpec) :=
  OpenClaim.holds_of_wide 11 Try.f11 rfl rfl rfl rfl rfl rfl rfl ⟨rfl, rfl, rfl, rfl, rfl⟩ rfl rfl rfl rfl rfl (by kernel_rfl) Try.func11 (by kernel_rfl)
    (of_decide_eq_true (by kernel_rfl)) (by unfold Func.isWrapper; first | (rw [if_pos (by decide +kernel)]; kernel_rfl) | (rw [if_neg (by decide +kernel)]; exact ⟨rfl, rfl⟩))
    (fun os started H enc _ => lifted os started H enc)

end Go.Proofs.Ytogmnhebobdokaa.pairMatch
namespace Go.Proofs.Ytogmnhebobdokaa
/-- The row, under a short name, for the claim. -/
theorem pairMatch_holds : Rows.PairMatchSaid := pairMatch.over
#print axioms pairMatch_holds
end Go.Proofs.Ytogmnhebobdokaa
