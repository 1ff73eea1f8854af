/- The Go law WordObjects answers true for every input: the words at any place are the document's ranges, by any count, with blanks or without, or none. No condition. (The row, out of the law's contract.) -/
import Derived.Test.YtogmnhebobdokaaRows
import Derived.Test.Ytogmnhebobdokaa88
import Derived.Test.YtogmnhebobdokaaLift
import Derived.WalkKit
import Derived.ProofKit
import Derived.OpenShut
import Derived.ShutString
import Derived.ChangeOld
import Derived.Below
import Derived.SliceStrings
import Derived.Carry
import Derived.Lib.SmallJoins
namespace Go.Proofs.Ytogmnhebobdokaa.wordObjects
open Go.ChangeShapes Go.WideShapes Go.ChangeAt Go.RowKit Go.Ab
set_option linter.unusedVariables false
set_option linter.unusedSimpArgs false
theorem own : ownKnob Try.prog.godebug = none := by kernel_rfl
theorem laidOut : laidOutB Try.prog = true := by kernel_rfl

set_option maxRecDepth 100000 in
theorem lifted (os : Os) (started : os.Started) (H : Type) (enc : TypeId × Value → H) :
    ReturnsInHanded {} Try.checked os 7 .any (Rows.wordObjectsSpec.pre6 enc Try.prog Try.f7 Rows.wordObjectsRow.domain false) (Rows.wordObjectsSpec.post enc Try.prog Try.f7 false true false false) := by
  refine returnsInHanded_of_change_sized (C := Try.checked) own started (by kernel_rfl) Try.func7
    (ChangeSpec.witness6 (enc := enc) (C := Try.checked) false ⟨#[], #[.slice none 0 0, .agg #[.int .i64 0, .int .i64 0], .int .u16 0, .int .u16 0, .int .i64 0, .bool false], []⟩ 8 (by kernel_rfl) (by kernel_rfl) (by kernel_rfl) (by kernel_rfl)) ?_
  intro W base args ds gs before hval0 hW hcnd hsz0 _
  have hsz : (DataW.weightsEach Try.prog (Try.f7.params.toList ++ Rows.wordObjectsSpec.plain.varTypes Try.prog) (ds ++ gs)).all (· ≤ reachBytes) = true := hsz0
  have hval : ∀ (j : Nat) t v, Try.f7.params[j]? = some t → args[j]? = some v → Value.okWide Try.prog W .any base t v := hval0
  have hW' := hW
  obtain ⟨p, q, hA0, hV, rfl, hfz, hnd⟩ := hW
  have hA : DataW.TrodAll enc Try.prog W 0 (fun _ => true) true Try.f7.params.toList args.toList ds p := hA0
  rw [Try.params7] at hA hval hsz
  obtain ⟨v0, vs0, d0, ds0, p0, q0, hargs, rfl, rfl, h0, r0⟩ := trodAll_cons hA
  obtain ⟨v1, vs1, d1, ds1, p1, q1, rfl, rfl, rfl, h1, r1⟩ := trodAll_cons r0
  obtain ⟨v2, vs2, d2, ds2, p2, q2, rfl, rfl, rfl, h2, r2⟩ := trodAll_cons r1
  obtain ⟨v3, vs3, d3, ds3, p3, q3, rfl, rfl, rfl, h3, r3⟩ := trodAll_cons r2
  obtain ⟨v4, vs4, d4, ds4, p4, q4, rfl, rfl, rfl, h4, r4⟩ := trodAll_cons r3
  obtain ⟨v5, vs5, d5, ds5, p5, q5, rfl, rfl, rfl, h5, r5⟩ := trodAll_cons r4
  obtain ⟨rfl, rfl, rfl⟩ := trodAll_nil r5
  obtain rfl : args = #[v0, v1, v2, v3, v4, v5] := by cases args; simp_all
  obtain ⟨rfl, rfl⟩ := trodVars_none hV
  obtain ⟨l, hrow0, hw0⟩ := rowOK_strings Try.underlying32 Try.underlying9 (by kernel_rfl) (okWide_slice Try.underlying32 (hval 0 32 v0 rfl rfl)) h0
    (fun n hn => by simpa using List.all_eq_true.1 hsz _ (DataW.weights_mem_each (j := 0) (t := 32) rfl rfl n hn))
  obtain ⟨w10, w11, y10, y11, m1, rfl, rfl, rfl, g10, g11⟩ := Joins.open_agg2 Try.underlying34 (by kernel_rfl) (by kernel_rfl) (hval 1 34 v1 rfl rfl) h1
  obtain ⟨rawa, e10, rfl, wf10⟩ := DataW.trod_int Try.underlying3 g10
  obtain ⟨rawb, e11, rfl, wf11⟩ := DataW.trod_int Try.underlying3 g11
  simp at e10 e11
  subst e10 e11
  obtain ⟨a, rfl, rfl, rfl, za⟩ := open_int Try.underlying35 (hval 2 35 v2 rfl rfl) h2
  obtain ⟨b, rfl, rfl, rfl, zb⟩ := open_int Try.underlying35 (hval 3 35 v3 rfl rfl) h3
  obtain ⟨n, rfl, rfl, rfl, zn⟩ := open_int Try.underlying3 (hval 4 3 v4 rfl rfl) h4
  obtain ⟨big, rfl, rfl, rfl⟩ := open_bool Try.underlying4 (hval 5 4 v5 rfl rfl) h5
  have lt0 : ∀ x ∈ p0, x.block < W.heap.size := by obtain ⟨m, hm⟩ := h0; exact DataW.trod_lt m _ _ _ hm
  have reads1 : ∀ (W' : World) (sp : Nat → Bool), DataW.Trod enc Try.prog W' 0 sp true 34 (.agg #[.int .i64 rawa, .int .i64 rawb]) (.agg [.lit (.int .i64 rawa), .lit (.int .i64 rawb)]) [] := fun W' sp =>
    Joins.shut_agg2 (y0 := (.lit (.int .i64 rawa), [])) (y1 := (.lit (.int .i64 rawb), [])) Try.underlying34 (by kernel_rfl) (by kernel_rfl) ⟨1, by simp [DataW.trod, Try.underlying3, wf10]⟩ ⟨1, by simp [DataW.trod, Try.underlying3, wf11]⟩
  have yrawa : -9223372036854775808 ≤ rawa ∧ rawa ≤ 9223372036854775807 := by have h := wf10; simp [Lit.wf, IntKind.min, IntKind.max, IntKind.signed, IntKind.bits] at h; omega
  have yrawb : -9223372036854775808 ≤ rawb ∧ rawb ≤ 9223372036854775807 := by have h := wf11; simp [Lit.wf, IntKind.min, IntKind.max, IntKind.signed, IntKind.bits] at h; omega
  have ya : 0 ≤ a ∧ a < 65536 := by have h := za; simp [Lit.wf, IntKind.min, IntKind.max, IntKind.signed, IntKind.bits] at h; omega
  obtain ⟨a, rfl⟩ : ∃ z9 : Nat, a = z9 := ⟨a.toNat, by omega⟩
  have yb : 0 ≤ b ∧ b < 65536 := by have h := zb; simp [Lit.wf, IntKind.min, IntKind.max, IntKind.signed, IntKind.bits] at h; omega
  obtain ⟨b, rfl⟩ : ∃ z9 : Nat, b = z9 := ⟨b.toNat, by omega⟩
  have yn : -9223372036854775808 ≤ n ∧ n ≤ 9223372036854775807 := by have h := zn; simp [Lit.wf, IntKind.min, IntKind.max, IntKind.signed, IntKind.bits] at h; omega
  clear hA0 hval0 hsz0 hsz
  have walk := (law_WordObjects l hw0 rawa rawb a b (by omega) (by omega) n yn big 0).2 [v0, .agg #[.int .i64 rawa, .int .i64 rawb], .int .u16 a, .int .u16 b, .int .i64 n, .bool big] W ⟨hrow0, rfl, rfl, rfl, rfl, rfl, trivial⟩
  refine walk.mono fun e W' he => ?_
  obtain ⟨zs, rfl, hz, bel⟩ := he
  match zs, hz with
  | [z], hz =>
    obtain ⟨rfl, _⟩ := hz
    exact ⟨_, rfl, _, _, _, [], _, [], hW', trodAll_mk1 (shut_bool Try.underlying4 _), (trodAll_cons_mk (Below.trod laidOut (by kernel_rfl) (of_decide_eq_true (by kernel_rfl)) h0 bel lt0) (trodAll_cons_mk (reads1 _ _) (trodAll_cons_mk (shut_int Try.underlying35 za) (trodAll_cons_mk (shut_int Try.underlying35 zb) (trodAll_cons_mk (shut_int Try.underlying3 zn) (trodAll_cons_mk (shut_bool Try.underlying4 _) trodAll_mk0)))))), rfl, bel.frame _, fun h => by cases h⟩

theorem over : Rows.wordObjectsRow.holds Try.pinned (OpenSpec.ofChange Rows.wordObjectsSpec) :=
  OpenClaim.holds_of_wide 7 Try.f7 rfl rfl rfl rfl rfl rfl rfl ⟨rfl, rfl, rfl, rfl, rfl⟩ rfl rfl rfl rfl rfl (by kernel_rfl) Try.func7 (by kernel_rfl)
    (of_decide_eq_true (by kernel_rfl)) (by unfold Func.isWrapper; first | (rw [if_pos (by decide +kernel)]; kernel_rfl) | (rw [if_neg (by decide +kernel)]; exact ⟨rfl, rfl⟩))
    (fun os started H enc _ => lifted os started H enc)

end Go.Proofs.Ytogmnhebobdokaa.wordObjects
namespace Go.Proofs.Ytogmnhebobdokaa
/-- The row, under a short name, for the claim. -/
theorem wordObjects_holds : Rows.WordObjectsSaid := wordObjects.over
#print axioms wordObjects_holds
end Go.Proofs.Ytogmnhebobdokaa
