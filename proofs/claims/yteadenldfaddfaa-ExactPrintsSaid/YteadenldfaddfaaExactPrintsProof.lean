/-
  The law ExactPrints, proved of the given program: for every input that the statement lets in, the call returns true and leaves all that was there.
-/
import Derived.Test.YteadenldfaddfaaRows
import Derived.Test.YteadenldfaddfaaZ10
import Derived.WalkKit
import Derived.ProofKit
import Derived.OpenShut
import Derived.ShutString
import Derived.ChangeOld
import Derived.Below
import Derived.Lib.SmallJoins
namespace Go.Proofs.Yteadenldfaddfaa.exactPrints
open Go.Joins Go.ChangeShapes Go.WideShapes Go.ChangeAt Go.RowKit Go.Deep
open Go.ChangeMaps (open_string shut_string)
set_option linter.unusedVariables false

theorem own : ownKnob Try.prog.godebug = none := by kernel_rfl
theorem laidOut : laidOutB Try.prog = true := by kernel_rfl

set_option maxRecDepth 100000 in
theorem lifted (os : Os) (started : os.Started) (H : Type) (enc : TypeId × Value → H) :
    ReturnsInHanded {} Try.checked os 7 .any (Rows.exactPrintsSpec.pre6 enc Try.prog Try.f7 Rows.exactPrintsRow.domain false) (Rows.exactPrintsSpec.post enc Try.prog Try.f7 false true false false) := by
  refine returnsInHanded_of_change (C := Try.checked) own started (by kernel_rfl) Try.func7
    (ChangeSpec.witness6 (enc := enc) (C := Try.checked) false ⟨#[], #[.agg #[.int .u64 0, .int .u64 0], .string ⟨#[]⟩], []⟩ 8 (by kernel_rfl) (by kernel_rfl) (by kernel_rfl) (by kernel_rfl)) ?_
  intro W base args ds gs before hval0 hW hcnd _
  have hval : ∀ (j : Nat) t v, Try.f7.params[j]? = some t → args[j]? = some v → Value.okWide Try.prog W .any base t v := hval0
  have hW' := hW
  obtain ⟨p, q, hA0, hV, rfl, hfz, hnd⟩ := hW
  have hA : DataW.TrodAll enc Try.prog W 0 (fun _ => true) true Try.f7.params.toList args.toList ds p := hA0
  rw [Try.params7] at hA hval
  obtain ⟨v0, vs0, d0, ds0, p0, q0, hargs, rfl, rfl, k0, r0⟩ := trodAll_cons hA
  obtain ⟨v1, vs1, d1, ds1, p1, q1, rfl, rfl, rfl, k1, r1⟩ := trodAll_cons r0
  obtain ⟨rfl, rfl, rfl⟩ := trodAll_nil r1
  obtain rfl : args = #[v0, v1] := by cases args; simp_all
  obtain ⟨rfl, rfl⟩ := trodVars_none hV
  have lt0 : ∀ x ∈ p0, x.block < W.heap.size := by obtain ⟨m, hm⟩ := k0; exact DataW.trod_lt m _ _ _ hm
  have hv0 := hval 0 31 v0 rfl rfl
  have kk0 := k0
  obtain ⟨u0_0, u0_1, y0_0, y0_1, n0, rfl, rfl, rfl, t0_0, t0_1⟩ := open_agg2 Try.underlying31 (by kernel_rfl) (by kernel_rfl) hv0 k0
  obtain ⟨a0_0, ea0_0, e0_0, hw0_0⟩ := DataW.trod_int (k := .u64) (by kernel_rfl) t0_0
  simp only [List.cons.injEq, and_true] at ea0_0
  subst ea0_0
  have h0_0 := wf_u64 hw0_0
  obtain ⟨a0_1, ea0_1, e0_1, hw0_1⟩ := DataW.trod_int (k := .u64) (by kernel_rfl) t0_1
  simp only [List.cons.injEq, and_true] at ea0_1
  subst ea0_1
  have h0_1 := wf_u64 hw0_1
  have lt1 : ∀ x ∈ p1, x.block < W.heap.size := by obtain ⟨m, hm⟩ := k1; exact DataW.trod_lt m _ _ _ hm
  have hv1 := hval 1 9 v1 rfl rfl
  have kk1 := k1
  obtain ⟨a1, rfl, rfl, rfl, sz1⟩ := open_string Try.underlying9 hv1 k1
  clear hA0 hval0 hval
  refine ((prints_law a0_0 a0_1 h0_0 h0_1 a1).law (by kernel_rfl) rfl (fun i hi => ?_)).mono fun e W' ⟨he, bel⟩ => ?_
  · match i, hi with
    | 0, _ => exact Rep.agg _ _ rfl (fun j hj => by match j, hj with | 0, _ => exact Rep.lit _ | 1, _ => exact Rep.lit _)
    | 1, _ => exact Rep.lit _
  subst he
  exact ⟨_, rfl, _, _, _, [], _, [], hW', trodAll_mk1 (shut_bool Try.underlying4 _), (trodAll_cons_mk (Below.trod laidOut (by kernel_rfl) (of_decide_eq_true (by kernel_rfl)) kk0 bel lt0) (trodAll_cons_mk (shut_string Try.underlying9 sz1) trodAll_mk0)), rfl, bel.frame _, fun h => by cases h⟩

theorem over : Rows.exactPrintsRow.holds Try.pinned (OpenSpec.ofChange Rows.exactPrintsSpec) :=
  OpenClaim.holds_of_wide 7 Try.f7 rfl rfl rfl rfl rfl rfl rfl ⟨rfl, rfl, rfl, rfl, rfl⟩ rfl rfl rfl rfl rfl (by kernel_rfl) Try.func7 (by kernel_rfl)
    (of_decide_eq_true (by kernel_rfl)) (by unfold Func.isWrapper; first | (rw [if_pos (by decide +kernel)]; kernel_rfl) | (rw [if_neg (by decide +kernel)]; exact ⟨rfl, rfl⟩))
    (fun os started H enc _ => lifted os started H enc)

/-- The statement. -/
theorem proved : Rows.ExactPrintsSaid := over
#print axioms proved
end Go.Proofs.Yteadenldfaddfaa.exactPrints
