/-
  The law SlotsPlays, proved of the given program: for every input that the statement lets in, the call returns true and leaves all that was there.
-/
import Derived.Test.YteoajodoejoccaaRows
import Derived.Test.YteoajodoejoccaaP41
import Derived.WalkKit
import Derived.ProofKit
import Derived.OpenShut
import Derived.ShutString
import Derived.ChangeOld
import Derived.Below
import Derived.Lib.SmallJoins
namespace Go.Proofs.Yteoajodoejoccaa.slotsPlays
open Go.Joins Go.ChangeShapes Go.WideShapes Go.ChangeAt Go.RowKit Go.Deep
open Go.ChangeMaps (open_string shut_string)
set_option linter.unusedVariables false

theorem own : ownKnob Try.prog.godebug = none := by kernel_rfl
theorem laidOut : laidOutB Try.prog = true := by kernel_rfl

set_option maxRecDepth 100000 in
theorem lifted (os : Os) (started : os.Started) (H : Type) (enc : TypeId × Value → H) :
    ReturnsInHanded {} Try.checked os 3 .any (Rows.slotsPlaysSpec.pre6 enc Try.prog Try.f3 Rows.slotsPlaysRow.domain false) (Rows.slotsPlaysSpec.post enc Try.prog Try.f3 false true false false) := by
  refine returnsInHanded_of_change (C := Try.checked) own started (by kernel_rfl) Try.func3
    (ChangeSpec.witness6 (enc := enc) (C := Try.checked) false ⟨#[], #[.int .i64 0, .int .i64 0, .int .i64 0, .int .i64 0, .slice none 0 0], []⟩ 8 (by kernel_rfl) (by kernel_rfl) (by kernel_rfl) (by kernel_rfl)) ?_
  intro W base args ds gs before hval0 hW hcnd _
  have hval : ∀ (j : Nat) t v, Try.f3.params[j]? = some t → args[j]? = some v → Value.okWide Try.prog W .any base t v := hval0
  have hW' := hW
  obtain ⟨p, q, hA0, hV, rfl, hfz, hnd⟩ := hW
  have hA : DataW.TrodAll enc Try.prog W 0 (fun _ => true) true Try.f3.params.toList args.toList ds p := hA0
  rw [Try.params3] at hA hval
  obtain ⟨v0, vs0, d0, ds0, p0, q0, hargs, rfl, rfl, k0, r0⟩ := trodAll_cons hA
  obtain ⟨v1, vs1, d1, ds1, p1, q1, rfl, rfl, rfl, k1, r1⟩ := trodAll_cons r0
  obtain ⟨v2, vs2, d2, ds2, p2, q2, rfl, rfl, rfl, k2, r2⟩ := trodAll_cons r1
  obtain ⟨v3, vs3, d3, ds3, p3, q3, rfl, rfl, rfl, k3, r3⟩ := trodAll_cons r2
  obtain ⟨v4, vs4, d4, ds4, p4, q4, rfl, rfl, rfl, k4, r4⟩ := trodAll_cons r3
  obtain ⟨rfl, rfl, rfl⟩ := trodAll_nil r4
  obtain rfl : args = #[v0, v1, v2, v3, v4] := by cases args; simp_all
  obtain ⟨rfl, rfl⟩ := trodVars_none hV
  have lt0 : ∀ x ∈ p0, x.block < W.heap.size := by obtain ⟨m, hm⟩ := k0; exact DataW.trod_lt m _ _ _ hm
  have hv0 := hval 0 3 v0 rfl rfl
  have kk0 := k0
  obtain ⟨a0, rfl, rfl, rfl, hw0⟩ := open_int Try.underlying3 hv0 k0
  have h0 := wf_i64 hw0
  have lt1 : ∀ x ∈ p1, x.block < W.heap.size := by obtain ⟨m, hm⟩ := k1; exact DataW.trod_lt m _ _ _ hm
  have hv1 := hval 1 3 v1 rfl rfl
  have kk1 := k1
  obtain ⟨a1, rfl, rfl, rfl, hw1⟩ := open_int Try.underlying3 hv1 k1
  have h1 := wf_i64 hw1
  have lt2 : ∀ x ∈ p2, x.block < W.heap.size := by obtain ⟨m, hm⟩ := k2; exact DataW.trod_lt m _ _ _ hm
  have hv2 := hval 2 3 v2 rfl rfl
  have kk2 := k2
  obtain ⟨a2, rfl, rfl, rfl, hw2⟩ := open_int Try.underlying3 hv2 k2
  have h2 := wf_i64 hw2
  have lt3 : ∀ x ∈ p3, x.block < W.heap.size := by obtain ⟨m, hm⟩ := k3; exact DataW.trod_lt m _ _ _ hm
  have hv3 := hval 3 3 v3 rfl rfl
  have kk3 := k3
  obtain ⟨a3, rfl, rfl, rfl, hw3⟩ := open_int Try.underlying3 hv3 k3
  have h3 := wf_i64 hw3
  have lt4 : ∀ x ∈ p4, x.block < W.heap.size := by obtain ⟨m, hm⟩ := k4; exact DataW.trod_lt m _ _ _ hm
  have hv4 := hval 4 22 v4 rfl rfl
  have kk4 := k4
  obtain ⟨x4, len4, cap4, rfl⟩ := okWide_slice Try.underlying22 hv4
  obtain ⟨xs4, sh4, rep4⟩ := open_one (ty := .sl actTy) (by kernel_rfl) rfl kk4
  clear hA0 hval0 hval
  refine ((plays_law (B := a0) (Z := a1) (f := a2) (m := a3) sh4).law (by kernel_rfl) rfl (fun i hi => ?_)).mono fun e W' ⟨he, bel⟩ => ?_
  · match i, hi with
    | 0, _ => exact Rep.lit _
    | 1, _ => exact Rep.lit _
    | 2, _ => exact Rep.lit _
    | 3, _ => exact Rep.lit _
    | 4, _ => exact rep4
  subst he
  exact ⟨_, rfl, _, _, _, [], _, [], hW', trodAll_mk1 (shut_bool Try.underlying4 _), (trodAll_cons_mk (shut_int Try.underlying3 hw0) (trodAll_cons_mk (shut_int Try.underlying3 hw1) (trodAll_cons_mk (shut_int Try.underlying3 hw2) (trodAll_cons_mk (shut_int Try.underlying3 hw3) (trodAll_cons_mk (Below.trod laidOut (by kernel_rfl) (of_decide_eq_true (by kernel_rfl)) kk4 bel lt4) trodAll_mk0))))), rfl, bel.frame _, fun h => by cases h⟩

theorem over : Rows.slotsPlaysRow.holds Try.pinned (OpenSpec.ofChange Rows.slotsPlaysSpec) :=
  OpenClaim.holds_of_wide 3 Try.f3 rfl rfl rfl rfl rfl rfl rfl ⟨rfl, rfl, rfl, rfl, rfl⟩ rfl rfl rfl rfl rfl (by kernel_rfl) Try.func3 (by kernel_rfl)
    (of_decide_eq_true (by kernel_rfl)) (by unfold Func.isWrapper; first | (rw [if_pos (by decide +kernel)]; kernel_rfl) | (rw [if_neg (by decide +kernel)]; exact ⟨rfl, rfl⟩))
    (fun os started H enc _ => lifted os started H enc)

/-- The statement. -/
theorem proved : Rows.SlotsPlaysSaid := over
#print axioms proved
end Go.Proofs.Yteoajodoejoccaa.slotsPlays
