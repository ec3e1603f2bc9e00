/-
  The law SpanJoins, proved of the given program: for every input that the statement lets in, the call returns true and leaves all that was there.
-/
import Derived.Test.YtdfkpnkohikcgaaDoorRows
import Derived.Test.YtdfkpnkohikcgaaDoorZ11
import Derived.Test.YtdfkpnkohikcgaaDoorCards
import Derived.Test.YtdfkpnkohikcgaaDoorTie
import Derived.SevenTiedAt
import Derived.LaidMore
import Derived.MakeChecks
import Derived.Lay
import Derived.LaidOnce
import Derived.Stop.Joined
import Derived.WalkKit
import Derived.ProofKit
import Derived.OpenShut
import Derived.ShutString
import Derived.ChangeOld
import Derived.Below
import Derived.Lib.SmallJoins
namespace Go.Proofs.YtdfkpnkohikcgaaDoor.spanJoins
open Go.Joins Go.ChangeShapes Go.WideShapes Go.ChangeAt Go.RowKit Go.Deep
open Go.ChangeMaps (open_string shut_string)
set_option linter.unusedVariables false

theorem own : ownKnob Tryd.prog.godebug = none := by kernel_rfl
theorem laidOut : laidOutB Tryd.prog = true := by kernel_rfl

def laidL : List (String × DataW Unit) := [("math/bits.deBruijn32tab", Rows.laid_math_bits_deBruijn32tab), ("math/bits.deBruijn64tab", Rows.laid_math_bits_deBruijn64tab), ("internal/strconv.uint64pow10", Rows.laid_internal_strconv_uint64pow10)]
theorem door_met (os : Os) (args : Array Value) : laidMetH Tryd.prog laidL ((World.doorLaid Tryd.prog 400 os).forCall (fun _ _ => 0) ⟨#[], args, []⟩).memory := by
  rw [MakeChecks.laidMetH_plain _ _ _ (by kernel_rfl)]
  exact laidMet_of_run' 8 (by kernel_rfl) (by kernel_rfl)
theorem of_laid {W : World} (h : laidMetH Tryd.prog laidL W) : ∃ n0, ∀ x ∈ ([(0, .zs .u64 p10 20 n0)] : Hp), TabOk W x := by
  rw [MakeChecks.laidMetH_plain _ _ _ (by kernel_rfl)] at h
  obtain ⟨ps, ⟨g0, t0, cs0, f0, p0, q0, hg0, ht0, hv0, hd0, ⟨g1, t1, cs1, f1, p1, q1, hg1, ht1, hv1, hd1, ⟨g2, t2, cs2, f2, p2, q2, hg2, ht2, hv2, hd2, eq, ee2⟩, ee1⟩, ee0⟩, _, hb⟩ := h
  subst ee0 ee1 ee2
  have hgn0 : Tryd.prog.globalNamed "internal/strconv.uint64pow10" = some 0 := by kernel_rfl
  obtain rfl := Option.some.inj (hgn0.symm.trans hg2)
  obtain rfl := Option.some.inj ((show (Tryd.prog.globals[0]?).map (·.type) = some 69 by kernel_rfl).symm.trans ht2)
  have hl0 : cs2.size = 20 := by
    obtain ⟨xs, n, _, _, hlen, _⟩ := DataW.trod_array Tryd.underlying69 hd2
    rw [Array.length_toList] at hlen
    rw [hlen]
    kernel_rfl
  obtain ⟨c0, ty0, hz0⟩ := (hb 0 0 (by
    simp only [List.mem_append, MemPlace.row, List.mem_map, List.mem_range]
    exact .inr (.inr (.inl (.inl ⟨0, by omega, rfl⟩))))).1
  have hc0 : cs2.toList = p10.map (Value.int .u64) := row_of_trod (zs := p10) (k := .u64) Tryd.underlying69 Tryd.underlying58 (by kernel_rfl) hd2 (by rw [Array.length_toList]; exact hl0)
  have hcc0 : c0 = cs2 := by
    have h := hv2
    unfold World.var? at h
    rw [hgn0, Option.bind_some, hz0] at h
    exact Option.some.inj h
  subst hcc0
  refine ⟨ty0, fun x hx => ?_⟩
  simp only [List.mem_cons, List.not_mem_nil, or_false] at hx
  rcases hx with rfl
  · exact ⟨.u64, p10, ty0, c0, rfl, hz0, hc0⟩

set_option maxRecDepth 100000 in
theorem lifted (os : Os) (started : os.Started) (H : Type) (enc : TypeId × Value → H) :
    ReturnsInHanded {} Tryd.checked os 5 .any (fun w args => (Rows.spanJoinsSpec.pre enc Tryd.prog Tryd.f5 [] false w args ∧ laidMetH Tryd.prog laidL w) ∧ sizedMet enc Tryd.prog Tryd.f5 (OpenSpec.ofChange Rows.spanJoinsSpec) false w args) (Rows.spanJoinsSpec.post enc Tryd.prog Tryd.f5 false true false false) := by
  refine returnsInHanded_of_change_and (C := Tryd.checked) (X := fun w _ => laidMetH Tryd.prog laidL w) (fun _ _ _ hh h => h.of_heap hh) own started (by kernel_rfl) Tryd.func5
    (ChangeSpec.witness_shaped (enc := enc) (C := Tryd.checked) (os := os) (X := fun w _ => laidMetH Tryd.prog laidL w) false (World.doorLaid Tryd.prog 400 os) #[.string ⟨#[]⟩, .string ⟨#[]⟩] 8 rfl (World.shaped_of_RefB (by kernel_rfl) (by kernel_rfl)) (by kernel_rfl) (by kernel_rfl) (by kernel_rfl) (door_met os _)) ?_
  intro W base args ds gs before hval0 hW hcnd _ hL _
  have hval : ∀ (j : Nat) t v, Tryd.f5.params[j]? = some t → args[j]? = some v → Value.okWide Tryd.prog W .any base t v := hval0
  have hW' := hW
  obtain ⟨p, q, hA0, hV, rfl, hfz, hnd⟩ := hW
  have hA : DataW.TrodAll enc Tryd.prog W 0 (fun _ => true) true Tryd.f5.params.toList args.toList ds p := hA0
  rw [Tryd.params5] at hA hval
  obtain ⟨v0, vs0, d0, ds0, p0, q0, hargs, rfl, rfl, k0, r0⟩ := trodAll_cons hA
  obtain ⟨v1, vs1, d1, ds1, p1, q1, rfl, rfl, rfl, k1, r1⟩ := trodAll_cons r0
  obtain ⟨rfl, rfl, rfl⟩ := trodAll_nil r1
  obtain rfl : args = #[v0, v1] := by cases args; simp_all
  obtain ⟨rfl, rfl⟩ := trodVars_none hV
  have lt0 : ∀ x ∈ p0, x.block < W.heap.size := by obtain ⟨m, hm⟩ := k0; exact DataW.trod_lt m _ _ _ hm
  have hv0 := hval 0 9 v0 rfl rfl
  have kk0 := k0
  obtain ⟨a0, rfl, rfl, rfl, sz0⟩ := open_string Tryd.underlying9 hv0 k0
  have lt1 : ∀ x ∈ p1, x.block < W.heap.size := by obtain ⟨m, hm⟩ := k1; exact DataW.trod_lt m _ _ _ hm
  have hv1 := hval 1 9 v1 rfl rfl
  have kk1 := k1
  obtain ⟨a1, rfl, rfl, rfl, sz1⟩ := open_string Tryd.underlying9 hv1 k1
  clear hA0 hval0 hval
  obtain ⟨n0, hTab⟩ := of_laid hL
  refine ((joins_law a0 a1 n0).lawG (by kernel_rfl) rfl (fun i hi => ?_) rfl (by simp) hTab).mono fun e W' ⟨he, bel⟩ => ?_
  · match i, hi with
    | 0, _ => exact Rep.lit _
    | 1, _ => exact Rep.lit _
  subst he
  exact ⟨_, rfl, _, _, _, [], _, [], hW', trodAll_mk1 (shut_bool Tryd.underlying4 _), (trodAll_cons_mk (shut_string Tryd.underlying9 sz0) (trodAll_cons_mk (shut_string Tryd.underlying9 sz1) trodAll_mk0)), rfl, bel.frame _, fun h => by cases h⟩

theorem over : Rows.spanJoinsRow.holds Tryd.pinned (OpenSpec.ofChange Rows.spanJoinsSpec) :=
  OpenClaim.holds_of_wide 5 Tryd.f5 rfl rfl rfl rfl rfl rfl rfl ⟨rfl, rfl, rfl, rfl, rfl⟩ rfl rfl rfl rfl rfl (by kernel_rfl) Tryd.func5 (by kernel_rfl)
    (of_decide_eq_true (by kernel_rfl)) (by unfold Func.isWrapper; first | (rw [if_pos (by decide +kernel)]; kernel_rfl) | (rw [if_neg (by decide +kernel)]; exact ⟨rfl, rfl⟩))
    (fun os started H enc _ => lifted os started H enc)

/-- The statement: the row, tied to the program's text. -/
theorem proved : Rows.SpanJoinsCardSaid :=
  Claim7.holds_tied_plain_at .later [] [.data, .data, .data] true (true, "4a60eee1d8bb6c39e2044ed13c853eb68e7b40bfb422670decc10386d728e69e") false
    over (fun _ h => by cases h) (by kernel_rfl) (fun _ h => by cases h) spanJoins_row_tie rfl ⟨rfl, rfl⟩ (by kernel_rfl) rfl
    (fun f fn hf hfn => by
      obtain rfl : f = 5 := Option.some.inj ((show Tryd.prog.funcNamed "firebell/firebelllaw04.SpanJoins" = some 5 by kernel_rfl).symm.trans hf) |>.symm
      obtain rfl : fn = Tryd.f5 := (Option.some.inj (Tryd.func5.symm.trans hfn)).symm
      exact ⟨by kernel_rfl, fun j t ht => by
        rw [Tryd.params5] at ht
        have hm : t ∈ [9, 9] := by simpa using Array.mem_of_getElem? ht
        have hall : ([9, 9].all fun u => !Tryd.prog.wantsStandIn u) = true := by kernel_rfl
        exact (show Tryd.prog.wantsStandIn t = false by simpa using List.all_eq_true.1 hall t hm)⟩)
    (by kernel_rfl)
#print axioms proved
end Go.Proofs.YtdfkpnkohikcgaaDoor.spanJoins

