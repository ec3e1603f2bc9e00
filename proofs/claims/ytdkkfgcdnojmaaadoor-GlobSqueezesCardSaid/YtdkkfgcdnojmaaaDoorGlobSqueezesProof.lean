/-
  The law GlobSqueezes, proved of the given program: for every input that the statement lets in, the call returns true and leaves all that was there.
-/
import Derived.Test.YtdkkfgcdnojmaaaDoorRows
import Derived.Test.YtdkkfgcdnojmaaaDoorS35
import Derived.Test.YtdkkfgcdnojmaaaDoorCards
import Derived.Test.YtdkkfgcdnojmaaaDoorTie
import Derived.SevenTiedAt
import Derived.LaidMore
import Derived.MakeChecks
import Derived.Lay
import Derived.LaidOnce
import Derived.Stop.Joined
import Derived.WalkKit
import Derived.ProofKit
import Derived.OpenShut
import Derived.ShutString
import Derived.ChangeOld
import Derived.Below
import Derived.Lib.SmallJoins
namespace Go.Proofs.YtdkkfgcdnojmaaaDoor.globSqueezes
open Go.Joins Go.ChangeShapes Go.WideShapes Go.ChangeAt Go.RowKit Go.Deep
open Go.ChangeMaps (open_string shut_string)
set_option linter.unusedVariables false

theorem own : ownKnob Tryd.prog.godebug = none := by kernel_rfl
theorem laidOut : laidOutB Tryd.prog = true := by kernel_rfl

def laidL : List (String × DataW Unit) := [("unicode/utf8.acceptRanges", Rows.laid_unicode_utf8_acceptRanges), ("unicode/utf8.first", Rows.laid_unicode_utf8_first)]
theorem of_laid {W : World} (h : laidMetH Tryd.prog laidL W) : ∃ n0, ∃ n1, ∀ x ∈ ([(0, .zs .u8 fsZ 256 n0), (1, .zs .u8 acZ 32 n1)] : Hp), TabOk W x := by
  rw [MakeChecks.laidMetH_plain _ _ _ (by kernel_rfl)] at h
  obtain ⟨ps, ⟨g0, t0, cs0, f0, p0, q0, hg0, ht0, hv0, hd0, ⟨g1, t1, cs1, f1, p1, q1, hg1, ht1, hv1, hd1, eq, ee1⟩, ee0⟩, _, hb⟩ := h
  subst ee0 ee1
  have hgn0 : Tryd.prog.globalNamed "unicode/utf8.first" = some 0 := by kernel_rfl
  obtain rfl := Option.some.inj (hgn0.symm.trans hg1)
  obtain rfl := Option.some.inj ((show (Tryd.prog.globals[0]?).map (·.type) = some 61 by kernel_rfl).symm.trans ht1)
  have hl0 : cs1.size = 256 := by
    obtain ⟨xs, n, _, _, hlen, _⟩ := DataW.trod_array Tryd.underlying61 hd1
    rw [Array.length_toList] at hlen
    rw [hlen]
    kernel_rfl
  obtain ⟨c0, ty0, hz0⟩ := (hb 0 0 (by
    simp only [List.mem_append, MemPlace.row, List.mem_map, List.mem_range]
    exact .inr (.inl (.inl ⟨0, by omega, rfl⟩)))).1
  have hc0 : cs1.toList = fsZ.map (Value.int .u8) := by
    have hla : (Rows.laid_unicode_utf8_first : DataW Unit) = .agg (fsZ.map fun z => .lit (.int .u8 z)) := by kernel_rfl
    rw [hla] at hd1
    exact row_of_trod (zs := fsZ) (k := .u8) Tryd.underlying61 Tryd.underlying5 (by kernel_rfl) hd1 (by rw [Array.length_toList]; exact hl0)
  have hcc0 : c0 = cs1 := by
    have h := hv1
    unfold World.var? at h
    rw [hgn0, Option.bind_some, hz0] at h
    exact Option.some.inj h
  subst hcc0
  have hgn1 : Tryd.prog.globalNamed "unicode/utf8.acceptRanges" = some 1 := by kernel_rfl
  obtain rfl := Option.some.inj (hgn1.symm.trans hg0)
  obtain rfl := Option.some.inj ((show (Tryd.prog.globals[1]?).map (·.type) = some 64 by kernel_rfl).symm.trans ht0)
  have hl1 : cs0.size = 32 := by
    obtain ⟨xs, n, _, _, hlen, _⟩ := DataW.trod_array Tryd.underlying64 hd0
    rw [Array.length_toList] at hlen
    rw [hlen]
    kernel_rfl
  obtain ⟨c1, ty1, hz1⟩ := (hb 1 0 (by
    simp only [List.mem_append, MemPlace.row, List.mem_map, List.mem_range]
    exact .inl (.inl ⟨0, by omega, rfl⟩))).1
  have hc1 : cs0.toList = acZ.map (Value.int .u8) := acP_eq ▸ row2_of_trod (prs := acP) (k := .u8) (u := 5) Tryd.underlying64 Tryd.underlying63 ⟨rfl, rfl, rfl, rfl⟩ Tryd.underlying5 (by kernel_rfl) (by kernel_rfl) hd0 (by rw [Array.length_toList]; exact hl1)
  have hcc1 : c1 = cs0 := by
    have h := hv0
    unfold World.var? at h
    rw [hgn1, Option.bind_some, hz1] at h
    exact Option.some.inj h
  subst hcc1
  refine ⟨ty0, ty1, fun x hx => ?_⟩
  simp only [List.mem_cons, List.not_mem_nil, or_false] at hx
  rcases hx with rfl | rfl
  · exact ⟨.u8, fsZ, ty0, c0, by rw [show fsZ.length = 256 by kernel_rfl], hz0, hc0⟩
  · exact ⟨.u8, acZ, ty1, c1, by rw [show acZ.length = 32 by kernel_rfl], hz1, hc1⟩

set_option maxRecDepth 100000 in
theorem lifted (os : Os) (started : os.Started) (H : Type) (enc : TypeId × Value → H) :
    ReturnsInHanded {} Tryd.checked os 5 .any (fun w args => (Rows.globSqueezesSpec.pre enc Tryd.prog Tryd.f5 [] false w args ∧ laidMetH Tryd.prog laidL w) ∧ sizedMet enc Tryd.prog Tryd.f5 (OpenSpec.ofChange Rows.globSqueezesSpec) false w args) (Rows.globSqueezesSpec.post enc Tryd.prog Tryd.f5 false true false false) := by
  refine returnsInHanded_of_change_and (C := Tryd.checked) (X := fun w _ => laidMetH Tryd.prog laidL w) (fun _ _ _ hh h => h.of_heap hh) own started (by kernel_rfl) Tryd.func5
    (ChangeSpec.witness_shaped (enc := enc) (C := Tryd.checked) (os := os) (X := fun w _ => laidMetH Tryd.prog laidL w) false (World.laidAll Tryd.prog os laidL) #[.string ⟨#[]⟩, .string ⟨#[]⟩] 8 (World.laidAll_os _ _ _) (World.shaped_of_ZipB (by kernel_rfl) (by kernel_rfl)) (by kernel_rfl) (by kernel_rfl) (by kernel_rfl) (by rw [MakeChecks.laidMetH_plain _ _ _ (by kernel_rfl)]; exact laidMet_laidAll _ (by kernel_rfl) (by kernel_rfl))) ?_
  intro W base args ds gs before hval0 hW hcnd _ hL _
  have hval : ∀ (j : Nat) t v, Tryd.f5.params[j]? = some t → args[j]? = some v → Value.okWide Tryd.prog W .any base t v := hval0
  have hW' := hW
  obtain ⟨p, q, hA0, hV, rfl, hfz, hnd⟩ := hW
  have hA : DataW.TrodAll enc Tryd.prog W 0 (fun _ => true) true Tryd.f5.params.toList args.toList ds p := hA0
  rw [Tryd.params5] at hA hval
  obtain ⟨v0, vs0, d0, ds0, p0, q0, hargs, rfl, rfl, k0, r0⟩ := trodAll_cons hA
  obtain ⟨v1, vs1, d1, ds1, p1, q1, rfl, rfl, rfl, k1, r1⟩ := trodAll_cons r0
  obtain ⟨rfl, rfl, rfl⟩ := trodAll_nil r1
  obtain rfl : args = #[v0, v1] := by cases args; simp_all
  obtain ⟨rfl, rfl⟩ := trodVars_none hV
  have lt0 : ∀ x ∈ p0, x.block < W.heap.size := by obtain ⟨m, hm⟩ := k0; exact DataW.trod_lt m _ _ _ hm
  have hv0 := hval 0 9 v0 rfl rfl
  have kk0 := k0
  obtain ⟨a0, rfl, rfl, rfl, sz0⟩ := open_string Tryd.underlying9 hv0 k0
  have lt1 : ∀ x ∈ p1, x.block < W.heap.size := by obtain ⟨m, hm⟩ := k1; exact DataW.trod_lt m _ _ _ hm
  have hv1 := hval 1 9 v1 rfl rfl
  have kk1 := k1
  obtain ⟨a1, rfl, rfl, rfl, sz1⟩ := open_string Tryd.underlying9 hv1 k1
  clear hA0 hval0 hval
  obtain ⟨n0, n1, hTab⟩ := of_laid hL
  refine ((squeezes_law a0 a1 n0 n1).lawG (by kernel_rfl) rfl (fun i hi => ?_) rfl (by simp) hTab).mono fun e W' ⟨he, bel⟩ => ?_
  · match i, hi with
    | 0, _ => exact Rep.lit _
    | 1, _ => exact Rep.lit _
  subst he
  exact ⟨_, rfl, _, _, _, [], _, [], hW', trodAll_mk1 (shut_bool Tryd.underlying4 _), (trodAll_cons_mk (shut_string Tryd.underlying9 sz0) (trodAll_cons_mk (shut_string Tryd.underlying9 sz1) trodAll_mk0)), rfl, bel.frame _, fun h => by cases h⟩

theorem over : Rows.globSqueezesRow.holds Tryd.pinned (OpenSpec.ofChange Rows.globSqueezesSpec) :=
  OpenClaim.holds_of_wide 5 Tryd.f5 rfl rfl rfl rfl rfl rfl rfl ⟨rfl, rfl, rfl, rfl, rfl⟩ rfl rfl rfl rfl rfl (by kernel_rfl) Tryd.func5 (by kernel_rfl)
    (of_decide_eq_true (by kernel_rfl)) (by unfold Func.isWrapper; first | (rw [if_pos (by decide +kernel)]; kernel_rfl) | (rw [if_neg (by decide +kernel)]; exact ⟨rfl, rfl⟩))
    (fun os started H enc _ => lifted os started H enc)

/-- The statement: the row, tied to the program's text. -/
theorem proved : Rows.GlobSqueezesCardSaid :=
  Claim7.holds_tied_plain_at .later [] [.data, .pinned] true (true, "6adca929c2c4f6d1e6569d1498e846cab33bbb746806caf6e855bc7d222db64a") false
    over (fun _ h => by cases h) (by kernel_rfl) (fun _ h => by cases h) globSqueezes_row_tie rfl ⟨rfl, rfl⟩ (by kernel_rfl) rfl
    (fun f fn hf hfn => by
      obtain rfl : f = 5 := Option.some.inj ((show Tryd.prog.funcNamed "firebell/firebelllaw26.GlobSqueezes" = some 5 by kernel_rfl).symm.trans hf) |>.symm
      obtain rfl : fn = Tryd.f5 := (Option.some.inj (Tryd.func5.symm.trans hfn)).symm
      exact ⟨by kernel_rfl, fun j t ht => by
        rw [Tryd.params5] at ht
        have hm : t ∈ [9, 9] := by simpa using Array.mem_of_getElem? ht
        have hall : ([9, 9].all fun u => !Tryd.prog.wantsStandIn u) = true := by kernel_rfl
        exact (show Tryd.prog.wantsStandIn t = false by simpa using List.all_eq_true.1 hall t hm)⟩)
    (by kernel_rfl)
#print axioms proved
end Go.Proofs.YtdkkfgcdnojmaaaDoor.globSqueezes

