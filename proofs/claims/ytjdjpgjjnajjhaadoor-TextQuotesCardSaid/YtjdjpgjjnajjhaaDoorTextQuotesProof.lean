/-
  The law TextQuotes, proved of the given program: for every input that the statement lets in, the call returns true and leaves all that was there.
-/
import Derived.Test.YtjdjpgjjnajjhaaDoorRows
import Derived.Test.YtjdjpgjjnajjhaaDoorZ14
import Derived.Test.YtjdjpgjjnajjhaaDoorCards
import Derived.Test.YtjdjpgjjnajjhaaDoorTie
import Derived.SevenTiedAt
import Derived.LaidMore
import Derived.MakeChecks
import Derived.Lay
import Derived.LaidOnce
import Derived.Stop.Joined
import Derived.WalkKit
import Derived.ProofKit
import Derived.OpenShut
import Derived.ShutString
import Derived.ChangeOld
import Derived.Below
import Derived.Lib.SmallJoins
namespace Go.Proofs.YtjdjpgjjnajjhaaDoor.textQuotes
open Go.Joins Go.ChangeShapes Go.WideShapes Go.ChangeAt Go.RowKit Go.Deep
open Go.ChangeMaps (open_string shut_string)
set_option linter.unusedVariables false

theorem own : ownKnob Tryd.prog.godebug = none := by kernel_rfl
theorem laidOut : laidOutB Tryd.prog = true := by kernel_rfl

def laidL : List (String × DataW Unit) := [("math/bits.deBruijn32tab", Rows.laid_math_bits_deBruijn32tab), ("math/bits.deBruijn64tab", Rows.laid_math_bits_deBruijn64tab), ("internal/strconv.uint64pow10", Rows.laid_internal_strconv_uint64pow10), ("unicode/utf8.acceptRanges", Rows.laid_unicode_utf8_acceptRanges), ("unicode/utf8.first", Rows.laid_unicode_utf8_first)]
theorem of_laid {W : World} (h : laidMetH Tryd.prog laidL W) : ∃ n0, ∃ n1, ∃ n2, ∀ x ∈ ([(0, .zs .u8 fsZ 256 n0), (1, .zs .u8 acZ 32 n1), (4, .zs .u8 dbZ 64 n2)] : Hp), TabOk W x := by
  rw [MakeChecks.laidMetH_plain _ _ _ (by kernel_rfl)] at h
  obtain ⟨ps, ⟨g0, t0, cs0, f0, p0, q0, hg0, ht0, hv0, hd0, ⟨g1, t1, cs1, f1, p1, q1, hg1, ht1, hv1, hd1, ⟨g2, t2, cs2, f2, p2, q2, hg2, ht2, hv2, hd2, ⟨g3, t3, cs3, f3, p3, q3, hg3, ht3, hv3, hd3, ⟨g4, t4, cs4, f4, p4, q4, hg4, ht4, hv4, hd4, eq, ee4⟩, ee3⟩, ee2⟩, ee1⟩, ee0⟩, _, hb⟩ := h
  subst ee0 ee1 ee2 ee3 ee4
  have hgn0 : Tryd.prog.globalNamed "unicode/utf8.first" = some 0 := by kernel_rfl
  obtain rfl := Option.some.inj (hgn0.symm.trans hg4)
  obtain rfl := Option.some.inj ((show (Tryd.prog.globals[0]?).map (·.type) = some 53 by kernel_rfl).symm.trans ht4)
  have hl0 : cs4.size = 256 := by
    obtain ⟨xs, n, _, _, hlen, _⟩ := DataW.trod_array Tryd.underlying53 hd4
    rw [Array.length_toList] at hlen
    rw [hlen]
    kernel_rfl
  obtain ⟨c0, ty0, hz0⟩ := (hb 0 0 (by
    simp only [List.mem_append, MemPlace.row, List.mem_map, List.mem_range]
    exact .inr (.inr (.inr (.inr (.inl (.inl ⟨0, by omega, rfl⟩))))))).1
  have hc0 : cs4.toList = fsZ.map (Value.int .u8) := by
    have hla : (Rows.laid_unicode_utf8_first : DataW Unit) = .agg (fsZ.map fun z => .lit (.int .u8 z)) := by kernel_rfl
    rw [hla] at hd4
    exact row_of_trod (zs := fsZ) (k := .u8) Tryd.underlying53 Tryd.underlying5 (by kernel_rfl) hd4 (by rw [Array.length_toList]; exact hl0)
  have hcc0 : c0 = cs4 := by
    have h := hv4
    unfold World.var? at h
    rw [hgn0, Option.bind_some, hz0] at h
    exact Option.some.inj h
  subst hcc0
  have hgn1 : Tryd.prog.globalNamed "unicode/utf8.acceptRanges" = some 1 := by kernel_rfl
  obtain rfl := Option.some.inj (hgn1.symm.trans hg3)
  obtain rfl := Option.some.inj ((show (Tryd.prog.globals[1]?).map (·.type) = some 56 by kernel_rfl).symm.trans ht3)
  have hl1 : cs3.size = 32 := by
    obtain ⟨xs, n, _, _, hlen, _⟩ := DataW.trod_array Tryd.underlying56 hd3
    rw [Array.length_toList] at hlen
    rw [hlen]
    kernel_rfl
  obtain ⟨c1, ty1, hz1⟩ := (hb 1 0 (by
    simp only [List.mem_append, MemPlace.row, List.mem_map, List.mem_range]
    exact .inr (.inr (.inr (.inl (.inl ⟨0, by omega, rfl⟩)))))).1
  have hc1 : cs3.toList = acZ.map (Value.int .u8) := acP_eq ▸ row2_of_trod (prs := acP) (k := .u8) (u := 5) Tryd.underlying56 Tryd.underlying55 ⟨rfl, rfl, rfl, rfl⟩ Tryd.underlying5 (by kernel_rfl) (by kernel_rfl) hd3 (by rw [Array.length_toList]; exact hl1)
  have hcc1 : c1 = cs3 := by
    have h := hv3
    unfold World.var? at h
    rw [hgn1, Option.bind_some, hz1] at h
    exact Option.some.inj h
  subst hcc1
  have hgn2 : Tryd.prog.globalNamed "math/bits.deBruijn64tab" = some 4 := by kernel_rfl
  obtain rfl := Option.some.inj (hgn2.symm.trans hg1)
  obtain rfl := Option.some.inj ((show (Tryd.prog.globals[4]?).map (·.type) = some 80 by kernel_rfl).symm.trans ht1)
  have hl2 : cs1.size = 64 := by
    obtain ⟨xs, n, _, _, hlen, _⟩ := DataW.trod_array Tryd.underlying80 hd1
    rw [Array.length_toList] at hlen
    rw [hlen]
    kernel_rfl
  obtain ⟨c2, ty2, hz2⟩ := (hb 4 0 (by
    simp only [List.mem_append, MemPlace.row, List.mem_map, List.mem_range]
    exact .inr (.inl (.inl ⟨0, by omega, rfl⟩)))).1
  have hc2 : cs1.toList = dbZ.map (Value.int .u8) := by
    have hla : (Rows.laid_math_bits_deBruijn64tab : DataW Unit) = .agg (dbZ.map fun z => .lit (.int .u8 z)) := by kernel_rfl
    rw [hla] at hd1
    exact row_of_trod (zs := dbZ) (k := .u8) Tryd.underlying80 Tryd.underlying5 (by kernel_rfl) hd1 (by rw [Array.length_toList]; exact hl2)
  have hcc2 : c2 = cs1 := by
    have h := hv1
    unfold World.var? at h
    rw [hgn2, Option.bind_some, hz2] at h
    exact Option.some.inj h
  subst hcc2
  refine ⟨ty0, ty1, ty2, fun x hx => ?_⟩
  simp only [List.mem_cons, List.not_mem_nil, or_false] at hx
  rcases hx with rfl | rfl | rfl
  · exact ⟨.u8, fsZ, ty0, c0, by rw [show fsZ.length = 256 by kernel_rfl], hz0, hc0⟩
  · exact ⟨.u8, acZ, ty1, c1, by rw [show acZ.length = 32 by kernel_rfl], hz1, hc1⟩
  · exact ⟨.u8, dbZ, ty2, c2, by rw [show dbZ.length = 64 by kernel_rfl], hz2, hc2⟩

set_option maxRecDepth 100000 in
theorem lifted (os : Os) (started : os.Started) (H : Type) (enc : TypeId × Value → H) :
    ReturnsInHanded {} Tryd.checked os 5 .any (fun w args => (Rows.textQuotesSpec.pre enc Tryd.prog Tryd.f5 [] false w args ∧ laidMetH Tryd.prog laidL w) ∧ sizedMet enc Tryd.prog Tryd.f5 (OpenSpec.ofChange Rows.textQuotesSpec) false w args) (Rows.textQuotesSpec.post enc Tryd.prog Tryd.f5 false true false false) := by
  refine returnsInHanded_of_change_and (C := Tryd.checked) (X := fun w _ => laidMetH Tryd.prog laidL w) (fun _ _ _ hh h => h.of_heap hh) own started (by kernel_rfl) Tryd.func5
    (ChangeSpec.witness_shaped (enc := enc) (C := Tryd.checked) (os := os) (X := fun w _ => laidMetH Tryd.prog laidL w) false (World.laidAll Tryd.prog os laidL) #[.string ⟨#[]⟩] 8 (World.laidAll_os _ _ _) (World.shaped_of_ZipB (by kernel_rfl) (by kernel_rfl)) (by kernel_rfl) (by kernel_rfl) (by kernel_rfl) (by rw [MakeChecks.laidMetH_plain _ _ _ (by kernel_rfl)]; exact laidMet_laidAll _ (by kernel_rfl) (by kernel_rfl))) ?_
  intro W base args ds gs before hval0 hW hcnd _ hL _
  have hval : ∀ (j : Nat) t v, Tryd.f5.params[j]? = some t → args[j]? = some v → Value.okWide Tryd.prog W .any base t v := hval0
  have hW' := hW
  obtain ⟨p, q, hA0, hV, rfl, hfz, hnd⟩ := hW
  have hA : DataW.TrodAll enc Tryd.prog W 0 (fun _ => true) true Tryd.f5.params.toList args.toList ds p := hA0
  rw [Tryd.params5] at hA hval
  obtain ⟨v0, vs0, d0, ds0, p0, q0, hargs, rfl, rfl, k0, r0⟩ := trodAll_cons hA
  obtain ⟨rfl, rfl, rfl⟩ := trodAll_nil r0
  obtain rfl : args = #[v0] := by cases args; simp_all
  obtain ⟨rfl, rfl⟩ := trodVars_none hV
  have lt0 : ∀ x ∈ p0, x.block < W.heap.size := by obtain ⟨m, hm⟩ := k0; exact DataW.trod_lt m _ _ _ hm
  have hv0 := hval 0 9 v0 rfl rfl
  have kk0 := k0
  obtain ⟨a0, rfl, rfl, rfl, sz0⟩ := open_string Tryd.underlying9 hv0 k0
  clear hA0 hval0 hval
  obtain ⟨n0, n1, n2, hTab⟩ := of_laid hL
  refine ((quotes_law a0 n0 n1 n2).lawG (by kernel_rfl) rfl (fun i hi => ?_) rfl (by simp) hTab).mono fun e W' ⟨he, bel⟩ => ?_
  · match i, hi with
    | 0, _ => exact Rep.lit _
  subst he
  exact ⟨_, rfl, _, _, _, [], _, [], hW', trodAll_mk1 (shut_bool Tryd.underlying4 _), (trodAll_cons_mk (shut_string Tryd.underlying9 sz0) trodAll_mk0), rfl, bel.frame _, fun h => by cases h⟩

theorem over : Rows.textQuotesRow.holds Tryd.pinned (OpenSpec.ofChange Rows.textQuotesSpec) :=
  OpenClaim.holds_of_wide 5 Tryd.f5 rfl rfl rfl rfl rfl rfl rfl ⟨rfl, rfl, rfl, rfl, rfl⟩ rfl rfl rfl rfl rfl (by kernel_rfl) Tryd.func5 (by kernel_rfl)
    (of_decide_eq_true (by kernel_rfl)) (by unfold Func.isWrapper; first | (rw [if_pos (by decide +kernel)]; kernel_rfl) | (rw [if_neg (by decide +kernel)]; exact ⟨rfl, rfl⟩))
    (fun os started H enc _ => lifted os started H enc)

/-- The statement: the row, tied to the program's text. -/
theorem proved : Rows.TextQuotesCardSaid :=
  Claim7.holds_tied_plain_at .later [] [.data, .data, .data, .data, .pinned] true (true, "3b315ecd0055a39d2a236a929cdb09bac20de2488428a48cc1ef068c539da7cd") false
    over (fun _ h => by cases h) (by kernel_rfl) (fun _ h => by cases h) textQuotes_row_tie rfl ⟨rfl, rfl⟩ (by kernel_rfl) rfl
    (fun f fn hf hfn => by
      obtain rfl : f = 5 := Option.some.inj ((show Tryd.prog.funcNamed "firebell/firebelllaw06.TextQuotes" = some 5 by kernel_rfl).symm.trans hf) |>.symm
      obtain rfl : fn = Tryd.f5 := (Option.some.inj (Tryd.func5.symm.trans hfn)).symm
      exact ⟨by kernel_rfl, fun j t ht => by
        rw [Tryd.params5] at ht
        have hm : t ∈ [9] := by simpa using Array.mem_of_getElem? ht
        have hall : ([9].all fun u => !Tryd.prog.wantsStandIn u) = true := by kernel_rfl
        exact (show Tryd.prog.wantsStandIn t = false by simpa using List.all_eq_true.1 hall t hm)⟩)
    (by kernel_rfl)
#print axioms proved
end Go.Proofs.YtjdjpgjjnajjhaaDoor.textQuotes

