/-
  The law OutboxBound, in its second form, proved of the given program: for every input of bulk at most 1048576 the call returns true and leaves all that was there.
-/
import Derived.Test.YtfknbndmabogjaaDoorRows
import Derived.Test.YtfknbndmabogjaaDoorD40
import Derived.Test.YtfknbndmabogjaaDoorCards
import Derived.Test.YtfknbndmabogjaaDoorTie
import Derived.SevenTiedAt
import Derived.LaidMore
import Derived.MakeChecks
import Derived.Lay
import Derived.LaidOnce
import Derived.Stop.Joined
import Derived.JoinedCond
import Derived.Deep.DeepHandedRow
import Derived.WalkKit
import Derived.ProofKit
import Derived.OpenShut
import Derived.ShutString
import Derived.ChangeOld
import Derived.Below
import Derived.Lib.SmallJoins
namespace Go.Proofs.YtfknbndmabogjaaDoor.outboxBound
open Go.Joins Go.ChangeShapes Go.WideShapes Go.ChangeAt Go.RowKit Go.Deep
open Go.ChangeMaps (open_string shut_string)
set_option linter.unusedVariables false

theorem own : ownKnob Tryd.prog.godebug = none := by kernel_rfl
theorem laidOut : laidOutB Tryd.prog = true := by kernel_rfl

def laidL : List (String × DataW Unit) := [("unicode/utf8.acceptRanges", Rows.laid_unicode_utf8_acceptRanges), ("unicode/utf8.first", Rows.laid_unicode_utf8_first)]

set_option maxRecDepth 100000 in
theorem str_bulk {H : Type} {enc : TypeId × Value → H} {W : World} {sp : Nat → Bool} {held : Bool} {fuel : Nat} {cs : List Value} {r : DataW H × List MemPlace} (h : DataW.trod enc Tryd.prog W 0 sp held fuel 9 cs = some r) : ∃ s, cs = [.string s] ∧ Rows.uptoBulk r.1 = s.size + 1 := by
  cases fuel with
  | zero => simp [DataW.trod] at h
  | succ fuel =>
    rw [DataW.trod_step] at h
    unfold DataW.trodStep at h
    rw [Tryd.underlying9] at h
    split at h <;> first | (exfalso; simp at *; done) | skip
    all_goals (first | (exfalso; simp_all; done) | skip)
    rename_i s heq
    split at h
    · cases h; exact ⟨s, rfl, by simp [Rows.uptoBulk]⟩
    · cases h
set_option maxRecDepth 100000 in
theorem key_bulk {H : Type} {enc : TypeId × Value → H} {W : World} {sp : Nat → Bool} {held : Bool} {cs : Array Value} {d : DataW H} {ps : List MemPlace} (h : DataW.Trod enc Tryd.prog W 0 sp held 29 (.agg cs) d ps) :
    ∃ s1 s2, cs.toList.getD 0 undef = .string s1 ∧ cs.toList.getD 1 undef = .string s2 ∧ s1.size + s2.size ≤ Rows.uptoBulk d := by
  obtain ⟨fuel, hf⟩ := h
  have hcs : (Value.agg cs).cells.toList = cs.toList := rfl
  rw [hcs] at hf
  cases fuel with
  | zero => simp [DataW.trod] at hf
  | succ fuel =>
    rw [DataW.trod_step] at hf
    unfold DataW.trodStep at hf
    rw [Tryd.underlying29] at hf
    simp only at hf
    split at hf
    case isFalse => cases hf
    rw [Option.map_eq_some_iff] at hf
    obtain ⟨ys, hm, he⟩ := hf
    obtain ⟨m1, m2⟩ := mapM_some hm
    match ys, m1 with
    | y0 :: y1 :: rest, _ =>
      have e0 := m2 0 (by decide) (by simp)
      have e1 := m2 1 (by decide) (by simp)
      obtain ⟨s1, q1, b1⟩ := str_bulk (show DataW.trod enc Tryd.prog W 0 sp held fuel 9 ((cs.toList.drop 0).take 1) = some y0 from e0)
      obtain ⟨s2, q2, b2⟩ := str_bulk (show DataW.trod enc Tryd.prog W 0 sp held fuel 9 ((cs.toList.drop 1).take 1) = some y1 from e1)
      have hd : d = .agg ((y0 :: y1 :: rest).map (·.1)) := (congrArg Prod.fst he).symm
      refine ⟨s1, s2, ?_, ?_, ?_⟩
      · have := congrArg (fun l => l.getD 0 undef) q1
        simpa [List.getD_eq_getElem?_getD, List.getElem?_take, List.getElem?_drop] using this
      · have := congrArg (fun l => l.getD 0 undef) q2
        simpa [List.getD_eq_getElem?_getD, List.getElem?_take, List.getElem?_drop] using this
      · rw [hd]
        simp only [List.map_cons, Rows.uptoBulk, Rows.uptoBulkAll]
        omega
theorem key_small {H : Type} {enc : TypeId × Value → H} {W : World} {sp : Nat → Bool} {held : Bool} {cs : Array Value} {d : DataW H} {ps : List MemPlace} {xs : List AV} {I : Nat → Prop} (sh : Shp keyTy xs) (rep : Rep W I (.agg cs) (.agg xs))
    (h : DataW.Trod enc Tryd.prog W 0 sp held 29 (.agg cs) d ps) (hb : Rows.uptoBulk d ≤ 1048576) : (∀ s, xs.getD 0 .any = .lit (.string s) → s.size ≤ 2000000) ∧ (∀ s, xs.getD 1 .any = .lit (.string s) → s.size ≤ 2000000) := by
  obtain ⟨s1, s2, q1, q2, hs⟩ := key_bulk h
  obtain ⟨k, rfl⟩ := key_shp sh
  cases rep with
  | agg us vs hl r =>
    have r0 := (r 0 (by simp)).lit_inv
    have r1 := (r 1 (by simp)).lit_inv
    have g0 : Value.string s1 = Value.string k.g := by rw [← q1, ← r0]; simp [List.getD_eq_getElem?_getD]
    have g1 : Value.string s2 = Value.string k.r := by rw [← q2, ← r1]; simp [List.getD_eq_getElem?_getD]
    cases g0
    cases g1
    exact ⟨fun s e => by cases e; omega, fun s e => by cases e; omega⟩
set_option maxRecDepth 100000 in
theorem witness_wit (os : Os) {H : Type} (enc : TypeId × Value → H) : ∃ (w : World) (tape : Tape) (i : Input), w.os = os ∧ (w.forCall tape i).Shaped Tryd.prog ∧ i.vars = [] ∧ Input.okWide Tryd.prog (w.forCall tape i) .any w.heap.size 7 i ∧
      (Rows.OpenSpec.upto Rows.outboxBoundSpec).preRow enc Tryd.prog Tryd.f7 Rows.outboxBoundUptoRow.domain false Rows.outboxBoundUptoRow.laid (w.forCall tape i).memory i.args ∧ ({} : Assume).holds Tryd.prog (lone (Frame.enter Tryd.prog 7 i.args .normal) [] (w.forCall tape i)) :=
  have hok : Input.okWideB Tryd.prog ((World.laidAll Tryd.prog os laidL).forCall (fun _ _ => 0) ⟨#[], #[.agg #[.string .empty, .string .empty, .bool false, .int .u64 0, .bool false], .int .u8 0, .int .u8 0, .int .u8 0, .int .u8 0, .int .u32 0], []⟩) 7 ⟨#[], #[.agg #[.string .empty, .string .empty, .bool false, .int .u64 0, .bool false], .int .u8 0, .int .u8 0, .int .u8 0, .int .u8 0, .int .u32 0], []⟩ = true := by kernel_rfl
  ⟨World.laidAll Tryd.prog os laidL, fun _ _ => 0, ⟨#[], #[.agg #[.string .empty, .string .empty, .bool false, .int .u64 0, .bool false], .int .u8 0, .int .u8 0, .int .u8 0, .int .u8 0, .int .u32 0], []⟩, World.laidAll_os _ _ _, World.shaped_of_ZipB (by kernel_rfl) (by kernel_rfl), (Input.okWide_of_okWideB (base := 0) hok).1, (Input.okWide_of_okWideB hok).2,
    OpenSpec.preRow_of_cond 8 (x := ([.agg [.lit (.string []), .lit (.string []), .lit (.bool false), .lit (.int .u64 0), .lit (.bool false)], .lit (.int .u8 0), .lit (.int .u8 0), .lit (.int .u8 0), .lit (.int .u8 0), .lit (.int .u32 0)], [], [])) (by kernel_rfl) (by kernel_rfl) (fun k hk => by cases hk; kernel_rfl) (by kernel_rfl) (by rw [MakeChecks.laidMetH_plain _ _ _ (by kernel_rfl)]; exact laidMet_laidAll _ (by kernel_rfl) (by kernel_rfl)), by
    simp only [Assume.holds]
    exact ⟨by simp, by simp, fun _ => Modest.zero, by simp, by simp⟩⟩

set_option maxRecDepth 100000 in
theorem lifted (os : Os) (started : os.Started) (H : Type) (enc : TypeId × Value → H) (F : Stop.Interp) :
    ReturnsInHanded {} Tryd.checked os 7 .any ((Rows.OpenSpec.upto Rows.outboxBoundSpec).preRow enc Tryd.prog Tryd.f7 Rows.outboxBoundUptoRow.domain false Rows.outboxBoundUptoRow.laid) (((Rows.OpenSpec.upto Rows.outboxBoundSpec).at F).post enc Tryd.prog Tryd.f7 false true false false) := by
  refine returnsInHanded_of_row (C := Tryd.checked) (s := Rows.OpenSpec.upto Rows.outboxBoundSpec) own started (by kernel_rfl) Tryd.func7
    (witness_wit os enc) ?_
  intro W base args ds gs before hval0 hW hcnd hcond _ hL _ _
  have hk : Rows.uptoSmall H (ds ++ gs) = true := hcond _ rfl
  show Calls Tryd.prog 7 args W fun e W' => ∃ v, e = .returned v ∧ Rows.outboxBoundSpec.post enc Tryd.prog Tryd.f7 false true false false W args v W'
  have hval : ∀ (j : Nat) t v, Tryd.f7.params[j]? = some t → args[j]? = some v → Value.okWide Tryd.prog W .any base t v := hval0
  have hW' := hW
  obtain ⟨p, q, hA0, hV, rfl, hfz, hnd⟩ := hW
  have hA : DataW.TrodAll enc Tryd.prog W 0 (fun _ => true) true Tryd.f7.params.toList args.toList ds p := hA0
  rw [Tryd.params7] at hA hval
  obtain ⟨v0, vs0, d0, ds0, p0, q0, hargs, rfl, rfl, k0, r0⟩ := trodAll_cons hA
  obtain ⟨v1, vs1, d1, ds1, p1, q1, rfl, rfl, rfl, k1, r1⟩ := trodAll_cons r0
  obtain ⟨v2, vs2, d2, ds2, p2, q2, rfl, rfl, rfl, k2, r2⟩ := trodAll_cons r1
  obtain ⟨v3, vs3, d3, ds3, p3, q3, rfl, rfl, rfl, k3, r3⟩ := trodAll_cons r2
  obtain ⟨v4, vs4, d4, ds4, p4, q4, rfl, rfl, rfl, k4, r4⟩ := trodAll_cons r3
  obtain ⟨v5, vs5, d5, ds5, p5, q5, rfl, rfl, rfl, k5, r5⟩ := trodAll_cons r4
  obtain ⟨rfl, rfl, rfl⟩ := trodAll_nil r5
  obtain rfl : args = #[v0, v1, v2, v3, v4, v5] := by cases args; simp_all
  obtain ⟨rfl, rfl⟩ := trodVars_none hV
  have lt0 : ∀ x ∈ p0, x.block < W.heap.size := by obtain ⟨m, hm⟩ := k0; exact DataW.trod_lt m _ _ _ hm
  have hv0 := hval 0 29 v0 rfl rfl
  have kk0 := k0
  have hvv0 := hv0
  unfold Value.okWide at hvv0
  rw [Tryd.underlying29] at hvv0
  obtain ⟨cs0, rfl, _⟩ := hvv0
  obtain ⟨xs0, sh0, rep0⟩ := open_st (ty := keyTy) (by kernel_rfl) kk0
  have hz0 := key_small sh0 rep0 kk0 (by
    have := of_decide_eq_true hk
    simp only [List.cons_append, Rows.uptoBulkAll] at this
    omega)
  have lt1 : ∀ x ∈ p1, x.block < W.heap.size := by obtain ⟨m, hm⟩ := k1; exact DataW.trod_lt m _ _ _ hm
  have hv1 := hval 1 5 v1 rfl rfl
  have kk1 := k1
  obtain ⟨a1, rfl, rfl, rfl, hw1⟩ := open_int Tryd.underlying5 hv1 k1
  have h1 := wf_u8 hw1
  have lt2 : ∀ x ∈ p2, x.block < W.heap.size := by obtain ⟨m, hm⟩ := k2; exact DataW.trod_lt m _ _ _ hm
  have hv2 := hval 2 5 v2 rfl rfl
  have kk2 := k2
  obtain ⟨a2, rfl, rfl, rfl, hw2⟩ := open_int Tryd.underlying5 hv2 k2
  have h2 := wf_u8 hw2
  have lt3 : ∀ x ∈ p3, x.block < W.heap.size := by obtain ⟨m, hm⟩ := k3; exact DataW.trod_lt m _ _ _ hm
  have hv3 := hval 3 5 v3 rfl rfl
  have kk3 := k3
  obtain ⟨a3, rfl, rfl, rfl, hw3⟩ := open_int Tryd.underlying5 hv3 k3
  have h3 := wf_u8 hw3
  have lt4 : ∀ x ∈ p4, x.block < W.heap.size := by obtain ⟨m, hm⟩ := k4; exact DataW.trod_lt m _ _ _ hm
  have hv4 := hval 4 5 v4 rfl rfl
  have kk4 := k4
  obtain ⟨a4, rfl, rfl, rfl, hw4⟩ := open_int Tryd.underlying5 hv4 k4
  have h4 := wf_u8 hw4
  have lt5 : ∀ x ∈ p5, x.block < W.heap.size := by obtain ⟨m, hm⟩ := k5; exact DataW.trod_lt m _ _ _ hm
  have hv5 := hval 5 64 v5 rfl rfl
  have kk5 := k5
  obtain ⟨a5, rfl, rfl, rfl, hw5⟩ := open_int Tryd.underlying64 hv5 k5
  have h5 := wf_u32 hw5
  clear hA0 hval0 hval
  refine ((bound_law sh0 hz0.1 hz0.2 h1 h2 h3 h4 h5).law (by kernel_rfl) rfl (fun i hi => ?_)).mono fun e W' ⟨he, bel⟩ => ?_
  · match i, hi with
    | 0, _ => exact rep0
    | 1, _ => exact Rep.lit _
    | 2, _ => exact Rep.lit _
    | 3, _ => exact Rep.lit _
    | 4, _ => exact Rep.lit _
    | 5, _ => exact Rep.lit _
  subst he
  exact ⟨_, rfl, _, _, _, [], _, [], hW', trodAll_mk1 (shut_bool Tryd.underlying4 _), (trodAll_cons_mk (Below.trod laidOut (by kernel_rfl) (of_decide_eq_true (by kernel_rfl)) kk0 bel lt0) (trodAll_cons_mk (shut_int Tryd.underlying5 hw1) (trodAll_cons_mk (shut_int Tryd.underlying5 hw2) (trodAll_cons_mk (shut_int Tryd.underlying5 hw3) (trodAll_cons_mk (shut_int Tryd.underlying5 hw4) (trodAll_cons_mk (shut_int Tryd.underlying64 hw5) trodAll_mk0)))))), rfl, bel.frame _, fun h => by cases h⟩

theorem over : Rows.outboxBoundUptoRow.holds Tryd.pinned (Rows.OpenSpec.upto Rows.outboxBoundSpec) :=
  OpenClaim.holds_of_cond 7 Tryd.f7 rfl rfl rfl rfl rfl rfl rfl ⟨rfl, rfl, rfl, rfl, rfl⟩ rfl rfl rfl rfl rfl (by kernel_rfl) Tryd.func7 (by kernel_rfl)
    (of_decide_eq_true (by kernel_rfl)) (by unfold Func.isWrapper; first | (rw [if_pos (by decide +kernel)]; kernel_rfl) | (rw [if_neg (by decide +kernel)]; exact ⟨rfl, rfl⟩))
    (fun os started H enc _ F => by rw [OpenClaim.pre_eq_preRow]; exact lifted os started H enc F)

/-- The statement: the row, tied to the program's text. -/
theorem proved : Rows.OutboxBoundUptoCardSaid :=
  Claim7.holds_tied_plain_at .later [] [.data, .pinned] true (true, "e802852f7d58f38fe6bc766c515bd20df779c406cfccee857262c7e85c8dcab2") false
    over (fun _ h => by cases h) (by kernel_rfl) (fun _ h => by cases h) outboxBoundUpto_row_tie rfl ⟨rfl, rfl⟩ (by kernel_rfl) rfl
    (fun f fn hf hfn => by
      obtain rfl : f = 7 := Option.some.inj ((show Tryd.prog.funcNamed "firebell/firebelllaw29.OutboxBound" = some 7 by kernel_rfl).symm.trans hf) |>.symm
      obtain rfl : fn = Tryd.f7 := (Option.some.inj (Tryd.func7.symm.trans hfn)).symm
      exact ⟨by kernel_rfl, fun j t ht => by
        rw [Tryd.params7] at ht
        have hm : t ∈ [29, 5, 5, 5, 5, 64] := by simpa using Array.mem_of_getElem? ht
        have hall : ([29, 5, 5, 5, 5, 64].all fun u => !Tryd.prog.wantsStandIn u) = true := by kernel_rfl
        exact (show Tryd.prog.wantsStandIn t = false by simpa using List.all_eq_true.1 hall t hm)⟩)
    (by kernel_rfl)
#print axioms proved
end Go.Proofs.YtfknbndmabogjaaDoor.outboxBound

