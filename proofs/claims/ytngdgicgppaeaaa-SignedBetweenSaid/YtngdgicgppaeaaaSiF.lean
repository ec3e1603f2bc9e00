/-
  The law SignedBetween.
-/
import Derived.Test.YtngdgicgppaeaaaSiE
namespace Go.Proofs.Ytngdgicgppaeaaa
open Go
set_option linter.unusedVariables false
set_option linter.unusedSimpArgs false

theorem wide_of (h l : Nat) (hl : l < 18446744073709551616) : (.agg [nu h, nu l] : AV) = wideA (h * 18446744073709551616 + l) := by
  unfold wideA
  rw [(hilo h l hl).1, (hilo h l hl).2]
theorem bitsW_ct (a : Nat) (ha : a < 340282366920938463463374607431768211456) : ACt Try.prog 13 [wideA a] [] (Fn (.sl 128 (bl (bitsN a 128)))) := by
  have := bits_ct (a / 18446744073709551616) (a % 18446744073709551616) (by omega) (by omega)
  rw [show a / 18446744073709551616 * 18446744073709551616 + a % 18446744073709551616 = a by omega] at this
  exact this
theorem bits_val (a : Nat) (ha : a < 340282366920938463463374607431768211456) : valB (bitsN a 128) = a := by
  have p : (2 : Nat) ^ 128 = 340282366920938463463374607431768211456 := by decide
  rw [valB_bitsN, p, Nat.mod_eq_of_lt ha]
theorem dAbs_lt (a b : Nat) (ha : a < 340282366920938463463374607431768211456) (hb : b < 340282366920938463463374607431768211456) : dAbs a b < 340282366920938463463374607431768211456 := by unfold dAbs; split <;> omega
theorem neg_between (a b : Nat) : ACt Try.prog 14 [sgN (dNeg a b) (dAbs a b)] [] (Fn (sgN (dNeg b a) (dAbs b a))) := by
  have h0 : dNeg a b = true → 0 < dAbs a b := by unfold dNeg dAbs; intro h; have := of_decide_eq_true h; rw [if_pos this]; omega
  have := neg_ct (dNeg a b) (dAbs a b) h0
  have e1 : (!dNeg a b && decide (0 < dAbs a b)) = dNeg b a := by
    unfold dNeg dAbs
    by_cases h1 : a < b
    · rw [decide_eq_true h1, if_pos h1, decide_eq_false (show ¬ b < a by omega)]; rfl
    · rw [decide_eq_false h1, if_neg h1]
      by_cases h2 : b < a
      · rw [decide_eq_true h2, decide_eq_true (show 0 < a - b by omega)]; rfl
      · rw [decide_eq_false h2, decide_eq_false (show ¬ 0 < a - b by omega)]; rfl
  have e2 : dAbs a b = dAbs b a := by unfold dAbs; split <;> split <;> omega
  rw [e1, e2] at this
  rw [e2]
  exact this

set_option maxRecDepth 8000 in
set_option maxHeartbeats 4000000 in
theorem between_law (a b c : Nat) (ha : a < 340282366920938463463374607431768211456) (hb : b < 340282366920938463463374607431768211456) (hc0 : c < 340282366920938463463374607431768211456) : ACt Try.prog 4 [wideA a, wideA b, wideA c] [] (fun r _ => r = bv true) := by
  refine ACt.intro Try.func4 rfl (by kernel_rfl) (by simp [Try.ntmps4]) (fun cx => ?_)
  simp only [argE, Try.ntmps4, Try.results4]
  have b1 := between_ct a b ha hb
  have b2 := between_ct b c hb hc0
  have b3 := between_ct a c ha hc0
  have b4 := between_ct b a hb ha
  have s1 := bitsW_ct a ha
  have s2 := bitsW_ct b hb
  have w := to_ct (bitsN a 128) (bitsN b 128) 128 128 a b (bitsN_len _ _) (bitsN_len _ _) (by omega) (by omega) (bits_val a ha) (bits_val b hb) (dAbs_lt a b ha hb)
  have n1 := neg_between a b
  have p1 := add_between a b c ha hb hc0
  obtain ⟨F1, hF1⟩ : ∃ x, x = dNeg a b := ⟨_, rfl⟩
  obtain ⟨F2, hF2⟩ : ∃ x, x = dNeg b c := ⟨_, rfl⟩
  obtain ⟨F3, hF3⟩ : ∃ x, x = dNeg a c := ⟨_, rfl⟩
  obtain ⟨F4, hF4⟩ : ∃ x, x = dNeg b a := ⟨_, rfl⟩
  obtain ⟨N1, hN1⟩ : ∃ x, x = dAbs a b := ⟨_, rfl⟩
  obtain ⟨N2, hN2⟩ : ∃ x, x = dAbs b c := ⟨_, rfl⟩
  obtain ⟨N3, hN3⟩ : ∃ x, x = dAbs a c := ⟨_, rfl⟩
  obtain ⟨N4, hN4⟩ : ∃ x, x = dAbs b a := ⟨_, rfl⟩
  obtain ⟨A, hA⟩ : ∃ x, x = bitsN a 128 := ⟨_, rfl⟩
  obtain ⟨B, hB⟩ : ∃ x, x = bitsN b 128 := ⟨_, rfl⟩
  rw [← hF1, ← hN1] at b1 w n1 p1
  rw [← hF2, ← hN2] at b2 p1
  rw [← hF3, ← hN3] at b3 p1
  rw [← hF4, ← hN4] at b4 n1
  rw [← hA] at s1 w
  rw [← hB] at s2 w
  have z0 : ((0 : Int) == 0) = true := by decide
  first | (have FRx := FR; clear FRx) | (have FR : ¬ ((1 : Nat) = 0) := Nat.one_ne_zero)
  repeat' first
    | (refine Sm.mk ?_; try simp -dsimp only [rvc, drawF, headN, pureH, maxLen_eq, stp, dvc, calleeOf, gcall, pev, eff, newB, okd, og, ogs, ogo, ogp, slv, bltv, opd, litv, strip, one, both, putE, St.put, look, gdOf, gdv, picka, pickv, pickw, binv, bini, bins, binb, binp, bina, shp, eqCells, unv, convv, nilv, faddv, addp, idxav, idxp, load1, load1m, loadn, loadnm, loadv, hget, hset, hrep, hdel, slicev, List.length_append, bnd, shift1, lenv, IntKind.bits, Nat.reducePow, Int.reducePow, Nat.min_def, extractv, fieldv, indexv, min2v, max2v, mkiv, cellsA, fillA, buildv, stC, oneC, rowMB, intsA, plN, appE, appZ, appC, appNZ, appNC, repA_one, VwL, srcC, srcZ, srcM, fresh_nil, fresh_cons, freshBut_nil, freshBut_cons, intsA_map, ne_eq, true_implies, forall_const, List.length_map, List.map_append, drop_getD0, Int.toNat_natCast, List.length_drop, List.length_take, Int.cast_ofNat_Int, isBoolT, isPtrT, isSliceT, uOk, List.size_toArray, List.length_cons, List.length_nil, List.getElem?_toArray, List.getElem?_cons_zero, List.getElem?_cons_succ, Option.bind_some, Option.map_some, Option.map_none, Option.isSome_some, Nat.reduceAdd, Nat.reduceMul, Nat.reduceSub, Nat.reduceLT, Nat.reduceLeDiff, Nat.reduceEqDiff, Nat.reduceBEq, Nat.reduceDiv, Nat.reduceMod, ↓reduceIte, reduceCtorEq, if_true, if_false, true_and, and_true, ite_true, ite_false, Bool.true_and, Bool.and_true, Bool.not_true, Bool.not_false, Bool.or_false, Bool.false_or, Bool.true_or, Bool.or_true, Bool.false_and, Bool.and_false, List.map_cons, List.map_nil, List.mem_cons, List.not_mem_nil, or_false, false_or, true_or, or_true, forall_eq_or_imp, forall_eq, List.all_cons, List.all_nil, List.append_nil, List.nil_append, List.cons_append, List.getD_cons_zero, List.getD_cons_succ, List.take_succ_cons, List.take_zero, List.drop_succ_cons, List.drop_zero, List.set_cons_zero, List.set_cons_succ, List.replicate_succ, List.replicate_zero, Value.oneCell', Nat.add_zero, Nat.zero_add, Nat.mul_one, Nat.one_mul, Int.toNat_zero, Int.reduceToNat, Int.reduceLT, Int.reduceLE, Nat.le_refl, Int.le_refl, Option.some.injEq, TypeDesc.slice.injEq, TypeDesc.int.injEq, List.length_replicate, TypeDesc.pointer.injEq, exists_eq, exists_eq_left, exists_eq_left', exists_eq', implies_true, beq_true, beq_false, and_self, beq_self_eq_true, bne_self_eq_false, decide_true, decide_false, cond_true, cond_false, Bool.not_eq_true', Bool.not_eq_false', imp_self, Bool.cond_false_right, Bool.cond_true_right, Bool.cond_true_left, Bool.cond_false_left, drawAF, alF, tyc0, tyc4, zmb4, tyc24, foff24_0, fpart24_0, foff24_1, fpart24_1, fe24, zmb24, bldT24, tyc26, foff26_0, fpart26_0, foff26_1, fpart26_1, zmb26, bldT26, tyc29, zmb29, tyc35, tyc37, elt37, mkz37, mkc37, apT37, elk37, zmb37, tyc40, foff40_0, fpart40_0, foff40_1, fpart40_1, zmb40, bldT40, tyc42, Try.underlying0, Try.underlying4, Try.underlying24, Try.underlying26, Try.underlying29, Try.underlying35, Try.underlying37, Try.underlying40, Try.underlying42, SeqQ, BlkQ, LoopQ, BodyQ, fe26, z0, beq_self_eq_true, FR])
    | (refine CallV.fn (awake_ct) (Sm.out ?_))
    | (refine ExF.mk (awake_ct) (Sm.out ?_))
    | (refine ExG.mk (fun hg => awake_ct) (Sm.out ?_))
    | (refine Or.inl (ExG.mk (fun hg => awake_ct) (Sm.out ?_)))
    | (refine Or.inl (And.intro ?_ (ExG.mk (fun hg => awake_ct) (Sm.out ?_))); focus (first | omega | assumption | decide | trivial | (intros; (repeat' refine And.intro ?_ ?_) <;> first | assumption | omega | trivial | decide) | (intros; simp only [decide_eq_true_eq, decide_eq_false_iff_not, Bool.and_eq_true, Bool.or_eq_true, Bool.and_eq_false_iff, Bool.or_eq_false_iff, bne_iff_ne, bne_eq_false_iff_eq, Int.not_lt, Int.not_le] at *; (repeat' refine And.intro ?_ ?_) <;> first | assumption | omega | trivial)))
    | (refine CallV.fn (b1) (Sm.out ?_))
    | (refine ExF.mk (b1) (Sm.out ?_))
    | (refine ExG.mk (fun hg => b1) (Sm.out ?_))
    | (refine Or.inl (ExG.mk (fun hg => b1) (Sm.out ?_)))
    | (refine Or.inl (And.intro ?_ (ExG.mk (fun hg => b1) (Sm.out ?_))); focus (first | omega | assumption | decide | trivial | (intros; (repeat' refine And.intro ?_ ?_) <;> first | assumption | omega | trivial | decide) | (intros; simp only [decide_eq_true_eq, decide_eq_false_iff_not, Bool.and_eq_true, Bool.or_eq_true, Bool.and_eq_false_iff, Bool.or_eq_false_iff, bne_iff_ne, bne_eq_false_iff_eq, Int.not_lt, Int.not_le] at *; (repeat' refine And.intro ?_ ?_) <;> first | assumption | omega | trivial)))
    | (refine CallV.fn (b2) (Sm.out ?_))
    | (refine ExF.mk (b2) (Sm.out ?_))
    | (refine ExG.mk (fun hg => b2) (Sm.out ?_))
    | (refine Or.inl (ExG.mk (fun hg => b2) (Sm.out ?_)))
    | (refine Or.inl (And.intro ?_ (ExG.mk (fun hg => b2) (Sm.out ?_))); focus (first | omega | assumption | decide | trivial | (intros; (repeat' refine And.intro ?_ ?_) <;> first | assumption | omega | trivial | decide) | (intros; simp only [decide_eq_true_eq, decide_eq_false_iff_not, Bool.and_eq_true, Bool.or_eq_true, Bool.and_eq_false_iff, Bool.or_eq_false_iff, bne_iff_ne, bne_eq_false_iff_eq, Int.not_lt, Int.not_le] at *; (repeat' refine And.intro ?_ ?_) <;> first | assumption | omega | trivial)))
    | (refine CallV.fn (b3) (Sm.out ?_))
    | (refine ExF.mk (b3) (Sm.out ?_))
    | (refine ExG.mk (fun hg => b3) (Sm.out ?_))
    | (refine Or.inl (ExG.mk (fun hg => b3) (Sm.out ?_)))
    | (refine Or.inl (And.intro ?_ (ExG.mk (fun hg => b3) (Sm.out ?_))); focus (first | omega | assumption | decide | trivial | (intros; (repeat' refine And.intro ?_ ?_) <;> first | assumption | omega | trivial | decide) | (intros; simp only [decide_eq_true_eq, decide_eq_false_iff_not, Bool.and_eq_true, Bool.or_eq_true, Bool.and_eq_false_iff, Bool.or_eq_false_iff, bne_iff_ne, bne_eq_false_iff_eq, Int.not_lt, Int.not_le] at *; (repeat' refine And.intro ?_ ?_) <;> first | assumption | omega | trivial)))
    | (refine CallV.fn (b4) (Sm.out ?_))
    | (refine ExF.mk (b4) (Sm.out ?_))
    | (refine ExG.mk (fun hg => b4) (Sm.out ?_))
    | (refine Or.inl (ExG.mk (fun hg => b4) (Sm.out ?_)))
    | (refine Or.inl (And.intro ?_ (ExG.mk (fun hg => b4) (Sm.out ?_))); focus (first | omega | assumption | decide | trivial | (intros; (repeat' refine And.intro ?_ ?_) <;> first | assumption | omega | trivial | decide) | (intros; simp only [decide_eq_true_eq, decide_eq_false_iff_not, Bool.and_eq_true, Bool.or_eq_true, Bool.and_eq_false_iff, Bool.or_eq_false_iff, bne_iff_ne, bne_eq_false_iff_eq, Int.not_lt, Int.not_le] at *; (repeat' refine And.intro ?_ ?_) <;> first | assumption | omega | trivial)))
    | (refine CallV.fn (s1) (Sm.out ?_))
    | (refine ExF.mk (s1) (Sm.out ?_))
    | (refine ExG.mk (fun hg => s1) (Sm.out ?_))
    | (refine Or.inl (ExG.mk (fun hg => s1) (Sm.out ?_)))
    | (refine Or.inl (And.intro ?_ (ExG.mk (fun hg => s1) (Sm.out ?_))); focus (first | omega | assumption | decide | trivial | (intros; (repeat' refine And.intro ?_ ?_) <;> first | assumption | omega | trivial | decide) | (intros; simp only [decide_eq_true_eq, decide_eq_false_iff_not, Bool.and_eq_true, Bool.or_eq_true, Bool.and_eq_false_iff, Bool.or_eq_false_iff, bne_iff_ne, bne_eq_false_iff_eq, Int.not_lt, Int.not_le] at *; (repeat' refine And.intro ?_ ?_) <;> first | assumption | omega | trivial)))
    | (refine CallV.fn (s2) (Sm.out ?_))
    | (refine ExF.mk (s2) (Sm.out ?_))
    | (refine ExG.mk (fun hg => s2) (Sm.out ?_))
    | (refine Or.inl (ExG.mk (fun hg => s2) (Sm.out ?_)))
    | (refine Or.inl (And.intro ?_ (ExG.mk (fun hg => s2) (Sm.out ?_))); focus (first | omega | assumption | decide | trivial | (intros; (repeat' refine And.intro ?_ ?_) <;> first | assumption | omega | trivial | decide) | (intros; simp only [decide_eq_true_eq, decide_eq_false_iff_not, Bool.and_eq_true, Bool.or_eq_true, Bool.and_eq_false_iff, Bool.or_eq_false_iff, bne_iff_ne, bne_eq_false_iff_eq, Int.not_lt, Int.not_le] at *; (repeat' refine And.intro ?_ ?_) <;> first | assumption | omega | trivial)))
    | (refine CallV.fn (w) (Sm.out ?_))
    | (refine ExF.mk (w) (Sm.out ?_))
    | (refine ExG.mk (fun hg => w) (Sm.out ?_))
    | (refine Or.inl (ExG.mk (fun hg => w) (Sm.out ?_)))
    | (refine Or.inl (And.intro ?_ (ExG.mk (fun hg => w) (Sm.out ?_))); focus (first | omega | assumption | decide | trivial | (intros; (repeat' refine And.intro ?_ ?_) <;> first | assumption | omega | trivial | decide) | (intros; simp only [decide_eq_true_eq, decide_eq_false_iff_not, Bool.and_eq_true, Bool.or_eq_true, Bool.and_eq_false_iff, Bool.or_eq_false_iff, bne_iff_ne, bne_eq_false_iff_eq, Int.not_lt, Int.not_le] at *; (repeat' refine And.intro ?_ ?_) <;> first | assumption | omega | trivial)))
    | (refine CallV.fn (n1) (Sm.out ?_))
    | (refine ExF.mk (n1) (Sm.out ?_))
    | (refine ExG.mk (fun hg => n1) (Sm.out ?_))
    | (refine Or.inl (ExG.mk (fun hg => n1) (Sm.out ?_)))
    | (refine Or.inl (And.intro ?_ (ExG.mk (fun hg => n1) (Sm.out ?_))); focus (first | omega | assumption | decide | trivial | (intros; (repeat' refine And.intro ?_ ?_) <;> first | assumption | omega | trivial | decide) | (intros; simp only [decide_eq_true_eq, decide_eq_false_iff_not, Bool.and_eq_true, Bool.or_eq_true, Bool.and_eq_false_iff, Bool.or_eq_false_iff, bne_iff_ne, bne_eq_false_iff_eq, Int.not_lt, Int.not_le] at *; (repeat' refine And.intro ?_ ?_) <;> first | assumption | omega | trivial)))
    | (refine CallV.fn (p1) (Sm.out ?_))
    | (refine ExF.mk (p1) (Sm.out ?_))
    | (refine ExG.mk (fun hg => p1) (Sm.out ?_))
    | (refine Or.inl (ExG.mk (fun hg => p1) (Sm.out ?_)))
    | (refine Or.inl (And.intro ?_ (ExG.mk (fun hg => p1) (Sm.out ?_))); focus (first | omega | assumption | decide | trivial | (intros; (repeat' refine And.intro ?_ ?_) <;> first | assumption | omega | trivial | decide) | (intros; simp only [decide_eq_true_eq, decide_eq_false_iff_not, Bool.and_eq_true, Bool.or_eq_true, Bool.and_eq_false_iff, Bool.or_eq_false_iff, bne_iff_ne, bne_eq_false_iff_eq, Int.not_lt, Int.not_le] at *; (repeat' refine And.intro ?_ ?_) <;> first | assumption | omega | trivial)))
    | (refine WP.seq fun K hK => ?_)
    | (refine WP.region (rvc_sound _ _ (Sm.out ?_)))
    | (refine WP.drawM (p := 9) (r := 3) mixed (by decide +kernel) (by decide +kernel) (Sm.out ?_))
    | (refine WP.drawQ (ia := 9) (is := 10) (k := 12) mixed (by decide +kernel) (by decide +kernel) (Sm.out ?_))
    | (refine WP.drawK rfl mixed (by decide +kernel) (Sm.out ?_))
    | (refine And.intro ?_ ?_; focus (first | assumption | omega | decide | trivial | (intro hob; simp only [hob, Bool.not_eq_true', Bool.not_eq_false', Bool.not_false, Bool.not_true, Bool.true_and, Bool.and_true, Bool.false_and, Bool.and_false, true_and, and_true, imp_self, implies_true, and_self]; done) | (intros; (repeat' refine And.intro ?_ ?_) <;> first | assumption | omega | trivial | decide) | (intros; simp only [decide_eq_true_eq, decide_eq_false_iff_not, Bool.and_eq_true, Bool.or_eq_true, Bool.and_eq_false_iff, Bool.or_eq_false_iff, bne_iff_ne, bne_eq_false_iff_eq, Int.not_lt, Int.not_le] at *; (repeat' refine And.intro ?_ ?_) <;> first | assumption | omega | trivial)))
    | (refine WP.block ?_)
    | (refine WP.cond rfl (fun hc => ?_) (fun hc => ?_) <;> (try simp only [decide_eq_true_eq, decide_eq_false_iff_not, Bool.and_eq_true, Bool.or_eq_true, Bool.and_eq_false_iff, Bool.or_eq_false_iff, Bool.not_eq_true', Bool.not_eq_false', Int.not_lt, Int.not_le, reduceCtorEq, false_and, and_false, false_or, or_false, true_and, and_true, true_or, or_true, not_true_eq_false, not_false_eq_true, beq_iff_eq, beq_eq_false_iff_ne, bne_iff_ne, bne_eq_false_iff_eq, ne_eq, Decidable.not_not] at hc) <;> (try (exact absurd hc (by decide))) <;> (try (exfalso; omega)))
    | (refine WP.skip ?_; simp only [SeqQ, BlkQ, LoopQ, BodyQ, ↓reduceIte, Nat.reduceEqDiff, reduceCtorEq, look, true_and])
    | (refine WP.exit ?_; simp only [SeqQ, BlkQ, LoopQ, BodyQ, ↓reduceIte, Nat.reduceEqDiff, reduceCtorEq, look, true_and])
    | (refine WP.ret (Sm.out ?_))
    | (refine ExG.mk (x := AV.any) (fun hg => absurd hg (by decide)) (Sm.out ?_))
    | (refine Or.inl (ExG.mk (x := AV.any) (fun hg => absurd hg (by decide)) (Sm.out ?_)))
    | (refine Or.inl (And.intro (fun hg => absurd hg (by decide)) (ExG.mk (x := AV.any) (fun hg => absurd hg (by decide)) (Sm.out ?_))))
    | (refine Rt.mk ?_; refine And.intro ?_ ?_ <;> (intro hg; first | exact absurd hg (by decide) | refine Sm.out ?_))
    | (refine Nu.mk ?_; first | ((fail_if_success (have hx := nb1)); intro nb1) | ((fail_if_success (have hx := nb2)); intro nb2) | ((fail_if_success (have hx := nb3)); intro nb3) | ((fail_if_success (have hx := nb4)); intro nb4) | ((fail_if_success (have hx := nb5)); intro nb5) | ((fail_if_success (have hx := nb6)); intro nb6) | ((fail_if_success (have hx := nb7)); intro nb7) | ((fail_if_success (have hx := nb8)); intro nb8) | ((fail_if_success (have hx := nb9)); intro nb9) | ((fail_if_success (have hx := nb10)); intro nb10) | ((fail_if_success (have hx := nb11)); intro nb11) | ((fail_if_success (have hx := nb12)); intro nb12) | ((fail_if_success (have hx := nb13)); intro nb13) | ((fail_if_success (have hx := nb14)); intro nb14) | ((fail_if_success (have hx := nb15)); intro nb15) | ((fail_if_success (have hx := nb16)); intro nb16) | ((fail_if_success (have hx := nb17)); intro nb17) | ((fail_if_success (have hx := nb18)); intro nb18) | ((fail_if_success (have hx := nb19)); intro nb19) | ((fail_if_success (have hx := nb20)); intro nb20) | ((fail_if_success (have hx := nb21)); intro nb21) | ((fail_if_success (have hx := nb22)); intro nb22) | ((fail_if_success (have hx := nb23)); intro nb23) | ((fail_if_success (have hx := nb24)); intro nb24) | ((fail_if_success (have hx := nb25)); intro nb25) | ((fail_if_success (have hx := nb26)); intro nb26) | ((fail_if_success (have hx := nb27)); intro nb27) | ((fail_if_success (have hx := nb28)); intro nb28) | ((fail_if_success (have hx := nb29)); intro nb29) | ((fail_if_success (have hx := nb30)); intro nb30))
    | (refine Fr.mk ?_; intro hfr; replace FR := And.intro hfr FR; clear hfr; refine Sm.out ?_)
    | (refine Two.mk ?_ ?_)
    | (refine Cs.mk ?_; intro hcs; first | exact False.elim hcs | (exfalso; omega) | (refine Sm.out ?_))
    | (refine (show VwL _ _ _ from ?_); simp only [VwL, and_true, true_and])
    | exact Vw.same _
    | (refine Vw.row' (by simp only [hget, ↓reduceIte, if_true, if_false, FR, fe26, z0, beq_self_eq_true]; first | done | rfl) ?_ ?_ ?_ ?_)
    | (refine And.intro (Vw.same _) ?_)
    | (refine And.intro (Vw.row' (by simp only [hget, ↓reduceIte, if_true, if_false, FR, fe26, z0, beq_self_eq_true]; first | done | rfl) ?_ ?_ ?_ ?_) ?_)
    | (refine OutQ.all ?_ ?_; (focus (simp only [resv, look, loadv, loadn, loadnm, load1, load1m, hget, maxLen_eq, ↓reduceIte, if_true, if_false, ite_true, ite_false, Nat.reduceEqDiff, Nat.reduceAdd, Nat.reduceMul, Nat.reduceLeDiff, Nat.reduceLT, reduceCtorEq, true_and, and_true, and_self, List.length_cons, List.length_nil, List.length_map, List.length_replicate, List.take_succ_cons, List.take_zero, List.drop_zero, List.drop_succ_cons, List.map_cons, List.map_nil, List.getD_cons_zero, List.getD_cons_succ, Nat.zero_add, Nat.add_zero, Nat.le_refl, Option.some.injEq, ne_eq, tyc0, tyc4, tyc24, tyc26, tyc29, tyc35, tyc37, tyc40, tyc42, fe26, z0, beq_self_eq_true, FR])); (try simp only [resv, resA, Fn, look, loadv, loadn, loadnm, load1, load1m, hget, maxLen_eq, ↓reduceIte, if_true, if_false, ite_true, ite_false, Nat.reduceEqDiff, Nat.reduceAdd, Nat.reduceMul, Nat.reduceLeDiff, Nat.reduceLT, reduceCtorEq, true_and, and_true, and_self, List.length_cons, List.length_nil, List.length_map, List.length_replicate, List.take_succ_cons, List.take_zero, List.drop_zero, List.drop_succ_cons, List.map_cons, List.map_nil, List.getD_cons_zero, List.getD_cons_succ, Nat.zero_add, Nat.add_zero, Nat.le_refl, Option.some.injEq, ne_eq, tyc0, tyc4, tyc24, tyc26, tyc29, tyc35, tyc37, tyc40, tyc42, fe26, z0, beq_self_eq_true, FR]); (try simp [resA, Fn, look, fe26, z0, beq_self_eq_true, FR]); done)
    | go_step
    | omega
    | (simp only [maxLen_eq]; omega)
theorem between_law2 (ah al bh bl ch cl : Int) (h1 : 0 ≤ ah ∧ ah ≤ 18446744073709551615) (h2 : 0 ≤ al ∧ al ≤ 18446744073709551615) (h3 : 0 ≤ bh ∧ bh ≤ 18446744073709551615) (h4 : 0 ≤ bl ∧ bl ≤ 18446744073709551615) (h5 : 0 ≤ ch ∧ ch ≤ 18446744073709551615) (h6 : 0 ≤ cl ∧ cl ≤ 18446744073709551615) :
    ACt Try.prog 4 [.agg [iv .u64 ah, iv .u64 al], .agg [iv .u64 bh, iv .u64 bl], .agg [iv .u64 ch, iv .u64 cl]] [] (fun r _ => r = bv true) := by
  obtain ⟨ah, rfl⟩ := Int.eq_ofNat_of_zero_le h1.1
  obtain ⟨al, rfl⟩ := Int.eq_ofNat_of_zero_le h2.1
  obtain ⟨bh, rfl⟩ := Int.eq_ofNat_of_zero_le h3.1
  obtain ⟨bl, rfl⟩ := Int.eq_ofNat_of_zero_le h4.1
  obtain ⟨ch, rfl⟩ := Int.eq_ofNat_of_zero_le h5.1
  obtain ⟨cl, rfl⟩ := Int.eq_ofNat_of_zero_le h6.1
  have e1 := wide_of ah al (by omega)
  have e2 := wide_of bh bl (by omega)
  have e3 := wide_of ch cl (by omega)
  unfold nu at e1 e2 e3
  rw [e1, e2, e3]
  exact between_law _ _ _ (by omega) (by omega) (by omega)
end Go.Proofs.Ytngdgicgppaeaaa
