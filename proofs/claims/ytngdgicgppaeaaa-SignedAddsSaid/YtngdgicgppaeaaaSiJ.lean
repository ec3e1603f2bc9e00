/-
  A pair whose difference is beyond.
-/
import Derived.Test.YtngdgicgppaeaaaSiI
namespace Go.Proofs.Ytngdgicgppaeaaa
open Go
set_option linter.unusedVariables false
set_option linter.unusedSimpArgs false

theorem of_none (l : List Bool) (k n : Nat) (hk : l.length = k) (hl : k ≤ 1000000) (hv : valB l = n) (h : ¬ n < 340282366920938463463374607431768211456) : ACt Try.prog 28 [.sl k (bl l)] [] (Fn (.tup [.agg [iv .u64 0, iv .u64 0], bv false])) := by
  subst hk
  have := of_ct l hl
  unfold ofA at this
  rw [hv, if_neg h] at this
  exact this
set_option maxRecDepth 8000 in
set_option maxHeartbeats 2000000 in
theorem to_over (x y : List Bool) (p q a b : Nat) (hp : x.length = p) (hq : y.length = q) (hp2 : p ≤ 10000) (hq2 : q ≤ 10000) (hx : valB x = a) (hy : valB y = b) (hd : ¬ dAbs a b < 340282366920938463463374607431768211456) :
    ACt Try.prog 12 [.agg [.sl p (bl x), .sl q (bl y)]] [] (Fn (.tup [sgA (dNeg a b) 0 0, bv false])) := by
  refine ACt.intro Try.func12 rfl (by kernel_rfl) (by simp [Try.ntmps12]) (fun cx => ?_)
  simp only [argE, Try.ntmps12, Try.results12]
  have c1 := rcmp_ct x y p q hp hq (by omega) (by omega)
  rw [hx, hy] at c1
  unfold dAbs at hd
  unfold dNeg
  by_cases h : a < b
  · rw [if_pos h] at hd
    rw [decide_eq_true h]
    have hv : cmpN a b = -1 := by unfold cmpN; rw [if_pos h]
    rw [hv] at c1
    have k1 : decide ((-1 : Int) < 0) = true := by decide
    have c2 := pad_ct y q p hq (by omega) (by omega)
    obtain ⟨U, hU⟩ : ∃ U, U = padF y p := ⟨_, rfl⟩
    have lU : U.length ≤ 10000 := by rw [hU, padF_len]; omega
    have vU : valB U = b := by rw [hU, padF_val, hy]
    rw [← hU] at c2
    have c3 := minus_ct U x U.length p rfl hp (by omega) (by omega)
    have c4 := of_none (minusF U x) U.length (b - a) (minusF_len U x) (by omega) (by rw [minusF_val U x (by omega), vU, hx]) hd
    obtain ⟨M, hM⟩ : ∃ M, M = minusF U x := ⟨_, rfl⟩
    rw [← hM] at c3 c4
    first | (have FRx := FR; clear FRx) | (have FR : ¬ ((1 : Nat) = 0) := Nat.one_ne_zero)
    repeat' first
      | (refine Sm.mk ?_; try simp -dsimp only [rvc, drawF, headN, pureH, maxLen_eq, stp, dvc, calleeOf, gcall, pev, eff, newB, okd, og, ogs, ogo, ogp, slv, bltv, opd, litv, strip, one, both, putE, St.put, look, gdOf, gdv, picka, pickv, pickw, binv, bini, bins, binb, binp, bina, shp, eqCells, unv, convv, nilv, faddv, addp, idxav, idxp, load1, load1m, loadn, loadnm, loadv, hget, hset, hrep, hdel, slicev, List.length_append, bnd, shift1, lenv, IntKind.bits, Nat.reducePow, Int.reducePow, Nat.min_def, extractv, fieldv, indexv, min2v, max2v, mkiv, cellsA, fillA, buildv, stC, oneC, rowMB, intsA, plN, appE, appZ, appC, appNZ, appNC, repA_one, VwL, srcC, srcZ, srcM, fresh_nil, fresh_cons, freshBut_nil, freshBut_cons, intsA_map, ne_eq, true_implies, forall_const, List.length_map, List.map_append, drop_getD0, Int.toNat_natCast, List.length_drop, List.length_take, Int.cast_ofNat_Int, isBoolT, isPtrT, isSliceT, uOk, List.size_toArray, List.length_cons, List.length_nil, List.getElem?_toArray, List.getElem?_cons_zero, List.getElem?_cons_succ, Option.bind_some, Option.map_some, Option.map_none, Option.isSome_some, Nat.reduceAdd, Nat.reduceMul, Nat.reduceSub, Nat.reduceLT, Nat.reduceLeDiff, Nat.reduceEqDiff, Nat.reduceBEq, Nat.reduceDiv, Nat.reduceMod, ↓reduceIte, reduceCtorEq, if_true, if_false, true_and, and_true, ite_true, ite_false, Bool.true_and, Bool.and_true, Bool.not_true, Bool.not_false, Bool.or_false, Bool.false_or, Bool.true_or, Bool.or_true, Bool.false_and, Bool.and_false, List.map_cons, List.map_nil, List.mem_cons, List.not_mem_nil, or_false, false_or, true_or, or_true, forall_eq_or_imp, forall_eq, List.all_cons, List.all_nil, List.append_nil, List.nil_append, List.cons_append, List.getD_cons_zero, List.getD_cons_succ, List.take_succ_cons, List.take_zero, List.drop_succ_cons, List.drop_zero, List.set_cons_zero, List.set_cons_succ, List.replicate_succ, List.replicate_zero, Value.oneCell', Nat.add_zero, Nat.zero_add, Nat.mul_one, Nat.one_mul, Int.toNat_zero, Int.reduceToNat, Int.reduceLT, Int.reduceLE, Nat.le_refl, Int.le_refl, Option.some.injEq, TypeDesc.slice.injEq, TypeDesc.int.injEq, List.length_replicate, TypeDesc.pointer.injEq, exists_eq, exists_eq_left, exists_eq_left', exists_eq', implies_true, beq_true, beq_false, and_self, beq_self_eq_true, bne_self_eq_false, decide_true, decide_false, cond_true, cond_false, Bool.not_eq_true', Bool.not_eq_false', imp_self, Bool.cond_false_right, Bool.cond_true_right, Bool.cond_true_left, Bool.cond_false_left, tyc0, tyc3, zmb3, tyc4, zmb4, tyc24, foff24_0, fpart24_0, foff24_1, fpart24_1, fe24, zmb24, bldT24, tyc26, foff26_0, fpart26_0, foff26_1, fpart26_1, zmb26, bldT26, tyc37, elt37, mkz37, mkc37, apT37, elk37, zmb37, tyc40, foff40_0, fpart40_0, foff40_1, fpart40_1, zmb40, bldT40, tyc57, Try.underlying0, Try.underlying3, Try.underlying4, Try.underlying24, Try.underlying26, Try.underlying37, Try.underlying40, Try.underlying57, SeqQ, BlkQ, LoopQ, BodyQ, k1, FR])
      | (refine CallV.fn (c1) (Sm.out ?_))
      | (refine ExF.mk (c1) (Sm.out ?_))
      | (refine ExG.mk (fun hg => c1) (Sm.out ?_))
      | (refine Or.inl (ExG.mk (fun hg => c1) (Sm.out ?_)))
      | (refine Or.inl (And.intro ?_ (ExG.mk (fun hg => c1) (Sm.out ?_))); focus (first | omega | assumption | decide | trivial | (intros; (repeat' refine And.intro ?_ ?_) <;> first | assumption | omega | trivial | decide) | (intros; simp only [decide_eq_true_eq, decide_eq_false_iff_not, Bool.and_eq_true, Bool.or_eq_true, Bool.and_eq_false_iff, Bool.or_eq_false_iff, bne_iff_ne, bne_eq_false_iff_eq, Int.not_lt, Int.not_le] at *; (repeat' refine And.intro ?_ ?_) <;> first | assumption | omega | trivial)))
      | (refine CallV.fn (c2) (Sm.out ?_))
      | (refine ExF.mk (c2) (Sm.out ?_))
      | (refine ExG.mk (fun hg => c2) (Sm.out ?_))
      | (refine Or.inl (ExG.mk (fun hg => c2) (Sm.out ?_)))
      | (refine Or.inl (And.intro ?_ (ExG.mk (fun hg => c2) (Sm.out ?_))); focus (first | omega | assumption | decide | trivial | (intros; (repeat' refine And.intro ?_ ?_) <;> first | assumption | omega | trivial | decide) | (intros; simp only [decide_eq_true_eq, decide_eq_false_iff_not, Bool.and_eq_true, Bool.or_eq_true, Bool.and_eq_false_iff, Bool.or_eq_false_iff, bne_iff_ne, bne_eq_false_iff_eq, Int.not_lt, Int.not_le] at *; (repeat' refine And.intro ?_ ?_) <;> first | assumption | omega | trivial)))
      | (refine CallV.fn (c3) (Sm.out ?_))
      | (refine ExF.mk (c3) (Sm.out ?_))
      | (refine ExG.mk (fun hg => c3) (Sm.out ?_))
      | (refine Or.inl (ExG.mk (fun hg => c3) (Sm.out ?_)))
      | (refine Or.inl (And.intro ?_ (ExG.mk (fun hg => c3) (Sm.out ?_))); focus (first | omega | assumption | decide | trivial | (intros; (repeat' refine And.intro ?_ ?_) <;> first | assumption | omega | trivial | decide) | (intros; simp only [decide_eq_true_eq, decide_eq_false_iff_not, Bool.and_eq_true, Bool.or_eq_true, Bool.and_eq_false_iff, Bool.or_eq_false_iff, bne_iff_ne, bne_eq_false_iff_eq, Int.not_lt, Int.not_le] at *; (repeat' refine And.intro ?_ ?_) <;> first | assumption | omega | trivial)))
      | (refine CallV.fn (c4) (Sm.out ?_))
      | (refine ExF.mk (c4) (Sm.out ?_))
      | (refine ExG.mk (fun hg => c4) (Sm.out ?_))
      | (refine Or.inl (ExG.mk (fun hg => c4) (Sm.out ?_)))
      | (refine Or.inl (And.intro ?_ (ExG.mk (fun hg => c4) (Sm.out ?_))); focus (first | omega | assumption | decide | trivial | (intros; (repeat' refine And.intro ?_ ?_) <;> first | assumption | omega | trivial | decide) | (intros; simp only [decide_eq_true_eq, decide_eq_false_iff_not, Bool.and_eq_true, Bool.or_eq_true, Bool.and_eq_false_iff, Bool.or_eq_false_iff, bne_iff_ne, bne_eq_false_iff_eq, Int.not_lt, Int.not_le] at *; (repeat' refine And.intro ?_ ?_) <;> first | assumption | omega | trivial)))
      | (refine WP.seq fun K hK => ?_)
      | (refine WP.region (rvc_sound _ _ (Sm.out ?_)))
      | (refine WP.drawK rfl mixed (by decide +kernel) (Sm.out ?_))
      | (refine And.intro ?_ ?_; focus (first | assumption | omega | decide | trivial | (intro hob; simp only [hob, Bool.not_eq_true', Bool.not_eq_false', Bool.not_false, Bool.not_true, Bool.true_and, Bool.and_true, Bool.false_and, Bool.and_false, true_and, and_true, imp_self, implies_true, and_self]; done) | (intros; (repeat' refine And.intro ?_ ?_) <;> first | assumption | omega | trivial | decide) | (intros; simp only [decide_eq_true_eq, decide_eq_false_iff_not, Bool.and_eq_true, Bool.or_eq_true, Bool.and_eq_false_iff, Bool.or_eq_false_iff, bne_iff_ne, bne_eq_false_iff_eq, Int.not_lt, Int.not_le] at *; (repeat' refine And.intro ?_ ?_) <;> first | assumption | omega | trivial)))
      | (refine WP.block ?_)
      | (refine WP.cond rfl (fun hc => ?_) (fun hc => ?_) <;> (try simp only [decide_eq_true_eq, decide_eq_false_iff_not, Bool.and_eq_true, Bool.or_eq_true, Bool.and_eq_false_iff, Bool.or_eq_false_iff, Bool.not_eq_true', Bool.not_eq_false', Int.not_lt, Int.not_le, reduceCtorEq, false_and, and_false, false_or, or_false, true_and, and_true, true_or, or_true, not_true_eq_false, not_false_eq_true, beq_iff_eq, beq_eq_false_iff_ne, bne_iff_ne, bne_eq_false_iff_eq, ne_eq, Decidable.not_not] at hc) <;> (try (exact absurd hc (by decide))) <;> (try (exfalso; omega)))
      | (refine WP.skip ?_; simp only [SeqQ, BlkQ, LoopQ, BodyQ, ↓reduceIte, Nat.reduceEqDiff, reduceCtorEq, look, true_and])
      | (refine WP.exit ?_; simp only [SeqQ, BlkQ, LoopQ, BodyQ, ↓reduceIte, Nat.reduceEqDiff, reduceCtorEq, look, true_and])
      | (refine WP.ret (Sm.out ?_))
      | (refine ExG.mk (x := AV.any) (fun hg => absurd hg (by decide)) (Sm.out ?_))
      | (refine Or.inl (ExG.mk (x := AV.any) (fun hg => absurd hg (by decide)) (Sm.out ?_)))
      | (refine Or.inl (And.intro (fun hg => absurd hg (by decide)) (ExG.mk (x := AV.any) (fun hg => absurd hg (by decide)) (Sm.out ?_))))
      | (refine Rt.mk ?_; refine And.intro ?_ ?_ <;> (intro hg; first | exact absurd hg (by decide) | refine Sm.out ?_))
      | (refine Nu.mk ?_; first | ((fail_if_success (have hx := nb1)); intro nb1) | ((fail_if_success (have hx := nb2)); intro nb2) | ((fail_if_success (have hx := nb3)); intro nb3) | ((fail_if_success (have hx := nb4)); intro nb4) | ((fail_if_success (have hx := nb5)); intro nb5) | ((fail_if_success (have hx := nb6)); intro nb6) | ((fail_if_success (have hx := nb7)); intro nb7) | ((fail_if_success (have hx := nb8)); intro nb8) | ((fail_if_success (have hx := nb9)); intro nb9) | ((fail_if_success (have hx := nb10)); intro nb10) | ((fail_if_success (have hx := nb11)); intro nb11) | ((fail_if_success (have hx := nb12)); intro nb12) | ((fail_if_success (have hx := nb13)); intro nb13) | ((fail_if_success (have hx := nb14)); intro nb14))
      | (refine Fr.mk ?_; intro hfr; replace FR := And.intro hfr FR; clear hfr; refine Sm.out ?_)
      | (refine Two.mk ?_ ?_)
      | (refine Cs.mk ?_; intro hcs; first | exact False.elim hcs | (exfalso; omega) | (refine Sm.out ?_))
      | (refine (show VwL _ _ _ from ?_); simp only [VwL, and_true, true_and])
      | exact Vw.same _
      | (refine Vw.row' (by simp only [hget, ↓reduceIte, if_true, if_false, FR, k1]; first | done | rfl) ?_ ?_ ?_ ?_)
      | (refine And.intro (Vw.same _) ?_)
      | (refine And.intro (Vw.row' (by simp only [hget, ↓reduceIte, if_true, if_false, FR, k1]; first | done | rfl) ?_ ?_ ?_ ?_) ?_)
      | (refine OutQ.all ?_ ?_; (focus (simp only [resv, look, loadv, loadn, loadnm, load1, load1m, hget, maxLen_eq, ↓reduceIte, if_true, if_false, ite_true, ite_false, Nat.reduceEqDiff, Nat.reduceAdd, Nat.reduceMul, Nat.reduceLeDiff, Nat.reduceLT, reduceCtorEq, true_and, and_true, and_self, List.length_cons, List.length_nil, List.length_map, List.length_replicate, List.take_succ_cons, List.take_zero, List.drop_zero, List.drop_succ_cons, List.map_cons, List.map_nil, List.getD_cons_zero, List.getD_cons_succ, Nat.zero_add, Nat.add_zero, Nat.le_refl, Option.some.injEq, ne_eq, tyc0, tyc3, tyc4, tyc24, tyc26, tyc37, tyc40, tyc57, k1, FR])); (try simp only [resv, resA, Fn, look, loadv, loadn, loadnm, load1, load1m, hget, maxLen_eq, ↓reduceIte, if_true, if_false, ite_true, ite_false, Nat.reduceEqDiff, Nat.reduceAdd, Nat.reduceMul, Nat.reduceLeDiff, Nat.reduceLT, reduceCtorEq, true_and, and_true, and_self, List.length_cons, List.length_nil, List.length_map, List.length_replicate, List.take_succ_cons, List.take_zero, List.drop_zero, List.drop_succ_cons, List.map_cons, List.map_nil, List.getD_cons_zero, List.getD_cons_succ, Nat.zero_add, Nat.add_zero, Nat.le_refl, Option.some.injEq, ne_eq, tyc0, tyc3, tyc4, tyc24, tyc26, tyc37, tyc40, tyc57, k1, FR]); (try simp [resA, Fn, look, k1, FR]); done)
      | go_step
      | omega
      | (simp only [maxLen_eq]; omega)
  · rw [if_neg h] at hd
    rw [decide_eq_false h]
    have hv : decide (cmpN a b < 0) = false := by unfold cmpN; rw [if_neg h]; split <;> rfl
    obtain ⟨V, hV⟩ : ∃ V, V = cmpN a b := ⟨_, rfl⟩
    rw [← hV] at c1 hv
    have c2 := pad_ct x p q hp (by omega) (by omega)
    obtain ⟨U, hU⟩ : ∃ U, U = padF x q := ⟨_, rfl⟩
    have lU : U.length ≤ 10000 := by rw [hU, padF_len]; omega
    have vU : valB U = a := by rw [hU, padF_val, hx]
    rw [← hU] at c2
    have c3 := minus_ct U y U.length q rfl hq (by omega) (by omega)
    have c4 := of_none (minusF U y) U.length (a - b) (minusF_len U y) (by omega) (by rw [minusF_val U y (by omega), vU, hy]) hd
    obtain ⟨M, hM⟩ : ∃ M, M = minusF U y := ⟨_, rfl⟩
    rw [← hM] at c3 c4
    first | (have FRx := FR; clear FRx) | (have FR : ¬ ((1 : Nat) = 0) := Nat.one_ne_zero)
    repeat' first
      | (refine Sm.mk ?_; try simp -dsimp only [rvc, drawF, headN, pureH, maxLen_eq, stp, dvc, calleeOf, gcall, pev, eff, newB, okd, og, ogs, ogo, ogp, slv, bltv, opd, litv, strip, one, both, putE, St.put, look, gdOf, gdv, picka, pickv, pickw, binv, bini, bins, binb, binp, bina, shp, eqCells, unv, convv, nilv, faddv, addp, idxav, idxp, load1, load1m, loadn, loadnm, loadv, hget, hset, hrep, hdel, slicev, List.length_append, bnd, shift1, lenv, IntKind.bits, Nat.reducePow, Int.reducePow, Nat.min_def, extractv, fieldv, indexv, min2v, max2v, mkiv, cellsA, fillA, buildv, stC, oneC, rowMB, intsA, plN, appE, appZ, appC, appNZ, appNC, repA_one, VwL, srcC, srcZ, srcM, fresh_nil, fresh_cons, freshBut_nil, freshBut_cons, intsA_map, ne_eq, true_implies, forall_const, List.length_map, List.map_append, drop_getD0, Int.toNat_natCast, List.length_drop, List.length_take, Int.cast_ofNat_Int, isBoolT, isPtrT, isSliceT, uOk, List.size_toArray, List.length_cons, List.length_nil, List.getElem?_toArray, List.getElem?_cons_zero, List.getElem?_cons_succ, Option.bind_some, Option.map_some, Option.map_none, Option.isSome_some, Nat.reduceAdd, Nat.reduceMul, Nat.reduceSub, Nat.reduceLT, Nat.reduceLeDiff, Nat.reduceEqDiff, Nat.reduceBEq, Nat.reduceDiv, Nat.reduceMod, ↓reduceIte, reduceCtorEq, if_true, if_false, true_and, and_true, ite_true, ite_false, Bool.true_and, Bool.and_true, Bool.not_true, Bool.not_false, Bool.or_false, Bool.false_or, Bool.true_or, Bool.or_true, Bool.false_and, Bool.and_false, List.map_cons, List.map_nil, List.mem_cons, List.not_mem_nil, or_false, false_or, true_or, or_true, forall_eq_or_imp, forall_eq, List.all_cons, List.all_nil, List.append_nil, List.nil_append, List.cons_append, List.getD_cons_zero, List.getD_cons_succ, List.take_succ_cons, List.take_zero, List.drop_succ_cons, List.drop_zero, List.set_cons_zero, List.set_cons_succ, List.replicate_succ, List.replicate_zero, Value.oneCell', Nat.add_zero, Nat.zero_add, Nat.mul_one, Nat.one_mul, Int.toNat_zero, Int.reduceToNat, Int.reduceLT, Int.reduceLE, Nat.le_refl, Int.le_refl, Option.some.injEq, TypeDesc.slice.injEq, TypeDesc.int.injEq, List.length_replicate, TypeDesc.pointer.injEq, exists_eq, exists_eq_left, exists_eq_left', exists_eq', implies_true, beq_true, beq_false, and_self, beq_self_eq_true, bne_self_eq_false, decide_true, decide_false, cond_true, cond_false, Bool.not_eq_true', Bool.not_eq_false', imp_self, Bool.cond_false_right, Bool.cond_true_right, Bool.cond_true_left, Bool.cond_false_left, tyc0, tyc3, zmb3, tyc4, zmb4, tyc24, foff24_0, fpart24_0, foff24_1, fpart24_1, fe24, zmb24, bldT24, tyc26, foff26_0, fpart26_0, foff26_1, fpart26_1, zmb26, bldT26, tyc37, elt37, mkz37, mkc37, apT37, elk37, zmb37, tyc40, foff40_0, fpart40_0, foff40_1, fpart40_1, zmb40, bldT40, tyc57, Try.underlying0, Try.underlying3, Try.underlying4, Try.underlying24, Try.underlying26, Try.underlying37, Try.underlying40, Try.underlying57, SeqQ, BlkQ, LoopQ, BodyQ, hv, FR])
      | (refine CallV.fn (c1) (Sm.out ?_))
      | (refine ExF.mk (c1) (Sm.out ?_))
      | (refine ExG.mk (fun hg => c1) (Sm.out ?_))
      | (refine Or.inl (ExG.mk (fun hg => c1) (Sm.out ?_)))
      | (refine Or.inl (And.intro ?_ (ExG.mk (fun hg => c1) (Sm.out ?_))); focus (first | omega | assumption | decide | trivial | (intros; (repeat' refine And.intro ?_ ?_) <;> first | assumption | omega | trivial | decide) | (intros; simp only [decide_eq_true_eq, decide_eq_false_iff_not, Bool.and_eq_true, Bool.or_eq_true, Bool.and_eq_false_iff, Bool.or_eq_false_iff, bne_iff_ne, bne_eq_false_iff_eq, Int.not_lt, Int.not_le] at *; (repeat' refine And.intro ?_ ?_) <;> first | assumption | omega | trivial)))
      | (refine CallV.fn (c2) (Sm.out ?_))
      | (refine ExF.mk (c2) (Sm.out ?_))
      | (refine ExG.mk (fun hg => c2) (Sm.out ?_))
      | (refine Or.inl (ExG.mk (fun hg => c2) (Sm.out ?_)))
      | (refine Or.inl (And.intro ?_ (ExG.mk (fun hg => c2) (Sm.out ?_))); focus (first | omega | assumption | decide | trivial | (intros; (repeat' refine And.intro ?_ ?_) <;> first | assumption | omega | trivial | decide) | (intros; simp only [decide_eq_true_eq, decide_eq_false_iff_not, Bool.and_eq_true, Bool.or_eq_true, Bool.and_eq_false_iff, Bool.or_eq_false_iff, bne_iff_ne, bne_eq_false_iff_eq, Int.not_lt, Int.not_le] at *; (repeat' refine And.intro ?_ ?_) <;> first | assumption | omega | trivial)))
      | (refine CallV.fn (c3) (Sm.out ?_))
      | (refine ExF.mk (c3) (Sm.out ?_))
      | (refine ExG.mk (fun hg => c3) (Sm.out ?_))
      | (refine Or.inl (ExG.mk (fun hg => c3) (Sm.out ?_)))
      | (refine Or.inl (And.intro ?_ (ExG.mk (fun hg => c3) (Sm.out ?_))); focus (first | omega | assumption | decide | trivial | (intros; (repeat' refine And.intro ?_ ?_) <;> first | assumption | omega | trivial | decide) | (intros; simp only [decide_eq_true_eq, decide_eq_false_iff_not, Bool.and_eq_true, Bool.or_eq_true, Bool.and_eq_false_iff, Bool.or_eq_false_iff, bne_iff_ne, bne_eq_false_iff_eq, Int.not_lt, Int.not_le] at *; (repeat' refine And.intro ?_ ?_) <;> first | assumption | omega | trivial)))
      | (refine CallV.fn (c4) (Sm.out ?_))
      | (refine ExF.mk (c4) (Sm.out ?_))
      | (refine ExG.mk (fun hg => c4) (Sm.out ?_))
      | (refine Or.inl (ExG.mk (fun hg => c4) (Sm.out ?_)))
      | (refine Or.inl (And.intro ?_ (ExG.mk (fun hg => c4) (Sm.out ?_))); focus (first | omega | assumption | decide | trivial | (intros; (repeat' refine And.intro ?_ ?_) <;> first | assumption | omega | trivial | decide) | (intros; simp only [decide_eq_true_eq, decide_eq_false_iff_not, Bool.and_eq_true, Bool.or_eq_true, Bool.and_eq_false_iff, Bool.or_eq_false_iff, bne_iff_ne, bne_eq_false_iff_eq, Int.not_lt, Int.not_le] at *; (repeat' refine And.intro ?_ ?_) <;> first | assumption | omega | trivial)))
      | (refine WP.seq fun K hK => ?_)
      | (refine WP.region (rvc_sound _ _ (Sm.out ?_)))
      | (refine WP.drawK rfl mixed (by decide +kernel) (Sm.out ?_))
      | (refine And.intro ?_ ?_; focus (first | assumption | omega | decide | trivial | (intro hob; simp only [hob, Bool.not_eq_true', Bool.not_eq_false', Bool.not_false, Bool.not_true, Bool.true_and, Bool.and_true, Bool.false_and, Bool.and_false, true_and, and_true, imp_self, implies_true, and_self]; done) | (intros; (repeat' refine And.intro ?_ ?_) <;> first | assumption | omega | trivial | decide) | (intros; simp only [decide_eq_true_eq, decide_eq_false_iff_not, Bool.and_eq_true, Bool.or_eq_true, Bool.and_eq_false_iff, Bool.or_eq_false_iff, bne_iff_ne, bne_eq_false_iff_eq, Int.not_lt, Int.not_le] at *; (repeat' refine And.intro ?_ ?_) <;> first | assumption | omega | trivial)))
      | (refine WP.block ?_)
      | (refine WP.cond rfl (fun hc => ?_) (fun hc => ?_) <;> (try simp only [decide_eq_true_eq, decide_eq_false_iff_not, Bool.and_eq_true, Bool.or_eq_true, Bool.and_eq_false_iff, Bool.or_eq_false_iff, Bool.not_eq_true', Bool.not_eq_false', Int.not_lt, Int.not_le, reduceCtorEq, false_and, and_false, false_or, or_false, true_and, and_true, true_or, or_true, not_true_eq_false, not_false_eq_true, beq_iff_eq, beq_eq_false_iff_ne, bne_iff_ne, bne_eq_false_iff_eq, ne_eq, Decidable.not_not] at hc) <;> (try (exact absurd hc (by decide))) <;> (try (exfalso; omega)))
      | (refine WP.skip ?_; simp only [SeqQ, BlkQ, LoopQ, BodyQ, ↓reduceIte, Nat.reduceEqDiff, reduceCtorEq, look, true_and])
      | (refine WP.exit ?_; simp only [SeqQ, BlkQ, LoopQ, BodyQ, ↓reduceIte, Nat.reduceEqDiff, reduceCtorEq, look, true_and])
      | (refine WP.ret (Sm.out ?_))
      | (refine ExG.mk (x := AV.any) (fun hg => absurd hg (by decide)) (Sm.out ?_))
      | (refine Or.inl (ExG.mk (x := AV.any) (fun hg => absurd hg (by decide)) (Sm.out ?_)))
      | (refine Or.inl (And.intro (fun hg => absurd hg (by decide)) (ExG.mk (x := AV.any) (fun hg => absurd hg (by decide)) (Sm.out ?_))))
      | (refine Rt.mk ?_; refine And.intro ?_ ?_ <;> (intro hg; first | exact absurd hg (by decide) | refine Sm.out ?_))
      | (refine Nu.mk ?_; first | ((fail_if_success (have hx := nb1)); intro nb1) | ((fail_if_success (have hx := nb2)); intro nb2) | ((fail_if_success (have hx := nb3)); intro nb3) | ((fail_if_success (have hx := nb4)); intro nb4) | ((fail_if_success (have hx := nb5)); intro nb5) | ((fail_if_success (have hx := nb6)); intro nb6) | ((fail_if_success (have hx := nb7)); intro nb7) | ((fail_if_success (have hx := nb8)); intro nb8) | ((fail_if_success (have hx := nb9)); intro nb9) | ((fail_if_success (have hx := nb10)); intro nb10) | ((fail_if_success (have hx := nb11)); intro nb11) | ((fail_if_success (have hx := nb12)); intro nb12) | ((fail_if_success (have hx := nb13)); intro nb13) | ((fail_if_success (have hx := nb14)); intro nb14))
      | (refine Fr.mk ?_; intro hfr; replace FR := And.intro hfr FR; clear hfr; refine Sm.out ?_)
      | (refine Two.mk ?_ ?_)
      | (refine Cs.mk ?_; intro hcs; first | exact False.elim hcs | (exfalso; omega) | (refine Sm.out ?_))
      | (refine (show VwL _ _ _ from ?_); simp only [VwL, and_true, true_and])
      | exact Vw.same _
      | (refine Vw.row' (by simp only [hget, ↓reduceIte, if_true, if_false, FR, hv]; first | done | rfl) ?_ ?_ ?_ ?_)
      | (refine And.intro (Vw.same _) ?_)
      | (refine And.intro (Vw.row' (by simp only [hget, ↓reduceIte, if_true, if_false, FR, hv]; first | done | rfl) ?_ ?_ ?_ ?_) ?_)
      | (refine OutQ.all ?_ ?_; (focus (simp only [resv, look, loadv, loadn, loadnm, load1, load1m, hget, maxLen_eq, ↓reduceIte, if_true, if_false, ite_true, ite_false, Nat.reduceEqDiff, Nat.reduceAdd, Nat.reduceMul, Nat.reduceLeDiff, Nat.reduceLT, reduceCtorEq, true_and, and_true, and_self, List.length_cons, List.length_nil, List.length_map, List.length_replicate, List.take_succ_cons, List.take_zero, List.drop_zero, List.drop_succ_cons, List.map_cons, List.map_nil, List.getD_cons_zero, List.getD_cons_succ, Nat.zero_add, Nat.add_zero, Nat.le_refl, Option.some.injEq, ne_eq, tyc0, tyc3, tyc4, tyc24, tyc26, tyc37, tyc40, tyc57, hv, FR])); (try simp only [resv, resA, Fn, look, loadv, loadn, loadnm, load1, load1m, hget, maxLen_eq, ↓reduceIte, if_true, if_false, ite_true, ite_false, Nat.reduceEqDiff, Nat.reduceAdd, Nat.reduceMul, Nat.reduceLeDiff, Nat.reduceLT, reduceCtorEq, true_and, and_true, and_self, List.length_cons, List.length_nil, List.length_map, List.length_replicate, List.take_succ_cons, List.take_zero, List.drop_zero, List.drop_succ_cons, List.map_cons, List.map_nil, List.getD_cons_zero, List.getD_cons_succ, Nat.zero_add, Nat.add_zero, Nat.le_refl, Option.some.injEq, ne_eq, tyc0, tyc3, tyc4, tyc24, tyc26, tyc37, tyc40, tyc57, hv, FR]); (try simp [resA, Fn, look, hv, FR]); done)
      | go_step
      | omega
      | (simp only [maxLen_eq]; omega)
end Go.Proofs.Ytngdgicgppaeaaa
