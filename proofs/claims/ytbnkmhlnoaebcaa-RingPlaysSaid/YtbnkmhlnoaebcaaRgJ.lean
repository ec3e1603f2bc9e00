/-
  The law RingShapes.
-/
import Derived.Test.YtbnkmhlnoaebcaaRgH
namespace Go.Proofs.Ytbnkmhlnoaebcaa
open Go
set_option linter.unusedVariables false
set_option linter.unusedSimpArgs false

set_option maxRecDepth 8000 in
set_option maxHeartbeats 2000000 in
theorem awake_ct : ACt Try.prog 8 [] [] (Fn (bv true)) := by
  refine ACt.intro Try.func8 rfl (by kernel_rfl) (by simp [Try.ntmps8]) (fun cx => ?_)
  simp only [argE, Try.ntmps8, Try.results8]
  have p1 : goP (3600 : Nat) (10 : Nat) := by unfold goP; decide
  have p2 : goP (70 : Nat) (10 : Nat) := by unfold goP; decide
  have c1 : ACt Try.prog 9 [iv .i64 3600, iv .i64 10] [] (Fn (.tup [iv .i64 60, iv .i64 60, iv .i64 0])) := by
    have := Shape_ok 3600 10 p1
    rw [show bkN 3600 10 = 60 by decide +kernel] at this
    exact this
  have c2 : ACt Try.prog 9 [iv .i64 70, iv .i64 10] [] (Fn (.tup [iv .i64 7, iv .i64 10, iv .i64 0])) := by
    have := Shape_ok 70 10 p2
    rw [show bkN 70 10 = 7 by decide +kernel] at this
    exact this
  have hg := goOk p2
  rw [show bkN 70 10 = 7 by decide +kernel] at hg
  have c3 : ACt Try.prog 10 [iv .i64 70, iv .i64 10] [] (fun r F' => ∃ b c, r = .tup [pt b 0, iv .i64 0] ∧ F' = [(b, rbM c 10 7 0 0 0 0), (c, lbM 7 z0 z0)]) := New_ok 70 10 7 10 p2 hg
  have c4 : ∀ rb lb, (rb ≠ lb ∧ lb ≠ rb) → ACt Try.prog 21 [pt rb 0, iv .i64 0, cnt 1 3] [(rb, rbM lb 10 7 0 0 0 0), (lb, lbM 7 z0 z0)]
      (fun r F' => r = iv .i64 0 ∧ F' = [(rb, rbM lb 10 7 0 0 1 3), (lb, lbM 7 (upd z0 0 (z0 0 + 1)) (upd z0 0 (z0 0 + 3)))]) := fun rb lb hne =>
    Add_ok rb lb 10 7 0 0 0 0 1 3 0 0 z0 z0 hne (by omega) (by omega) (by omega) (by omega) (by omega) (by omega) (by decide) (by simp) (by simp) (by decide)
  have c5 := fun rb lb => sum_ct rb lb 10 7 0 0 1 3
  have z1 : ((60 : Int) == 60) = true := by decide
  have z2 : ((0 : Int) == 0) = true := by decide
  have z3 : ((7 : Int) == 7) = true := by decide
  have z4 : ((10 : Int) == 10) = true := by decide
  have z5 : ((1 : Int) == 1) = true := by decide
  have z6 : ((3 : Int) == 3) = true := by decide
  have y1 : ((1 : Nat) : Int) = 1 := rfl
  have y3 : ((3 : Nat) : Int) = 3 := rfl
  first | (have FRx := FR; clear FRx) | (have FR : ¬ ((1 : Nat) = 0) := Nat.one_ne_zero)
  repeat' first
    | (refine Sm.mk ?_; try simp -dsimp only [rvc, drawF, headN, pureH, maxLen_eq, stp, dvc, calleeOf, gcall, pev, eff, newB, okd, og, ogs, ogo, ogp, slv, bltv, opd, litv, strip, one, both, putE, St.put, look, gdOf, gdv, picka, pickv, pickw, binv, bini, bins, binb, binp, bina, shp, eqCells, unv, convv, nilv, faddv, addp, idxav, idxp, load1, load1m, loadn, loadnm, loadv, hget, hset, hrep, hdel, slicev, List.length_append, bnd, shift1, lenv, IntKind.bits, Nat.reducePow, Int.reducePow, Nat.min_def, extractv, fieldv, indexv, min2v, max2v, mkiv, cellsA, fillA, buildv, stC, oneC, rowMB, intsA, plN, appE, appZ, appC, appNZ, appNC, repA_one, VwL, srcC, srcZ, srcM, fresh_nil, fresh_cons, freshBut_nil, freshBut_cons, intsA_map, ne_eq, true_implies, forall_const, List.length_map, List.map_append, drop_getD0, Int.toNat_natCast, List.length_drop, List.length_take, Int.cast_ofNat_Int, isBoolT, isPtrT, isSliceT, uOk, List.size_toArray, List.length_cons, List.length_nil, List.getElem?_toArray, List.getElem?_cons_zero, List.getElem?_cons_succ, Option.bind_some, Option.map_some, Option.map_none, Option.isSome_some, Nat.reduceAdd, Nat.reduceMul, Nat.reduceSub, Nat.reduceLT, Nat.reduceLeDiff, Nat.reduceEqDiff, Nat.reduceBEq, Nat.reduceDiv, Nat.reduceMod, ↓reduceIte, reduceCtorEq, if_true, if_false, true_and, and_true, ite_true, ite_false, Bool.true_and, Bool.and_true, Bool.not_true, Bool.not_false, Bool.or_false, Bool.false_or, Bool.true_or, Bool.or_true, Bool.false_and, Bool.and_false, List.map_cons, List.map_nil, List.mem_cons, List.not_mem_nil, or_false, false_or, true_or, or_true, forall_eq_or_imp, forall_eq, List.all_cons, List.all_nil, List.append_nil, List.nil_append, List.cons_append, List.getD_cons_zero, List.getD_cons_succ, List.take_succ_cons, List.take_zero, List.drop_succ_cons, List.drop_zero, List.set_cons_zero, List.set_cons_succ, List.replicate_succ, List.replicate_zero, Value.oneCell', Nat.add_zero, Nat.zero_add, Nat.mul_one, Nat.one_mul, Int.toNat_zero, Int.reduceToNat, Int.reduceLT, Int.reduceLE, Nat.le_refl, Int.le_refl, Option.some.injEq, TypeDesc.slice.injEq, TypeDesc.int.injEq, List.length_replicate, TypeDesc.pointer.injEq, exists_eq, exists_eq_left, exists_eq_left', exists_eq', implies_true, beq_true, beq_false, and_self, beq_self_eq_true, bne_self_eq_false, decide_true, decide_false, cond_true, cond_false, Bool.not_eq_true', Bool.not_eq_false', imp_self, Bool.cond_false_right, Bool.cond_true_right, Bool.cond_true_left, Bool.cond_false_left, tyc2, zmb2, tyc3, zmb3, tyc4, zmb4, tyc23, zmb23, tyc24, tyc26, mth26_30, mth26_39, mth26_38, con26, zmb26, tyc27, tyc32, elt32, mkz32, mkc32, apT32, elk32, zmb32, tyc43, foff43_0, fpart43_0, foff43_1, fpart43_1, fe43, zmb43, bldT43, Try.underlying2, Try.underlying3, Try.underlying4, Try.underlying23, Try.underlying24, Try.underlying26, Try.underlying27, Try.underlying32, Try.underlying43, SeqQ, BlkQ, LoopQ, BodyQ, z1, z2, z3, z4, z5, z6, fe43, FR])
    | (refine CallV.fn (c1) (Sm.out ?_))
    | (refine ExF.mk (c1) (Sm.out ?_))
    | (refine ExG.mk (fun hg => c1) (Sm.out ?_))
    | (refine Or.inl (ExG.mk (fun hg => c1) (Sm.out ?_)))
    | (refine Or.inl (And.intro ?_ (ExG.mk (fun hg => c1) (Sm.out ?_))); focus (first | omega | assumption | decide | trivial | (intros; (repeat' refine And.intro ?_ ?_) <;> first | assumption | omega | trivial | decide) | (intros; simp only [decide_eq_true_eq, decide_eq_false_iff_not, Bool.and_eq_true, Bool.or_eq_true, Bool.and_eq_false_iff, Bool.or_eq_false_iff, bne_iff_ne, bne_eq_false_iff_eq, Bool.not_eq_true', Bool.not_eq_false', Int.not_lt, Int.not_le] at *; (repeat' refine And.intro ?_ ?_) <;> first | assumption | omega | trivial)))
    | (refine CallV.fn (c2) (Sm.out ?_))
    | (refine ExF.mk (c2) (Sm.out ?_))
    | (refine ExG.mk (fun hg => c2) (Sm.out ?_))
    | (refine Or.inl (ExG.mk (fun hg => c2) (Sm.out ?_)))
    | (refine Or.inl (And.intro ?_ (ExG.mk (fun hg => c2) (Sm.out ?_))); focus (first | omega | assumption | decide | trivial | (intros; (repeat' refine And.intro ?_ ?_) <;> first | assumption | omega | trivial | decide) | (intros; simp only [decide_eq_true_eq, decide_eq_false_iff_not, Bool.and_eq_true, Bool.or_eq_true, Bool.and_eq_false_iff, Bool.or_eq_false_iff, bne_iff_ne, bne_eq_false_iff_eq, Bool.not_eq_true', Bool.not_eq_false', Int.not_lt, Int.not_le] at *; (repeat' refine And.intro ?_ ?_) <;> first | assumption | omega | trivial)))
    | (refine CallV.new2 (F := []) (List.Perm.refl _) (c3) rfl (Sm.out ?_))
    | (refine CallV.updN (perm2 (by simp only [hget, hdel, ↓reduceIte, if_true, if_false, FR, z1, z2, z3, z4, z5, z6, fe43]; first | done | rfl) (by simp only [hget, hdel, ↓reduceIte, if_true, if_false, FR, z1, z2, z3, z4, z5, z6, fe43]; first | done | rfl)) (c4 nb1 nb2 (by omega)) (Sm.out ?_))
    | (refine CallV.updN (perm1 (by simp only [hget, hdel, ↓reduceIte, if_true, if_false, FR, z1, z2, z3, z4, z5, z6, fe43]; first | done | rfl)) (c5 nb1 nb2) (Sm.out ?_))
    | (refine ExF.on (DCt.updN (perm1 (by simp only [hget, hdel, ↓reduceIte, if_true, if_false, FR, z1, z2, z3, z4, z5, z6, fe43]; first | done | rfl)) (c5 nb1 nb2)) (Sm.out ?_))
    | (refine ExG.on (fun hg => DCt.updN (perm1 (by simp only [hget, hdel, ↓reduceIte, if_true, if_false, FR, z1, z2, z3, z4, z5, z6, fe43]; first | done | rfl)) (c5 nb1 nb2)) (Sm.out ?_))
    | (refine Or.inl (And.intro ?_ (ExG.on (fun hg => DCt.updN (perm1 (by simp only [hget, hdel, ↓reduceIte, if_true, if_false, FR, z1, z2, z3, z4, z5, z6, fe43]; first | done | rfl)) (c5 nb1 nb2)) (Sm.out ?_))); focus (first | omega | assumption | decide | trivial | (intros; (repeat' refine And.intro ?_ ?_) <;> first | assumption | omega | trivial | decide) | (intros; simp only [decide_eq_true_eq, decide_eq_false_iff_not, Bool.and_eq_true, Bool.or_eq_true, Bool.and_eq_false_iff, Bool.or_eq_false_iff, bne_iff_ne, bne_eq_false_iff_eq, Bool.not_eq_true', Bool.not_eq_false', Int.not_lt, Int.not_le] at *; (repeat' refine And.intro ?_ ?_) <;> first | assumption | omega | trivial)))
    | (refine Or.inl (ExG.on (fun hg => DCt.updN (perm1 (by simp only [hget, hdel, ↓reduceIte, if_true, if_false, FR, z1, z2, z3, z4, z5, z6, fe43]; first | done | rfl)) (c5 nb1 nb2)) (Sm.out ?_)))
    | (refine WP.seq fun K hK => ?_)
    | (refine WP.region (rvc_sound _ _ (Sm.out ?_)))
    | (refine WP.drawK rfl mixed (by decide +kernel) (Sm.out ?_))
    | (refine And.intro ?_ ?_; focus (first | assumption | omega | decide | trivial | (intro hob; simp only [hob, Bool.not_eq_true', Bool.not_eq_false', Bool.not_false, Bool.not_true, Bool.true_and, Bool.and_true, Bool.false_and, Bool.and_false, true_and, and_true, imp_self, implies_true, and_self]; done) | (intros; (repeat' refine And.intro ?_ ?_) <;> first | assumption | omega | trivial | decide) | (intros; simp only [decide_eq_true_eq, decide_eq_false_iff_not, Bool.and_eq_true, Bool.or_eq_true, Bool.and_eq_false_iff, Bool.or_eq_false_iff, bne_iff_ne, bne_eq_false_iff_eq, Bool.not_eq_true', Bool.not_eq_false', Int.not_lt, Int.not_le] at *; (repeat' refine And.intro ?_ ?_) <;> first | assumption | omega | trivial)))
    | (refine WP.block ?_)
    | (refine WP.cond rfl (fun hc => ?_) (fun hc => ?_) <;> (try simp only [decide_eq_true_eq, decide_eq_false_iff_not, Bool.and_eq_true, Bool.or_eq_true, Bool.and_eq_false_iff, Bool.or_eq_false_iff, Bool.not_eq_true', Bool.not_eq_false', Int.not_lt, Int.not_le, reduceCtorEq, false_and, and_false, false_or, or_false, true_and, and_true, true_or, or_true, not_true_eq_false, not_false_eq_true, beq_iff_eq, beq_eq_false_iff_ne, bne_iff_ne, bne_eq_false_iff_eq, ne_eq, Decidable.not_not] at hc) <;> (try (exact absurd hc (by decide))) <;> (try (exfalso; omega)))
    | (refine WP.skip ?_; simp only [SeqQ, BlkQ, LoopQ, BodyQ, ↓reduceIte, Nat.reduceEqDiff, reduceCtorEq, look, true_and])
    | (refine WP.exit ?_; simp only [SeqQ, BlkQ, LoopQ, BodyQ, ↓reduceIte, Nat.reduceEqDiff, reduceCtorEq, look, true_and])
    | (refine WP.ret (Sm.out ?_))
    | (refine ExG.mk (x := AV.any) (fun hg => absurd hg (by decide)) (Sm.out ?_))
    | (refine Or.inl (ExG.mk (x := AV.any) (fun hg => absurd hg (by decide)) (Sm.out ?_)))
    | (refine Or.inl (And.intro (fun hg => absurd hg (by decide)) (ExG.mk (x := AV.any) (fun hg => absurd hg (by decide)) (Sm.out ?_))))
    | (refine Rt.mk ?_; refine And.intro ?_ ?_ <;> (intro hg; first | exact absurd hg (by decide) | refine Sm.out ?_))
    | (refine Nu.mk ?_; first | ((fail_if_success (have hx := nb1)); intro nb1) | ((fail_if_success (have hx := nb2)); intro nb2) | ((fail_if_success (have hx := nb3)); intro nb3) | ((fail_if_success (have hx := nb4)); intro nb4) | ((fail_if_success (have hx := nb5)); intro nb5) | ((fail_if_success (have hx := nb6)); intro nb6) | ((fail_if_success (have hx := nb7)); intro nb7) | ((fail_if_success (have hx := nb8)); intro nb8) | ((fail_if_success (have hx := nb9)); intro nb9) | ((fail_if_success (have hx := nb10)); intro nb10) | ((fail_if_success (have hx := nb11)); intro nb11) | ((fail_if_success (have hx := nb12)); intro nb12) | ((fail_if_success (have hx := nb13)); intro nb13) | ((fail_if_success (have hx := nb14)); intro nb14))
    | (refine Fr.mk ?_; intro hfr; replace FR := And.intro hfr FR; clear hfr; refine Sm.out ?_)
    | (refine Two.mk ?_ ?_)
    | (refine Cs.mk ?_; intro hcs; first | exact False.elim hcs | (exfalso; omega) | (refine Sm.out ?_))
    | (refine (show VwL _ _ _ from ?_); simp only [VwL, and_true, true_and])
    | exact Vw.same _
    | (refine Vw.row' (by simp only [hget, ↓reduceIte, if_true, if_false, FR, z1, z2, z3, z4, z5, z6, fe43]; first | done | rfl) ?_ ?_ ?_ ?_)
    | (refine And.intro (Vw.same _) ?_)
    | (refine And.intro (Vw.row' (by simp only [hget, ↓reduceIte, if_true, if_false, FR, z1, z2, z3, z4, z5, z6, fe43]; first | done | rfl) ?_ ?_ ?_ ?_) ?_)
    | (refine OutQ.all ?_ ?_; (focus (simp only [resv, look, loadv, loadn, loadnm, load1, load1m, hget, maxLen_eq, ↓reduceIte, if_true, if_false, ite_true, ite_false, Nat.reduceEqDiff, Nat.reduceAdd, Nat.reduceMul, Nat.reduceLeDiff, Nat.reduceLT, reduceCtorEq, true_and, and_true, and_self, List.length_cons, List.length_nil, List.length_map, List.length_replicate, List.take_succ_cons, List.take_zero, List.drop_zero, List.drop_succ_cons, List.map_cons, List.map_nil, List.getD_cons_zero, List.getD_cons_succ, Nat.zero_add, Nat.add_zero, Nat.le_refl, Option.some.injEq, ne_eq, tyc2, tyc3, tyc4, tyc23, tyc24, tyc26, tyc27, tyc32, tyc43, z1, z2, z3, z4, z5, z6, fe43, FR])); (try simp only [resv, resA, Fn, look, loadv, loadn, loadnm, load1, load1m, hget, maxLen_eq, ↓reduceIte, if_true, if_false, ite_true, ite_false, Nat.reduceEqDiff, Nat.reduceAdd, Nat.reduceMul, Nat.reduceLeDiff, Nat.reduceLT, reduceCtorEq, true_and, and_true, and_self, List.length_cons, List.length_nil, List.length_map, List.length_replicate, List.take_succ_cons, List.take_zero, List.drop_zero, List.drop_succ_cons, List.map_cons, List.map_nil, List.getD_cons_zero, List.getD_cons_succ, Nat.zero_add, Nat.add_zero, Nat.le_refl, Option.some.injEq, ne_eq, tyc2, tyc3, tyc4, tyc23, tyc24, tyc26, tyc27, tyc32, tyc43, z1, z2, z3, z4, z5, z6, fe43, FR]); (try simp [resA, Fn, look, z1, z2, z3, z4, z5, z6, fe43, FR]); done)
    | go_step
    | omega
    | (simp only [maxLen_eq]; omega)
end Go.Proofs.Ytbnkmhlnoaebcaa
