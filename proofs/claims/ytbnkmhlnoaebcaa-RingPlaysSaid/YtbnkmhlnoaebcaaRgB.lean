/-
  The ring's shape; the document's buckets; what lies within.
-/
import Derived.Test.YtbnkmhlnoaebcaaRgA
namespace Go.Proofs.Ytbnkmhlnoaebcaa
open Go
set_option linter.unusedVariables false
set_option linter.unusedSimpArgs false

structure KG where
  k : Nat
theorem dn_down {q j : Nat} (h : q % (j + 1) ≠ 0) : dn q (j + 1) = dn q j := by simp [dn, h]
theorem Shape_ok (W G : Nat) (hg : goP W G) : ACt Try.prog 9 [iv .i64 W, iv .i64 G] [] (Fn (.tup [iv .i64 (bkN W G : Int), iv .i64 ((W / bkN W G : Nat) : Int), iv .i64 0])) := by
  have hG := goOk hg
  obtain ⟨b1, b2, b3, b4, b5⟩ := hg
  refine ACt.intro Try.func9 rfl (by kernel_rfl) (by simp [Try.ntmps9]) (fun cx => ?_)
  simp only [argE, Try.ntmps9, Try.results9]
  have a1 : decide ((G : Int) < 1) = false := by simp; omega
  have a7 : ¬ (G : Int) = 0 := by omega
  have a2 : decide ((G : Int) > 86400) = false := by simp; omega
  have a3 : decide ((W : Int) < 1) = false := by simp; omega
  have a4 : decide ((W : Int) > 34560000) = false := by simp; omega
  have a5 : IntKind.i64.wrap ((W : Int).tmod (G : Int)) = 0 := by rw [b5]; decide
  have a6 : ((0 : Int) != 0) = false := by decide
  obtain ⟨Q, hQ⟩ : ∃ Q, Q = W / G := ⟨_, rfl⟩
  have hq : Q ≤ W := by rw [hQ]; exact Nat.div_le_self _ _
  have e1 : (W : Int).tdiv (G : Int) = (Q : Int) := by rw [hQ, Int.tdiv_eq_ediv_of_nonneg (by omega)]; simp
  have e2 : IntKind.i64.wrap (Q : Int) = (Q : Int) := wrap_i64_nat (by omega)
  have hbk : bkN W G = dn Q 60 := by rw [hQ]
  first | (have FRx := FR; clear FRx) | (have FR : ¬ ((1 : Nat) = 0) := Nat.one_ne_zero)
  repeat' first
    | (refine Sm.mk ?_; try simp -dsimp only [rvc, drawF, headN, pureH, maxLen_eq, stp, dvc, calleeOf, gcall, pev, eff, newB, okd, og, ogs, ogo, ogp, slv, bltv, opd, litv, strip, one, both, putE, St.put, look, gdOf, gdv, picka, pickv, pickw, binv, bini, bins, binb, binp, bina, shp, eqCells, unv, convv, nilv, faddv, addp, idxav, idxp, load1, load1m, loadn, loadnm, loadv, hget, hset, hrep, hdel, slicev, List.length_append, bnd, shift1, lenv, IntKind.bits, Nat.reducePow, Int.reducePow, Nat.min_def, extractv, fieldv, indexv, min2v, max2v, mkiv, cellsA, fillA, buildv, stC, oneC, rowMB, intsA, plN, appE, appZ, appC, appNZ, appNC, repA_one, VwL, srcC, srcZ, srcM, fresh_nil, fresh_cons, freshBut_nil, freshBut_cons, intsA_map, ne_eq, true_implies, forall_const, List.length_map, List.map_append, drop_getD0, Int.toNat_natCast, List.length_drop, List.length_take, Int.cast_ofNat_Int, isBoolT, isPtrT, isSliceT, uOk, List.size_toArray, List.length_cons, List.length_nil, List.getElem?_toArray, List.getElem?_cons_zero, List.getElem?_cons_succ, Option.bind_some, Option.map_some, Option.map_none, Option.isSome_some, Nat.reduceAdd, Nat.reduceMul, Nat.reduceSub, Nat.reduceLT, Nat.reduceLeDiff, Nat.reduceEqDiff, Nat.reduceBEq, Nat.reduceDiv, Nat.reduceMod, ↓reduceIte, reduceCtorEq, if_true, if_false, true_and, and_true, ite_true, ite_false, Bool.true_and, Bool.and_true, Bool.not_true, Bool.not_false, Bool.or_false, Bool.false_or, Bool.true_or, Bool.or_true, Bool.false_and, Bool.and_false, List.map_cons, List.map_nil, List.mem_cons, List.not_mem_nil, or_false, false_or, true_or, or_true, forall_eq_or_imp, forall_eq, List.all_cons, List.all_nil, List.append_nil, List.nil_append, List.cons_append, List.getD_cons_zero, List.getD_cons_succ, List.take_succ_cons, List.take_zero, List.drop_succ_cons, List.drop_zero, List.set_cons_zero, List.set_cons_succ, List.replicate_succ, List.replicate_zero, Value.oneCell', Nat.add_zero, Nat.zero_add, Nat.mul_one, Nat.one_mul, Int.toNat_zero, Int.reduceToNat, Int.reduceLT, Int.reduceLE, Nat.le_refl, Int.le_refl, Option.some.injEq, TypeDesc.slice.injEq, TypeDesc.int.injEq, List.length_replicate, TypeDesc.pointer.injEq, exists_eq, exists_eq_left, exists_eq_left', exists_eq', implies_true, beq_true, beq_false, and_self, beq_self_eq_true, bne_self_eq_false, decide_true, decide_false, cond_true, cond_false, Bool.not_eq_true', Bool.not_eq_false', imp_self, Bool.cond_false_right, Bool.cond_true_right, Bool.cond_true_left, Bool.cond_false_left, tyc2, zmb2, tyc3, zmb3, tyc4, zmb4, tyc23, zmb23, Try.underlying2, Try.underlying3, Try.underlying4, Try.underlying23, SeqQ, BlkQ, LoopQ, BodyQ, a1, a2, a3, a4, a5, a6, a7, FR])
    | (refine WP.seq fun K hK => ?_)
    | (refine WP.region (rvc_sound _ _ (Sm.out ?_)))
    | (refine WP.drawK rfl mixed (by decide +kernel) (Sm.out ?_))
    | (refine And.intro ?_ ?_; focus (first | assumption | omega | decide | trivial | (intro hob; simp only [hob, Bool.not_eq_true', Bool.not_eq_false', Bool.not_false, Bool.not_true, Bool.true_and, Bool.and_true, Bool.false_and, Bool.and_false, true_and, and_true, imp_self, implies_true, and_self]; done) | (intros; (repeat' refine And.intro ?_ ?_) <;> first | assumption | omega | trivial | decide) | (intros; simp only [decide_eq_true_eq, decide_eq_false_iff_not, Bool.and_eq_true, Bool.or_eq_true, Bool.and_eq_false_iff, Bool.or_eq_false_iff, bne_iff_ne, bne_eq_false_iff_eq, Bool.not_eq_true', Bool.not_eq_false', Int.not_lt, Int.not_le] at *; (repeat' refine And.intro ?_ ?_) <;> first | assumption | omega | trivial)))
    | (refine WP.block ?_)
    | (refine WP.cond rfl (fun hc => ?_) (fun hc => ?_) <;> (try simp only [decide_eq_true_eq, decide_eq_false_iff_not, Bool.and_eq_true, Bool.or_eq_true, Bool.and_eq_false_iff, Bool.or_eq_false_iff, Bool.not_eq_true', Bool.not_eq_false', Int.not_lt, Int.not_le, reduceCtorEq, false_and, and_false, false_or, or_false, true_and, and_true, true_or, or_true, not_true_eq_false, not_false_eq_true, beq_iff_eq, beq_eq_false_iff_ne, bne_iff_ne, bne_eq_false_iff_eq, ne_eq, Decidable.not_not] at hc) <;> (try (exact absurd hc (by decide))) <;> (try (exfalso; omega)))
    | (refine WP.skip ?_; simp only [SeqQ, BlkQ, LoopQ, BodyQ, ↓reduceIte, Nat.reduceEqDiff, reduceCtorEq, look, true_and])
    | (refine WP.exit ?_; simp only [SeqQ, BlkQ, LoopQ, BodyQ, ↓reduceIte, Nat.reduceEqDiff, reduceCtorEq, look, true_and])
    | (refine WP.ret (Sm.out ?_))
    | (refine ExG.mk (x := AV.any) (fun hg => absurd hg (by decide)) (Sm.out ?_))
    | (refine Or.inl (ExG.mk (x := AV.any) (fun hg => absurd hg (by decide)) (Sm.out ?_)))
    | (refine Or.inl (And.intro (fun hg => absurd hg (by decide)) (ExG.mk (x := AV.any) (fun hg => absurd hg (by decide)) (Sm.out ?_))))
    | (refine Rt.mk ?_; refine And.intro ?_ ?_ <;> (intro hg; first | exact absurd hg (by decide) | refine Sm.out ?_))
    | (refine Nu.mk ?_; first | ((fail_if_success (have hx := nb1)); intro nb1) | ((fail_if_success (have hx := nb2)); intro nb2) | ((fail_if_success (have hx := nb3)); intro nb3) | ((fail_if_success (have hx := nb4)); intro nb4) | ((fail_if_success (have hx := nb5)); intro nb5) | ((fail_if_success (have hx := nb6)); intro nb6) | ((fail_if_success (have hx := nb7)); intro nb7) | ((fail_if_success (have hx := nb8)); intro nb8) | ((fail_if_success (have hx := nb9)); intro nb9) | ((fail_if_success (have hx := nb10)); intro nb10) | ((fail_if_success (have hx := nb11)); intro nb11) | ((fail_if_success (have hx := nb12)); intro nb12) | ((fail_if_success (have hx := nb13)); intro nb13) | ((fail_if_success (have hx := nb14)); intro nb14))
    | (refine Fr.mk ?_; intro hfr; replace FR := And.intro hfr FR; clear hfr; refine Sm.out ?_)
    | (refine Two.mk ?_ ?_)
    | (refine Cs.mk ?_; intro hcs; first | exact False.elim hcs | (exfalso; omega) | (refine Sm.out ?_))
    | (refine (show VwL _ _ _ from ?_); simp only [VwL, and_true, true_and])
    | exact Vw.same _
    | (refine Vw.row' (by simp only [hget, ↓reduceIte, if_true, if_false, FR, a1, a2, a3, a4, a5, a6, a7]; first | done | rfl) ?_ ?_ ?_ ?_)
    | (refine And.intro (Vw.same _) ?_)
    | (refine And.intro (Vw.row' (by simp only [hget, ↓reduceIte, if_true, if_false, FR, a1, a2, a3, a4, a5, a6, a7]; first | done | rfl) ?_ ?_ ?_ ?_) ?_)
    | go_step
    | omega
    | (simp only [maxLen_eq]; omega)
  refine WP.loop (Γ := KG) (fun g => ⟨[(7, iv .i64 g.k), (0, iv .i64 W), (1, iv .i64 G)], []⟩) (fun g => dn (Q) g.k = bkN W G ∧ 1 ≤ g.k ∧ g.k ≤ 60) (fun g => g.k) ⟨60⟩ ⟨hbk.symm, by simp, by simp⟩ (Sub.pick (by simp [pickB, hget, hdel, FR]) (by simp [look])) ?_
  intro ⟨k⟩ ⟨g1, g2, g3⟩
  simp only at g1 g2 g3 ⊢
  have n1 : ¬ (k : Int) = 0 := by omega
  have e3 : ((Q : Nat) : Int).tmod (k : Int) = ((Q % k : Nat) : Int) := by rw [Int.tmod_eq_emod_of_nonneg (by omega)]; simp
  have e4 : IntKind.i64.wrap ((Q % k : Nat) : Int) = ((Q % k : Nat) : Int) := wrap_i64_nat (Nat.le_trans (Nat.le_of_lt (Nat.mod_lt Q (show k > 0 by omega))) (by omega))
  by_cases hk : Q % k = 0
  · have hk2 : dn (Q) k = k := by obtain ⟨j, rfl⟩ : ∃ j, k = j + 1 := ⟨k - 1, by omega⟩; simp [dn, hk]
    have hkk : bkN W G = k := by rw [← g1, hk2]
    have c : (((Q % k : Nat) : Int) != 0) = false := by rw [hk]; decide
    have f1 : (W : Int).tdiv (k : Int) = ((W / k : Nat) : Int) := by rw [Int.tdiv_eq_ediv_of_nonneg (by omega)]; simp
    have f2 : IntKind.i64.wrap ((W / k : Nat) : Int) = ((W / k : Nat) : Int) := wrap_i64_nat (Nat.le_trans (Nat.div_le_self W k) (by omega))
    first | (have FRx := FR; clear FRx) | (have FR : ¬ ((1 : Nat) = 0) := Nat.one_ne_zero)
    repeat' first
      | (refine Sm.mk ?_; try simp -dsimp only [rvc, drawF, headN, pureH, maxLen_eq, stp, dvc, calleeOf, gcall, pev, eff, newB, okd, og, ogs, ogo, ogp, slv, bltv, opd, litv, strip, one, both, putE, St.put, look, gdOf, gdv, picka, pickv, pickw, binv, bini, bins, binb, binp, bina, shp, eqCells, unv, convv, nilv, faddv, addp, idxav, idxp, load1, load1m, loadn, loadnm, loadv, hget, hset, hrep, hdel, slicev, List.length_append, bnd, shift1, lenv, IntKind.bits, Nat.reducePow, Int.reducePow, Nat.min_def, extractv, fieldv, indexv, min2v, max2v, mkiv, cellsA, fillA, buildv, stC, oneC, rowMB, intsA, plN, appE, appZ, appC, appNZ, appNC, repA_one, VwL, srcC, srcZ, srcM, fresh_nil, fresh_cons, freshBut_nil, freshBut_cons, intsA_map, ne_eq, true_implies, forall_const, List.length_map, List.map_append, drop_getD0, Int.toNat_natCast, List.length_drop, List.length_take, Int.cast_ofNat_Int, isBoolT, isPtrT, isSliceT, uOk, List.size_toArray, List.length_cons, List.length_nil, List.getElem?_toArray, List.getElem?_cons_zero, List.getElem?_cons_succ, Option.bind_some, Option.map_some, Option.map_none, Option.isSome_some, Nat.reduceAdd, Nat.reduceMul, Nat.reduceSub, Nat.reduceLT, Nat.reduceLeDiff, Nat.reduceEqDiff, Nat.reduceBEq, Nat.reduceDiv, Nat.reduceMod, ↓reduceIte, reduceCtorEq, if_true, if_false, true_and, and_true, ite_true, ite_false, Bool.true_and, Bool.and_true, Bool.not_true, Bool.not_false, Bool.or_false, Bool.false_or, Bool.true_or, Bool.or_true, Bool.false_and, Bool.and_false, List.map_cons, List.map_nil, List.mem_cons, List.not_mem_nil, or_false, false_or, true_or, or_true, forall_eq_or_imp, forall_eq, List.all_cons, List.all_nil, List.append_nil, List.nil_append, List.cons_append, List.getD_cons_zero, List.getD_cons_succ, List.take_succ_cons, List.take_zero, List.drop_succ_cons, List.drop_zero, List.set_cons_zero, List.set_cons_succ, List.replicate_succ, List.replicate_zero, Value.oneCell', Nat.add_zero, Nat.zero_add, Nat.mul_one, Nat.one_mul, Int.toNat_zero, Int.reduceToNat, Int.reduceLT, Int.reduceLE, Nat.le_refl, Int.le_refl, Option.some.injEq, TypeDesc.slice.injEq, TypeDesc.int.injEq, List.length_replicate, TypeDesc.pointer.injEq, exists_eq, exists_eq_left, exists_eq_left', exists_eq', implies_true, beq_true, beq_false, and_self, beq_self_eq_true, bne_self_eq_false, decide_true, decide_false, cond_true, cond_false, Bool.not_eq_true', Bool.not_eq_false', imp_self, Bool.cond_false_right, Bool.cond_true_right, Bool.cond_true_left, Bool.cond_false_left, tyc2, zmb2, tyc3, zmb3, tyc4, zmb4, tyc23, zmb23, Try.underlying2, Try.underlying3, Try.underlying4, Try.underlying23, SeqQ, BlkQ, LoopQ, BodyQ, hkk, e1, e2, e3, e4, n1, a7, c, f1, f2, FR])
      | (refine WP.seq fun K hK => ?_)
      | (refine WP.region (rvc_sound _ _ (Sm.out ?_)))
      | (refine WP.drawK rfl mixed (by decide +kernel) (Sm.out ?_))
      | (refine And.intro ?_ ?_; focus (first | assumption | omega | decide | trivial | (intro hob; simp only [hob, Bool.not_eq_true', Bool.not_eq_false', Bool.not_false, Bool.not_true, Bool.true_and, Bool.and_true, Bool.false_and, Bool.and_false, true_and, and_true, imp_self, implies_true, and_self]; done) | (intros; (repeat' refine And.intro ?_ ?_) <;> first | assumption | omega | trivial | decide) | (intros; simp only [decide_eq_true_eq, decide_eq_false_iff_not, Bool.and_eq_true, Bool.or_eq_true, Bool.and_eq_false_iff, Bool.or_eq_false_iff, bne_iff_ne, bne_eq_false_iff_eq, Bool.not_eq_true', Bool.not_eq_false', Int.not_lt, Int.not_le] at *; (repeat' refine And.intro ?_ ?_) <;> first | assumption | omega | trivial)))
      | (refine WP.block ?_)
      | (refine WP.cond rfl (fun hc => ?_) (fun hc => ?_) <;> (try simp only [decide_eq_true_eq, decide_eq_false_iff_not, Bool.and_eq_true, Bool.or_eq_true, Bool.and_eq_false_iff, Bool.or_eq_false_iff, Bool.not_eq_true', Bool.not_eq_false', Int.not_lt, Int.not_le, reduceCtorEq, false_and, and_false, false_or, or_false, true_and, and_true, true_or, or_true, not_true_eq_false, not_false_eq_true, beq_iff_eq, beq_eq_false_iff_ne, bne_iff_ne, bne_eq_false_iff_eq, ne_eq, Decidable.not_not] at hc) <;> (try (exact absurd hc (by decide))) <;> (try (exfalso; omega)))
      | (refine WP.skip ?_; simp only [SeqQ, BlkQ, LoopQ, BodyQ, ↓reduceIte, Nat.reduceEqDiff, reduceCtorEq, look, true_and])
      | (refine WP.exit ?_; simp only [SeqQ, BlkQ, LoopQ, BodyQ, ↓reduceIte, Nat.reduceEqDiff, reduceCtorEq, look, true_and])
      | (refine WP.ret (Sm.out ?_))
      | (refine ExG.mk (x := AV.any) (fun hg => absurd hg (by decide)) (Sm.out ?_))
      | (refine Or.inl (ExG.mk (x := AV.any) (fun hg => absurd hg (by decide)) (Sm.out ?_)))
      | (refine Or.inl (And.intro (fun hg => absurd hg (by decide)) (ExG.mk (x := AV.any) (fun hg => absurd hg (by decide)) (Sm.out ?_))))
      | (refine Rt.mk ?_; refine And.intro ?_ ?_ <;> (intro hg; first | exact absurd hg (by decide) | refine Sm.out ?_))
      | (refine Nu.mk ?_; first | ((fail_if_success (have hx := nb1)); intro nb1) | ((fail_if_success (have hx := nb2)); intro nb2) | ((fail_if_success (have hx := nb3)); intro nb3) | ((fail_if_success (have hx := nb4)); intro nb4) | ((fail_if_success (have hx := nb5)); intro nb5) | ((fail_if_success (have hx := nb6)); intro nb6) | ((fail_if_success (have hx := nb7)); intro nb7) | ((fail_if_success (have hx := nb8)); intro nb8) | ((fail_if_success (have hx := nb9)); intro nb9) | ((fail_if_success (have hx := nb10)); intro nb10) | ((fail_if_success (have hx := nb11)); intro nb11) | ((fail_if_success (have hx := nb12)); intro nb12) | ((fail_if_success (have hx := nb13)); intro nb13) | ((fail_if_success (have hx := nb14)); intro nb14))
      | (refine Fr.mk ?_; intro hfr; replace FR := And.intro hfr FR; clear hfr; refine Sm.out ?_)
      | (refine Two.mk ?_ ?_)
      | (refine Cs.mk ?_; intro hcs; first | exact False.elim hcs | (exfalso; omega) | (refine Sm.out ?_))
      | (refine (show VwL _ _ _ from ?_); simp only [VwL, and_true, true_and])
      | exact Vw.same _
      | (refine Vw.row' (by simp only [hget, ↓reduceIte, if_true, if_false, FR, hkk, e1, e2, e3, e4, n1, a7, c, f1, f2]; first | done | rfl) ?_ ?_ ?_ ?_)
      | (refine And.intro (Vw.same _) ?_)
      | (refine And.intro (Vw.row' (by simp only [hget, ↓reduceIte, if_true, if_false, FR, hkk, e1, e2, e3, e4, n1, a7, c, f1, f2]; first | done | rfl) ?_ ?_ ?_ ?_) ?_)
      | (refine OutQ.all ?_ ?_; (focus (simp only [resv, look, loadv, loadn, loadnm, load1, load1m, hget, maxLen_eq, ↓reduceIte, if_true, if_false, ite_true, ite_false, Nat.reduceEqDiff, Nat.reduceAdd, Nat.reduceMul, Nat.reduceLeDiff, Nat.reduceLT, reduceCtorEq, true_and, and_true, and_self, List.length_cons, List.length_nil, List.length_map, List.length_replicate, List.take_succ_cons, List.take_zero, List.drop_zero, List.drop_succ_cons, List.map_cons, List.map_nil, List.getD_cons_zero, List.getD_cons_succ, Nat.zero_add, Nat.add_zero, Nat.le_refl, Option.some.injEq, ne_eq, tyc2, tyc3, tyc4, tyc23, hkk, e1, e2, e3, e4, n1, a7, c, f1, f2, FR])); (try simp only [resv, resA, Fn, look, loadv, loadn, loadnm, load1, load1m, hget, maxLen_eq, ↓reduceIte, if_true, if_false, ite_true, ite_false, Nat.reduceEqDiff, Nat.reduceAdd, Nat.reduceMul, Nat.reduceLeDiff, Nat.reduceLT, reduceCtorEq, true_and, and_true, and_self, List.length_cons, List.length_nil, List.length_map, List.length_replicate, List.take_succ_cons, List.take_zero, List.drop_zero, List.drop_succ_cons, List.map_cons, List.map_nil, List.getD_cons_zero, List.getD_cons_succ, Nat.zero_add, Nat.add_zero, Nat.le_refl, Option.some.injEq, ne_eq, tyc2, tyc3, tyc4, tyc23, hkk, e1, e2, e3, e4, n1, a7, c, f1, f2, FR]); (try simp [resA, Fn, look, hkk, e1, e2, e3, e4, n1, a7, c, f1, f2, FR]); done)
      | go_step
      | omega
      | (simp only [maxLen_eq]; omega)
  · have c : (((Q % k : Nat) : Int) != 0) = true := by rw [bne_iff_ne]; intro h0; exact hk (by exact_mod_cast h0)
    obtain ⟨j, rfl⟩ : ∃ j, k = j + 1 := ⟨k - 1, by omega⟩
    have hj : j ≠ 0 := by rintro rfl; exact hk (by simp; omega)
    have f1 : IntKind.i64.wrap (((j + 1 : Nat) : Int) - 1) = (j : Int) := by rw [wrap_i64 (by omega) (by omega)]; omega
    first | (have FRx := FR; clear FRx) | (have FR : ¬ ((1 : Nat) = 0) := Nat.one_ne_zero)
    repeat' first
      | (refine Sm.mk ?_; try simp -dsimp only [rvc, drawF, headN, pureH, maxLen_eq, stp, dvc, calleeOf, gcall, pev, eff, newB, okd, og, ogs, ogo, ogp, slv, bltv, opd, litv, strip, one, both, putE, St.put, look, gdOf, gdv, picka, pickv, pickw, binv, bini, bins, binb, binp, bina, shp, eqCells, unv, convv, nilv, faddv, addp, idxav, idxp, load1, load1m, loadn, loadnm, loadv, hget, hset, hrep, hdel, slicev, List.length_append, bnd, shift1, lenv, IntKind.bits, Nat.reducePow, Int.reducePow, Nat.min_def, extractv, fieldv, indexv, min2v, max2v, mkiv, cellsA, fillA, buildv, stC, oneC, rowMB, intsA, plN, appE, appZ, appC, appNZ, appNC, repA_one, VwL, srcC, srcZ, srcM, fresh_nil, fresh_cons, freshBut_nil, freshBut_cons, intsA_map, ne_eq, true_implies, forall_const, List.length_map, List.map_append, drop_getD0, Int.toNat_natCast, List.length_drop, List.length_take, Int.cast_ofNat_Int, isBoolT, isPtrT, isSliceT, uOk, List.size_toArray, List.length_cons, List.length_nil, List.getElem?_toArray, List.getElem?_cons_zero, List.getElem?_cons_succ, Option.bind_some, Option.map_some, Option.map_none, Option.isSome_some, Nat.reduceAdd, Nat.reduceMul, Nat.reduceSub, Nat.reduceLT, Nat.reduceLeDiff, Nat.reduceEqDiff, Nat.reduceBEq, Nat.reduceDiv, Nat.reduceMod, ↓reduceIte, reduceCtorEq, if_true, if_false, true_and, and_true, ite_true, ite_false, Bool.true_and, Bool.and_true, Bool.not_true, Bool.not_false, Bool.or_false, Bool.false_or, Bool.true_or, Bool.or_true, Bool.false_and, Bool.and_false, List.map_cons, List.map_nil, List.mem_cons, List.not_mem_nil, or_false, false_or, true_or, or_true, forall_eq_or_imp, forall_eq, List.all_cons, List.all_nil, List.append_nil, List.nil_append, List.cons_append, List.getD_cons_zero, List.getD_cons_succ, List.take_succ_cons, List.take_zero, List.drop_succ_cons, List.drop_zero, List.set_cons_zero, List.set_cons_succ, List.replicate_succ, List.replicate_zero, Value.oneCell', Nat.add_zero, Nat.zero_add, Nat.mul_one, Nat.one_mul, Int.toNat_zero, Int.reduceToNat, Int.reduceLT, Int.reduceLE, Nat.le_refl, Int.le_refl, Option.some.injEq, TypeDesc.slice.injEq, TypeDesc.int.injEq, List.length_replicate, TypeDesc.pointer.injEq, exists_eq, exists_eq_left, exists_eq_left', exists_eq', implies_true, beq_true, beq_false, and_self, beq_self_eq_true, bne_self_eq_false, decide_true, decide_false, cond_true, cond_false, Bool.not_eq_true', Bool.not_eq_false', imp_self, Bool.cond_false_right, Bool.cond_true_right, Bool.cond_true_left, Bool.cond_false_left, tyc2, zmb2, tyc3, zmb3, tyc4, zmb4, tyc23, zmb23, Try.underlying2, Try.underlying3, Try.underlying4, Try.underlying23, SeqQ, BlkQ, LoopQ, BodyQ, e1, e2, e3, e4, n1, a7, c, f1, FR])
      | (refine WP.seq fun K hK => ?_)
      | (refine WP.region (rvc_sound _ _ (Sm.out ?_)))
      | (refine WP.drawK rfl mixed (by decide +kernel) (Sm.out ?_))
      | (refine And.intro ?_ ?_; focus (first | assumption | omega | decide | trivial | (intro hob; simp only [hob, Bool.not_eq_true', Bool.not_eq_false', Bool.not_false, Bool.not_true, Bool.true_and, Bool.and_true, Bool.false_and, Bool.and_false, true_and, and_true, imp_self, implies_true, and_self]; done) | (intros; (repeat' refine And.intro ?_ ?_) <;> first | assumption | omega | trivial | decide) | (intros; simp only [decide_eq_true_eq, decide_eq_false_iff_not, Bool.and_eq_true, Bool.or_eq_true, Bool.and_eq_false_iff, Bool.or_eq_false_iff, bne_iff_ne, bne_eq_false_iff_eq, Bool.not_eq_true', Bool.not_eq_false', Int.not_lt, Int.not_le] at *; (repeat' refine And.intro ?_ ?_) <;> first | assumption | omega | trivial)))
      | (refine WP.block ?_)
      | (refine WP.cond rfl (fun hc => ?_) (fun hc => ?_) <;> (try simp only [decide_eq_true_eq, decide_eq_false_iff_not, Bool.and_eq_true, Bool.or_eq_true, Bool.and_eq_false_iff, Bool.or_eq_false_iff, Bool.not_eq_true', Bool.not_eq_false', Int.not_lt, Int.not_le, reduceCtorEq, false_and, and_false, false_or, or_false, true_and, and_true, true_or, or_true, not_true_eq_false, not_false_eq_true, beq_iff_eq, beq_eq_false_iff_ne, bne_iff_ne, bne_eq_false_iff_eq, ne_eq, Decidable.not_not] at hc) <;> (try (exact absurd hc (by decide))) <;> (try (exfalso; omega)))
      | (refine WP.skip ?_; simp only [SeqQ, BlkQ, LoopQ, BodyQ, ↓reduceIte, Nat.reduceEqDiff, reduceCtorEq, look, true_and])
      | (refine WP.exit ?_; simp only [SeqQ, BlkQ, LoopQ, BodyQ, ↓reduceIte, Nat.reduceEqDiff, reduceCtorEq, look, true_and])
      | (refine WP.ret (Sm.out ?_))
      | (refine ExG.mk (x := AV.any) (fun hg => absurd hg (by decide)) (Sm.out ?_))
      | (refine Or.inl (ExG.mk (x := AV.any) (fun hg => absurd hg (by decide)) (Sm.out ?_)))
      | (refine Or.inl (And.intro (fun hg => absurd hg (by decide)) (ExG.mk (x := AV.any) (fun hg => absurd hg (by decide)) (Sm.out ?_))))
      | (refine Rt.mk ?_; refine And.intro ?_ ?_ <;> (intro hg; first | exact absurd hg (by decide) | refine Sm.out ?_))
      | (refine Nu.mk ?_; first | ((fail_if_success (have hx := nb1)); intro nb1) | ((fail_if_success (have hx := nb2)); intro nb2) | ((fail_if_success (have hx := nb3)); intro nb3) | ((fail_if_success (have hx := nb4)); intro nb4) | ((fail_if_success (have hx := nb5)); intro nb5) | ((fail_if_success (have hx := nb6)); intro nb6) | ((fail_if_success (have hx := nb7)); intro nb7) | ((fail_if_success (have hx := nb8)); intro nb8) | ((fail_if_success (have hx := nb9)); intro nb9) | ((fail_if_success (have hx := nb10)); intro nb10) | ((fail_if_success (have hx := nb11)); intro nb11) | ((fail_if_success (have hx := nb12)); intro nb12) | ((fail_if_success (have hx := nb13)); intro nb13) | ((fail_if_success (have hx := nb14)); intro nb14))
      | (refine Fr.mk ?_; intro hfr; replace FR := And.intro hfr FR; clear hfr; refine Sm.out ?_)
      | (refine Two.mk ?_ ?_)
      | (refine Cs.mk ?_; intro hcs; first | exact False.elim hcs | (exfalso; omega) | (refine Sm.out ?_))
      | (refine (show VwL _ _ _ from ?_); simp only [VwL, and_true, true_and])
      | exact Vw.same _
      | (refine Vw.row' (by simp only [hget, ↓reduceIte, if_true, if_false, FR, e1, e2, e3, e4, n1, a7, c, f1]; first | done | rfl) ?_ ?_ ?_ ?_)
      | (refine And.intro (Vw.same _) ?_)
      | (refine And.intro (Vw.row' (by simp only [hget, ↓reduceIte, if_true, if_false, FR, e1, e2, e3, e4, n1, a7, c, f1]; first | done | rfl) ?_ ?_ ?_ ?_) ?_)
      | go_step
      | omega
      | (simp only [maxLen_eq]; omega)
    exact ⟨⟨j⟩, ⟨by simp only; rw [← g1, dn_down hk], by simp only; omega, by simp only; omega⟩, by simp only; omega, (Sub.pick (by simp [pickB, hget, hdel, FR]) (by simp [look]))⟩
theorem Buckets_ct (W G : Nat) (hg : goP W G) : ACt Try.prog 12 [iv .i64 W, iv .i64 G] [] (Fn (iv .i64 (bkN W G : Int))) := by
  obtain ⟨b1, b2, b3, b4, b5⟩ := hg
  refine ACt.intro Try.func12 rfl (by kernel_rfl) (by simp [Try.ntmps12]) (fun cx => ?_)
  simp only [argE, Try.ntmps12, Try.results12]
  have a7 : ¬ (G : Int) = 0 := by omega
  obtain ⟨Q, hQ⟩ : ∃ Q, Q = W / G := ⟨_, rfl⟩
  have hq : Q ≤ W := by rw [hQ]; exact Nat.div_le_self _ _
  have e1 : (W : Int).tdiv (G : Int) = (Q : Int) := by rw [hQ, Int.tdiv_eq_ediv_of_nonneg (by omega)]; simp
  have e2 : IntKind.i64.wrap (Q : Int) = (Q : Int) := wrap_i64_nat (by omega)
  have hbk : bkN W G = dn Q 60 := by rw [hQ]
  first | (have FRx := FR; clear FRx) | (have FR : ¬ ((1 : Nat) = 0) := Nat.one_ne_zero)
  repeat' first
    | (refine Sm.mk ?_; try simp -dsimp only [rvc, drawF, headN, pureH, maxLen_eq, stp, dvc, calleeOf, gcall, pev, eff, newB, okd, og, ogs, ogo, ogp, slv, bltv, opd, litv, strip, one, both, putE, St.put, look, gdOf, gdv, picka, pickv, pickw, binv, bini, bins, binb, binp, bina, shp, eqCells, unv, convv, nilv, faddv, addp, idxav, idxp, load1, load1m, loadn, loadnm, loadv, hget, hset, hrep, hdel, slicev, List.length_append, bnd, shift1, lenv, IntKind.bits, Nat.reducePow, Int.reducePow, Nat.min_def, extractv, fieldv, indexv, min2v, max2v, mkiv, cellsA, fillA, buildv, stC, oneC, rowMB, intsA, plN, appE, appZ, appC, appNZ, appNC, repA_one, VwL, srcC, srcZ, srcM, fresh_nil, fresh_cons, freshBut_nil, freshBut_cons, intsA_map, ne_eq, true_implies, forall_const, List.length_map, List.map_append, drop_getD0, Int.toNat_natCast, List.length_drop, List.length_take, Int.cast_ofNat_Int, isBoolT, isPtrT, isSliceT, uOk, List.size_toArray, List.length_cons, List.length_nil, List.getElem?_toArray, List.getElem?_cons_zero, List.getElem?_cons_succ, Option.bind_some, Option.map_some, Option.map_none, Option.isSome_some, Nat.reduceAdd, Nat.reduceMul, Nat.reduceSub, Nat.reduceLT, Nat.reduceLeDiff, Nat.reduceEqDiff, Nat.reduceBEq, Nat.reduceDiv, Nat.reduceMod, ↓reduceIte, reduceCtorEq, if_true, if_false, true_and, and_true, ite_true, ite_false, Bool.true_and, Bool.and_true, Bool.not_true, Bool.not_false, Bool.or_false, Bool.false_or, Bool.true_or, Bool.or_true, Bool.false_and, Bool.and_false, List.map_cons, List.map_nil, List.mem_cons, List.not_mem_nil, or_false, false_or, true_or, or_true, forall_eq_or_imp, forall_eq, List.all_cons, List.all_nil, List.append_nil, List.nil_append, List.cons_append, List.getD_cons_zero, List.getD_cons_succ, List.take_succ_cons, List.take_zero, List.drop_succ_cons, List.drop_zero, List.set_cons_zero, List.set_cons_succ, List.replicate_succ, List.replicate_zero, Value.oneCell', Nat.add_zero, Nat.zero_add, Nat.mul_one, Nat.one_mul, Int.toNat_zero, Int.reduceToNat, Int.reduceLT, Int.reduceLE, Nat.le_refl, Int.le_refl, Option.some.injEq, TypeDesc.slice.injEq, TypeDesc.int.injEq, List.length_replicate, TypeDesc.pointer.injEq, exists_eq, exists_eq_left, exists_eq_left', exists_eq', implies_true, beq_true, beq_false, and_self, beq_self_eq_true, bne_self_eq_false, decide_true, decide_false, cond_true, cond_false, Bool.not_eq_true', Bool.not_eq_false', imp_self, Bool.cond_false_right, Bool.cond_true_right, Bool.cond_true_left, Bool.cond_false_left, tyc2, zmb2, tyc3, zmb3, tyc4, zmb4, tyc23, zmb23, Try.underlying2, Try.underlying3, Try.underlying4, Try.underlying23, SeqQ, BlkQ, LoopQ, BodyQ, FR])
    | (refine WP.seq fun K hK => ?_)
    | (refine WP.region (rvc_sound _ _ (Sm.out ?_)))
    | (refine WP.drawK rfl mixed (by decide +kernel) (Sm.out ?_))
    | (refine And.intro ?_ ?_; focus (first | assumption | omega | decide | trivial | (intro hob; simp only [hob, Bool.not_eq_true', Bool.not_eq_false', Bool.not_false, Bool.not_true, Bool.true_and, Bool.and_true, Bool.false_and, Bool.and_false, true_and, and_true, imp_self, implies_true, and_self]; done) | (intros; (repeat' refine And.intro ?_ ?_) <;> first | assumption | omega | trivial | decide) | (intros; simp only [decide_eq_true_eq, decide_eq_false_iff_not, Bool.and_eq_true, Bool.or_eq_true, Bool.and_eq_false_iff, Bool.or_eq_false_iff, bne_iff_ne, bne_eq_false_iff_eq, Bool.not_eq_true', Bool.not_eq_false', Int.not_lt, Int.not_le] at *; (repeat' refine And.intro ?_ ?_) <;> first | assumption | omega | trivial)))
    | (refine WP.block ?_)
    | (refine WP.cond rfl (fun hc => ?_) (fun hc => ?_) <;> (try simp only [decide_eq_true_eq, decide_eq_false_iff_not, Bool.and_eq_true, Bool.or_eq_true, Bool.and_eq_false_iff, Bool.or_eq_false_iff, Bool.not_eq_true', Bool.not_eq_false', Int.not_lt, Int.not_le, reduceCtorEq, false_and, and_false, false_or, or_false, true_and, and_true, true_or, or_true, not_true_eq_false, not_false_eq_true, beq_iff_eq, beq_eq_false_iff_ne, bne_iff_ne, bne_eq_false_iff_eq, ne_eq, Decidable.not_not] at hc) <;> (try (exact absurd hc (by decide))) <;> (try (exfalso; omega)))
    | (refine WP.skip ?_; simp only [SeqQ, BlkQ, LoopQ, BodyQ, ↓reduceIte, Nat.reduceEqDiff, reduceCtorEq, look, true_and])
    | (refine WP.exit ?_; simp only [SeqQ, BlkQ, LoopQ, BodyQ, ↓reduceIte, Nat.reduceEqDiff, reduceCtorEq, look, true_and])
    | (refine WP.ret (Sm.out ?_))
    | (refine ExG.mk (x := AV.any) (fun hg => absurd hg (by decide)) (Sm.out ?_))
    | (refine Or.inl (ExG.mk (x := AV.any) (fun hg => absurd hg (by decide)) (Sm.out ?_)))
    | (refine Or.inl (And.intro (fun hg => absurd hg (by decide)) (ExG.mk (x := AV.any) (fun hg => absurd hg (by decide)) (Sm.out ?_))))
    | (refine Rt.mk ?_; refine And.intro ?_ ?_ <;> (intro hg; first | exact absurd hg (by decide) | refine Sm.out ?_))
    | (refine Nu.mk ?_; first | ((fail_if_success (have hx := nb1)); intro nb1) | ((fail_if_success (have hx := nb2)); intro nb2) | ((fail_if_success (have hx := nb3)); intro nb3) | ((fail_if_success (have hx := nb4)); intro nb4) | ((fail_if_success (have hx := nb5)); intro nb5) | ((fail_if_success (have hx := nb6)); intro nb6) | ((fail_if_success (have hx := nb7)); intro nb7) | ((fail_if_success (have hx := nb8)); intro nb8) | ((fail_if_success (have hx := nb9)); intro nb9) | ((fail_if_success (have hx := nb10)); intro nb10) | ((fail_if_success (have hx := nb11)); intro nb11) | ((fail_if_success (have hx := nb12)); intro nb12) | ((fail_if_success (have hx := nb13)); intro nb13) | ((fail_if_success (have hx := nb14)); intro nb14))
    | (refine Fr.mk ?_; intro hfr; replace FR := And.intro hfr FR; clear hfr; refine Sm.out ?_)
    | (refine Two.mk ?_ ?_)
    | (refine Cs.mk ?_; intro hcs; first | exact False.elim hcs | (exfalso; omega) | (refine Sm.out ?_))
    | (refine (show VwL _ _ _ from ?_); simp only [VwL, and_true, true_and])
    | exact Vw.same _
    | (refine Vw.row' (by simp only [hget, ↓reduceIte, if_true, if_false, FR]; first | done | rfl) ?_ ?_ ?_ ?_)
    | (refine And.intro (Vw.same _) ?_)
    | (refine And.intro (Vw.row' (by simp only [hget, ↓reduceIte, if_true, if_false, FR]; first | done | rfl) ?_ ?_ ?_ ?_) ?_)
    | go_step
    | omega
    | (simp only [maxLen_eq]; omega)
  refine WP.loop (Γ := KG) (fun g => ⟨[(6, iv .i64 ((g.k + 1 : Nat) : Int)), (5, iv .i64 (dn (Q) g.k : Int)), (0, iv .i64 W), (1, iv .i64 G)], []⟩) (fun g => g.k ≤ 60) (fun g => 60 - g.k) ⟨0⟩ (by simp) (Sub.pick (by simp [pickB, hget, hdel, FR, dn]) (by simp [look, dn])) ?_
  intro ⟨k⟩ g3
  simp only at g3 ⊢
  by_cases hk : k < 60
  · have k1 : decide (((k + 1 : Nat) : Int) ≤ 60) = true := by simp; omega
    have n1 : ¬ ((k + 1 : Nat) : Int) = 0 := by omega
    have e3 : ((Q : Nat) : Int).tmod ((k + 1 : Nat) : Int) = ((Q % (k + 1) : Nat) : Int) := by rw [Int.tmod_eq_emod_of_nonneg (by omega)]; simp
    have e4 : IntKind.i64.wrap ((Q % (k + 1) : Nat) : Int) = ((Q % (k + 1) : Nat) : Int) := wrap_i64_nat (Nat.le_trans (Nat.le_of_lt (Nat.mod_lt Q (show k + 1 > 0 by omega))) (by omega))
    have f1 : IntKind.i64.wrap (((k + 1 : Nat) : Int) + 1) = ((k + 1 + 1 : Nat) : Int) := by rw [wrap_i64 (by omega) (by omega)]; omega
    by_cases hm : Q % (k + 1) = 0
    · have c : (((Q % (k + 1) : Nat) : Int) == 0) = true := by rw [hm]; decide
      have hd : dn (Q) (k + 1) = k + 1 := by simp [dn, hm]
      first | (have FRx := FR; clear FRx) | (have FR : ¬ ((1 : Nat) = 0) := Nat.one_ne_zero)
      repeat' first
        | (refine Sm.mk ?_; try simp -dsimp only [rvc, drawF, headN, pureH, maxLen_eq, stp, dvc, calleeOf, gcall, pev, eff, newB, okd, og, ogs, ogo, ogp, slv, bltv, opd, litv, strip, one, both, putE, St.put, look, gdOf, gdv, picka, pickv, pickw, binv, bini, bins, binb, binp, bina, shp, eqCells, unv, convv, nilv, faddv, addp, idxav, idxp, load1, load1m, loadn, loadnm, loadv, hget, hset, hrep, hdel, slicev, List.length_append, bnd, shift1, lenv, IntKind.bits, Nat.reducePow, Int.reducePow, Nat.min_def, extractv, fieldv, indexv, min2v, max2v, mkiv, cellsA, fillA, buildv, stC, oneC, rowMB, intsA, plN, appE, appZ, appC, appNZ, appNC, repA_one, VwL, srcC, srcZ, srcM, fresh_nil, fresh_cons, freshBut_nil, freshBut_cons, intsA_map, ne_eq, true_implies, forall_const, List.length_map, List.map_append, drop_getD0, Int.toNat_natCast, List.length_drop, List.length_take, Int.cast_ofNat_Int, isBoolT, isPtrT, isSliceT, uOk, List.size_toArray, List.length_cons, List.length_nil, List.getElem?_toArray, List.getElem?_cons_zero, List.getElem?_cons_succ, Option.bind_some, Option.map_some, Option.map_none, Option.isSome_some, Nat.reduceAdd, Nat.reduceMul, Nat.reduceSub, Nat.reduceLT, Nat.reduceLeDiff, Nat.reduceEqDiff, Nat.reduceBEq, Nat.reduceDiv, Nat.reduceMod, ↓reduceIte, reduceCtorEq, if_true, if_false, true_and, and_true, ite_true, ite_false, Bool.true_and, Bool.and_true, Bool.not_true, Bool.not_false, Bool.or_false, Bool.false_or, Bool.true_or, Bool.or_true, Bool.false_and, Bool.and_false, List.map_cons, List.map_nil, List.mem_cons, List.not_mem_nil, or_false, false_or, true_or, or_true, forall_eq_or_imp, forall_eq, List.all_cons, List.all_nil, List.append_nil, List.nil_append, List.cons_append, List.getD_cons_zero, List.getD_cons_succ, List.take_succ_cons, List.take_zero, List.drop_succ_cons, List.drop_zero, List.set_cons_zero, List.set_cons_succ, List.replicate_succ, List.replicate_zero, Value.oneCell', Nat.add_zero, Nat.zero_add, Nat.mul_one, Nat.one_mul, Int.toNat_zero, Int.reduceToNat, Int.reduceLT, Int.reduceLE, Nat.le_refl, Int.le_refl, Option.some.injEq, TypeDesc.slice.injEq, TypeDesc.int.injEq, List.length_replicate, TypeDesc.pointer.injEq, exists_eq, exists_eq_left, exists_eq_left', exists_eq', implies_true, beq_true, beq_false, and_self, beq_self_eq_true, bne_self_eq_false, decide_true, decide_false, cond_true, cond_false, Bool.not_eq_true', Bool.not_eq_false', imp_self, Bool.cond_false_right, Bool.cond_true_right, Bool.cond_true_left, Bool.cond_false_left, tyc2, zmb2, tyc3, zmb3, tyc4, zmb4, tyc23, zmb23, Try.underlying2, Try.underlying3, Try.underlying4, Try.underlying23, SeqQ, BlkQ, LoopQ, BodyQ, k1, e1, e2, e3, e4, n1, a7, c, f1, FR])
        | (refine WP.seq fun K hK => ?_)
        | (refine WP.region (rvc_sound _ _ (Sm.out ?_)))
        | (refine WP.drawK rfl mixed (by decide +kernel) (Sm.out ?_))
        | (refine And.intro ?_ ?_; focus (first | assumption | omega | decide | trivial | (intro hob; simp only [hob, Bool.not_eq_true', Bool.not_eq_false', Bool.not_false, Bool.not_true, Bool.true_and, Bool.and_true, Bool.false_and, Bool.and_false, true_and, and_true, imp_self, implies_true, and_self]; done) | (intros; (repeat' refine And.intro ?_ ?_) <;> first | assumption | omega | trivial | decide) | (intros; simp only [decide_eq_true_eq, decide_eq_false_iff_not, Bool.and_eq_true, Bool.or_eq_true, Bool.and_eq_false_iff, Bool.or_eq_false_iff, bne_iff_ne, bne_eq_false_iff_eq, Bool.not_eq_true', Bool.not_eq_false', Int.not_lt, Int.not_le] at *; (repeat' refine And.intro ?_ ?_) <;> first | assumption | omega | trivial)))
        | (refine WP.block ?_)
        | (refine WP.cond rfl (fun hc => ?_) (fun hc => ?_) <;> (try simp only [decide_eq_true_eq, decide_eq_false_iff_not, Bool.and_eq_true, Bool.or_eq_true, Bool.and_eq_false_iff, Bool.or_eq_false_iff, Bool.not_eq_true', Bool.not_eq_false', Int.not_lt, Int.not_le, reduceCtorEq, false_and, and_false, false_or, or_false, true_and, and_true, true_or, or_true, not_true_eq_false, not_false_eq_true, beq_iff_eq, beq_eq_false_iff_ne, bne_iff_ne, bne_eq_false_iff_eq, ne_eq, Decidable.not_not] at hc) <;> (try (exact absurd hc (by decide))) <;> (try (exfalso; omega)))
        | (refine WP.skip ?_; simp only [SeqQ, BlkQ, LoopQ, BodyQ, ↓reduceIte, Nat.reduceEqDiff, reduceCtorEq, look, true_and])
        | (refine WP.exit ?_; simp only [SeqQ, BlkQ, LoopQ, BodyQ, ↓reduceIte, Nat.reduceEqDiff, reduceCtorEq, look, true_and])
        | (refine WP.ret (Sm.out ?_))
        | (refine ExG.mk (x := AV.any) (fun hg => absurd hg (by decide)) (Sm.out ?_))
        | (refine Or.inl (ExG.mk (x := AV.any) (fun hg => absurd hg (by decide)) (Sm.out ?_)))
        | (refine Or.inl (And.intro (fun hg => absurd hg (by decide)) (ExG.mk (x := AV.any) (fun hg => absurd hg (by decide)) (Sm.out ?_))))
        | (refine Rt.mk ?_; refine And.intro ?_ ?_ <;> (intro hg; first | exact absurd hg (by decide) | refine Sm.out ?_))
        | (refine Nu.mk ?_; first | ((fail_if_success (have hx := nb1)); intro nb1) | ((fail_if_success (have hx := nb2)); intro nb2) | ((fail_if_success (have hx := nb3)); intro nb3) | ((fail_if_success (have hx := nb4)); intro nb4) | ((fail_if_success (have hx := nb5)); intro nb5) | ((fail_if_success (have hx := nb6)); intro nb6) | ((fail_if_success (have hx := nb7)); intro nb7) | ((fail_if_success (have hx := nb8)); intro nb8) | ((fail_if_success (have hx := nb9)); intro nb9) | ((fail_if_success (have hx := nb10)); intro nb10) | ((fail_if_success (have hx := nb11)); intro nb11) | ((fail_if_success (have hx := nb12)); intro nb12) | ((fail_if_success (have hx := nb13)); intro nb13) | ((fail_if_success (have hx := nb14)); intro nb14))
        | (refine Fr.mk ?_; intro hfr; replace FR := And.intro hfr FR; clear hfr; refine Sm.out ?_)
        | (refine Two.mk ?_ ?_)
        | (refine Cs.mk ?_; intro hcs; first | exact False.elim hcs | (exfalso; omega) | (refine Sm.out ?_))
        | (refine (show VwL _ _ _ from ?_); simp only [VwL, and_true, true_and])
        | exact Vw.same _
        | (refine Vw.row' (by simp only [hget, ↓reduceIte, if_true, if_false, FR, k1, e1, e2, e3, e4, n1, a7, c, f1]; first | done | rfl) ?_ ?_ ?_ ?_)
        | (refine And.intro (Vw.same _) ?_)
        | (refine And.intro (Vw.row' (by simp only [hget, ↓reduceIte, if_true, if_false, FR, k1, e1, e2, e3, e4, n1, a7, c, f1]; first | done | rfl) ?_ ?_ ?_ ?_) ?_)
        | go_step
        | omega
        | (simp only [maxLen_eq]; omega)
      exact ⟨⟨k + 1⟩, by simp only; omega, by simp only; omega, (Sub.pick (by simp [pickB, hget, hdel, FR, hd]) (by simp [look, hd]))⟩
    · have c : (((Q % (k + 1) : Nat) : Int) == 0) = false := by rw [beq_eq_false_iff_ne]; intro h0; exact hm (by exact_mod_cast h0)
      have hd : dn (Q) (k + 1) = dn (Q) k := dn_down hm
      first | (have FRx := FR; clear FRx) | (have FR : ¬ ((1 : Nat) = 0) := Nat.one_ne_zero)
      repeat' first
        | (refine Sm.mk ?_; try simp -dsimp only [rvc, drawF, headN, pureH, maxLen_eq, stp, dvc, calleeOf, gcall, pev, eff, newB, okd, og, ogs, ogo, ogp, slv, bltv, opd, litv, strip, one, both, putE, St.put, look, gdOf, gdv, picka, pickv, pickw, binv, bini, bins, binb, binp, bina, shp, eqCells, unv, convv, nilv, faddv, addp, idxav, idxp, load1, load1m, loadn, loadnm, loadv, hget, hset, hrep, hdel, slicev, List.length_append, bnd, shift1, lenv, IntKind.bits, Nat.reducePow, Int.reducePow, Nat.min_def, extractv, fieldv, indexv, min2v, max2v, mkiv, cellsA, fillA, buildv, stC, oneC, rowMB, intsA, plN, appE, appZ, appC, appNZ, appNC, repA_one, VwL, srcC, srcZ, srcM, fresh_nil, fresh_cons, freshBut_nil, freshBut_cons, intsA_map, ne_eq, true_implies, forall_const, List.length_map, List.map_append, drop_getD0, Int.toNat_natCast, List.length_drop, List.length_take, Int.cast_ofNat_Int, isBoolT, isPtrT, isSliceT, uOk, List.size_toArray, List.length_cons, List.length_nil, List.getElem?_toArray, List.getElem?_cons_zero, List.getElem?_cons_succ, Option.bind_some, Option.map_some, Option.map_none, Option.isSome_some, Nat.reduceAdd, Nat.reduceMul, Nat.reduceSub, Nat.reduceLT, Nat.reduceLeDiff, Nat.reduceEqDiff, Nat.reduceBEq, Nat.reduceDiv, Nat.reduceMod, ↓reduceIte, reduceCtorEq, if_true, if_false, true_and, and_true, ite_true, ite_false, Bool.true_and, Bool.and_true, Bool.not_true, Bool.not_false, Bool.or_false, Bool.false_or, Bool.true_or, Bool.or_true, Bool.false_and, Bool.and_false, List.map_cons, List.map_nil, List.mem_cons, List.not_mem_nil, or_false, false_or, true_or, or_true, forall_eq_or_imp, forall_eq, List.all_cons, List.all_nil, List.append_nil, List.nil_append, List.cons_append, List.getD_cons_zero, List.getD_cons_succ, List.take_succ_cons, List.take_zero, List.drop_succ_cons, List.drop_zero, List.set_cons_zero, List.set_cons_succ, List.replicate_succ, List.replicate_zero, Value.oneCell', Nat.add_zero, Nat.zero_add, Nat.mul_one, Nat.one_mul, Int.toNat_zero, Int.reduceToNat, Int.reduceLT, Int.reduceLE, Nat.le_refl, Int.le_refl, Option.some.injEq, TypeDesc.slice.injEq, TypeDesc.int.injEq, List.length_replicate, TypeDesc.pointer.injEq, exists_eq, exists_eq_left, exists_eq_left', exists_eq', implies_true, beq_true, beq_false, and_self, beq_self_eq_true, bne_self_eq_false, decide_true, decide_false, cond_true, cond_false, Bool.not_eq_true', Bool.not_eq_false', imp_self, Bool.cond_false_right, Bool.cond_true_right, Bool.cond_true_left, Bool.cond_false_left, tyc2, zmb2, tyc3, zmb3, tyc4, zmb4, tyc23, zmb23, Try.underlying2, Try.underlying3, Try.underlying4, Try.underlying23, SeqQ, BlkQ, LoopQ, BodyQ, k1, e1, e2, e3, e4, n1, a7, c, f1, FR])
        | (refine WP.seq fun K hK => ?_)
        | (refine WP.region (rvc_sound _ _ (Sm.out ?_)))
        | (refine WP.drawK rfl mixed (by decide +kernel) (Sm.out ?_))
        | (refine And.intro ?_ ?_; focus (first | assumption | omega | decide | trivial | (intro hob; simp only [hob, Bool.not_eq_true', Bool.not_eq_false', Bool.not_false, Bool.not_true, Bool.true_and, Bool.and_true, Bool.false_and, Bool.and_false, true_and, and_true, imp_self, implies_true, and_self]; done) | (intros; (repeat' refine And.intro ?_ ?_) <;> first | assumption | omega | trivial | decide) | (intros; simp only [decide_eq_true_eq, decide_eq_false_iff_not, Bool.and_eq_true, Bool.or_eq_true, Bool.and_eq_false_iff, Bool.or_eq_false_iff, bne_iff_ne, bne_eq_false_iff_eq, Bool.not_eq_true', Bool.not_eq_false', Int.not_lt, Int.not_le] at *; (repeat' refine And.intro ?_ ?_) <;> first | assumption | omega | trivial)))
        | (refine WP.block ?_)
        | (refine WP.cond rfl (fun hc => ?_) (fun hc => ?_) <;> (try simp only [decide_eq_true_eq, decide_eq_false_iff_not, Bool.and_eq_true, Bool.or_eq_true, Bool.and_eq_false_iff, Bool.or_eq_false_iff, Bool.not_eq_true', Bool.not_eq_false', Int.not_lt, Int.not_le, reduceCtorEq, false_and, and_false, false_or, or_false, true_and, and_true, true_or, or_true, not_true_eq_false, not_false_eq_true, beq_iff_eq, beq_eq_false_iff_ne, bne_iff_ne, bne_eq_false_iff_eq, ne_eq, Decidable.not_not] at hc) <;> (try (exact absurd hc (by decide))) <;> (try (exfalso; omega)))
        | (refine WP.skip ?_; simp only [SeqQ, BlkQ, LoopQ, BodyQ, ↓reduceIte, Nat.reduceEqDiff, reduceCtorEq, look, true_and])
        | (refine WP.exit ?_; simp only [SeqQ, BlkQ, LoopQ, BodyQ, ↓reduceIte, Nat.reduceEqDiff, reduceCtorEq, look, true_and])
        | (refine WP.ret (Sm.out ?_))
        | (refine ExG.mk (x := AV.any) (fun hg => absurd hg (by decide)) (Sm.out ?_))
        | (refine Or.inl (ExG.mk (x := AV.any) (fun hg => absurd hg (by decide)) (Sm.out ?_)))
        | (refine Or.inl (And.intro (fun hg => absurd hg (by decide)) (ExG.mk (x := AV.any) (fun hg => absurd hg (by decide)) (Sm.out ?_))))
        | (refine Rt.mk ?_; refine And.intro ?_ ?_ <;> (intro hg; first | exact absurd hg (by decide) | refine Sm.out ?_))
        | (refine Nu.mk ?_; first | ((fail_if_success (have hx := nb1)); intro nb1) | ((fail_if_success (have hx := nb2)); intro nb2) | ((fail_if_success (have hx := nb3)); intro nb3) | ((fail_if_success (have hx := nb4)); intro nb4) | ((fail_if_success (have hx := nb5)); intro nb5) | ((fail_if_success (have hx := nb6)); intro nb6) | ((fail_if_success (have hx := nb7)); intro nb7) | ((fail_if_success (have hx := nb8)); intro nb8) | ((fail_if_success (have hx := nb9)); intro nb9) | ((fail_if_success (have hx := nb10)); intro nb10) | ((fail_if_success (have hx := nb11)); intro nb11) | ((fail_if_success (have hx := nb12)); intro nb12) | ((fail_if_success (have hx := nb13)); intro nb13) | ((fail_if_success (have hx := nb14)); intro nb14))
        | (refine Fr.mk ?_; intro hfr; replace FR := And.intro hfr FR; clear hfr; refine Sm.out ?_)
        | (refine Two.mk ?_ ?_)
        | (refine Cs.mk ?_; intro hcs; first | exact False.elim hcs | (exfalso; omega) | (refine Sm.out ?_))
        | (refine (show VwL _ _ _ from ?_); simp only [VwL, and_true, true_and])
        | exact Vw.same _
        | (refine Vw.row' (by simp only [hget, ↓reduceIte, if_true, if_false, FR, k1, e1, e2, e3, e4, n1, a7, c, f1]; first | done | rfl) ?_ ?_ ?_ ?_)
        | (refine And.intro (Vw.same _) ?_)
        | (refine And.intro (Vw.row' (by simp only [hget, ↓reduceIte, if_true, if_false, FR, k1, e1, e2, e3, e4, n1, a7, c, f1]; first | done | rfl) ?_ ?_ ?_ ?_) ?_)
        | go_step
        | omega
        | (simp only [maxLen_eq]; omega)
      exact ⟨⟨k + 1⟩, by simp only; omega, by simp only; omega, (Sub.pick (by simp [pickB, hget, hdel, FR, hd]) (by simp [look, hd]))⟩
  · obtain rfl : k = 60 := by omega
    have k1 : decide (((60 + 1 : Nat) : Int) ≤ 60) = false := by decide
    obtain ⟨V, hV⟩ : ∃ V, V = dn (Q) 60 := ⟨_, rfl⟩
    have hV' : bkN W G = V := by rw [hbk, hV]
    rw [← hV]
    first | (have FRx := FR; clear FRx) | (have FR : ¬ ((1 : Nat) = 0) := Nat.one_ne_zero)
    repeat' first
      | (refine Sm.mk ?_; try simp -dsimp only [rvc, drawF, headN, pureH, maxLen_eq, stp, dvc, calleeOf, gcall, pev, eff, newB, okd, og, ogs, ogo, ogp, slv, bltv, opd, litv, strip, one, both, putE, St.put, look, gdOf, gdv, picka, pickv, pickw, binv, bini, bins, binb, binp, bina, shp, eqCells, unv, convv, nilv, faddv, addp, idxav, idxp, load1, load1m, loadn, loadnm, loadv, hget, hset, hrep, hdel, slicev, List.length_append, bnd, shift1, lenv, IntKind.bits, Nat.reducePow, Int.reducePow, Nat.min_def, extractv, fieldv, indexv, min2v, max2v, mkiv, cellsA, fillA, buildv, stC, oneC, rowMB, intsA, plN, appE, appZ, appC, appNZ, appNC, repA_one, VwL, srcC, srcZ, srcM, fresh_nil, fresh_cons, freshBut_nil, freshBut_cons, intsA_map, ne_eq, true_implies, forall_const, List.length_map, List.map_append, drop_getD0, Int.toNat_natCast, List.length_drop, List.length_take, Int.cast_ofNat_Int, isBoolT, isPtrT, isSliceT, uOk, List.size_toArray, List.length_cons, List.length_nil, List.getElem?_toArray, List.getElem?_cons_zero, List.getElem?_cons_succ, Option.bind_some, Option.map_some, Option.map_none, Option.isSome_some, Nat.reduceAdd, Nat.reduceMul, Nat.reduceSub, Nat.reduceLT, Nat.reduceLeDiff, Nat.reduceEqDiff, Nat.reduceBEq, Nat.reduceDiv, Nat.reduceMod, ↓reduceIte, reduceCtorEq, if_true, if_false, true_and, and_true, ite_true, ite_false, Bool.true_and, Bool.and_true, Bool.not_true, Bool.not_false, Bool.or_false, Bool.false_or, Bool.true_or, Bool.or_true, Bool.false_and, Bool.and_false, List.map_cons, List.map_nil, List.mem_cons, List.not_mem_nil, or_false, false_or, true_or, or_true, forall_eq_or_imp, forall_eq, List.all_cons, List.all_nil, List.append_nil, List.nil_append, List.cons_append, List.getD_cons_zero, List.getD_cons_succ, List.take_succ_cons, List.take_zero, List.drop_succ_cons, List.drop_zero, List.set_cons_zero, List.set_cons_succ, List.replicate_succ, List.replicate_zero, Value.oneCell', Nat.add_zero, Nat.zero_add, Nat.mul_one, Nat.one_mul, Int.toNat_zero, Int.reduceToNat, Int.reduceLT, Int.reduceLE, Nat.le_refl, Int.le_refl, Option.some.injEq, TypeDesc.slice.injEq, TypeDesc.int.injEq, List.length_replicate, TypeDesc.pointer.injEq, exists_eq, exists_eq_left, exists_eq_left', exists_eq', implies_true, beq_true, beq_false, and_self, beq_self_eq_true, bne_self_eq_false, decide_true, decide_false, cond_true, cond_false, Bool.not_eq_true', Bool.not_eq_false', imp_self, Bool.cond_false_right, Bool.cond_true_right, Bool.cond_true_left, Bool.cond_false_left, tyc2, zmb2, tyc3, zmb3, tyc4, zmb4, tyc23, zmb23, Try.underlying2, Try.underlying3, Try.underlying4, Try.underlying23, SeqQ, BlkQ, LoopQ, BodyQ, k1, hV', FR])
      | (refine WP.seq fun K hK => ?_)
      | (refine WP.region (rvc_sound _ _ (Sm.out ?_)))
      | (refine WP.drawK rfl mixed (by decide +kernel) (Sm.out ?_))
      | (refine And.intro ?_ ?_; focus (first | assumption | omega | decide | trivial | (intro hob; simp only [hob, Bool.not_eq_true', Bool.not_eq_false', Bool.not_false, Bool.not_true, Bool.true_and, Bool.and_true, Bool.false_and, Bool.and_false, true_and, and_true, imp_self, implies_true, and_self]; done) | (intros; (repeat' refine And.intro ?_ ?_) <;> first | assumption | omega | trivial | decide) | (intros; simp only [decide_eq_true_eq, decide_eq_false_iff_not, Bool.and_eq_true, Bool.or_eq_true, Bool.and_eq_false_iff, Bool.or_eq_false_iff, bne_iff_ne, bne_eq_false_iff_eq, Bool.not_eq_true', Bool.not_eq_false', Int.not_lt, Int.not_le] at *; (repeat' refine And.intro ?_ ?_) <;> first | assumption | omega | trivial)))
      | (refine WP.block ?_)
      | (refine WP.cond rfl (fun hc => ?_) (fun hc => ?_) <;> (try simp only [decide_eq_true_eq, decide_eq_false_iff_not, Bool.and_eq_true, Bool.or_eq_true, Bool.and_eq_false_iff, Bool.or_eq_false_iff, Bool.not_eq_true', Bool.not_eq_false', Int.not_lt, Int.not_le, reduceCtorEq, false_and, and_false, false_or, or_false, true_and, and_true, true_or, or_true, not_true_eq_false, not_false_eq_true, beq_iff_eq, beq_eq_false_iff_ne, bne_iff_ne, bne_eq_false_iff_eq, ne_eq, Decidable.not_not] at hc) <;> (try (exact absurd hc (by decide))) <;> (try (exfalso; omega)))
      | (refine WP.skip ?_; simp only [SeqQ, BlkQ, LoopQ, BodyQ, ↓reduceIte, Nat.reduceEqDiff, reduceCtorEq, look, true_and])
      | (refine WP.exit ?_; simp only [SeqQ, BlkQ, LoopQ, BodyQ, ↓reduceIte, Nat.reduceEqDiff, reduceCtorEq, look, true_and])
      | (refine WP.ret (Sm.out ?_))
      | (refine ExG.mk (x := AV.any) (fun hg => absurd hg (by decide)) (Sm.out ?_))
      | (refine Or.inl (ExG.mk (x := AV.any) (fun hg => absurd hg (by decide)) (Sm.out ?_)))
      | (refine Or.inl (And.intro (fun hg => absurd hg (by decide)) (ExG.mk (x := AV.any) (fun hg => absurd hg (by decide)) (Sm.out ?_))))
      | (refine Rt.mk ?_; refine And.intro ?_ ?_ <;> (intro hg; first | exact absurd hg (by decide) | refine Sm.out ?_))
      | (refine Nu.mk ?_; first | ((fail_if_success (have hx := nb1)); intro nb1) | ((fail_if_success (have hx := nb2)); intro nb2) | ((fail_if_success (have hx := nb3)); intro nb3) | ((fail_if_success (have hx := nb4)); intro nb4) | ((fail_if_success (have hx := nb5)); intro nb5) | ((fail_if_success (have hx := nb6)); intro nb6) | ((fail_if_success (have hx := nb7)); intro nb7) | ((fail_if_success (have hx := nb8)); intro nb8) | ((fail_if_success (have hx := nb9)); intro nb9) | ((fail_if_success (have hx := nb10)); intro nb10) | ((fail_if_success (have hx := nb11)); intro nb11) | ((fail_if_success (have hx := nb12)); intro nb12) | ((fail_if_success (have hx := nb13)); intro nb13) | ((fail_if_success (have hx := nb14)); intro nb14))
      | (refine Fr.mk ?_; intro hfr; replace FR := And.intro hfr FR; clear hfr; refine Sm.out ?_)
      | (refine Two.mk ?_ ?_)
      | (refine Cs.mk ?_; intro hcs; first | exact False.elim hcs | (exfalso; omega) | (refine Sm.out ?_))
      | (refine (show VwL _ _ _ from ?_); simp only [VwL, and_true, true_and])
      | exact Vw.same _
      | (refine Vw.row' (by simp only [hget, ↓reduceIte, if_true, if_false, FR, k1, hV']; first | done | rfl) ?_ ?_ ?_ ?_)
      | (refine And.intro (Vw.same _) ?_)
      | (refine And.intro (Vw.row' (by simp only [hget, ↓reduceIte, if_true, if_false, FR, k1, hV']; first | done | rfl) ?_ ?_ ?_ ?_) ?_)
      | (refine OutQ.all ?_ ?_; (focus (simp only [resv, look, loadv, loadn, loadnm, load1, load1m, hget, maxLen_eq, ↓reduceIte, if_true, if_false, ite_true, ite_false, Nat.reduceEqDiff, Nat.reduceAdd, Nat.reduceMul, Nat.reduceLeDiff, Nat.reduceLT, reduceCtorEq, true_and, and_true, and_self, List.length_cons, List.length_nil, List.length_map, List.length_replicate, List.take_succ_cons, List.take_zero, List.drop_zero, List.drop_succ_cons, List.map_cons, List.map_nil, List.getD_cons_zero, List.getD_cons_succ, Nat.zero_add, Nat.add_zero, Nat.le_refl, Option.some.injEq, ne_eq, tyc2, tyc3, tyc4, tyc23, k1, hV', FR])); (try simp only [resv, resA, Fn, look, loadv, loadn, loadnm, load1, load1m, hget, maxLen_eq, ↓reduceIte, if_true, if_false, ite_true, ite_false, Nat.reduceEqDiff, Nat.reduceAdd, Nat.reduceMul, Nat.reduceLeDiff, Nat.reduceLT, reduceCtorEq, true_and, and_true, and_self, List.length_cons, List.length_nil, List.length_map, List.length_replicate, List.take_succ_cons, List.take_zero, List.drop_zero, List.drop_succ_cons, List.map_cons, List.map_nil, List.getD_cons_zero, List.getD_cons_succ, Nat.zero_add, Nat.add_zero, Nat.le_refl, Option.some.injEq, ne_eq, tyc2, tyc3, tyc4, tyc23, k1, hV', FR]); (try simp [resA, Fn, look, k1, hV', FR]); done)
      | go_step
      | omega
      | (simp only [maxLen_eq]; omega)
theorem Within_ct (W G k w now at_ : Nat) (hg : goP W G) (h : GoOk W G k w) (hn : now ≤ 253402300799) (ha : at_ ≤ 253402300799) :
    ACt Try.prog 35 [iv .i64 W, iv .i64 G, iv .i64 now, iv .i64 at_] [] (Fn (bv (decide (now / w < at_ / w + k)))) := by
  refine ACt.intro Try.func35 rfl (by kernel_rfl) (by simp [Try.ntmps35]) (fun cx => ?_)
  simp only [argE, Try.ntmps35, Try.results35]
  have c1 := Buckets_ct W G hg
  rw [← h.hk] at c1
  have hk1 := h.k1
  have hk2 := h.k2
  have hw1 := h.w0
  have n1 : ¬ (k : Int) = 0 := by omega
  have n2 : ¬ (w : Int) = 0 := by omega
  have e1 : (W : Int).tdiv (k : Int) = (w : Int) := by rw [h.hw, Int.tdiv_eq_ediv_of_nonneg (by omega)]; simp
  have hwW : w ≤ W := by rw [h.hw]; exact Nat.div_le_self _ _
  have hW := h.w2
  have e2 : IntKind.i64.wrap (w : Int) = (w : Int) := wrap_i64_nat (by omega)
  obtain ⟨A, hA⟩ : ∃ A, A = now / w := ⟨_, rfl⟩
  obtain ⟨B, hB⟩ : ∃ B, B = at_ / w := ⟨_, rfl⟩
  have hn2 : A ≤ now := by rw [hA]; exact Nat.div_le_self now w
  have ha2 : B ≤ at_ := by rw [hB]; exact Nat.div_le_self at_ w
  have e3 : (now : Int).tdiv (w : Int) = (A : Int) := by rw [hA, Int.tdiv_eq_ediv_of_nonneg (by omega)]; simp
  have e4 : IntKind.i64.wrap (A : Int) = (A : Int) := wrap_i64_nat (by omega)
  have e5 : (at_ : Int).tdiv (w : Int) = (B : Int) := by rw [hB, Int.tdiv_eq_ediv_of_nonneg (by omega)]; simp
  have e6 : IntKind.i64.wrap (B : Int) = (B : Int) := wrap_i64_nat (by omega)
  have e7 : IntKind.i64.wrap ((A : Int) - (k : Int)) = (A : Int) - (k : Int) := wrap_i64 (by omega) (by omega)
  have e8 : decide ((B : Int) > (A : Int) - (k : Int)) = decide (A < B + k) := by rw [Bool.eq_iff_iff]; simp only [decide_eq_true_eq]; omega
  rw [← hA, ← hB]
  first | (have FRx := FR; clear FRx) | (have FR : ¬ ((1 : Nat) = 0) := Nat.one_ne_zero)
  repeat' first
    | (refine Sm.mk ?_; try simp -dsimp only [rvc, drawF, headN, pureH, maxLen_eq, stp, dvc, calleeOf, gcall, pev, eff, newB, okd, og, ogs, ogo, ogp, slv, bltv, opd, litv, strip, one, both, putE, St.put, look, gdOf, gdv, picka, pickv, pickw, binv, bini, bins, binb, binp, bina, shp, eqCells, unv, convv, nilv, faddv, addp, idxav, idxp, load1, load1m, loadn, loadnm, loadv, hget, hset, hrep, hdel, slicev, List.length_append, bnd, shift1, lenv, IntKind.bits, Nat.reducePow, Int.reducePow, Nat.min_def, extractv, fieldv, indexv, min2v, max2v, mkiv, cellsA, fillA, buildv, stC, oneC, rowMB, intsA, plN, appE, appZ, appC, appNZ, appNC, repA_one, VwL, srcC, srcZ, srcM, fresh_nil, fresh_cons, freshBut_nil, freshBut_cons, intsA_map, ne_eq, true_implies, forall_const, List.length_map, List.map_append, drop_getD0, Int.toNat_natCast, List.length_drop, List.length_take, Int.cast_ofNat_Int, isBoolT, isPtrT, isSliceT, uOk, List.size_toArray, List.length_cons, List.length_nil, List.getElem?_toArray, List.getElem?_cons_zero, List.getElem?_cons_succ, Option.bind_some, Option.map_some, Option.map_none, Option.isSome_some, Nat.reduceAdd, Nat.reduceMul, Nat.reduceSub, Nat.reduceLT, Nat.reduceLeDiff, Nat.reduceEqDiff, Nat.reduceBEq, Nat.reduceDiv, Nat.reduceMod, ↓reduceIte, reduceCtorEq, if_true, if_false, true_and, and_true, ite_true, ite_false, Bool.true_and, Bool.and_true, Bool.not_true, Bool.not_false, Bool.or_false, Bool.false_or, Bool.true_or, Bool.or_true, Bool.false_and, Bool.and_false, List.map_cons, List.map_nil, List.mem_cons, List.not_mem_nil, or_false, false_or, true_or, or_true, forall_eq_or_imp, forall_eq, List.all_cons, List.all_nil, List.append_nil, List.nil_append, List.cons_append, List.getD_cons_zero, List.getD_cons_succ, List.take_succ_cons, List.take_zero, List.drop_succ_cons, List.drop_zero, List.set_cons_zero, List.set_cons_succ, List.replicate_succ, List.replicate_zero, Value.oneCell', Nat.add_zero, Nat.zero_add, Nat.mul_one, Nat.one_mul, Int.toNat_zero, Int.reduceToNat, Int.reduceLT, Int.reduceLE, Nat.le_refl, Int.le_refl, Option.some.injEq, TypeDesc.slice.injEq, TypeDesc.int.injEq, List.length_replicate, TypeDesc.pointer.injEq, exists_eq, exists_eq_left, exists_eq_left', exists_eq', implies_true, beq_true, beq_false, and_self, beq_self_eq_true, bne_self_eq_false, decide_true, decide_false, cond_true, cond_false, Bool.not_eq_true', Bool.not_eq_false', imp_self, Bool.cond_false_right, Bool.cond_true_right, Bool.cond_true_left, Bool.cond_false_left, tyc2, zmb2, tyc3, zmb3, tyc4, zmb4, tyc23, zmb23, Try.underlying2, Try.underlying3, Try.underlying4, Try.underlying23, SeqQ, BlkQ, LoopQ, BodyQ, n1, n2, e1, e2, e3, e4, e5, e6, e7, e8, FR])
    | (refine CallV.fn (c1) (Sm.out ?_))
    | (refine ExF.mk (c1) (Sm.out ?_))
    | (refine ExG.mk (fun hg => c1) (Sm.out ?_))
    | (refine Or.inl (ExG.mk (fun hg => c1) (Sm.out ?_)))
    | (refine Or.inl (And.intro ?_ (ExG.mk (fun hg => c1) (Sm.out ?_))); focus (first | omega | assumption | decide | trivial | (intros; (repeat' refine And.intro ?_ ?_) <;> first | assumption | omega | trivial | decide) | (intros; simp only [decide_eq_true_eq, decide_eq_false_iff_not, Bool.and_eq_true, Bool.or_eq_true, Bool.and_eq_false_iff, Bool.or_eq_false_iff, bne_iff_ne, bne_eq_false_iff_eq, Bool.not_eq_true', Bool.not_eq_false', Int.not_lt, Int.not_le] at *; (repeat' refine And.intro ?_ ?_) <;> first | assumption | omega | trivial)))
    | (refine WP.seq fun K hK => ?_)
    | (refine WP.region (rvc_sound _ _ (Sm.out ?_)))
    | (refine WP.drawK rfl mixed (by decide +kernel) (Sm.out ?_))
    | (refine And.intro ?_ ?_; focus (first | assumption | omega | decide | trivial | (intro hob; simp only [hob, Bool.not_eq_true', Bool.not_eq_false', Bool.not_false, Bool.not_true, Bool.true_and, Bool.and_true, Bool.false_and, Bool.and_false, true_and, and_true, imp_self, implies_true, and_self]; done) | (intros; (repeat' refine And.intro ?_ ?_) <;> first | assumption | omega | trivial | decide) | (intros; simp only [decide_eq_true_eq, decide_eq_false_iff_not, Bool.and_eq_true, Bool.or_eq_true, Bool.and_eq_false_iff, Bool.or_eq_false_iff, bne_iff_ne, bne_eq_false_iff_eq, Bool.not_eq_true', Bool.not_eq_false', Int.not_lt, Int.not_le] at *; (repeat' refine And.intro ?_ ?_) <;> first | assumption | omega | trivial)))
    | (refine WP.block ?_)
    | (refine WP.cond rfl (fun hc => ?_) (fun hc => ?_) <;> (try simp only [decide_eq_true_eq, decide_eq_false_iff_not, Bool.and_eq_true, Bool.or_eq_true, Bool.and_eq_false_iff, Bool.or_eq_false_iff, Bool.not_eq_true', Bool.not_eq_false', Int.not_lt, Int.not_le, reduceCtorEq, false_and, and_false, false_or, or_false, true_and, and_true, true_or, or_true, not_true_eq_false, not_false_eq_true, beq_iff_eq, beq_eq_false_iff_ne, bne_iff_ne, bne_eq_false_iff_eq, ne_eq, Decidable.not_not] at hc) <;> (try (exact absurd hc (by decide))) <;> (try (exfalso; omega)))
    | (refine WP.skip ?_; simp only [SeqQ, BlkQ, LoopQ, BodyQ, ↓reduceIte, Nat.reduceEqDiff, reduceCtorEq, look, true_and])
    | (refine WP.exit ?_; simp only [SeqQ, BlkQ, LoopQ, BodyQ, ↓reduceIte, Nat.reduceEqDiff, reduceCtorEq, look, true_and])
    | (refine WP.ret (Sm.out ?_))
    | (refine ExG.mk (x := AV.any) (fun hg => absurd hg (by decide)) (Sm.out ?_))
    | (refine Or.inl (ExG.mk (x := AV.any) (fun hg => absurd hg (by decide)) (Sm.out ?_)))
    | (refine Or.inl (And.intro (fun hg => absurd hg (by decide)) (ExG.mk (x := AV.any) (fun hg => absurd hg (by decide)) (Sm.out ?_))))
    | (refine Rt.mk ?_; refine And.intro ?_ ?_ <;> (intro hg; first | exact absurd hg (by decide) | refine Sm.out ?_))
    | (refine Nu.mk ?_; first | ((fail_if_success (have hx := nb1)); intro nb1) | ((fail_if_success (have hx := nb2)); intro nb2) | ((fail_if_success (have hx := nb3)); intro nb3) | ((fail_if_success (have hx := nb4)); intro nb4) | ((fail_if_success (have hx := nb5)); intro nb5) | ((fail_if_success (have hx := nb6)); intro nb6) | ((fail_if_success (have hx := nb7)); intro nb7) | ((fail_if_success (have hx := nb8)); intro nb8) | ((fail_if_success (have hx := nb9)); intro nb9) | ((fail_if_success (have hx := nb10)); intro nb10) | ((fail_if_success (have hx := nb11)); intro nb11) | ((fail_if_success (have hx := nb12)); intro nb12) | ((fail_if_success (have hx := nb13)); intro nb13) | ((fail_if_success (have hx := nb14)); intro nb14))
    | (refine Fr.mk ?_; intro hfr; replace FR := And.intro hfr FR; clear hfr; refine Sm.out ?_)
    | (refine Two.mk ?_ ?_)
    | (refine Cs.mk ?_; intro hcs; first | exact False.elim hcs | (exfalso; omega) | (refine Sm.out ?_))
    | (refine (show VwL _ _ _ from ?_); simp only [VwL, and_true, true_and])
    | exact Vw.same _
    | (refine Vw.row' (by simp only [hget, ↓reduceIte, if_true, if_false, FR, n1, n2, e1, e2, e3, e4, e5, e6, e7, e8]; first | done | rfl) ?_ ?_ ?_ ?_)
    | (refine And.intro (Vw.same _) ?_)
    | (refine And.intro (Vw.row' (by simp only [hget, ↓reduceIte, if_true, if_false, FR, n1, n2, e1, e2, e3, e4, e5, e6, e7, e8]; first | done | rfl) ?_ ?_ ?_ ?_) ?_)
    | (refine OutQ.all ?_ ?_; (focus (simp only [resv, look, loadv, loadn, loadnm, load1, load1m, hget, maxLen_eq, ↓reduceIte, if_true, if_false, ite_true, ite_false, Nat.reduceEqDiff, Nat.reduceAdd, Nat.reduceMul, Nat.reduceLeDiff, Nat.reduceLT, reduceCtorEq, true_and, and_true, and_self, List.length_cons, List.length_nil, List.length_map, List.length_replicate, List.take_succ_cons, List.take_zero, List.drop_zero, List.drop_succ_cons, List.map_cons, List.map_nil, List.getD_cons_zero, List.getD_cons_succ, Nat.zero_add, Nat.add_zero, Nat.le_refl, Option.some.injEq, ne_eq, tyc2, tyc3, tyc4, tyc23, n1, n2, e1, e2, e3, e4, e5, e6, e7, e8, FR])); (try simp only [resv, resA, Fn, look, loadv, loadn, loadnm, load1, load1m, hget, maxLen_eq, ↓reduceIte, if_true, if_false, ite_true, ite_false, Nat.reduceEqDiff, Nat.reduceAdd, Nat.reduceMul, Nat.reduceLeDiff, Nat.reduceLT, reduceCtorEq, true_and, and_true, and_self, List.length_cons, List.length_nil, List.length_map, List.length_replicate, List.take_succ_cons, List.take_zero, List.drop_zero, List.drop_succ_cons, List.map_cons, List.map_nil, List.getD_cons_zero, List.getD_cons_succ, Nat.zero_add, Nat.add_zero, Nat.le_refl, Option.some.injEq, ne_eq, tyc2, tyc3, tyc4, tyc23, n1, n2, e1, e2, e3, e4, e5, e6, e7, e8, FR]); (try simp [resA, Fn, look, n1, n2, e1, e2, e3, e4, e5, e6, e7, e8, FR]); done)
    | go_step
    | omega
    | (simp only [maxLen_eq]; omega)
end Go.Proofs.Ytbnkmhlnoaebcaa
