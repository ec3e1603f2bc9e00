/-
  The walks of the document's comparison and of the example; the law ExactRatios.
-/
import Derived.Test.YtngdgicgppaeaaaExE
namespace Go.Proofs.Ytngdgicgppaeaaa
open Go
set_option linter.unusedVariables false
set_option linter.unusedSimpArgs false

theorem valB_split (l : List Bool) (i : Nat) : valB l = valB (l.take i) + 2 ^ i * valB (l.drop i) ∧ valB (l.take i) < 2 ^ i := by
  by_cases h : i ≤ l.length
  · have e := valB_app (l.take i) (l.drop i)
    rw [List.take_append_drop, List.length_take, Nat.min_eq_left h] at e
    have hb := valB_lt (l.take i)
    rw [List.length_take, Nat.min_eq_left h] at hb
    exact ⟨e, hb⟩
  · rw [List.take_of_length_le (by omega), List.drop_eq_nil_of_le (by omega)]
    have hb := valB_lt l
    have : 2 ^ l.length ≤ 2 ^ i := Nat.pow_le_pow_right (by omega) (by omega)
    exact ⟨by simp [valB], by omega⟩
theorem cmp_drop {x y : List Bool} {i : Nat} (h : valB (x.drop i) < valB (y.drop i)) : valB x < valB y := by
  obtain ⟨e1, h1⟩ := valB_split x i
  obtain ⟨e2, h2⟩ := valB_split y i
  rw [e1, e2]
  have h3 : 2 ^ i * (valB (x.drop i) + 1) ≤ 2 ^ i * valB (y.drop i) := Nat.mul_le_mul_left _ h
  rw [Nat.mul_add, Nat.mul_one] at h3
  omega
theorem cmp_eqv {x y : List Bool} (h : valB (x.drop 0) = valB (y.drop 0)) : cmpN (valB x) (valB y) = 0 := by
  simp only [List.drop_zero] at h
  unfold cmpN; rw [h]; simp
set_option maxRecDepth 8000 in
set_option maxHeartbeats 1000000 in
theorem rcmp_ct (x y : List Bool) (n m : Nat) (hn : x.length = n) (hm : y.length = m) (hx : n ≤ 1000000) (hy : m ≤ 1000000) :
    ACt Try.prog 27 [.sl n (bl x), .sl m (bl y)] [] (Fn (iv .i64 (cmpN (valB x) (valB y)))) := by
  subst hn hm
  refine ACt.intro Try.func27 rfl (by kernel_rfl) (by simp [Try.ntmps27]) (fun cx => ?_)
  simp only [argE, Try.ntmps27, Try.results27]
  obtain ⟨V, hV⟩ : ∃ V, V = cmpN (valB x) (valB y) := ⟨_, rfl⟩
  rw [← hV]
  have hround : ∀ (K : St → Prop), WP Try.prog cx 35 (.skip) (fun _ _ => True) ⟨[], []⟩ → True := fun _ _ => trivial
  have body : ∀ (N : Nat), x.length ≤ N → y.length ≤ N → valB (x.drop N) = valB (y.drop N) := fun N h1 h2 => by rw [List.drop_eq_nil_of_le h1, List.drop_eq_nil_of_le h2]
  by_cases hlen : y.length > x.length
  · have k0 : decide ((y.length : Int) > x.length) = true := by simp; omega
    have g0 : IntKind.i64.wrap ((y.length : Int) - 1) = (y.length : Int) - 1 := wrap_i64 (by omega) (by omega)
    first | (have FRx := FR; clear FRx) | (have FR : ¬ ((1 : Nat) = 0) := Nat.one_ne_zero)
    repeat' first
      | (refine Sm.mk ?_; try simp -dsimp only [rvc, drawF, headN, pureH, maxLen_eq, stp, dvc, calleeOf, gcall, pev, eff, newB, okd, og, ogs, ogo, ogp, slv, bltv, opd, litv, strip, one, both, putE, St.put, look, gdOf, gdv, picka, pickv, pickw, binv, bini, bins, binb, binp, bina, shp, eqCells, unv, convv, nilv, faddv, addp, idxav, idxp, load1, load1m, loadn, loadnm, loadv, hget, hset, hrep, hdel, slicev, List.length_append, bnd, shift1, lenv, IntKind.bits, Nat.reducePow, Int.reducePow, Nat.min_def, extractv, fieldv, indexv, min2v, max2v, mkiv, cellsA, fillA, buildv, stC, oneC, rowMB, intsA, plN, appE, appZ, appC, appNZ, appNC, repA_one, VwL, srcC, srcZ, srcM, fresh_nil, fresh_cons, freshBut_nil, freshBut_cons, intsA_map, ne_eq, true_implies, forall_const, List.length_map, List.map_append, drop_getD0, Int.toNat_natCast, List.length_drop, List.length_take, Int.cast_ofNat_Int, isBoolT, isPtrT, isSliceT, uOk, List.size_toArray, List.length_cons, List.length_nil, List.getElem?_toArray, List.getElem?_cons_zero, List.getElem?_cons_succ, Option.bind_some, Option.map_some, Option.map_none, Option.isSome_some, Nat.reduceAdd, Nat.reduceMul, Nat.reduceSub, Nat.reduceLT, Nat.reduceLeDiff, Nat.reduceEqDiff, Nat.reduceBEq, Nat.reduceDiv, Nat.reduceMod, ↓reduceIte, reduceCtorEq, if_true, if_false, true_and, and_true, ite_true, ite_false, Bool.true_and, Bool.and_true, Bool.not_true, Bool.not_false, Bool.or_false, Bool.false_or, Bool.true_or, Bool.or_true, Bool.false_and, Bool.and_false, List.map_cons, List.map_nil, List.mem_cons, List.not_mem_nil, or_false, false_or, true_or, or_true, forall_eq_or_imp, forall_eq, List.all_cons, List.all_nil, List.append_nil, List.nil_append, List.cons_append, List.getD_cons_zero, List.getD_cons_succ, List.take_succ_cons, List.take_zero, List.drop_succ_cons, List.drop_zero, List.set_cons_zero, List.set_cons_succ, List.replicate_succ, List.replicate_zero, Value.oneCell', Nat.add_zero, Nat.zero_add, Nat.mul_one, Nat.one_mul, Int.toNat_zero, Int.reduceToNat, Int.reduceLT, Int.reduceLE, Nat.le_refl, Int.le_refl, Option.some.injEq, TypeDesc.slice.injEq, TypeDesc.int.injEq, List.length_replicate, TypeDesc.pointer.injEq, exists_eq, exists_eq_left, exists_eq_left', exists_eq', implies_true, beq_true, beq_false, and_self, beq_self_eq_true, bne_self_eq_false, decide_true, decide_false, cond_true, cond_false, Bool.not_eq_true', Bool.not_eq_false', imp_self, Bool.cond_false_right, Bool.cond_true_right, Bool.cond_true_left, Bool.cond_false_left, tyc3, zmb3, tyc4, zmb4, tyc37, elt37, mkz37, mkc37, apT37, elk37, zmb37, Try.underlying3, Try.underlying4, Try.underlying37, SeqQ, BlkQ, LoopQ, BodyQ, k0, g0, FR])
      | (refine WP.seq fun K hK => ?_)
      | (refine WP.region (rvc_sound _ _ (Sm.out ?_)))
      | (refine WP.drawK rfl mixed (by decide +kernel) (Sm.out ?_))
      | (refine And.intro ?_ ?_; focus (first | assumption | omega | decide | trivial | (intro hob; simp only [hob, Bool.not_eq_true', Bool.not_eq_false', Bool.not_false, Bool.not_true, Bool.true_and, Bool.and_true, Bool.false_and, Bool.and_false, true_and, and_true, imp_self, implies_true, and_self]; done) | (intros; (repeat' refine And.intro ?_ ?_) <;> first | assumption | omega | trivial | decide) | (intros; simp only [decide_eq_true_eq, decide_eq_false_iff_not, Bool.and_eq_true, Bool.or_eq_true, Bool.and_eq_false_iff, Bool.or_eq_false_iff, bne_iff_ne, bne_eq_false_iff_eq, Int.not_lt, Int.not_le] at *; (repeat' refine And.intro ?_ ?_) <;> first | assumption | omega | trivial)))
      | (refine WP.block ?_)
      | (refine WP.cond rfl (fun hc => ?_) (fun hc => ?_) <;> (try simp only [decide_eq_true_eq, decide_eq_false_iff_not, Bool.and_eq_true, Bool.or_eq_true, Bool.and_eq_false_iff, Bool.or_eq_false_iff, Bool.not_eq_true', Bool.not_eq_false', Int.not_lt, Int.not_le, reduceCtorEq, false_and, and_false, false_or, or_false, true_and, and_true, true_or, or_true, not_true_eq_false, not_false_eq_true, beq_iff_eq, beq_eq_false_iff_ne, bne_iff_ne, bne_eq_false_iff_eq, ne_eq, Decidable.not_not] at hc) <;> (try (exact absurd hc (by decide))) <;> (try (exfalso; omega)))
      | (refine WP.skip ?_; simp only [SeqQ, BlkQ, LoopQ, BodyQ, ↓reduceIte, Nat.reduceEqDiff, reduceCtorEq, look, true_and])
      | (refine WP.exit ?_; simp only [SeqQ, BlkQ, LoopQ, BodyQ, ↓reduceIte, Nat.reduceEqDiff, reduceCtorEq, look, true_and])
      | (refine WP.ret (Sm.out ?_))
      | (refine ExG.mk (x := AV.any) (fun hg => absurd hg (by decide)) (Sm.out ?_))
      | (refine Or.inl (ExG.mk (x := AV.any) (fun hg => absurd hg (by decide)) (Sm.out ?_)))
      | (refine Or.inl (And.intro (fun hg => absurd hg (by decide)) (ExG.mk (x := AV.any) (fun hg => absurd hg (by decide)) (Sm.out ?_))))
      | (refine Rt.mk ?_; refine And.intro ?_ ?_ <;> (intro hg; first | exact absurd hg (by decide) | refine Sm.out ?_))
      | (refine Nu.mk ?_; first | ((fail_if_success (have hx := nb1)); intro nb1) | ((fail_if_success (have hx := nb2)); intro nb2) | ((fail_if_success (have hx := nb3)); intro nb3) | ((fail_if_success (have hx := nb4)); intro nb4) | ((fail_if_success (have hx := nb5)); intro nb5) | ((fail_if_success (have hx := nb6)); intro nb6) | ((fail_if_success (have hx := nb7)); intro nb7) | ((fail_if_success (have hx := nb8)); intro nb8) | ((fail_if_success (have hx := nb9)); intro nb9) | ((fail_if_success (have hx := nb10)); intro nb10) | ((fail_if_success (have hx := nb11)); intro nb11) | ((fail_if_success (have hx := nb12)); intro nb12) | ((fail_if_success (have hx := nb13)); intro nb13) | ((fail_if_success (have hx := nb14)); intro nb14))
      | (refine Fr.mk ?_; intro hfr; replace FR := And.intro hfr FR; clear hfr; refine Sm.out ?_)
      | (refine Two.mk ?_ ?_)
      | (refine Cs.mk ?_; intro hcs; first | exact False.elim hcs | (exfalso; omega) | (refine Sm.out ?_))
      | (refine (show VwL _ _ _ from ?_); simp only [VwL, and_true, true_and])
      | exact Vw.same _
      | (refine Vw.row' (by simp only [hget, ↓reduceIte, if_true, if_false, FR, k0, g0]; first | done | rfl) ?_ ?_ ?_ ?_)
      | (refine And.intro (Vw.same _) ?_)
      | (refine And.intro (Vw.row' (by simp only [hget, ↓reduceIte, if_true, if_false, FR, k0, g0]; first | done | rfl) ?_ ?_ ?_ ?_) ?_)
      | go_step
      | omega
      | (simp only [maxLen_eq]; omega)
    refine WP.loop (Γ := Nat) (fun k => ⟨[(6, iv .i64 ((k : Int) - 1)), (0, .sl x.length (bl x)), (1, .sl y.length (bl y))], []⟩)
      (fun k => k ≤ y.length ∧ valB (x.drop k) = valB (y.drop k)) (fun k => k) y.length ⟨by omega, body _ (by omega) (by omega)⟩ (Sub.pick (by simp [pickB, hget, hdel, FR]) (by simp [look])) ?_
    intro k ⟨h1, h2⟩
    cases k with
    | zero =>
      have k1 : decide (((0 : Nat) : Int) - 1 ≥ 0) = false := by decide
      have hfin : V = 0 := by rw [hV]; exact cmp_eqv h2
      first | (have FRx := FR; clear FRx) | (have FR : ¬ ((1 : Nat) = 0) := Nat.one_ne_zero)
      repeat' first
        | (refine Sm.mk ?_; try simp -dsimp only [rvc, drawF, headN, pureH, maxLen_eq, stp, dvc, calleeOf, gcall, pev, eff, newB, okd, og, ogs, ogo, ogp, slv, bltv, opd, litv, strip, one, both, putE, St.put, look, gdOf, gdv, picka, pickv, pickw, binv, bini, bins, binb, binp, bina, shp, eqCells, unv, convv, nilv, faddv, addp, idxav, idxp, load1, load1m, loadn, loadnm, loadv, hget, hset, hrep, hdel, slicev, List.length_append, bnd, shift1, lenv, IntKind.bits, Nat.reducePow, Int.reducePow, Nat.min_def, extractv, fieldv, indexv, min2v, max2v, mkiv, cellsA, fillA, buildv, stC, oneC, rowMB, intsA, plN, appE, appZ, appC, appNZ, appNC, repA_one, VwL, srcC, srcZ, srcM, fresh_nil, fresh_cons, freshBut_nil, freshBut_cons, intsA_map, ne_eq, true_implies, forall_const, List.length_map, List.map_append, drop_getD0, Int.toNat_natCast, List.length_drop, List.length_take, Int.cast_ofNat_Int, isBoolT, isPtrT, isSliceT, uOk, List.size_toArray, List.length_cons, List.length_nil, List.getElem?_toArray, List.getElem?_cons_zero, List.getElem?_cons_succ, Option.bind_some, Option.map_some, Option.map_none, Option.isSome_some, Nat.reduceAdd, Nat.reduceMul, Nat.reduceSub, Nat.reduceLT, Nat.reduceLeDiff, Nat.reduceEqDiff, Nat.reduceBEq, Nat.reduceDiv, Nat.reduceMod, ↓reduceIte, reduceCtorEq, if_true, if_false, true_and, and_true, ite_true, ite_false, Bool.true_and, Bool.and_true, Bool.not_true, Bool.not_false, Bool.or_false, Bool.false_or, Bool.true_or, Bool.or_true, Bool.false_and, Bool.and_false, List.map_cons, List.map_nil, List.mem_cons, List.not_mem_nil, or_false, false_or, true_or, or_true, forall_eq_or_imp, forall_eq, List.all_cons, List.all_nil, List.append_nil, List.nil_append, List.cons_append, List.getD_cons_zero, List.getD_cons_succ, List.take_succ_cons, List.take_zero, List.drop_succ_cons, List.drop_zero, List.set_cons_zero, List.set_cons_succ, List.replicate_succ, List.replicate_zero, Value.oneCell', Nat.add_zero, Nat.zero_add, Nat.mul_one, Nat.one_mul, Int.toNat_zero, Int.reduceToNat, Int.reduceLT, Int.reduceLE, Nat.le_refl, Int.le_refl, Option.some.injEq, TypeDesc.slice.injEq, TypeDesc.int.injEq, List.length_replicate, TypeDesc.pointer.injEq, exists_eq, exists_eq_left, exists_eq_left', exists_eq', implies_true, beq_true, beq_false, and_self, beq_self_eq_true, bne_self_eq_false, decide_true, decide_false, cond_true, cond_false, Bool.not_eq_true', Bool.not_eq_false', imp_self, Bool.cond_false_right, Bool.cond_true_right, Bool.cond_true_left, Bool.cond_false_left, tyc3, zmb3, tyc4, zmb4, tyc37, elt37, mkz37, mkc37, apT37, elk37, zmb37, Try.underlying3, Try.underlying4, Try.underlying37, SeqQ, BlkQ, LoopQ, BodyQ, k1, FR])
        | (refine WP.seq fun K hK => ?_)
        | (refine WP.region (rvc_sound _ _ (Sm.out ?_)))
        | (refine WP.drawK rfl mixed (by decide +kernel) (Sm.out ?_))
        | (refine And.intro ?_ ?_; focus (first | assumption | omega | decide | trivial | (intro hob; simp only [hob, Bool.not_eq_true', Bool.not_eq_false', Bool.not_false, Bool.not_true, Bool.true_and, Bool.and_true, Bool.false_and, Bool.and_false, true_and, and_true, imp_self, implies_true, and_self]; done) | (intros; (repeat' refine And.intro ?_ ?_) <;> first | assumption | omega | trivial | decide) | (intros; simp only [decide_eq_true_eq, decide_eq_false_iff_not, Bool.and_eq_true, Bool.or_eq_true, Bool.and_eq_false_iff, Bool.or_eq_false_iff, bne_iff_ne, bne_eq_false_iff_eq, Int.not_lt, Int.not_le] at *; (repeat' refine And.intro ?_ ?_) <;> first | assumption | omega | trivial)))
        | (refine WP.block ?_)
        | (refine WP.cond rfl (fun hc => ?_) (fun hc => ?_) <;> (try simp only [decide_eq_true_eq, decide_eq_false_iff_not, Bool.and_eq_true, Bool.or_eq_true, Bool.and_eq_false_iff, Bool.or_eq_false_iff, Bool.not_eq_true', Bool.not_eq_false', Int.not_lt, Int.not_le, reduceCtorEq, false_and, and_false, false_or, or_false, true_and, and_true, true_or, or_true, not_true_eq_false, not_false_eq_true, beq_iff_eq, beq_eq_false_iff_ne, bne_iff_ne, bne_eq_false_iff_eq, ne_eq, Decidable.not_not] at hc) <;> (try (exact absurd hc (by decide))) <;> (try (exfalso; omega)))
        | (refine WP.skip ?_; simp only [SeqQ, BlkQ, LoopQ, BodyQ, ↓reduceIte, Nat.reduceEqDiff, reduceCtorEq, look, true_and])
        | (refine WP.exit ?_; simp only [SeqQ, BlkQ, LoopQ, BodyQ, ↓reduceIte, Nat.reduceEqDiff, reduceCtorEq, look, true_and])
        | (refine WP.ret (Sm.out ?_))
        | (refine ExG.mk (x := AV.any) (fun hg => absurd hg (by decide)) (Sm.out ?_))
        | (refine Or.inl (ExG.mk (x := AV.any) (fun hg => absurd hg (by decide)) (Sm.out ?_)))
        | (refine Or.inl (And.intro (fun hg => absurd hg (by decide)) (ExG.mk (x := AV.any) (fun hg => absurd hg (by decide)) (Sm.out ?_))))
        | (refine Rt.mk ?_; refine And.intro ?_ ?_ <;> (intro hg; first | exact absurd hg (by decide) | refine Sm.out ?_))
        | (refine Nu.mk ?_; first | ((fail_if_success (have hx := nb1)); intro nb1) | ((fail_if_success (have hx := nb2)); intro nb2) | ((fail_if_success (have hx := nb3)); intro nb3) | ((fail_if_success (have hx := nb4)); intro nb4) | ((fail_if_success (have hx := nb5)); intro nb5) | ((fail_if_success (have hx := nb6)); intro nb6) | ((fail_if_success (have hx := nb7)); intro nb7) | ((fail_if_success (have hx := nb8)); intro nb8) | ((fail_if_success (have hx := nb9)); intro nb9) | ((fail_if_success (have hx := nb10)); intro nb10) | ((fail_if_success (have hx := nb11)); intro nb11) | ((fail_if_success (have hx := nb12)); intro nb12) | ((fail_if_success (have hx := nb13)); intro nb13) | ((fail_if_success (have hx := nb14)); intro nb14))
        | (refine Fr.mk ?_; intro hfr; replace FR := And.intro hfr FR; clear hfr; refine Sm.out ?_)
        | (refine Two.mk ?_ ?_)
        | (refine Cs.mk ?_; intro hcs; first | exact False.elim hcs | (exfalso; omega) | (refine Sm.out ?_))
        | (refine (show VwL _ _ _ from ?_); simp only [VwL, and_true, true_and])
        | exact Vw.same _
        | (refine Vw.row' (by simp only [hget, ↓reduceIte, if_true, if_false, FR, k1]; first | done | rfl) ?_ ?_ ?_ ?_)
        | (refine And.intro (Vw.same _) ?_)
        | (refine And.intro (Vw.row' (by simp only [hget, ↓reduceIte, if_true, if_false, FR, k1]; first | done | rfl) ?_ ?_ ?_ ?_) ?_)
        | go_step
        | omega
        | (simp only [maxLen_eq]; omega)
      (refine OutQ.all ?_ ?_; (focus (simp only [resv, look, loadv, loadn, loadnm, load1, load1m, hget, maxLen_eq, ↓reduceIte, if_true, if_false, ite_true, ite_false, Nat.reduceEqDiff, Nat.reduceAdd, Nat.reduceMul, Nat.reduceLeDiff, Nat.reduceLT, reduceCtorEq, true_and, and_true, and_self, List.length_cons, List.length_nil, List.length_map, List.length_replicate, List.take_succ_cons, List.take_zero, List.drop_zero, List.drop_succ_cons, List.map_cons, List.map_nil, List.getD_cons_zero, List.getD_cons_succ, Nat.zero_add, Nat.add_zero, Nat.le_refl, Option.some.injEq, ne_eq, tyc3, tyc4, tyc37, hfin, FR])); (try simp only [resv, resA, Fn, look, loadv, loadn, loadnm, load1, load1m, hget, maxLen_eq, ↓reduceIte, if_true, if_false, ite_true, ite_false, Nat.reduceEqDiff, Nat.reduceAdd, Nat.reduceMul, Nat.reduceLeDiff, Nat.reduceLT, reduceCtorEq, true_and, and_true, and_self, List.length_cons, List.length_nil, List.length_map, List.length_replicate, List.take_succ_cons, List.take_zero, List.drop_zero, List.drop_succ_cons, List.map_cons, List.map_nil, List.getD_cons_zero, List.getD_cons_succ, Nat.zero_add, Nat.add_zero, Nat.le_refl, Option.some.injEq, ne_eq, tyc3, tyc4, tyc37, hfin, FR]); (try simp [resA, Fn, look, hfin, FR]))
    | succ i =>
      have e0 : ((i + 1 : Nat) : Int) - 1 = (i : Int) := by omega
      have k1 : decide ((i : Int) ≥ 0) = true := by simp
      have g1 : IntKind.i64.wrap ((i : Int) - 1) = (i : Int) - 1 := wrap_i64 (by omega) (by omega)
      have d1 := valB_drop x i
      have d2 := valB_drop y i
      have a1 := bitA_le x i
      have a2 := bitA_le y i
      by_cases hb : bitA x i = bitA y i
      · have k2 : (((bitA x i : Nat) : Int) != ((bitA y i : Nat) : Int)) = false := by rw [hb]; exact bne_self_eq_false _
        first | (have FRx := FR; clear FRx) | (have FR : ¬ ((1 : Nat) = 0) := Nat.one_ne_zero)
        repeat' first
          | (refine Sm.mk ?_; try simp -dsimp only [rvc, drawF, headN, pureH, maxLen_eq, stp, dvc, calleeOf, gcall, pev, eff, newB, okd, og, ogs, ogo, ogp, slv, bltv, opd, litv, strip, one, both, putE, St.put, look, gdOf, gdv, picka, pickv, pickw, binv, bini, bins, binb, binp, bina, shp, eqCells, unv, convv, nilv, faddv, addp, idxav, idxp, load1, load1m, loadn, loadnm, loadv, hget, hset, hrep, hdel, slicev, List.length_append, bnd, shift1, lenv, IntKind.bits, Nat.reducePow, Int.reducePow, Nat.min_def, extractv, fieldv, indexv, min2v, max2v, mkiv, cellsA, fillA, buildv, stC, oneC, rowMB, intsA, plN, appE, appZ, appC, appNZ, appNC, repA_one, VwL, srcC, srcZ, srcM, fresh_nil, fresh_cons, freshBut_nil, freshBut_cons, intsA_map, ne_eq, true_implies, forall_const, List.length_map, List.map_append, drop_getD0, Int.toNat_natCast, List.length_drop, List.length_take, Int.cast_ofNat_Int, isBoolT, isPtrT, isSliceT, uOk, List.size_toArray, List.length_cons, List.length_nil, List.getElem?_toArray, List.getElem?_cons_zero, List.getElem?_cons_succ, Option.bind_some, Option.map_some, Option.map_none, Option.isSome_some, Nat.reduceAdd, Nat.reduceMul, Nat.reduceSub, Nat.reduceLT, Nat.reduceLeDiff, Nat.reduceEqDiff, Nat.reduceBEq, Nat.reduceDiv, Nat.reduceMod, ↓reduceIte, reduceCtorEq, if_true, if_false, true_and, and_true, ite_true, ite_false, Bool.true_and, Bool.and_true, Bool.not_true, Bool.not_false, Bool.or_false, Bool.false_or, Bool.true_or, Bool.or_true, Bool.false_and, Bool.and_false, List.map_cons, List.map_nil, List.mem_cons, List.not_mem_nil, or_false, false_or, true_or, or_true, forall_eq_or_imp, forall_eq, List.all_cons, List.all_nil, List.append_nil, List.nil_append, List.cons_append, List.getD_cons_zero, List.getD_cons_succ, List.take_succ_cons, List.take_zero, List.drop_succ_cons, List.drop_zero, List.set_cons_zero, List.set_cons_succ, List.replicate_succ, List.replicate_zero, Value.oneCell', Nat.add_zero, Nat.zero_add, Nat.mul_one, Nat.one_mul, Int.toNat_zero, Int.reduceToNat, Int.reduceLT, Int.reduceLE, Nat.le_refl, Int.le_refl, Option.some.injEq, TypeDesc.slice.injEq, TypeDesc.int.injEq, List.length_replicate, TypeDesc.pointer.injEq, exists_eq, exists_eq_left, exists_eq_left', exists_eq', implies_true, beq_true, beq_false, and_self, beq_self_eq_true, bne_self_eq_false, decide_true, decide_false, cond_true, cond_false, Bool.not_eq_true', Bool.not_eq_false', imp_self, Bool.cond_false_right, Bool.cond_true_right, Bool.cond_true_left, Bool.cond_false_left, tyc3, zmb3, tyc4, zmb4, tyc37, elt37, mkz37, mkc37, apT37, elk37, zmb37, Try.underlying3, Try.underlying4, Try.underlying37, SeqQ, BlkQ, LoopQ, BodyQ, e0, k1, k2, g1, FR])
          | (refine CallV.fn (at_ct x i) (Sm.out ?_))
          | (refine ExF.mk (at_ct x i) (Sm.out ?_))
          | (refine ExG.mk (fun hg => at_ct x i) (Sm.out ?_))
          | (refine Or.inl (ExG.mk (fun hg => at_ct x i) (Sm.out ?_)))
          | (refine Or.inl (And.intro ?_ (ExG.mk (fun hg => at_ct x i) (Sm.out ?_))); focus (first | omega | assumption | decide | trivial | (intros; (repeat' refine And.intro ?_ ?_) <;> first | assumption | omega | trivial | decide) | (intros; simp only [decide_eq_true_eq, decide_eq_false_iff_not, Bool.and_eq_true, Bool.or_eq_true, Bool.and_eq_false_iff, Bool.or_eq_false_iff, bne_iff_ne, bne_eq_false_iff_eq, Int.not_lt, Int.not_le] at *; (repeat' refine And.intro ?_ ?_) <;> first | assumption | omega | trivial)))
          | (refine CallV.fn (at_ct y i) (Sm.out ?_))
          | (refine ExF.mk (at_ct y i) (Sm.out ?_))
          | (refine ExG.mk (fun hg => at_ct y i) (Sm.out ?_))
          | (refine Or.inl (ExG.mk (fun hg => at_ct y i) (Sm.out ?_)))
          | (refine Or.inl (And.intro ?_ (ExG.mk (fun hg => at_ct y i) (Sm.out ?_))); focus (first | omega | assumption | decide | trivial | (intros; (repeat' refine And.intro ?_ ?_) <;> first | assumption | omega | trivial | decide) | (intros; simp only [decide_eq_true_eq, decide_eq_false_iff_not, Bool.and_eq_true, Bool.or_eq_true, Bool.and_eq_false_iff, Bool.or_eq_false_iff, bne_iff_ne, bne_eq_false_iff_eq, Int.not_lt, Int.not_le] at *; (repeat' refine And.intro ?_ ?_) <;> first | assumption | omega | trivial)))
          | (refine WP.seq fun K hK => ?_)
          | (refine WP.region (rvc_sound _ _ (Sm.out ?_)))
          | (refine WP.drawK rfl mixed (by decide +kernel) (Sm.out ?_))
          | (refine And.intro ?_ ?_; focus (first | assumption | omega | decide | trivial | (intro hob; simp only [hob, Bool.not_eq_true', Bool.not_eq_false', Bool.not_false, Bool.not_true, Bool.true_and, Bool.and_true, Bool.false_and, Bool.and_false, true_and, and_true, imp_self, implies_true, and_self]; done) | (intros; (repeat' refine And.intro ?_ ?_) <;> first | assumption | omega | trivial | decide) | (intros; simp only [decide_eq_true_eq, decide_eq_false_iff_not, Bool.and_eq_true, Bool.or_eq_true, Bool.and_eq_false_iff, Bool.or_eq_false_iff, bne_iff_ne, bne_eq_false_iff_eq, Int.not_lt, Int.not_le] at *; (repeat' refine And.intro ?_ ?_) <;> first | assumption | omega | trivial)))
          | (refine WP.block ?_)
          | (refine WP.cond rfl (fun hc => ?_) (fun hc => ?_) <;> (try simp only [decide_eq_true_eq, decide_eq_false_iff_not, Bool.and_eq_true, Bool.or_eq_true, Bool.and_eq_false_iff, Bool.or_eq_false_iff, Bool.not_eq_true', Bool.not_eq_false', Int.not_lt, Int.not_le, reduceCtorEq, false_and, and_false, false_or, or_false, true_and, and_true, true_or, or_true, not_true_eq_false, not_false_eq_true, beq_iff_eq, beq_eq_false_iff_ne, bne_iff_ne, bne_eq_false_iff_eq, ne_eq, Decidable.not_not] at hc) <;> (try (exact absurd hc (by decide))) <;> (try (exfalso; omega)))
          | (refine WP.skip ?_; simp only [SeqQ, BlkQ, LoopQ, BodyQ, ↓reduceIte, Nat.reduceEqDiff, reduceCtorEq, look, true_and])
          | (refine WP.exit ?_; simp only [SeqQ, BlkQ, LoopQ, BodyQ, ↓reduceIte, Nat.reduceEqDiff, reduceCtorEq, look, true_and])
          | (refine WP.ret (Sm.out ?_))
          | (refine ExG.mk (x := AV.any) (fun hg => absurd hg (by decide)) (Sm.out ?_))
          | (refine Or.inl (ExG.mk (x := AV.any) (fun hg => absurd hg (by decide)) (Sm.out ?_)))
          | (refine Or.inl (And.intro (fun hg => absurd hg (by decide)) (ExG.mk (x := AV.any) (fun hg => absurd hg (by decide)) (Sm.out ?_))))
          | (refine Rt.mk ?_; refine And.intro ?_ ?_ <;> (intro hg; first | exact absurd hg (by decide) | refine Sm.out ?_))
          | (refine Nu.mk ?_; first | ((fail_if_success (have hx := nb1)); intro nb1) | ((fail_if_success (have hx := nb2)); intro nb2) | ((fail_if_success (have hx := nb3)); intro nb3) | ((fail_if_success (have hx := nb4)); intro nb4) | ((fail_if_success (have hx := nb5)); intro nb5) | ((fail_if_success (have hx := nb6)); intro nb6) | ((fail_if_success (have hx := nb7)); intro nb7) | ((fail_if_success (have hx := nb8)); intro nb8) | ((fail_if_success (have hx := nb9)); intro nb9) | ((fail_if_success (have hx := nb10)); intro nb10) | ((fail_if_success (have hx := nb11)); intro nb11) | ((fail_if_success (have hx := nb12)); intro nb12) | ((fail_if_success (have hx := nb13)); intro nb13) | ((fail_if_success (have hx := nb14)); intro nb14))
          | (refine Fr.mk ?_; intro hfr; replace FR := And.intro hfr FR; clear hfr; refine Sm.out ?_)
          | (refine Two.mk ?_ ?_)
          | (refine Cs.mk ?_; intro hcs; first | exact False.elim hcs | (exfalso; omega) | (refine Sm.out ?_))
          | (refine (show VwL _ _ _ from ?_); simp only [VwL, and_true, true_and])
          | exact Vw.same _
          | (refine Vw.row' (by simp only [hget, ↓reduceIte, if_true, if_false, FR, e0, k1, k2, g1]; first | done | rfl) ?_ ?_ ?_ ?_)
          | (refine And.intro (Vw.same _) ?_)
          | (refine And.intro (Vw.row' (by simp only [hget, ↓reduceIte, if_true, if_false, FR, e0, k1, k2, g1]; first | done | rfl) ?_ ?_ ?_ ?_) ?_)
          | go_step
          | omega
          | (simp only [maxLen_eq]; omega)
        exact ⟨i, ⟨by omega, by rw [d1, d2, hb, h2]⟩, by omega, (Sub.pick (by simp [pickB, hget, hdel, FR]) (by simp [look]))⟩
      · have k2 : (((bitA x i : Nat) : Int) != ((bitA y i : Nat) : Int)) = true := bne_iff_ne.2 (by omega)
        have hfin : IntKind.i64.wrap (((bitA x i : Nat) : Int) - ((bitA y i : Nat) : Int)) = V := by
          rw [wrap_i64 (by omega) (by omega), hV]
          unfold cmpN
          by_cases hc : bitA x i < bitA y i
          · rw [if_pos (cmp_drop (i := i) (by omega))]; omega
          · have := cmp_drop (x := y) (y := x) (i := i) (by omega)
            rw [if_neg (by omega), if_pos this]; omega
        first | (have FRx := FR; clear FRx) | (have FR : ¬ ((1 : Nat) = 0) := Nat.one_ne_zero)
        repeat' first
          | (refine Sm.mk ?_; try simp -dsimp only [rvc, drawF, headN, pureH, maxLen_eq, stp, dvc, calleeOf, gcall, pev, eff, newB, okd, og, ogs, ogo, ogp, slv, bltv, opd, litv, strip, one, both, putE, St.put, look, gdOf, gdv, picka, pickv, pickw, binv, bini, bins, binb, binp, bina, shp, eqCells, unv, convv, nilv, faddv, addp, idxav, idxp, load1, load1m, loadn, loadnm, loadv, hget, hset, hrep, hdel, slicev, List.length_append, bnd, shift1, lenv, IntKind.bits, Nat.reducePow, Int.reducePow, Nat.min_def, extractv, fieldv, indexv, min2v, max2v, mkiv, cellsA, fillA, buildv, stC, oneC, rowMB, intsA, plN, appE, appZ, appC, appNZ, appNC, repA_one, VwL, srcC, srcZ, srcM, fresh_nil, fresh_cons, freshBut_nil, freshBut_cons, intsA_map, ne_eq, true_implies, forall_const, List.length_map, List.map_append, drop_getD0, Int.toNat_natCast, List.length_drop, List.length_take, Int.cast_ofNat_Int, isBoolT, isPtrT, isSliceT, uOk, List.size_toArray, List.length_cons, List.length_nil, List.getElem?_toArray, List.getElem?_cons_zero, List.getElem?_cons_succ, Option.bind_some, Option.map_some, Option.map_none, Option.isSome_some, Nat.reduceAdd, Nat.reduceMul, Nat.reduceSub, Nat.reduceLT, Nat.reduceLeDiff, Nat.reduceEqDiff, Nat.reduceBEq, Nat.reduceDiv, Nat.reduceMod, ↓reduceIte, reduceCtorEq, if_true, if_false, true_and, and_true, ite_true, ite_false, Bool.true_and, Bool.and_true, Bool.not_true, Bool.not_false, Bool.or_false, Bool.false_or, Bool.true_or, Bool.or_true, Bool.false_and, Bool.and_false, List.map_cons, List.map_nil, List.mem_cons, List.not_mem_nil, or_false, false_or, true_or, or_true, forall_eq_or_imp, forall_eq, List.all_cons, List.all_nil, List.append_nil, List.nil_append, List.cons_append, List.getD_cons_zero, List.getD_cons_succ, List.take_succ_cons, List.take_zero, List.drop_succ_cons, List.drop_zero, List.set_cons_zero, List.set_cons_succ, List.replicate_succ, List.replicate_zero, Value.oneCell', Nat.add_zero, Nat.zero_add, Nat.mul_one, Nat.one_mul, Int.toNat_zero, Int.reduceToNat, Int.reduceLT, Int.reduceLE, Nat.le_refl, Int.le_refl, Option.some.injEq, TypeDesc.slice.injEq, TypeDesc.int.injEq, List.length_replicate, TypeDesc.pointer.injEq, exists_eq, exists_eq_left, exists_eq_left', exists_eq', implies_true, beq_true, beq_false, and_self, beq_self_eq_true, bne_self_eq_false, decide_true, decide_false, cond_true, cond_false, Bool.not_eq_true', Bool.not_eq_false', imp_self, Bool.cond_false_right, Bool.cond_true_right, Bool.cond_true_left, Bool.cond_false_left, tyc3, zmb3, tyc4, zmb4, tyc37, elt37, mkz37, mkc37, apT37, elk37, zmb37, Try.underlying3, Try.underlying4, Try.underlying37, SeqQ, BlkQ, LoopQ, BodyQ, e0, k1, k2, hfin, FR])
          | (refine CallV.fn (at_ct x i) (Sm.out ?_))
          | (refine ExF.mk (at_ct x i) (Sm.out ?_))
          | (refine ExG.mk (fun hg => at_ct x i) (Sm.out ?_))
          | (refine Or.inl (ExG.mk (fun hg => at_ct x i) (Sm.out ?_)))
          | (refine Or.inl (And.intro ?_ (ExG.mk (fun hg => at_ct x i) (Sm.out ?_))); focus (first | omega | assumption | decide | trivial | (intros; (repeat' refine And.intro ?_ ?_) <;> first | assumption | omega | trivial | decide) | (intros; simp only [decide_eq_true_eq, decide_eq_false_iff_not, Bool.and_eq_true, Bool.or_eq_true, Bool.and_eq_false_iff, Bool.or_eq_false_iff, bne_iff_ne, bne_eq_false_iff_eq, Int.not_lt, Int.not_le] at *; (repeat' refine And.intro ?_ ?_) <;> first | assumption | omega | trivial)))
          | (refine CallV.fn (at_ct y i) (Sm.out ?_))
          | (refine ExF.mk (at_ct y i) (Sm.out ?_))
          | (refine ExG.mk (fun hg => at_ct y i) (Sm.out ?_))
          | (refine Or.inl (ExG.mk (fun hg => at_ct y i) (Sm.out ?_)))
          | (refine Or.inl (And.intro ?_ (ExG.mk (fun hg => at_ct y i) (Sm.out ?_))); focus (first | omega | assumption | decide | trivial | (intros; (repeat' refine And.intro ?_ ?_) <;> first | assumption | omega | trivial | decide) | (intros; simp only [decide_eq_true_eq, decide_eq_false_iff_not, Bool.and_eq_true, Bool.or_eq_true, Bool.and_eq_false_iff, Bool.or_eq_false_iff, bne_iff_ne, bne_eq_false_iff_eq, Int.not_lt, Int.not_le] at *; (repeat' refine And.intro ?_ ?_) <;> first | assumption | omega | trivial)))
          | (refine WP.seq fun K hK => ?_)
          | (refine WP.region (rvc_sound _ _ (Sm.out ?_)))
          | (refine WP.drawK rfl mixed (by decide +kernel) (Sm.out ?_))
          | (refine And.intro ?_ ?_; focus (first | assumption | omega | decide | trivial | (intro hob; simp only [hob, Bool.not_eq_true', Bool.not_eq_false', Bool.not_false, Bool.not_true, Bool.true_and, Bool.and_true, Bool.false_and, Bool.and_false, true_and, and_true, imp_self, implies_true, and_self]; done) | (intros; (repeat' refine And.intro ?_ ?_) <;> first | assumption | omega | trivial | decide) | (intros; simp only [decide_eq_true_eq, decide_eq_false_iff_not, Bool.and_eq_true, Bool.or_eq_true, Bool.and_eq_false_iff, Bool.or_eq_false_iff, bne_iff_ne, bne_eq_false_iff_eq, Int.not_lt, Int.not_le] at *; (repeat' refine And.intro ?_ ?_) <;> first | assumption | omega | trivial)))
          | (refine WP.block ?_)
          | (refine WP.cond rfl (fun hc => ?_) (fun hc => ?_) <;> (try simp only [decide_eq_true_eq, decide_eq_false_iff_not, Bool.and_eq_true, Bool.or_eq_true, Bool.and_eq_false_iff, Bool.or_eq_false_iff, Bool.not_eq_true', Bool.not_eq_false', Int.not_lt, Int.not_le, reduceCtorEq, false_and, and_false, false_or, or_false, true_and, and_true, true_or, or_true, not_true_eq_false, not_false_eq_true, beq_iff_eq, beq_eq_false_iff_ne, bne_iff_ne, bne_eq_false_iff_eq, ne_eq, Decidable.not_not] at hc) <;> (try (exact absurd hc (by decide))) <;> (try (exfalso; omega)))
          | (refine WP.skip ?_; simp only [SeqQ, BlkQ, LoopQ, BodyQ, ↓reduceIte, Nat.reduceEqDiff, reduceCtorEq, look, true_and])
          | (refine WP.exit ?_; simp only [SeqQ, BlkQ, LoopQ, BodyQ, ↓reduceIte, Nat.reduceEqDiff, reduceCtorEq, look, true_and])
          | (refine WP.ret (Sm.out ?_))
          | (refine ExG.mk (x := AV.any) (fun hg => absurd hg (by decide)) (Sm.out ?_))
          | (refine Or.inl (ExG.mk (x := AV.any) (fun hg => absurd hg (by decide)) (Sm.out ?_)))
          | (refine Or.inl (And.intro (fun hg => absurd hg (by decide)) (ExG.mk (x := AV.any) (fun hg => absurd hg (by decide)) (Sm.out ?_))))
          | (refine Rt.mk ?_; refine And.intro ?_ ?_ <;> (intro hg; first | exact absurd hg (by decide) | refine Sm.out ?_))
          | (refine Nu.mk ?_; first | ((fail_if_success (have hx := nb1)); intro nb1) | ((fail_if_success (have hx := nb2)); intro nb2) | ((fail_if_success (have hx := nb3)); intro nb3) | ((fail_if_success (have hx := nb4)); intro nb4) | ((fail_if_success (have hx := nb5)); intro nb5) | ((fail_if_success (have hx := nb6)); intro nb6) | ((fail_if_success (have hx := nb7)); intro nb7) | ((fail_if_success (have hx := nb8)); intro nb8) | ((fail_if_success (have hx := nb9)); intro nb9) | ((fail_if_success (have hx := nb10)); intro nb10) | ((fail_if_success (have hx := nb11)); intro nb11) | ((fail_if_success (have hx := nb12)); intro nb12) | ((fail_if_success (have hx := nb13)); intro nb13) | ((fail_if_success (have hx := nb14)); intro nb14))
          | (refine Fr.mk ?_; intro hfr; replace FR := And.intro hfr FR; clear hfr; refine Sm.out ?_)
          | (refine Two.mk ?_ ?_)
          | (refine Cs.mk ?_; intro hcs; first | exact False.elim hcs | (exfalso; omega) | (refine Sm.out ?_))
          | (refine (show VwL _ _ _ from ?_); simp only [VwL, and_true, true_and])
          | exact Vw.same _
          | (refine Vw.row' (by simp only [hget, ↓reduceIte, if_true, if_false, FR, e0, k1, k2, hfin]; first | done | rfl) ?_ ?_ ?_ ?_)
          | (refine And.intro (Vw.same _) ?_)
          | (refine And.intro (Vw.row' (by simp only [hget, ↓reduceIte, if_true, if_false, FR, e0, k1, k2, hfin]; first | done | rfl) ?_ ?_ ?_ ?_) ?_)
          | (refine OutQ.all ?_ ?_; (focus (simp only [resv, look, loadv, loadn, loadnm, load1, load1m, hget, maxLen_eq, ↓reduceIte, if_true, if_false, ite_true, ite_false, Nat.reduceEqDiff, Nat.reduceAdd, Nat.reduceMul, Nat.reduceLeDiff, Nat.reduceLT, reduceCtorEq, true_and, and_true, and_self, List.length_cons, List.length_nil, List.length_map, List.length_replicate, List.take_succ_cons, List.take_zero, List.drop_zero, List.drop_succ_cons, List.map_cons, List.map_nil, List.getD_cons_zero, List.getD_cons_succ, Nat.zero_add, Nat.add_zero, Nat.le_refl, Option.some.injEq, ne_eq, tyc3, tyc4, tyc37, e0, k1, k2, hfin, FR])); (try simp only [resv, resA, Fn, look, loadv, loadn, loadnm, load1, load1m, hget, maxLen_eq, ↓reduceIte, if_true, if_false, ite_true, ite_false, Nat.reduceEqDiff, Nat.reduceAdd, Nat.reduceMul, Nat.reduceLeDiff, Nat.reduceLT, reduceCtorEq, true_and, and_true, and_self, List.length_cons, List.length_nil, List.length_map, List.length_replicate, List.take_succ_cons, List.take_zero, List.drop_zero, List.drop_succ_cons, List.map_cons, List.map_nil, List.getD_cons_zero, List.getD_cons_succ, Nat.zero_add, Nat.add_zero, Nat.le_refl, Option.some.injEq, ne_eq, tyc3, tyc4, tyc37, e0, k1, k2, hfin, FR]); (try simp [resA, Fn, look, e0, k1, k2, hfin, FR]); done)
          | go_step
          | omega
          | (simp only [maxLen_eq]; omega)
  · have k0 : decide ((y.length : Int) > x.length) = false := by simp; omega
    have g0 : IntKind.i64.wrap ((x.length : Int) - 1) = (x.length : Int) - 1 := wrap_i64 (by omega) (by omega)
    first | (have FRx := FR; clear FRx) | (have FR : ¬ ((1 : Nat) = 0) := Nat.one_ne_zero)
    repeat' first
      | (refine Sm.mk ?_; try simp -dsimp only [rvc, drawF, headN, pureH, maxLen_eq, stp, dvc, calleeOf, gcall, pev, eff, newB, okd, og, ogs, ogo, ogp, slv, bltv, opd, litv, strip, one, both, putE, St.put, look, gdOf, gdv, picka, pickv, pickw, binv, bini, bins, binb, binp, bina, shp, eqCells, unv, convv, nilv, faddv, addp, idxav, idxp, load1, load1m, loadn, loadnm, loadv, hget, hset, hrep, hdel, slicev, List.length_append, bnd, shift1, lenv, IntKind.bits, Nat.reducePow, Int.reducePow, Nat.min_def, extractv, fieldv, indexv, min2v, max2v, mkiv, cellsA, fillA, buildv, stC, oneC, rowMB, intsA, plN, appE, appZ, appC, appNZ, appNC, repA_one, VwL, srcC, srcZ, srcM, fresh_nil, fresh_cons, freshBut_nil, freshBut_cons, intsA_map, ne_eq, true_implies, forall_const, List.length_map, List.map_append, drop_getD0, Int.toNat_natCast, List.length_drop, List.length_take, Int.cast_ofNat_Int, isBoolT, isPtrT, isSliceT, uOk, List.size_toArray, List.length_cons, List.length_nil, List.getElem?_toArray, List.getElem?_cons_zero, List.getElem?_cons_succ, Option.bind_some, Option.map_some, Option.map_none, Option.isSome_some, Nat.reduceAdd, Nat.reduceMul, Nat.reduceSub, Nat.reduceLT, Nat.reduceLeDiff, Nat.reduceEqDiff, Nat.reduceBEq, Nat.reduceDiv, Nat.reduceMod, ↓reduceIte, reduceCtorEq, if_true, if_false, true_and, and_true, ite_true, ite_false, Bool.true_and, Bool.and_true, Bool.not_true, Bool.not_false, Bool.or_false, Bool.false_or, Bool.true_or, Bool.or_true, Bool.false_and, Bool.and_false, List.map_cons, List.map_nil, List.mem_cons, List.not_mem_nil, or_false, false_or, true_or, or_true, forall_eq_or_imp, forall_eq, List.all_cons, List.all_nil, List.append_nil, List.nil_append, List.cons_append, List.getD_cons_zero, List.getD_cons_succ, List.take_succ_cons, List.take_zero, List.drop_succ_cons, List.drop_zero, List.set_cons_zero, List.set_cons_succ, List.replicate_succ, List.replicate_zero, Value.oneCell', Nat.add_zero, Nat.zero_add, Nat.mul_one, Nat.one_mul, Int.toNat_zero, Int.reduceToNat, Int.reduceLT, Int.reduceLE, Nat.le_refl, Int.le_refl, Option.some.injEq, TypeDesc.slice.injEq, TypeDesc.int.injEq, List.length_replicate, TypeDesc.pointer.injEq, exists_eq, exists_eq_left, exists_eq_left', exists_eq', implies_true, beq_true, beq_false, and_self, beq_self_eq_true, bne_self_eq_false, decide_true, decide_false, cond_true, cond_false, Bool.not_eq_true', Bool.not_eq_false', imp_self, Bool.cond_false_right, Bool.cond_true_right, Bool.cond_true_left, Bool.cond_false_left, tyc3, zmb3, tyc4, zmb4, tyc37, elt37, mkz37, mkc37, apT37, elk37, zmb37, Try.underlying3, Try.underlying4, Try.underlying37, SeqQ, BlkQ, LoopQ, BodyQ, k0, g0, FR])
      | (refine WP.seq fun K hK => ?_)
      | (refine WP.region (rvc_sound _ _ (Sm.out ?_)))
      | (refine WP.drawK rfl mixed (by decide +kernel) (Sm.out ?_))
      | (refine And.intro ?_ ?_; focus (first | assumption | omega | decide | trivial | (intro hob; simp only [hob, Bool.not_eq_true', Bool.not_eq_false', Bool.not_false, Bool.not_true, Bool.true_and, Bool.and_true, Bool.false_and, Bool.and_false, true_and, and_true, imp_self, implies_true, and_self]; done) | (intros; (repeat' refine And.intro ?_ ?_) <;> first | assumption | omega | trivial | decide) | (intros; simp only [decide_eq_true_eq, decide_eq_false_iff_not, Bool.and_eq_true, Bool.or_eq_true, Bool.and_eq_false_iff, Bool.or_eq_false_iff, bne_iff_ne, bne_eq_false_iff_eq, Int.not_lt, Int.not_le] at *; (repeat' refine And.intro ?_ ?_) <;> first | assumption | omega | trivial)))
      | (refine WP.block ?_)
      | (refine WP.cond rfl (fun hc => ?_) (fun hc => ?_) <;> (try simp only [decide_eq_true_eq, decide_eq_false_iff_not, Bool.and_eq_true, Bool.or_eq_true, Bool.and_eq_false_iff, Bool.or_eq_false_iff, Bool.not_eq_true', Bool.not_eq_false', Int.not_lt, Int.not_le, reduceCtorEq, false_and, and_false, false_or, or_false, true_and, and_true, true_or, or_true, not_true_eq_false, not_false_eq_true, beq_iff_eq, beq_eq_false_iff_ne, bne_iff_ne, bne_eq_false_iff_eq, ne_eq, Decidable.not_not] at hc) <;> (try (exact absurd hc (by decide))) <;> (try (exfalso; omega)))
      | (refine WP.skip ?_; simp only [SeqQ, BlkQ, LoopQ, BodyQ, ↓reduceIte, Nat.reduceEqDiff, reduceCtorEq, look, true_and])
      | (refine WP.exit ?_; simp only [SeqQ, BlkQ, LoopQ, BodyQ, ↓reduceIte, Nat.reduceEqDiff, reduceCtorEq, look, true_and])
      | (refine WP.ret (Sm.out ?_))
      | (refine ExG.mk (x := AV.any) (fun hg => absurd hg (by decide)) (Sm.out ?_))
      | (refine Or.inl (ExG.mk (x := AV.any) (fun hg => absurd hg (by decide)) (Sm.out ?_)))
      | (refine Or.inl (And.intro (fun hg => absurd hg (by decide)) (ExG.mk (x := AV.any) (fun hg => absurd hg (by decide)) (Sm.out ?_))))
      | (refine Rt.mk ?_; refine And.intro ?_ ?_ <;> (intro hg; first | exact absurd hg (by decide) | refine Sm.out ?_))
      | (refine Nu.mk ?_; first | ((fail_if_success (have hx := nb1)); intro nb1) | ((fail_if_success (have hx := nb2)); intro nb2) | ((fail_if_success (have hx := nb3)); intro nb3) | ((fail_if_success (have hx := nb4)); intro nb4) | ((fail_if_success (have hx := nb5)); intro nb5) | ((fail_if_success (have hx := nb6)); intro nb6) | ((fail_if_success (have hx := nb7)); intro nb7) | ((fail_if_success (have hx := nb8)); intro nb8) | ((fail_if_success (have hx := nb9)); intro nb9) | ((fail_if_success (have hx := nb10)); intro nb10) | ((fail_if_success (have hx := nb11)); intro nb11) | ((fail_if_success (have hx := nb12)); intro nb12) | ((fail_if_success (have hx := nb13)); intro nb13) | ((fail_if_success (have hx := nb14)); intro nb14))
      | (refine Fr.mk ?_; intro hfr; replace FR := And.intro hfr FR; clear hfr; refine Sm.out ?_)
      | (refine Two.mk ?_ ?_)
      | (refine Cs.mk ?_; intro hcs; first | exact False.elim hcs | (exfalso; omega) | (refine Sm.out ?_))
      | (refine (show VwL _ _ _ from ?_); simp only [VwL, and_true, true_and])
      | exact Vw.same _
      | (refine Vw.row' (by simp only [hget, ↓reduceIte, if_true, if_false, FR, k0, g0]; first | done | rfl) ?_ ?_ ?_ ?_)
      | (refine And.intro (Vw.same _) ?_)
      | (refine And.intro (Vw.row' (by simp only [hget, ↓reduceIte, if_true, if_false, FR, k0, g0]; first | done | rfl) ?_ ?_ ?_ ?_) ?_)
      | go_step
      | omega
      | (simp only [maxLen_eq]; omega)
    refine WP.loop (Γ := Nat) (fun k => ⟨[(6, iv .i64 ((k : Int) - 1)), (0, .sl x.length (bl x)), (1, .sl y.length (bl y))], []⟩)
      (fun k => k ≤ x.length ∧ valB (x.drop k) = valB (y.drop k)) (fun k => k) x.length ⟨by omega, body _ (by omega) (by omega)⟩ (Sub.pick (by simp [pickB, hget, hdel, FR]) (by simp [look])) ?_
    intro k ⟨h1, h2⟩
    cases k with
    | zero =>
      have k1 : decide (((0 : Nat) : Int) - 1 ≥ 0) = false := by decide
      have hfin : V = 0 := by rw [hV]; exact cmp_eqv h2
      first | (have FRx := FR; clear FRx) | (have FR : ¬ ((1 : Nat) = 0) := Nat.one_ne_zero)
      repeat' first
        | (refine Sm.mk ?_; try simp -dsimp only [rvc, drawF, headN, pureH, maxLen_eq, stp, dvc, calleeOf, gcall, pev, eff, newB, okd, og, ogs, ogo, ogp, slv, bltv, opd, litv, strip, one, both, putE, St.put, look, gdOf, gdv, picka, pickv, pickw, binv, bini, bins, binb, binp, bina, shp, eqCells, unv, convv, nilv, faddv, addp, idxav, idxp, load1, load1m, loadn, loadnm, loadv, hget, hset, hrep, hdel, slicev, List.length_append, bnd, shift1, lenv, IntKind.bits, Nat.reducePow, Int.reducePow, Nat.min_def, extractv, fieldv, indexv, min2v, max2v, mkiv, cellsA, fillA, buildv, stC, oneC, rowMB, intsA, plN, appE, appZ, appC, appNZ, appNC, repA_one, VwL, srcC, srcZ, srcM, fresh_nil, fresh_cons, freshBut_nil, freshBut_cons, intsA_map, ne_eq, true_implies, forall_const, List.length_map, List.map_append, drop_getD0, Int.toNat_natCast, List.length_drop, List.length_take, Int.cast_ofNat_Int, isBoolT, isPtrT, isSliceT, uOk, List.size_toArray, List.length_cons, List.length_nil, List.getElem?_toArray, List.getElem?_cons_zero, List.getElem?_cons_succ, Option.bind_some, Option.map_some, Option.map_none, Option.isSome_some, Nat.reduceAdd, Nat.reduceMul, Nat.reduceSub, Nat.reduceLT, Nat.reduceLeDiff, Nat.reduceEqDiff, Nat.reduceBEq, Nat.reduceDiv, Nat.reduceMod, ↓reduceIte, reduceCtorEq, if_true, if_false, true_and, and_true, ite_true, ite_false, Bool.true_and, Bool.and_true, Bool.not_true, Bool.not_false, Bool.or_false, Bool.false_or, Bool.true_or, Bool.or_true, Bool.false_and, Bool.and_false, List.map_cons, List.map_nil, List.mem_cons, List.not_mem_nil, or_false, false_or, true_or, or_true, forall_eq_or_imp, forall_eq, List.all_cons, List.all_nil, List.append_nil, List.nil_append, List.cons_append, List.getD_cons_zero, List.getD_cons_succ, List.take_succ_cons, List.take_zero, List.drop_succ_cons, List.drop_zero, List.set_cons_zero, List.set_cons_succ, List.replicate_succ, List.replicate_zero, Value.oneCell', Nat.add_zero, Nat.zero_add, Nat.mul_one, Nat.one_mul, Int.toNat_zero, Int.reduceToNat, Int.reduceLT, Int.reduceLE, Nat.le_refl, Int.le_refl, Option.some.injEq, TypeDesc.slice.injEq, TypeDesc.int.injEq, List.length_replicate, TypeDesc.pointer.injEq, exists_eq, exists_eq_left, exists_eq_left', exists_eq', implies_true, beq_true, beq_false, and_self, beq_self_eq_true, bne_self_eq_false, decide_true, decide_false, cond_true, cond_false, Bool.not_eq_true', Bool.not_eq_false', imp_self, Bool.cond_false_right, Bool.cond_true_right, Bool.cond_true_left, Bool.cond_false_left, tyc3, zmb3, tyc4, zmb4, tyc37, elt37, mkz37, mkc37, apT37, elk37, zmb37, Try.underlying3, Try.underlying4, Try.underlying37, SeqQ, BlkQ, LoopQ, BodyQ, k1, FR])
        | (refine WP.seq fun K hK => ?_)
        | (refine WP.region (rvc_sound _ _ (Sm.out ?_)))
        | (refine WP.drawK rfl mixed (by decide +kernel) (Sm.out ?_))
        | (refine And.intro ?_ ?_; focus (first | assumption | omega | decide | trivial | (intro hob; simp only [hob, Bool.not_eq_true', Bool.not_eq_false', Bool.not_false, Bool.not_true, Bool.true_and, Bool.and_true, Bool.false_and, Bool.and_false, true_and, and_true, imp_self, implies_true, and_self]; done) | (intros; (repeat' refine And.intro ?_ ?_) <;> first | assumption | omega | trivial | decide) | (intros; simp only [decide_eq_true_eq, decide_eq_false_iff_not, Bool.and_eq_true, Bool.or_eq_true, Bool.and_eq_false_iff, Bool.or_eq_false_iff, bne_iff_ne, bne_eq_false_iff_eq, Int.not_lt, Int.not_le] at *; (repeat' refine And.intro ?_ ?_) <;> first | assumption | omega | trivial)))
        | (refine WP.block ?_)
        | (refine WP.cond rfl (fun hc => ?_) (fun hc => ?_) <;> (try simp only [decide_eq_true_eq, decide_eq_false_iff_not, Bool.and_eq_true, Bool.or_eq_true, Bool.and_eq_false_iff, Bool.or_eq_false_iff, Bool.not_eq_true', Bool.not_eq_false', Int.not_lt, Int.not_le, reduceCtorEq, false_and, and_false, false_or, or_false, true_and, and_true, true_or, or_true, not_true_eq_false, not_false_eq_true, beq_iff_eq, beq_eq_false_iff_ne, bne_iff_ne, bne_eq_false_iff_eq, ne_eq, Decidable.not_not] at hc) <;> (try (exact absurd hc (by decide))) <;> (try (exfalso; omega)))
        | (refine WP.skip ?_; simp only [SeqQ, BlkQ, LoopQ, BodyQ, ↓reduceIte, Nat.reduceEqDiff, reduceCtorEq, look, true_and])
        | (refine WP.exit ?_; simp only [SeqQ, BlkQ, LoopQ, BodyQ, ↓reduceIte, Nat.reduceEqDiff, reduceCtorEq, look, true_and])
        | (refine WP.ret (Sm.out ?_))
        | (refine ExG.mk (x := AV.any) (fun hg => absurd hg (by decide)) (Sm.out ?_))
        | (refine Or.inl (ExG.mk (x := AV.any) (fun hg => absurd hg (by decide)) (Sm.out ?_)))
        | (refine Or.inl (And.intro (fun hg => absurd hg (by decide)) (ExG.mk (x := AV.any) (fun hg => absurd hg (by decide)) (Sm.out ?_))))
        | (refine Rt.mk ?_; refine And.intro ?_ ?_ <;> (intro hg; first | exact absurd hg (by decide) | refine Sm.out ?_))
        | (refine Nu.mk ?_; first | ((fail_if_success (have hx := nb1)); intro nb1) | ((fail_if_success (have hx := nb2)); intro nb2) | ((fail_if_success (have hx := nb3)); intro nb3) | ((fail_if_success (have hx := nb4)); intro nb4) | ((fail_if_success (have hx := nb5)); intro nb5) | ((fail_if_success (have hx := nb6)); intro nb6) | ((fail_if_success (have hx := nb7)); intro nb7) | ((fail_if_success (have hx := nb8)); intro nb8) | ((fail_if_success (have hx := nb9)); intro nb9) | ((fail_if_success (have hx := nb10)); intro nb10) | ((fail_if_success (have hx := nb11)); intro nb11) | ((fail_if_success (have hx := nb12)); intro nb12) | ((fail_if_success (have hx := nb13)); intro nb13) | ((fail_if_success (have hx := nb14)); intro nb14))
        | (refine Fr.mk ?_; intro hfr; replace FR := And.intro hfr FR; clear hfr; refine Sm.out ?_)
        | (refine Two.mk ?_ ?_)
        | (refine Cs.mk ?_; intro hcs; first | exact False.elim hcs | (exfalso; omega) | (refine Sm.out ?_))
        | (refine (show VwL _ _ _ from ?_); simp only [VwL, and_true, true_and])
        | exact Vw.same _
        | (refine Vw.row' (by simp only [hget, ↓reduceIte, if_true, if_false, FR, k1]; first | done | rfl) ?_ ?_ ?_ ?_)
        | (refine And.intro (Vw.same _) ?_)
        | (refine And.intro (Vw.row' (by simp only [hget, ↓reduceIte, if_true, if_false, FR, k1]; first | done | rfl) ?_ ?_ ?_ ?_) ?_)
        | go_step
        | omega
        | (simp only [maxLen_eq]; omega)
      (refine OutQ.all ?_ ?_; (focus (simp only [resv, look, loadv, loadn, loadnm, load1, load1m, hget, maxLen_eq, ↓reduceIte, if_true, if_false, ite_true, ite_false, Nat.reduceEqDiff, Nat.reduceAdd, Nat.reduceMul, Nat.reduceLeDiff, Nat.reduceLT, reduceCtorEq, true_and, and_true, and_self, List.length_cons, List.length_nil, List.length_map, List.length_replicate, List.take_succ_cons, List.take_zero, List.drop_zero, List.drop_succ_cons, List.map_cons, List.map_nil, List.getD_cons_zero, List.getD_cons_succ, Nat.zero_add, Nat.add_zero, Nat.le_refl, Option.some.injEq, ne_eq, tyc3, tyc4, tyc37, hfin, FR])); (try simp only [resv, resA, Fn, look, loadv, loadn, loadnm, load1, load1m, hget, maxLen_eq, ↓reduceIte, if_true, if_false, ite_true, ite_false, Nat.reduceEqDiff, Nat.reduceAdd, Nat.reduceMul, Nat.reduceLeDiff, Nat.reduceLT, reduceCtorEq, true_and, and_true, and_self, List.length_cons, List.length_nil, List.length_map, List.length_replicate, List.take_succ_cons, List.take_zero, List.drop_zero, List.drop_succ_cons, List.map_cons, List.map_nil, List.getD_cons_zero, List.getD_cons_succ, Nat.zero_add, Nat.add_zero, Nat.le_refl, Option.some.injEq, ne_eq, tyc3, tyc4, tyc37, hfin, FR]); (try simp [resA, Fn, look, hfin, FR]))
    | succ i =>
      have e0 : ((i + 1 : Nat) : Int) - 1 = (i : Int) := by omega
      have k1 : decide ((i : Int) ≥ 0) = true := by simp
      have g1 : IntKind.i64.wrap ((i : Int) - 1) = (i : Int) - 1 := wrap_i64 (by omega) (by omega)
      have d1 := valB_drop x i
      have d2 := valB_drop y i
      have a1 := bitA_le x i
      have a2 := bitA_le y i
      by_cases hb : bitA x i = bitA y i
      · have k2 : (((bitA x i : Nat) : Int) != ((bitA y i : Nat) : Int)) = false := by rw [hb]; exact bne_self_eq_false _
        first | (have FRx := FR; clear FRx) | (have FR : ¬ ((1 : Nat) = 0) := Nat.one_ne_zero)
        repeat' first
          | (refine Sm.mk ?_; try simp -dsimp only [rvc, drawF, headN, pureH, maxLen_eq, stp, dvc, calleeOf, gcall, pev, eff, newB, okd, og, ogs, ogo, ogp, slv, bltv, opd, litv, strip, one, both, putE, St.put, look, gdOf, gdv, picka, pickv, pickw, binv, bini, bins, binb, binp, bina, shp, eqCells, unv, convv, nilv, faddv, addp, idxav, idxp, load1, load1m, loadn, loadnm, loadv, hget, hset, hrep, hdel, slicev, List.length_append, bnd, shift1, lenv, IntKind.bits, Nat.reducePow, Int.reducePow, Nat.min_def, extractv, fieldv, indexv, min2v, max2v, mkiv, cellsA, fillA, buildv, stC, oneC, rowMB, intsA, plN, appE, appZ, appC, appNZ, appNC, repA_one, VwL, srcC, srcZ, srcM, fresh_nil, fresh_cons, freshBut_nil, freshBut_cons, intsA_map, ne_eq, true_implies, forall_const, List.length_map, List.map_append, drop_getD0, Int.toNat_natCast, List.length_drop, List.length_take, Int.cast_ofNat_Int, isBoolT, isPtrT, isSliceT, uOk, List.size_toArray, List.length_cons, List.length_nil, List.getElem?_toArray, List.getElem?_cons_zero, List.getElem?_cons_succ, Option.bind_some, Option.map_some, Option.map_none, Option.isSome_some, Nat.reduceAdd, Nat.reduceMul, Nat.reduceSub, Nat.reduceLT, Nat.reduceLeDiff, Nat.reduceEqDiff, Nat.reduceBEq, Nat.reduceDiv, Nat.reduceMod, ↓reduceIte, reduceCtorEq, if_true, if_false, true_and, and_true, ite_true, ite_false, Bool.true_and, Bool.and_true, Bool.not_true, Bool.not_false, Bool.or_false, Bool.false_or, Bool.true_or, Bool.or_true, Bool.false_and, Bool.and_false, List.map_cons, List.map_nil, List.mem_cons, List.not_mem_nil, or_false, false_or, true_or, or_true, forall_eq_or_imp, forall_eq, List.all_cons, List.all_nil, List.append_nil, List.nil_append, List.cons_append, List.getD_cons_zero, List.getD_cons_succ, List.take_succ_cons, List.take_zero, List.drop_succ_cons, List.drop_zero, List.set_cons_zero, List.set_cons_succ, List.replicate_succ, List.replicate_zero, Value.oneCell', Nat.add_zero, Nat.zero_add, Nat.mul_one, Nat.one_mul, Int.toNat_zero, Int.reduceToNat, Int.reduceLT, Int.reduceLE, Nat.le_refl, Int.le_refl, Option.some.injEq, TypeDesc.slice.injEq, TypeDesc.int.injEq, List.length_replicate, TypeDesc.pointer.injEq, exists_eq, exists_eq_left, exists_eq_left', exists_eq', implies_true, beq_true, beq_false, and_self, beq_self_eq_true, bne_self_eq_false, decide_true, decide_false, cond_true, cond_false, Bool.not_eq_true', Bool.not_eq_false', imp_self, Bool.cond_false_right, Bool.cond_true_right, Bool.cond_true_left, Bool.cond_false_left, tyc3, zmb3, tyc4, zmb4, tyc37, elt37, mkz37, mkc37, apT37, elk37, zmb37, Try.underlying3, Try.underlying4, Try.underlying37, SeqQ, BlkQ, LoopQ, BodyQ, e0, k1, k2, g1, FR])
          | (refine CallV.fn (at_ct x i) (Sm.out ?_))
          | (refine ExF.mk (at_ct x i) (Sm.out ?_))
          | (refine ExG.mk (fun hg => at_ct x i) (Sm.out ?_))
          | (refine Or.inl (ExG.mk (fun hg => at_ct x i) (Sm.out ?_)))
          | (refine Or.inl (And.intro ?_ (ExG.mk (fun hg => at_ct x i) (Sm.out ?_))); focus (first | omega | assumption | decide | trivial | (intros; (repeat' refine And.intro ?_ ?_) <;> first | assumption | omega | trivial | decide) | (intros; simp only [decide_eq_true_eq, decide_eq_false_iff_not, Bool.and_eq_true, Bool.or_eq_true, Bool.and_eq_false_iff, Bool.or_eq_false_iff, bne_iff_ne, bne_eq_false_iff_eq, Int.not_lt, Int.not_le] at *; (repeat' refine And.intro ?_ ?_) <;> first | assumption | omega | trivial)))
          | (refine CallV.fn (at_ct y i) (Sm.out ?_))
          | (refine ExF.mk (at_ct y i) (Sm.out ?_))
          | (refine ExG.mk (fun hg => at_ct y i) (Sm.out ?_))
          | (refine Or.inl (ExG.mk (fun hg => at_ct y i) (Sm.out ?_)))
          | (refine Or.inl (And.intro ?_ (ExG.mk (fun hg => at_ct y i) (Sm.out ?_))); focus (first | omega | assumption | decide | trivial | (intros; (repeat' refine And.intro ?_ ?_) <;> first | assumption | omega | trivial | decide) | (intros; simp only [decide_eq_true_eq, decide_eq_false_iff_not, Bool.and_eq_true, Bool.or_eq_true, Bool.and_eq_false_iff, Bool.or_eq_false_iff, bne_iff_ne, bne_eq_false_iff_eq, Int.not_lt, Int.not_le] at *; (repeat' refine And.intro ?_ ?_) <;> first | assumption | omega | trivial)))
          | (refine WP.seq fun K hK => ?_)
          | (refine WP.region (rvc_sound _ _ (Sm.out ?_)))
          | (refine WP.drawK rfl mixed (by decide +kernel) (Sm.out ?_))
          | (refine And.intro ?_ ?_; focus (first | assumption | omega | decide | trivial | (intro hob; simp only [hob, Bool.not_eq_true', Bool.not_eq_false', Bool.not_false, Bool.not_true, Bool.true_and, Bool.and_true, Bool.false_and, Bool.and_false, true_and, and_true, imp_self, implies_true, and_self]; done) | (intros; (repeat' refine And.intro ?_ ?_) <;> first | assumption | omega | trivial | decide) | (intros; simp only [decide_eq_true_eq, decide_eq_false_iff_not, Bool.and_eq_true, Bool.or_eq_true, Bool.and_eq_false_iff, Bool.or_eq_false_iff, bne_iff_ne, bne_eq_false_iff_eq, Int.not_lt, Int.not_le] at *; (repeat' refine And.intro ?_ ?_) <;> first | assumption | omega | trivial)))
          | (refine WP.block ?_)
          | (refine WP.cond rfl (fun hc => ?_) (fun hc => ?_) <;> (try simp only [decide_eq_true_eq, decide_eq_false_iff_not, Bool.and_eq_true, Bool.or_eq_true, Bool.and_eq_false_iff, Bool.or_eq_false_iff, Bool.not_eq_true', Bool.not_eq_false', Int.not_lt, Int.not_le, reduceCtorEq, false_and, and_false, false_or, or_false, true_and, and_true, true_or, or_true, not_true_eq_false, not_false_eq_true, beq_iff_eq, beq_eq_false_iff_ne, bne_iff_ne, bne_eq_false_iff_eq, ne_eq, Decidable.not_not] at hc) <;> (try (exact absurd hc (by decide))) <;> (try (exfalso; omega)))
          | (refine WP.skip ?_; simp only [SeqQ, BlkQ, LoopQ, BodyQ, ↓reduceIte, Nat.reduceEqDiff, reduceCtorEq, look, true_and])
          | (refine WP.exit ?_; simp only [SeqQ, BlkQ, LoopQ, BodyQ, ↓reduceIte, Nat.reduceEqDiff, reduceCtorEq, look, true_and])
          | (refine WP.ret (Sm.out ?_))
          | (refine ExG.mk (x := AV.any) (fun hg => absurd hg (by decide)) (Sm.out ?_))
          | (refine Or.inl (ExG.mk (x := AV.any) (fun hg => absurd hg (by decide)) (Sm.out ?_)))
          | (refine Or.inl (And.intro (fun hg => absurd hg (by decide)) (ExG.mk (x := AV.any) (fun hg => absurd hg (by decide)) (Sm.out ?_))))
          | (refine Rt.mk ?_; refine And.intro ?_ ?_ <;> (intro hg; first | exact absurd hg (by decide) | refine Sm.out ?_))
          | (refine Nu.mk ?_; first | ((fail_if_success (have hx := nb1)); intro nb1) | ((fail_if_success (have hx := nb2)); intro nb2) | ((fail_if_success (have hx := nb3)); intro nb3) | ((fail_if_success (have hx := nb4)); intro nb4) | ((fail_if_success (have hx := nb5)); intro nb5) | ((fail_if_success (have hx := nb6)); intro nb6) | ((fail_if_success (have hx := nb7)); intro nb7) | ((fail_if_success (have hx := nb8)); intro nb8) | ((fail_if_success (have hx := nb9)); intro nb9) | ((fail_if_success (have hx := nb10)); intro nb10) | ((fail_if_success (have hx := nb11)); intro nb11) | ((fail_if_success (have hx := nb12)); intro nb12) | ((fail_if_success (have hx := nb13)); intro nb13) | ((fail_if_success (have hx := nb14)); intro nb14))
          | (refine Fr.mk ?_; intro hfr; replace FR := And.intro hfr FR; clear hfr; refine Sm.out ?_)
          | (refine Two.mk ?_ ?_)
          | (refine Cs.mk ?_; intro hcs; first | exact False.elim hcs | (exfalso; omega) | (refine Sm.out ?_))
          | (refine (show VwL _ _ _ from ?_); simp only [VwL, and_true, true_and])
          | exact Vw.same _
          | (refine Vw.row' (by simp only [hget, ↓reduceIte, if_true, if_false, FR, e0, k1, k2, g1]; first | done | rfl) ?_ ?_ ?_ ?_)
          | (refine And.intro (Vw.same _) ?_)
          | (refine And.intro (Vw.row' (by simp only [hget, ↓reduceIte, if_true, if_false, FR, e0, k1, k2, g1]; first | done | rfl) ?_ ?_ ?_ ?_) ?_)
          | go_step
          | omega
          | (simp only [maxLen_eq]; omega)
        exact ⟨i, ⟨by omega, by rw [d1, d2, hb, h2]⟩, by omega, (Sub.pick (by simp [pickB, hget, hdel, FR]) (by simp [look]))⟩
      · have k2 : (((bitA x i : Nat) : Int) != ((bitA y i : Nat) : Int)) = true := bne_iff_ne.2 (by omega)
        have hfin : IntKind.i64.wrap (((bitA x i : Nat) : Int) - ((bitA y i : Nat) : Int)) = V := by
          rw [wrap_i64 (by omega) (by omega), hV]
          unfold cmpN
          by_cases hc : bitA x i < bitA y i
          · rw [if_pos (cmp_drop (i := i) (by omega))]; omega
          · have := cmp_drop (x := y) (y := x) (i := i) (by omega)
            rw [if_neg (by omega), if_pos this]; omega
        first | (have FRx := FR; clear FRx) | (have FR : ¬ ((1 : Nat) = 0) := Nat.one_ne_zero)
        repeat' first
          | (refine Sm.mk ?_; try simp -dsimp only [rvc, drawF, headN, pureH, maxLen_eq, stp, dvc, calleeOf, gcall, pev, eff, newB, okd, og, ogs, ogo, ogp, slv, bltv, opd, litv, strip, one, both, putE, St.put, look, gdOf, gdv, picka, pickv, pickw, binv, bini, bins, binb, binp, bina, shp, eqCells, unv, convv, nilv, faddv, addp, idxav, idxp, load1, load1m, loadn, loadnm, loadv, hget, hset, hrep, hdel, slicev, List.length_append, bnd, shift1, lenv, IntKind.bits, Nat.reducePow, Int.reducePow, Nat.min_def, extractv, fieldv, indexv, min2v, max2v, mkiv, cellsA, fillA, buildv, stC, oneC, rowMB, intsA, plN, appE, appZ, appC, appNZ, appNC, repA_one, VwL, srcC, srcZ, srcM, fresh_nil, fresh_cons, freshBut_nil, freshBut_cons, intsA_map, ne_eq, true_implies, forall_const, List.length_map, List.map_append, drop_getD0, Int.toNat_natCast, List.length_drop, List.length_take, Int.cast_ofNat_Int, isBoolT, isPtrT, isSliceT, uOk, List.size_toArray, List.length_cons, List.length_nil, List.getElem?_toArray, List.getElem?_cons_zero, List.getElem?_cons_succ, Option.bind_some, Option.map_some, Option.map_none, Option.isSome_some, Nat.reduceAdd, Nat.reduceMul, Nat.reduceSub, Nat.reduceLT, Nat.reduceLeDiff, Nat.reduceEqDiff, Nat.reduceBEq, Nat.reduceDiv, Nat.reduceMod, ↓reduceIte, reduceCtorEq, if_true, if_false, true_and, and_true, ite_true, ite_false, Bool.true_and, Bool.and_true, Bool.not_true, Bool.not_false, Bool.or_false, Bool.false_or, Bool.true_or, Bool.or_true, Bool.false_and, Bool.and_false, List.map_cons, List.map_nil, List.mem_cons, List.not_mem_nil, or_false, false_or, true_or, or_true, forall_eq_or_imp, forall_eq, List.all_cons, List.all_nil, List.append_nil, List.nil_append, List.cons_append, List.getD_cons_zero, List.getD_cons_succ, List.take_succ_cons, List.take_zero, List.drop_succ_cons, List.drop_zero, List.set_cons_zero, List.set_cons_succ, List.replicate_succ, List.replicate_zero, Value.oneCell', Nat.add_zero, Nat.zero_add, Nat.mul_one, Nat.one_mul, Int.toNat_zero, Int.reduceToNat, Int.reduceLT, Int.reduceLE, Nat.le_refl, Int.le_refl, Option.some.injEq, TypeDesc.slice.injEq, TypeDesc.int.injEq, List.length_replicate, TypeDesc.pointer.injEq, exists_eq, exists_eq_left, exists_eq_left', exists_eq', implies_true, beq_true, beq_false, and_self, beq_self_eq_true, bne_self_eq_false, decide_true, decide_false, cond_true, cond_false, Bool.not_eq_true', Bool.not_eq_false', imp_self, Bool.cond_false_right, Bool.cond_true_right, Bool.cond_true_left, Bool.cond_false_left, tyc3, zmb3, tyc4, zmb4, tyc37, elt37, mkz37, mkc37, apT37, elk37, zmb37, Try.underlying3, Try.underlying4, Try.underlying37, SeqQ, BlkQ, LoopQ, BodyQ, e0, k1, k2, hfin, FR])
          | (refine CallV.fn (at_ct x i) (Sm.out ?_))
          | (refine ExF.mk (at_ct x i) (Sm.out ?_))
          | (refine ExG.mk (fun hg => at_ct x i) (Sm.out ?_))
          | (refine Or.inl (ExG.mk (fun hg => at_ct x i) (Sm.out ?_)))
          | (refine Or.inl (And.intro ?_ (ExG.mk (fun hg => at_ct x i) (Sm.out ?_))); focus (first | omega | assumption | decide | trivial | (intros; (repeat' refine And.intro ?_ ?_) <;> first | assumption | omega | trivial | decide) | (intros; simp only [decide_eq_true_eq, decide_eq_false_iff_not, Bool.and_eq_true, Bool.or_eq_true, Bool.and_eq_false_iff, Bool.or_eq_false_iff, bne_iff_ne, bne_eq_false_iff_eq, Int.not_lt, Int.not_le] at *; (repeat' refine And.intro ?_ ?_) <;> first | assumption | omega | trivial)))
          | (refine CallV.fn (at_ct y i) (Sm.out ?_))
          | (refine ExF.mk (at_ct y i) (Sm.out ?_))
          | (refine ExG.mk (fun hg => at_ct y i) (Sm.out ?_))
          | (refine Or.inl (ExG.mk (fun hg => at_ct y i) (Sm.out ?_)))
          | (refine Or.inl (And.intro ?_ (ExG.mk (fun hg => at_ct y i) (Sm.out ?_))); focus (first | omega | assumption | decide | trivial | (intros; (repeat' refine And.intro ?_ ?_) <;> first | assumption | omega | trivial | decide) | (intros; simp only [decide_eq_true_eq, decide_eq_false_iff_not, Bool.and_eq_true, Bool.or_eq_true, Bool.and_eq_false_iff, Bool.or_eq_false_iff, bne_iff_ne, bne_eq_false_iff_eq, Int.not_lt, Int.not_le] at *; (repeat' refine And.intro ?_ ?_) <;> first | assumption | omega | trivial)))
          | (refine WP.seq fun K hK => ?_)
          | (refine WP.region (rvc_sound _ _ (Sm.out ?_)))
          | (refine WP.drawK rfl mixed (by decide +kernel) (Sm.out ?_))
          | (refine And.intro ?_ ?_; focus (first | assumption | omega | decide | trivial | (intro hob; simp only [hob, Bool.not_eq_true', Bool.not_eq_false', Bool.not_false, Bool.not_true, Bool.true_and, Bool.and_true, Bool.false_and, Bool.and_false, true_and, and_true, imp_self, implies_true, and_self]; done) | (intros; (repeat' refine And.intro ?_ ?_) <;> first | assumption | omega | trivial | decide) | (intros; simp only [decide_eq_true_eq, decide_eq_false_iff_not, Bool.and_eq_true, Bool.or_eq_true, Bool.and_eq_false_iff, Bool.or_eq_false_iff, bne_iff_ne, bne_eq_false_iff_eq, Int.not_lt, Int.not_le] at *; (repeat' refine And.intro ?_ ?_) <;> first | assumption | omega | trivial)))
          | (refine WP.block ?_)
          | (refine WP.cond rfl (fun hc => ?_) (fun hc => ?_) <;> (try simp only [decide_eq_true_eq, decide_eq_false_iff_not, Bool.and_eq_true, Bool.or_eq_true, Bool.and_eq_false_iff, Bool.or_eq_false_iff, Bool.not_eq_true', Bool.not_eq_false', Int.not_lt, Int.not_le, reduceCtorEq, false_and, and_false, false_or, or_false, true_and, and_true, true_or, or_true, not_true_eq_false, not_false_eq_true, beq_iff_eq, beq_eq_false_iff_ne, bne_iff_ne, bne_eq_false_iff_eq, ne_eq, Decidable.not_not] at hc) <;> (try (exact absurd hc (by decide))) <;> (try (exfalso; omega)))
          | (refine WP.skip ?_; simp only [SeqQ, BlkQ, LoopQ, BodyQ, ↓reduceIte, Nat.reduceEqDiff, reduceCtorEq, look, true_and])
          | (refine WP.exit ?_; simp only [SeqQ, BlkQ, LoopQ, BodyQ, ↓reduceIte, Nat.reduceEqDiff, reduceCtorEq, look, true_and])
          | (refine WP.ret (Sm.out ?_))
          | (refine ExG.mk (x := AV.any) (fun hg => absurd hg (by decide)) (Sm.out ?_))
          | (refine Or.inl (ExG.mk (x := AV.any) (fun hg => absurd hg (by decide)) (Sm.out ?_)))
          | (refine Or.inl (And.intro (fun hg => absurd hg (by decide)) (ExG.mk (x := AV.any) (fun hg => absurd hg (by decide)) (Sm.out ?_))))
          | (refine Rt.mk ?_; refine And.intro ?_ ?_ <;> (intro hg; first | exact absurd hg (by decide) | refine Sm.out ?_))
          | (refine Nu.mk ?_; first | ((fail_if_success (have hx := nb1)); intro nb1) | ((fail_if_success (have hx := nb2)); intro nb2) | ((fail_if_success (have hx := nb3)); intro nb3) | ((fail_if_success (have hx := nb4)); intro nb4) | ((fail_if_success (have hx := nb5)); intro nb5) | ((fail_if_success (have hx := nb6)); intro nb6) | ((fail_if_success (have hx := nb7)); intro nb7) | ((fail_if_success (have hx := nb8)); intro nb8) | ((fail_if_success (have hx := nb9)); intro nb9) | ((fail_if_success (have hx := nb10)); intro nb10) | ((fail_if_success (have hx := nb11)); intro nb11) | ((fail_if_success (have hx := nb12)); intro nb12) | ((fail_if_success (have hx := nb13)); intro nb13) | ((fail_if_success (have hx := nb14)); intro nb14))
          | (refine Fr.mk ?_; intro hfr; replace FR := And.intro hfr FR; clear hfr; refine Sm.out ?_)
          | (refine Two.mk ?_ ?_)
          | (refine Cs.mk ?_; intro hcs; first | exact False.elim hcs | (exfalso; omega) | (refine Sm.out ?_))
          | (refine (show VwL _ _ _ from ?_); simp only [VwL, and_true, true_and])
          | exact Vw.same _
          | (refine Vw.row' (by simp only [hget, ↓reduceIte, if_true, if_false, FR, e0, k1, k2, hfin]; first | done | rfl) ?_ ?_ ?_ ?_)
          | (refine And.intro (Vw.same _) ?_)
          | (refine And.intro (Vw.row' (by simp only [hget, ↓reduceIte, if_true, if_false, FR, e0, k1, k2, hfin]; first | done | rfl) ?_ ?_ ?_ ?_) ?_)
          | (refine OutQ.all ?_ ?_; (focus (simp only [resv, look, loadv, loadn, loadnm, load1, load1m, hget, maxLen_eq, ↓reduceIte, if_true, if_false, ite_true, ite_false, Nat.reduceEqDiff, Nat.reduceAdd, Nat.reduceMul, Nat.reduceLeDiff, Nat.reduceLT, reduceCtorEq, true_and, and_true, and_self, List.length_cons, List.length_nil, List.length_map, List.length_replicate, List.take_succ_cons, List.take_zero, List.drop_zero, List.drop_succ_cons, List.map_cons, List.map_nil, List.getD_cons_zero, List.getD_cons_succ, Nat.zero_add, Nat.add_zero, Nat.le_refl, Option.some.injEq, ne_eq, tyc3, tyc4, tyc37, e0, k1, k2, hfin, FR])); (try simp only [resv, resA, Fn, look, loadv, loadn, loadnm, load1, load1m, hget, maxLen_eq, ↓reduceIte, if_true, if_false, ite_true, ite_false, Nat.reduceEqDiff, Nat.reduceAdd, Nat.reduceMul, Nat.reduceLeDiff, Nat.reduceLT, reduceCtorEq, true_and, and_true, and_self, List.length_cons, List.length_nil, List.length_map, List.length_replicate, List.take_succ_cons, List.take_zero, List.drop_zero, List.drop_succ_cons, List.map_cons, List.map_nil, List.getD_cons_zero, List.getD_cons_succ, Nat.zero_add, Nat.add_zero, Nat.le_refl, Option.some.injEq, ne_eq, tyc3, tyc4, tyc37, e0, k1, k2, hfin, FR]); (try simp [resA, Fn, look, e0, k1, k2, hfin, FR]); done)
          | go_step
          | omega
          | (simp only [maxLen_eq]; omega)

end Go.Proofs.Ytngdgicgppaeaaa
