/-
  The sum of two signed numbers.
-/
import Derived.Test.YtngdgicgppaeaaaSiD
namespace Go.Proofs.Ytngdgicgppaeaaa
open Go
set_option linter.unusedVariables false
set_option linter.unusedSimpArgs false

theorem rightN (f : Bool) (n : Nat) (h : f = true → 0 < n) : ACt Try.prog 25 [sgN f n] [] (Fn (sgN f n)) := by
  have := right_ct f ((n / 18446744073709551616 : Nat) : Int) ((n % 18446744073709551616 : Nat) : Int)
  rw [rgtN f n h] at this
  exact this
theorem sizedN (f : Bool) (n : Nat) (h : f = true → 0 < n) : ACt Try.prog 24 [bv f, wideA n] [] (Fn (sgN f n)) := by
  have := sized_ct f ((n / 18446744073709551616 : Nat) : Int) ((n % 18446744073709551616 : Nat) : Int)
  rw [rgtN f n h] at this
  exact this
theorem addW (a b : Nat) (h : a + b < 340282366920938463463374607431768211456) : ACt Try.prog 31 [wideA a, wideA b] [] (Fn (.tup [wideA (a + b), iv .i64 0])) := by
  have := add_ct (a / 18446744073709551616) (a % 18446744073709551616) (b / 18446744073709551616) (b % 18446744073709551616) (by omega) (by omega) (by omega) (by omega) (by omega)
  rw [show a / 18446744073709551616 * 18446744073709551616 + a % 18446744073709551616 + (b / 18446744073709551616 * 18446744073709551616 + b % 18446744073709551616) = a + b by omega] at this
  exact this

set_option maxRecDepth 8000 in
set_option maxHeartbeats 2000000 in
theorem add_same (f : Bool) (n m : Nat) (h1 : f = true → 0 < n) (h2 : f = true → 0 < m) (hs : n + m < 340282366920938463463374607431768211456) :
    ACt Try.prog 15 [sgN f n, sgN f m] [] (Fn (.tup [sgN f (n + m), iv .i64 0])) := by
  refine ACt.intro Try.func15 rfl (by kernel_rfl) (by simp [Try.ntmps15]) (fun cx => ?_)
  simp only [argE, Try.ntmps15, Try.results15]
  have c1 := rightN f n h1
  have c2 := rightN f m h2
  have c3 := addW n m hs
  have c4 := sizedN f (n + m) fun e => by have := h1 e; omega
  obtain ⟨s, hsd⟩ : ∃ s, s = n + m := ⟨_, rfl⟩
  rw [← hsd] at c3 c4 ⊢
  have z : ((0 : Int) != 0) = false := by decide
  have e : (f == f) = true := beq_self_eq_true _
  cases f
  · first | (have FRx := FR; clear FRx) | (have FR : ¬ ((1 : Nat) = 0) := Nat.one_ne_zero)
    repeat' first
      | (refine Sm.mk ?_; try simp -dsimp only [rvc, drawF, headN, pureH, maxLen_eq, stp, dvc, calleeOf, gcall, pev, eff, newB, okd, og, ogs, ogo, ogp, slv, bltv, opd, litv, strip, one, both, putE, St.put, look, gdOf, gdv, picka, pickv, pickw, binv, bini, bins, binb, binp, bina, shp, eqCells, unv, convv, nilv, faddv, addp, idxav, idxp, load1, load1m, loadn, loadnm, loadv, hget, hset, hrep, hdel, slicev, List.length_append, bnd, shift1, lenv, IntKind.bits, Nat.reducePow, Int.reducePow, Nat.min_def, extractv, fieldv, indexv, min2v, max2v, mkiv, cellsA, fillA, buildv, stC, oneC, rowMB, intsA, plN, appE, appZ, appC, appNZ, appNC, repA_one, VwL, srcC, srcZ, srcM, fresh_nil, fresh_cons, freshBut_nil, freshBut_cons, intsA_map, ne_eq, true_implies, forall_const, List.length_map, List.map_append, drop_getD0, Int.toNat_natCast, List.length_drop, List.length_take, Int.cast_ofNat_Int, isBoolT, isPtrT, isSliceT, uOk, List.size_toArray, List.length_cons, List.length_nil, List.getElem?_toArray, List.getElem?_cons_zero, List.getElem?_cons_succ, Option.bind_some, Option.map_some, Option.map_none, Option.isSome_some, Nat.reduceAdd, Nat.reduceMul, Nat.reduceSub, Nat.reduceLT, Nat.reduceLeDiff, Nat.reduceEqDiff, Nat.reduceBEq, Nat.reduceDiv, Nat.reduceMod, ↓reduceIte, reduceCtorEq, if_true, if_false, true_and, and_true, ite_true, ite_false, Bool.true_and, Bool.and_true, Bool.not_true, Bool.not_false, Bool.or_false, Bool.false_or, Bool.true_or, Bool.or_true, Bool.false_and, Bool.and_false, List.map_cons, List.map_nil, List.mem_cons, List.not_mem_nil, or_false, false_or, true_or, or_true, forall_eq_or_imp, forall_eq, List.all_cons, List.all_nil, List.append_nil, List.nil_append, List.cons_append, List.getD_cons_zero, List.getD_cons_succ, List.take_succ_cons, List.take_zero, List.drop_succ_cons, List.drop_zero, List.set_cons_zero, List.set_cons_succ, List.replicate_succ, List.replicate_zero, Value.oneCell', Nat.add_zero, Nat.zero_add, Nat.mul_one, Nat.one_mul, Int.toNat_zero, Int.reduceToNat, Int.reduceLT, Int.reduceLE, Nat.le_refl, Int.le_refl, Option.some.injEq, TypeDesc.slice.injEq, TypeDesc.int.injEq, List.length_replicate, TypeDesc.pointer.injEq, exists_eq, exists_eq_left, exists_eq_left', exists_eq', implies_true, beq_true, beq_false, and_self, beq_self_eq_true, bne_self_eq_false, decide_true, decide_false, cond_true, cond_false, Bool.not_eq_true', Bool.not_eq_false', imp_self, Bool.cond_false_right, Bool.cond_true_right, Bool.cond_true_left, Bool.cond_false_left, tyc0, tyc4, zmb4, tyc24, foff24_0, fpart24_0, foff24_1, fpart24_1, fe24, zmb24, bldT24, tyc26, foff26_0, fpart26_0, foff26_1, fpart26_1, zmb26, bldT26, tyc29, zmb29, tyc54, Try.underlying0, Try.underlying4, Try.underlying24, Try.underlying26, Try.underlying29, Try.underlying54, SeqQ, BlkQ, LoopQ, BodyQ, z, FR])
      | (refine CallV.fn (c1) (Sm.out ?_))
      | (refine ExF.mk (c1) (Sm.out ?_))
      | (refine ExG.mk (fun hg => c1) (Sm.out ?_))
      | (refine Or.inl (ExG.mk (fun hg => c1) (Sm.out ?_)))
      | (refine Or.inl (And.intro ?_ (ExG.mk (fun hg => c1) (Sm.out ?_))); focus (first | omega | assumption | decide | trivial | (intros; (repeat' refine And.intro ?_ ?_) <;> first | assumption | omega | trivial | decide) | (intros; simp only [decide_eq_true_eq, decide_eq_false_iff_not, Bool.and_eq_true, Bool.or_eq_true, Bool.and_eq_false_iff, Bool.or_eq_false_iff, bne_iff_ne, bne_eq_false_iff_eq, Int.not_lt, Int.not_le] at *; (repeat' refine And.intro ?_ ?_) <;> first | assumption | omega | trivial)))
      | (refine CallV.fn (c2) (Sm.out ?_))
      | (refine ExF.mk (c2) (Sm.out ?_))
      | (refine ExG.mk (fun hg => c2) (Sm.out ?_))
      | (refine Or.inl (ExG.mk (fun hg => c2) (Sm.out ?_)))
      | (refine Or.inl (And.intro ?_ (ExG.mk (fun hg => c2) (Sm.out ?_))); focus (first | omega | assumption | decide | trivial | (intros; (repeat' refine And.intro ?_ ?_) <;> first | assumption | omega | trivial | decide) | (intros; simp only [decide_eq_true_eq, decide_eq_false_iff_not, Bool.and_eq_true, Bool.or_eq_true, Bool.and_eq_false_iff, Bool.or_eq_false_iff, bne_iff_ne, bne_eq_false_iff_eq, Int.not_lt, Int.not_le] at *; (repeat' refine And.intro ?_ ?_) <;> first | assumption | omega | trivial)))
      | (refine CallV.fn (c3) (Sm.out ?_))
      | (refine ExF.mk (c3) (Sm.out ?_))
      | (refine ExG.mk (fun hg => c3) (Sm.out ?_))
      | (refine Or.inl (ExG.mk (fun hg => c3) (Sm.out ?_)))
      | (refine Or.inl (And.intro ?_ (ExG.mk (fun hg => c3) (Sm.out ?_))); focus (first | omega | assumption | decide | trivial | (intros; (repeat' refine And.intro ?_ ?_) <;> first | assumption | omega | trivial | decide) | (intros; simp only [decide_eq_true_eq, decide_eq_false_iff_not, Bool.and_eq_true, Bool.or_eq_true, Bool.and_eq_false_iff, Bool.or_eq_false_iff, bne_iff_ne, bne_eq_false_iff_eq, Int.not_lt, Int.not_le] at *; (repeat' refine And.intro ?_ ?_) <;> first | assumption | omega | trivial)))
      | (refine CallV.fn (c4) (Sm.out ?_))
      | (refine ExF.mk (c4) (Sm.out ?_))
      | (refine ExG.mk (fun hg => c4) (Sm.out ?_))
      | (refine Or.inl (ExG.mk (fun hg => c4) (Sm.out ?_)))
      | (refine Or.inl (And.intro ?_ (ExG.mk (fun hg => c4) (Sm.out ?_))); focus (first | omega | assumption | decide | trivial | (intros; (repeat' refine And.intro ?_ ?_) <;> first | assumption | omega | trivial | decide) | (intros; simp only [decide_eq_true_eq, decide_eq_false_iff_not, Bool.and_eq_true, Bool.or_eq_true, Bool.and_eq_false_iff, Bool.or_eq_false_iff, bne_iff_ne, bne_eq_false_iff_eq, Int.not_lt, Int.not_le] at *; (repeat' refine And.intro ?_ ?_) <;> first | assumption | omega | trivial)))
      | (refine WP.seq fun K hK => ?_)
      | (refine WP.region (rvc_sound _ _ (Sm.out ?_)))
      | (refine WP.drawK rfl mixed (by decide +kernel) (Sm.out ?_))
      | (refine And.intro ?_ ?_; focus (first | assumption | omega | decide | trivial | (intro hob; simp only [hob, Bool.not_eq_true', Bool.not_eq_false', Bool.not_false, Bool.not_true, Bool.true_and, Bool.and_true, Bool.false_and, Bool.and_false, true_and, and_true, imp_self, implies_true, and_self]; done) | (intros; (repeat' refine And.intro ?_ ?_) <;> first | assumption | omega | trivial | decide) | (intros; simp only [decide_eq_true_eq, decide_eq_false_iff_not, Bool.and_eq_true, Bool.or_eq_true, Bool.and_eq_false_iff, Bool.or_eq_false_iff, bne_iff_ne, bne_eq_false_iff_eq, Int.not_lt, Int.not_le] at *; (repeat' refine And.intro ?_ ?_) <;> first | assumption | omega | trivial)))
      | (refine WP.block ?_)
      | (refine WP.cond rfl (fun hc => ?_) (fun hc => ?_) <;> (try simp only [decide_eq_true_eq, decide_eq_false_iff_not, Bool.and_eq_true, Bool.or_eq_true, Bool.and_eq_false_iff, Bool.or_eq_false_iff, Bool.not_eq_true', Bool.not_eq_false', Int.not_lt, Int.not_le, reduceCtorEq, false_and, and_false, false_or, or_false, true_and, and_true, true_or, or_true, not_true_eq_false, not_false_eq_true, beq_iff_eq, beq_eq_false_iff_ne, bne_iff_ne, bne_eq_false_iff_eq, ne_eq, Decidable.not_not] at hc) <;> (try (exact absurd hc (by decide))) <;> (try (exfalso; omega)))
      | (refine WP.skip ?_; simp only [SeqQ, BlkQ, LoopQ, BodyQ, ↓reduceIte, Nat.reduceEqDiff, reduceCtorEq, look, true_and])
      | (refine WP.exit ?_; simp only [SeqQ, BlkQ, LoopQ, BodyQ, ↓reduceIte, Nat.reduceEqDiff, reduceCtorEq, look, true_and])
      | (refine WP.ret (Sm.out ?_))
      | (refine ExG.mk (x := AV.any) (fun hg => absurd hg (by decide)) (Sm.out ?_))
      | (refine Or.inl (ExG.mk (x := AV.any) (fun hg => absurd hg (by decide)) (Sm.out ?_)))
      | (refine Or.inl (And.intro (fun hg => absurd hg (by decide)) (ExG.mk (x := AV.any) (fun hg => absurd hg (by decide)) (Sm.out ?_))))
      | (refine Rt.mk ?_; refine And.intro ?_ ?_ <;> (intro hg; first | exact absurd hg (by decide) | refine Sm.out ?_))
      | (refine Nu.mk ?_; first | ((fail_if_success (have hx := nb1)); intro nb1) | ((fail_if_success (have hx := nb2)); intro nb2) | ((fail_if_success (have hx := nb3)); intro nb3) | ((fail_if_success (have hx := nb4)); intro nb4) | ((fail_if_success (have hx := nb5)); intro nb5) | ((fail_if_success (have hx := nb6)); intro nb6) | ((fail_if_success (have hx := nb7)); intro nb7) | ((fail_if_success (have hx := nb8)); intro nb8) | ((fail_if_success (have hx := nb9)); intro nb9) | ((fail_if_success (have hx := nb10)); intro nb10) | ((fail_if_success (have hx := nb11)); intro nb11) | ((fail_if_success (have hx := nb12)); intro nb12) | ((fail_if_success (have hx := nb13)); intro nb13) | ((fail_if_success (have hx := nb14)); intro nb14) | ((fail_if_success (have hx := nb15)); intro nb15) | ((fail_if_success (have hx := nb16)); intro nb16) | ((fail_if_success (have hx := nb17)); intro nb17) | ((fail_if_success (have hx := nb18)); intro nb18) | ((fail_if_success (have hx := nb19)); intro nb19) | ((fail_if_success (have hx := nb20)); intro nb20) | ((fail_if_success (have hx := nb21)); intro nb21) | ((fail_if_success (have hx := nb22)); intro nb22) | ((fail_if_success (have hx := nb23)); intro nb23) | ((fail_if_success (have hx := nb24)); intro nb24) | ((fail_if_success (have hx := nb25)); intro nb25) | ((fail_if_success (have hx := nb26)); intro nb26) | ((fail_if_success (have hx := nb27)); intro nb27) | ((fail_if_success (have hx := nb28)); intro nb28) | ((fail_if_success (have hx := nb29)); intro nb29) | ((fail_if_success (have hx := nb30)); intro nb30))
      | (refine Fr.mk ?_; intro hfr; replace FR := And.intro hfr FR; clear hfr; refine Sm.out ?_)
      | (refine Two.mk ?_ ?_)
      | (refine Cs.mk ?_; intro hcs; first | exact False.elim hcs | (exfalso; omega) | (refine Sm.out ?_))
      | (refine (show VwL _ _ _ from ?_); simp only [VwL, and_true, true_and])
      | exact Vw.same _
      | (refine Vw.row' (by simp only [hget, ↓reduceIte, if_true, if_false, FR, z]; first | done | rfl) ?_ ?_ ?_ ?_)
      | (refine And.intro (Vw.same _) ?_)
      | (refine And.intro (Vw.row' (by simp only [hget, ↓reduceIte, if_true, if_false, FR, z]; first | done | rfl) ?_ ?_ ?_ ?_) ?_)
      | (refine OutQ.all ?_ ?_; (focus (simp only [resv, look, loadv, loadn, loadnm, load1, load1m, hget, maxLen_eq, ↓reduceIte, if_true, if_false, ite_true, ite_false, Nat.reduceEqDiff, Nat.reduceAdd, Nat.reduceMul, Nat.reduceLeDiff, Nat.reduceLT, reduceCtorEq, true_and, and_true, and_self, List.length_cons, List.length_nil, List.length_map, List.length_replicate, List.take_succ_cons, List.take_zero, List.drop_zero, List.drop_succ_cons, List.map_cons, List.map_nil, List.getD_cons_zero, List.getD_cons_succ, Nat.zero_add, Nat.add_zero, Nat.le_refl, Option.some.injEq, ne_eq, tyc0, tyc4, tyc24, tyc26, tyc29, tyc54, z, FR])); (try simp only [resv, resA, Fn, look, loadv, loadn, loadnm, load1, load1m, hget, maxLen_eq, ↓reduceIte, if_true, if_false, ite_true, ite_false, Nat.reduceEqDiff, Nat.reduceAdd, Nat.reduceMul, Nat.reduceLeDiff, Nat.reduceLT, reduceCtorEq, true_and, and_true, and_self, List.length_cons, List.length_nil, List.length_map, List.length_replicate, List.take_succ_cons, List.take_zero, List.drop_zero, List.drop_succ_cons, List.map_cons, List.map_nil, List.getD_cons_zero, List.getD_cons_succ, Nat.zero_add, Nat.add_zero, Nat.le_refl, Option.some.injEq, ne_eq, tyc0, tyc4, tyc24, tyc26, tyc29, tyc54, z, FR]); (try simp [resA, Fn, look, z, FR]); done)
      | go_step
      | omega
      | (simp only [maxLen_eq]; omega)
  · first | (have FRx := FR; clear FRx) | (have FR : ¬ ((1 : Nat) = 0) := Nat.one_ne_zero)
    repeat' first
      | (refine Sm.mk ?_; try simp -dsimp only [rvc, drawF, headN, pureH, maxLen_eq, stp, dvc, calleeOf, gcall, pev, eff, newB, okd, og, ogs, ogo, ogp, slv, bltv, opd, litv, strip, one, both, putE, St.put, look, gdOf, gdv, picka, pickv, pickw, binv, bini, bins, binb, binp, bina, shp, eqCells, unv, convv, nilv, faddv, addp, idxav, idxp, load1, load1m, loadn, loadnm, loadv, hget, hset, hrep, hdel, slicev, List.length_append, bnd, shift1, lenv, IntKind.bits, Nat.reducePow, Int.reducePow, Nat.min_def, extractv, fieldv, indexv, min2v, max2v, mkiv, cellsA, fillA, buildv, stC, oneC, rowMB, intsA, plN, appE, appZ, appC, appNZ, appNC, repA_one, VwL, srcC, srcZ, srcM, fresh_nil, fresh_cons, freshBut_nil, freshBut_cons, intsA_map, ne_eq, true_implies, forall_const, List.length_map, List.map_append, drop_getD0, Int.toNat_natCast, List.length_drop, List.length_take, Int.cast_ofNat_Int, isBoolT, isPtrT, isSliceT, uOk, List.size_toArray, List.length_cons, List.length_nil, List.getElem?_toArray, List.getElem?_cons_zero, List.getElem?_cons_succ, Option.bind_some, Option.map_some, Option.map_none, Option.isSome_some, Nat.reduceAdd, Nat.reduceMul, Nat.reduceSub, Nat.reduceLT, Nat.reduceLeDiff, Nat.reduceEqDiff, Nat.reduceBEq, Nat.reduceDiv, Nat.reduceMod, ↓reduceIte, reduceCtorEq, if_true, if_false, true_and, and_true, ite_true, ite_false, Bool.true_and, Bool.and_true, Bool.not_true, Bool.not_false, Bool.or_false, Bool.false_or, Bool.true_or, Bool.or_true, Bool.false_and, Bool.and_false, List.map_cons, List.map_nil, List.mem_cons, List.not_mem_nil, or_false, false_or, true_or, or_true, forall_eq_or_imp, forall_eq, List.all_cons, List.all_nil, List.append_nil, List.nil_append, List.cons_append, List.getD_cons_zero, List.getD_cons_succ, List.take_succ_cons, List.take_zero, List.drop_succ_cons, List.drop_zero, List.set_cons_zero, List.set_cons_succ, List.replicate_succ, List.replicate_zero, Value.oneCell', Nat.add_zero, Nat.zero_add, Nat.mul_one, Nat.one_mul, Int.toNat_zero, Int.reduceToNat, Int.reduceLT, Int.reduceLE, Nat.le_refl, Int.le_refl, Option.some.injEq, TypeDesc.slice.injEq, TypeDesc.int.injEq, List.length_replicate, TypeDesc.pointer.injEq, exists_eq, exists_eq_left, exists_eq_left', exists_eq', implies_true, beq_true, beq_false, and_self, beq_self_eq_true, bne_self_eq_false, decide_true, decide_false, cond_true, cond_false, Bool.not_eq_true', Bool.not_eq_false', imp_self, Bool.cond_false_right, Bool.cond_true_right, Bool.cond_true_left, Bool.cond_false_left, tyc0, tyc4, zmb4, tyc24, foff24_0, fpart24_0, foff24_1, fpart24_1, fe24, zmb24, bldT24, tyc26, foff26_0, fpart26_0, foff26_1, fpart26_1, zmb26, bldT26, tyc29, zmb29, tyc54, Try.underlying0, Try.underlying4, Try.underlying24, Try.underlying26, Try.underlying29, Try.underlying54, SeqQ, BlkQ, LoopQ, BodyQ, z, FR])
      | (refine CallV.fn (c1) (Sm.out ?_))
      | (refine ExF.mk (c1) (Sm.out ?_))
      | (refine ExG.mk (fun hg => c1) (Sm.out ?_))
      | (refine Or.inl (ExG.mk (fun hg => c1) (Sm.out ?_)))
      | (refine Or.inl (And.intro ?_ (ExG.mk (fun hg => c1) (Sm.out ?_))); focus (first | omega | assumption | decide | trivial | (intros; (repeat' refine And.intro ?_ ?_) <;> first | assumption | omega | trivial | decide) | (intros; simp only [decide_eq_true_eq, decide_eq_false_iff_not, Bool.and_eq_true, Bool.or_eq_true, Bool.and_eq_false_iff, Bool.or_eq_false_iff, bne_iff_ne, bne_eq_false_iff_eq, Int.not_lt, Int.not_le] at *; (repeat' refine And.intro ?_ ?_) <;> first | assumption | omega | trivial)))
      | (refine CallV.fn (c2) (Sm.out ?_))
      | (refine ExF.mk (c2) (Sm.out ?_))
      | (refine ExG.mk (fun hg => c2) (Sm.out ?_))
      | (refine Or.inl (ExG.mk (fun hg => c2) (Sm.out ?_)))
      | (refine Or.inl (And.intro ?_ (ExG.mk (fun hg => c2) (Sm.out ?_))); focus (first | omega | assumption | decide | trivial | (intros; (repeat' refine And.intro ?_ ?_) <;> first | assumption | omega | trivial | decide) | (intros; simp only [decide_eq_true_eq, decide_eq_false_iff_not, Bool.and_eq_true, Bool.or_eq_true, Bool.and_eq_false_iff, Bool.or_eq_false_iff, bne_iff_ne, bne_eq_false_iff_eq, Int.not_lt, Int.not_le] at *; (repeat' refine And.intro ?_ ?_) <;> first | assumption | omega | trivial)))
      | (refine CallV.fn (c3) (Sm.out ?_))
      | (refine ExF.mk (c3) (Sm.out ?_))
      | (refine ExG.mk (fun hg => c3) (Sm.out ?_))
      | (refine Or.inl (ExG.mk (fun hg => c3) (Sm.out ?_)))
      | (refine Or.inl (And.intro ?_ (ExG.mk (fun hg => c3) (Sm.out ?_))); focus (first | omega | assumption | decide | trivial | (intros; (repeat' refine And.intro ?_ ?_) <;> first | assumption | omega | trivial | decide) | (intros; simp only [decide_eq_true_eq, decide_eq_false_iff_not, Bool.and_eq_true, Bool.or_eq_true, Bool.and_eq_false_iff, Bool.or_eq_false_iff, bne_iff_ne, bne_eq_false_iff_eq, Int.not_lt, Int.not_le] at *; (repeat' refine And.intro ?_ ?_) <;> first | assumption | omega | trivial)))
      | (refine CallV.fn (c4) (Sm.out ?_))
      | (refine ExF.mk (c4) (Sm.out ?_))
      | (refine ExG.mk (fun hg => c4) (Sm.out ?_))
      | (refine Or.inl (ExG.mk (fun hg => c4) (Sm.out ?_)))
      | (refine Or.inl (And.intro ?_ (ExG.mk (fun hg => c4) (Sm.out ?_))); focus (first | omega | assumption | decide | trivial | (intros; (repeat' refine And.intro ?_ ?_) <;> first | assumption | omega | trivial | decide) | (intros; simp only [decide_eq_true_eq, decide_eq_false_iff_not, Bool.and_eq_true, Bool.or_eq_true, Bool.and_eq_false_iff, Bool.or_eq_false_iff, bne_iff_ne, bne_eq_false_iff_eq, Int.not_lt, Int.not_le] at *; (repeat' refine And.intro ?_ ?_) <;> first | assumption | omega | trivial)))
      | (refine WP.seq fun K hK => ?_)
      | (refine WP.region (rvc_sound _ _ (Sm.out ?_)))
      | (refine WP.drawK rfl mixed (by decide +kernel) (Sm.out ?_))
      | (refine And.intro ?_ ?_; focus (first | assumption | omega | decide | trivial | (intro hob; simp only [hob, Bool.not_eq_true', Bool.not_eq_false', Bool.not_false, Bool.not_true, Bool.true_and, Bool.and_true, Bool.false_and, Bool.and_false, true_and, and_true, imp_self, implies_true, and_self]; done) | (intros; (repeat' refine And.intro ?_ ?_) <;> first | assumption | omega | trivial | decide) | (intros; simp only [decide_eq_true_eq, decide_eq_false_iff_not, Bool.and_eq_true, Bool.or_eq_true, Bool.and_eq_false_iff, Bool.or_eq_false_iff, bne_iff_ne, bne_eq_false_iff_eq, Int.not_lt, Int.not_le] at *; (repeat' refine And.intro ?_ ?_) <;> first | assumption | omega | trivial)))
      | (refine WP.block ?_)
      | (refine WP.cond rfl (fun hc => ?_) (fun hc => ?_) <;> (try simp only [decide_eq_true_eq, decide_eq_false_iff_not, Bool.and_eq_true, Bool.or_eq_true, Bool.and_eq_false_iff, Bool.or_eq_false_iff, Bool.not_eq_true', Bool.not_eq_false', Int.not_lt, Int.not_le, reduceCtorEq, false_and, and_false, false_or, or_false, true_and, and_true, true_or, or_true, not_true_eq_false, not_false_eq_true, beq_iff_eq, beq_eq_false_iff_ne, bne_iff_ne, bne_eq_false_iff_eq, ne_eq, Decidable.not_not] at hc) <;> (try (exact absurd hc (by decide))) <;> (try (exfalso; omega)))
      | (refine WP.skip ?_; simp only [SeqQ, BlkQ, LoopQ, BodyQ, ↓reduceIte, Nat.reduceEqDiff, reduceCtorEq, look, true_and])
      | (refine WP.exit ?_; simp only [SeqQ, BlkQ, LoopQ, BodyQ, ↓reduceIte, Nat.reduceEqDiff, reduceCtorEq, look, true_and])
      | (refine WP.ret (Sm.out ?_))
      | (refine ExG.mk (x := AV.any) (fun hg => absurd hg (by decide)) (Sm.out ?_))
      | (refine Or.inl (ExG.mk (x := AV.any) (fun hg => absurd hg (by decide)) (Sm.out ?_)))
      | (refine Or.inl (And.intro (fun hg => absurd hg (by decide)) (ExG.mk (x := AV.any) (fun hg => absurd hg (by decide)) (Sm.out ?_))))
      | (refine Rt.mk ?_; refine And.intro ?_ ?_ <;> (intro hg; first | exact absurd hg (by decide) | refine Sm.out ?_))
      | (refine Nu.mk ?_; first | ((fail_if_success (have hx := nb1)); intro nb1) | ((fail_if_success (have hx := nb2)); intro nb2) | ((fail_if_success (have hx := nb3)); intro nb3) | ((fail_if_success (have hx := nb4)); intro nb4) | ((fail_if_success (have hx := nb5)); intro nb5) | ((fail_if_success (have hx := nb6)); intro nb6) | ((fail_if_success (have hx := nb7)); intro nb7) | ((fail_if_success (have hx := nb8)); intro nb8) | ((fail_if_success (have hx := nb9)); intro nb9) | ((fail_if_success (have hx := nb10)); intro nb10) | ((fail_if_success (have hx := nb11)); intro nb11) | ((fail_if_success (have hx := nb12)); intro nb12) | ((fail_if_success (have hx := nb13)); intro nb13) | ((fail_if_success (have hx := nb14)); intro nb14) | ((fail_if_success (have hx := nb15)); intro nb15) | ((fail_if_success (have hx := nb16)); intro nb16) | ((fail_if_success (have hx := nb17)); intro nb17) | ((fail_if_success (have hx := nb18)); intro nb18) | ((fail_if_success (have hx := nb19)); intro nb19) | ((fail_if_success (have hx := nb20)); intro nb20) | ((fail_if_success (have hx := nb21)); intro nb21) | ((fail_if_success (have hx := nb22)); intro nb22) | ((fail_if_success (have hx := nb23)); intro nb23) | ((fail_if_success (have hx := nb24)); intro nb24) | ((fail_if_success (have hx := nb25)); intro nb25) | ((fail_if_success (have hx := nb26)); intro nb26) | ((fail_if_success (have hx := nb27)); intro nb27) | ((fail_if_success (have hx := nb28)); intro nb28) | ((fail_if_success (have hx := nb29)); intro nb29) | ((fail_if_success (have hx := nb30)); intro nb30))
      | (refine Fr.mk ?_; intro hfr; replace FR := And.intro hfr FR; clear hfr; refine Sm.out ?_)
      | (refine Two.mk ?_ ?_)
      | (refine Cs.mk ?_; intro hcs; first | exact False.elim hcs | (exfalso; omega) | (refine Sm.out ?_))
      | (refine (show VwL _ _ _ from ?_); simp only [VwL, and_true, true_and])
      | exact Vw.same _
      | (refine Vw.row' (by simp only [hget, ↓reduceIte, if_true, if_false, FR, z]; first | done | rfl) ?_ ?_ ?_ ?_)
      | (refine And.intro (Vw.same _) ?_)
      | (refine And.intro (Vw.row' (by simp only [hget, ↓reduceIte, if_true, if_false, FR, z]; first | done | rfl) ?_ ?_ ?_ ?_) ?_)
      | (refine OutQ.all ?_ ?_; (focus (simp only [resv, look, loadv, loadn, loadnm, load1, load1m, hget, maxLen_eq, ↓reduceIte, if_true, if_false, ite_true, ite_false, Nat.reduceEqDiff, Nat.reduceAdd, Nat.reduceMul, Nat.reduceLeDiff, Nat.reduceLT, reduceCtorEq, true_and, and_true, and_self, List.length_cons, List.length_nil, List.length_map, List.length_replicate, List.take_succ_cons, List.take_zero, List.drop_zero, List.drop_succ_cons, List.map_cons, List.map_nil, List.getD_cons_zero, List.getD_cons_succ, Nat.zero_add, Nat.add_zero, Nat.le_refl, Option.some.injEq, ne_eq, tyc0, tyc4, tyc24, tyc26, tyc29, tyc54, z, FR])); (try simp only [resv, resA, Fn, look, loadv, loadn, loadnm, load1, load1m, hget, maxLen_eq, ↓reduceIte, if_true, if_false, ite_true, ite_false, Nat.reduceEqDiff, Nat.reduceAdd, Nat.reduceMul, Nat.reduceLeDiff, Nat.reduceLT, reduceCtorEq, true_and, and_true, and_self, List.length_cons, List.length_nil, List.length_map, List.length_replicate, List.take_succ_cons, List.take_zero, List.drop_zero, List.drop_succ_cons, List.map_cons, List.map_nil, List.getD_cons_zero, List.getD_cons_succ, Nat.zero_add, Nat.add_zero, Nat.le_refl, Option.some.injEq, ne_eq, tyc0, tyc4, tyc24, tyc26, tyc29, tyc54, z, FR]); (try simp [resA, Fn, look, z, FR]); done)
      | go_step
      | omega
      | (simp only [maxLen_eq]; omega)
set_option maxRecDepth 8000 in
set_option maxHeartbeats 2000000 in
theorem add_diff (f : Bool) (n m : Nat) (h1 : f = true → 0 < n) (h2 : f = false → 0 < m) (hn : n < 340282366920938463463374607431768211456) (hm : m < 340282366920938463463374607431768211456) :
    ACt Try.prog 15 [sgN f n, sgN (!f) m] [] (Fn (.tup [sgN (if f then dNeg m n else dNeg n m) (if f then dAbs m n else dAbs n m), iv .i64 0])) := by
  refine ACt.intro Try.func15 rfl (by kernel_rfl) (by simp [Try.ntmps15]) (fun cx => ?_)
  simp only [argE, Try.ntmps15, Try.results15]
  have c1 := rightN f n h1
  have c2 := rightN (!f) m fun e => h2 (by simpa using e)
  cases f
  · have c3 := between_ct n m hn hm
    rw [show (if false = true then dNeg m n else dNeg n m) = dNeg n m from rfl, show (if false = true then dAbs m n else dAbs n m) = dAbs n m from rfl]
    rw [show (!false) = true from rfl] at c2 ⊢
    have e : (false == true) = false := rfl
    obtain ⟨p, hp⟩ : ∃ p, p = dNeg n m := ⟨_, rfl⟩
    obtain ⟨q, hq⟩ : ∃ q, q = dAbs n m := ⟨_, rfl⟩
    rw [← hp, ← hq] at c3 ⊢
    first | (have FRx := FR; clear FRx) | (have FR : ¬ ((1 : Nat) = 0) := Nat.one_ne_zero)
    repeat' first
      | (refine Sm.mk ?_; try simp -dsimp only [rvc, drawF, headN, pureH, maxLen_eq, stp, dvc, calleeOf, gcall, pev, eff, newB, okd, og, ogs, ogo, ogp, slv, bltv, opd, litv, strip, one, both, putE, St.put, look, gdOf, gdv, picka, pickv, pickw, binv, bini, bins, binb, binp, bina, shp, eqCells, unv, convv, nilv, faddv, addp, idxav, idxp, load1, load1m, loadn, loadnm, loadv, hget, hset, hrep, hdel, slicev, List.length_append, bnd, shift1, lenv, IntKind.bits, Nat.reducePow, Int.reducePow, Nat.min_def, extractv, fieldv, indexv, min2v, max2v, mkiv, cellsA, fillA, buildv, stC, oneC, rowMB, intsA, plN, appE, appZ, appC, appNZ, appNC, repA_one, VwL, srcC, srcZ, srcM, fresh_nil, fresh_cons, freshBut_nil, freshBut_cons, intsA_map, ne_eq, true_implies, forall_const, List.length_map, List.map_append, drop_getD0, Int.toNat_natCast, List.length_drop, List.length_take, Int.cast_ofNat_Int, isBoolT, isPtrT, isSliceT, uOk, List.size_toArray, List.length_cons, List.length_nil, List.getElem?_toArray, List.getElem?_cons_zero, List.getElem?_cons_succ, Option.bind_some, Option.map_some, Option.map_none, Option.isSome_some, Nat.reduceAdd, Nat.reduceMul, Nat.reduceSub, Nat.reduceLT, Nat.reduceLeDiff, Nat.reduceEqDiff, Nat.reduceBEq, Nat.reduceDiv, Nat.reduceMod, ↓reduceIte, reduceCtorEq, if_true, if_false, true_and, and_true, ite_true, ite_false, Bool.true_and, Bool.and_true, Bool.not_true, Bool.not_false, Bool.or_false, Bool.false_or, Bool.true_or, Bool.or_true, Bool.false_and, Bool.and_false, List.map_cons, List.map_nil, List.mem_cons, List.not_mem_nil, or_false, false_or, true_or, or_true, forall_eq_or_imp, forall_eq, List.all_cons, List.all_nil, List.append_nil, List.nil_append, List.cons_append, List.getD_cons_zero, List.getD_cons_succ, List.take_succ_cons, List.take_zero, List.drop_succ_cons, List.drop_zero, List.set_cons_zero, List.set_cons_succ, List.replicate_succ, List.replicate_zero, Value.oneCell', Nat.add_zero, Nat.zero_add, Nat.mul_one, Nat.one_mul, Int.toNat_zero, Int.reduceToNat, Int.reduceLT, Int.reduceLE, Nat.le_refl, Int.le_refl, Option.some.injEq, TypeDesc.slice.injEq, TypeDesc.int.injEq, List.length_replicate, TypeDesc.pointer.injEq, exists_eq, exists_eq_left, exists_eq_left', exists_eq', implies_true, beq_true, beq_false, and_self, beq_self_eq_true, bne_self_eq_false, decide_true, decide_false, cond_true, cond_false, Bool.not_eq_true', Bool.not_eq_false', imp_self, Bool.cond_false_right, Bool.cond_true_right, Bool.cond_true_left, Bool.cond_false_left, tyc0, tyc4, zmb4, tyc24, foff24_0, fpart24_0, foff24_1, fpart24_1, fe24, zmb24, bldT24, tyc26, foff26_0, fpart26_0, foff26_1, fpart26_1, zmb26, bldT26, tyc29, zmb29, tyc54, Try.underlying0, Try.underlying4, Try.underlying24, Try.underlying26, Try.underlying29, Try.underlying54, SeqQ, BlkQ, LoopQ, BodyQ, e, FR])
      | (refine CallV.fn (c1) (Sm.out ?_))
      | (refine ExF.mk (c1) (Sm.out ?_))
      | (refine ExG.mk (fun hg => c1) (Sm.out ?_))
      | (refine Or.inl (ExG.mk (fun hg => c1) (Sm.out ?_)))
      | (refine Or.inl (And.intro ?_ (ExG.mk (fun hg => c1) (Sm.out ?_))); focus (first | omega | assumption | decide | trivial | (intros; (repeat' refine And.intro ?_ ?_) <;> first | assumption | omega | trivial | decide) | (intros; simp only [decide_eq_true_eq, decide_eq_false_iff_not, Bool.and_eq_true, Bool.or_eq_true, Bool.and_eq_false_iff, Bool.or_eq_false_iff, bne_iff_ne, bne_eq_false_iff_eq, Int.not_lt, Int.not_le] at *; (repeat' refine And.intro ?_ ?_) <;> first | assumption | omega | trivial)))
      | (refine CallV.fn (c2) (Sm.out ?_))
      | (refine ExF.mk (c2) (Sm.out ?_))
      | (refine ExG.mk (fun hg => c2) (Sm.out ?_))
      | (refine Or.inl (ExG.mk (fun hg => c2) (Sm.out ?_)))
      | (refine Or.inl (And.intro ?_ (ExG.mk (fun hg => c2) (Sm.out ?_))); focus (first | omega | assumption | decide | trivial | (intros; (repeat' refine And.intro ?_ ?_) <;> first | assumption | omega | trivial | decide) | (intros; simp only [decide_eq_true_eq, decide_eq_false_iff_not, Bool.and_eq_true, Bool.or_eq_true, Bool.and_eq_false_iff, Bool.or_eq_false_iff, bne_iff_ne, bne_eq_false_iff_eq, Int.not_lt, Int.not_le] at *; (repeat' refine And.intro ?_ ?_) <;> first | assumption | omega | trivial)))
      | (refine CallV.fn (c3) (Sm.out ?_))
      | (refine ExF.mk (c3) (Sm.out ?_))
      | (refine ExG.mk (fun hg => c3) (Sm.out ?_))
      | (refine Or.inl (ExG.mk (fun hg => c3) (Sm.out ?_)))
      | (refine Or.inl (And.intro ?_ (ExG.mk (fun hg => c3) (Sm.out ?_))); focus (first | omega | assumption | decide | trivial | (intros; (repeat' refine And.intro ?_ ?_) <;> first | assumption | omega | trivial | decide) | (intros; simp only [decide_eq_true_eq, decide_eq_false_iff_not, Bool.and_eq_true, Bool.or_eq_true, Bool.and_eq_false_iff, Bool.or_eq_false_iff, bne_iff_ne, bne_eq_false_iff_eq, Int.not_lt, Int.not_le] at *; (repeat' refine And.intro ?_ ?_) <;> first | assumption | omega | trivial)))
      | (refine WP.seq fun K hK => ?_)
      | (refine WP.region (rvc_sound _ _ (Sm.out ?_)))
      | (refine WP.drawK rfl mixed (by decide +kernel) (Sm.out ?_))
      | (refine And.intro ?_ ?_; focus (first | assumption | omega | decide | trivial | (intro hob; simp only [hob, Bool.not_eq_true', Bool.not_eq_false', Bool.not_false, Bool.not_true, Bool.true_and, Bool.and_true, Bool.false_and, Bool.and_false, true_and, and_true, imp_self, implies_true, and_self]; done) | (intros; (repeat' refine And.intro ?_ ?_) <;> first | assumption | omega | trivial | decide) | (intros; simp only [decide_eq_true_eq, decide_eq_false_iff_not, Bool.and_eq_true, Bool.or_eq_true, Bool.and_eq_false_iff, Bool.or_eq_false_iff, bne_iff_ne, bne_eq_false_iff_eq, Int.not_lt, Int.not_le] at *; (repeat' refine And.intro ?_ ?_) <;> first | assumption | omega | trivial)))
      | (refine WP.block ?_)
      | (refine WP.cond rfl (fun hc => ?_) (fun hc => ?_) <;> (try simp only [decide_eq_true_eq, decide_eq_false_iff_not, Bool.and_eq_true, Bool.or_eq_true, Bool.and_eq_false_iff, Bool.or_eq_false_iff, Bool.not_eq_true', Bool.not_eq_false', Int.not_lt, Int.not_le, reduceCtorEq, false_and, and_false, false_or, or_false, true_and, and_true, true_or, or_true, not_true_eq_false, not_false_eq_true, beq_iff_eq, beq_eq_false_iff_ne, bne_iff_ne, bne_eq_false_iff_eq, ne_eq, Decidable.not_not] at hc) <;> (try (exact absurd hc (by decide))) <;> (try (exfalso; omega)))
      | (refine WP.skip ?_; simp only [SeqQ, BlkQ, LoopQ, BodyQ, ↓reduceIte, Nat.reduceEqDiff, reduceCtorEq, look, true_and])
      | (refine WP.exit ?_; simp only [SeqQ, BlkQ, LoopQ, BodyQ, ↓reduceIte, Nat.reduceEqDiff, reduceCtorEq, look, true_and])
      | (refine WP.ret (Sm.out ?_))
      | (refine ExG.mk (x := AV.any) (fun hg => absurd hg (by decide)) (Sm.out ?_))
      | (refine Or.inl (ExG.mk (x := AV.any) (fun hg => absurd hg (by decide)) (Sm.out ?_)))
      | (refine Or.inl (And.intro (fun hg => absurd hg (by decide)) (ExG.mk (x := AV.any) (fun hg => absurd hg (by decide)) (Sm.out ?_))))
      | (refine Rt.mk ?_; refine And.intro ?_ ?_ <;> (intro hg; first | exact absurd hg (by decide) | refine Sm.out ?_))
      | (refine Nu.mk ?_; first | ((fail_if_success (have hx := nb1)); intro nb1) | ((fail_if_success (have hx := nb2)); intro nb2) | ((fail_if_success (have hx := nb3)); intro nb3) | ((fail_if_success (have hx := nb4)); intro nb4) | ((fail_if_success (have hx := nb5)); intro nb5) | ((fail_if_success (have hx := nb6)); intro nb6) | ((fail_if_success (have hx := nb7)); intro nb7) | ((fail_if_success (have hx := nb8)); intro nb8) | ((fail_if_success (have hx := nb9)); intro nb9) | ((fail_if_success (have hx := nb10)); intro nb10) | ((fail_if_success (have hx := nb11)); intro nb11) | ((fail_if_success (have hx := nb12)); intro nb12) | ((fail_if_success (have hx := nb13)); intro nb13) | ((fail_if_success (have hx := nb14)); intro nb14) | ((fail_if_success (have hx := nb15)); intro nb15) | ((fail_if_success (have hx := nb16)); intro nb16) | ((fail_if_success (have hx := nb17)); intro nb17) | ((fail_if_success (have hx := nb18)); intro nb18) | ((fail_if_success (have hx := nb19)); intro nb19) | ((fail_if_success (have hx := nb20)); intro nb20) | ((fail_if_success (have hx := nb21)); intro nb21) | ((fail_if_success (have hx := nb22)); intro nb22) | ((fail_if_success (have hx := nb23)); intro nb23) | ((fail_if_success (have hx := nb24)); intro nb24) | ((fail_if_success (have hx := nb25)); intro nb25) | ((fail_if_success (have hx := nb26)); intro nb26) | ((fail_if_success (have hx := nb27)); intro nb27) | ((fail_if_success (have hx := nb28)); intro nb28) | ((fail_if_success (have hx := nb29)); intro nb29) | ((fail_if_success (have hx := nb30)); intro nb30))
      | (refine Fr.mk ?_; intro hfr; replace FR := And.intro hfr FR; clear hfr; refine Sm.out ?_)
      | (refine Two.mk ?_ ?_)
      | (refine Cs.mk ?_; intro hcs; first | exact False.elim hcs | (exfalso; omega) | (refine Sm.out ?_))
      | (refine (show VwL _ _ _ from ?_); simp only [VwL, and_true, true_and])
      | exact Vw.same _
      | (refine Vw.row' (by simp only [hget, ↓reduceIte, if_true, if_false, FR, e]; first | done | rfl) ?_ ?_ ?_ ?_)
      | (refine And.intro (Vw.same _) ?_)
      | (refine And.intro (Vw.row' (by simp only [hget, ↓reduceIte, if_true, if_false, FR, e]; first | done | rfl) ?_ ?_ ?_ ?_) ?_)
      | (refine OutQ.all ?_ ?_; (focus (simp only [resv, look, loadv, loadn, loadnm, load1, load1m, hget, maxLen_eq, ↓reduceIte, if_true, if_false, ite_true, ite_false, Nat.reduceEqDiff, Nat.reduceAdd, Nat.reduceMul, Nat.reduceLeDiff, Nat.reduceLT, reduceCtorEq, true_and, and_true, and_self, List.length_cons, List.length_nil, List.length_map, List.length_replicate, List.take_succ_cons, List.take_zero, List.drop_zero, List.drop_succ_cons, List.map_cons, List.map_nil, List.getD_cons_zero, List.getD_cons_succ, Nat.zero_add, Nat.add_zero, Nat.le_refl, Option.some.injEq, ne_eq, tyc0, tyc4, tyc24, tyc26, tyc29, tyc54, e, FR])); (try simp only [resv, resA, Fn, look, loadv, loadn, loadnm, load1, load1m, hget, maxLen_eq, ↓reduceIte, if_true, if_false, ite_true, ite_false, Nat.reduceEqDiff, Nat.reduceAdd, Nat.reduceMul, Nat.reduceLeDiff, Nat.reduceLT, reduceCtorEq, true_and, and_true, and_self, List.length_cons, List.length_nil, List.length_map, List.length_replicate, List.take_succ_cons, List.take_zero, List.drop_zero, List.drop_succ_cons, List.map_cons, List.map_nil, List.getD_cons_zero, List.getD_cons_succ, Nat.zero_add, Nat.add_zero, Nat.le_refl, Option.some.injEq, ne_eq, tyc0, tyc4, tyc24, tyc26, tyc29, tyc54, e, FR]); (try simp [resA, Fn, look, e, FR]); done)
      | go_step
      | omega
      | (simp only [maxLen_eq]; omega)
  · have c3 := between_ct m n hm hn
    rw [show (if true = true then dNeg m n else dNeg n m) = dNeg m n from rfl, show (if true = true then dAbs m n else dAbs n m) = dAbs m n from rfl]
    rw [show (!true) = false from rfl] at c2 ⊢
    have e : (true == false) = false := rfl
    obtain ⟨p, hp⟩ : ∃ p, p = dNeg m n := ⟨_, rfl⟩
    obtain ⟨q, hq⟩ : ∃ q, q = dAbs m n := ⟨_, rfl⟩
    rw [← hp, ← hq] at c3 ⊢
    first | (have FRx := FR; clear FRx) | (have FR : ¬ ((1 : Nat) = 0) := Nat.one_ne_zero)
    repeat' first
      | (refine Sm.mk ?_; try simp -dsimp only [rvc, drawF, headN, pureH, maxLen_eq, stp, dvc, calleeOf, gcall, pev, eff, newB, okd, og, ogs, ogo, ogp, slv, bltv, opd, litv, strip, one, both, putE, St.put, look, gdOf, gdv, picka, pickv, pickw, binv, bini, bins, binb, binp, bina, shp, eqCells, unv, convv, nilv, faddv, addp, idxav, idxp, load1, load1m, loadn, loadnm, loadv, hget, hset, hrep, hdel, slicev, List.length_append, bnd, shift1, lenv, IntKind.bits, Nat.reducePow, Int.reducePow, Nat.min_def, extractv, fieldv, indexv, min2v, max2v, mkiv, cellsA, fillA, buildv, stC, oneC, rowMB, intsA, plN, appE, appZ, appC, appNZ, appNC, repA_one, VwL, srcC, srcZ, srcM, fresh_nil, fresh_cons, freshBut_nil, freshBut_cons, intsA_map, ne_eq, true_implies, forall_const, List.length_map, List.map_append, drop_getD0, Int.toNat_natCast, List.length_drop, List.length_take, Int.cast_ofNat_Int, isBoolT, isPtrT, isSliceT, uOk, List.size_toArray, List.length_cons, List.length_nil, List.getElem?_toArray, List.getElem?_cons_zero, List.getElem?_cons_succ, Option.bind_some, Option.map_some, Option.map_none, Option.isSome_some, Nat.reduceAdd, Nat.reduceMul, Nat.reduceSub, Nat.reduceLT, Nat.reduceLeDiff, Nat.reduceEqDiff, Nat.reduceBEq, Nat.reduceDiv, Nat.reduceMod, ↓reduceIte, reduceCtorEq, if_true, if_false, true_and, and_true, ite_true, ite_false, Bool.true_and, Bool.and_true, Bool.not_true, Bool.not_false, Bool.or_false, Bool.false_or, Bool.true_or, Bool.or_true, Bool.false_and, Bool.and_false, List.map_cons, List.map_nil, List.mem_cons, List.not_mem_nil, or_false, false_or, true_or, or_true, forall_eq_or_imp, forall_eq, List.all_cons, List.all_nil, List.append_nil, List.nil_append, List.cons_append, List.getD_cons_zero, List.getD_cons_succ, List.take_succ_cons, List.take_zero, List.drop_succ_cons, List.drop_zero, List.set_cons_zero, List.set_cons_succ, List.replicate_succ, List.replicate_zero, Value.oneCell', Nat.add_zero, Nat.zero_add, Nat.mul_one, Nat.one_mul, Int.toNat_zero, Int.reduceToNat, Int.reduceLT, Int.reduceLE, Nat.le_refl, Int.le_refl, Option.some.injEq, TypeDesc.slice.injEq, TypeDesc.int.injEq, List.length_replicate, TypeDesc.pointer.injEq, exists_eq, exists_eq_left, exists_eq_left', exists_eq', implies_true, beq_true, beq_false, and_self, beq_self_eq_true, bne_self_eq_false, decide_true, decide_false, cond_true, cond_false, Bool.not_eq_true', Bool.not_eq_false', imp_self, Bool.cond_false_right, Bool.cond_true_right, Bool.cond_true_left, Bool.cond_false_left, tyc0, tyc4, zmb4, tyc24, foff24_0, fpart24_0, foff24_1, fpart24_1, fe24, zmb24, bldT24, tyc26, foff26_0, fpart26_0, foff26_1, fpart26_1, zmb26, bldT26, tyc29, zmb29, tyc54, Try.underlying0, Try.underlying4, Try.underlying24, Try.underlying26, Try.underlying29, Try.underlying54, SeqQ, BlkQ, LoopQ, BodyQ, e, FR])
      | (refine CallV.fn (c1) (Sm.out ?_))
      | (refine ExF.mk (c1) (Sm.out ?_))
      | (refine ExG.mk (fun hg => c1) (Sm.out ?_))
      | (refine Or.inl (ExG.mk (fun hg => c1) (Sm.out ?_)))
      | (refine Or.inl (And.intro ?_ (ExG.mk (fun hg => c1) (Sm.out ?_))); focus (first | omega | assumption | decide | trivial | (intros; (repeat' refine And.intro ?_ ?_) <;> first | assumption | omega | trivial | decide) | (intros; simp only [decide_eq_true_eq, decide_eq_false_iff_not, Bool.and_eq_true, Bool.or_eq_true, Bool.and_eq_false_iff, Bool.or_eq_false_iff, bne_iff_ne, bne_eq_false_iff_eq, Int.not_lt, Int.not_le] at *; (repeat' refine And.intro ?_ ?_) <;> first | assumption | omega | trivial)))
      | (refine CallV.fn (c2) (Sm.out ?_))
      | (refine ExF.mk (c2) (Sm.out ?_))
      | (refine ExG.mk (fun hg => c2) (Sm.out ?_))
      | (refine Or.inl (ExG.mk (fun hg => c2) (Sm.out ?_)))
      | (refine Or.inl (And.intro ?_ (ExG.mk (fun hg => c2) (Sm.out ?_))); focus (first | omega | assumption | decide | trivial | (intros; (repeat' refine And.intro ?_ ?_) <;> first | assumption | omega | trivial | decide) | (intros; simp only [decide_eq_true_eq, decide_eq_false_iff_not, Bool.and_eq_true, Bool.or_eq_true, Bool.and_eq_false_iff, Bool.or_eq_false_iff, bne_iff_ne, bne_eq_false_iff_eq, Int.not_lt, Int.not_le] at *; (repeat' refine And.intro ?_ ?_) <;> first | assumption | omega | trivial)))
      | (refine CallV.fn (c3) (Sm.out ?_))
      | (refine ExF.mk (c3) (Sm.out ?_))
      | (refine ExG.mk (fun hg => c3) (Sm.out ?_))
      | (refine Or.inl (ExG.mk (fun hg => c3) (Sm.out ?_)))
      | (refine Or.inl (And.intro ?_ (ExG.mk (fun hg => c3) (Sm.out ?_))); focus (first | omega | assumption | decide | trivial | (intros; (repeat' refine And.intro ?_ ?_) <;> first | assumption | omega | trivial | decide) | (intros; simp only [decide_eq_true_eq, decide_eq_false_iff_not, Bool.and_eq_true, Bool.or_eq_true, Bool.and_eq_false_iff, Bool.or_eq_false_iff, bne_iff_ne, bne_eq_false_iff_eq, Int.not_lt, Int.not_le] at *; (repeat' refine And.intro ?_ ?_) <;> first | assumption | omega | trivial)))
      | (refine WP.seq fun K hK => ?_)
      | (refine WP.region (rvc_sound _ _ (Sm.out ?_)))
      | (refine WP.drawK rfl mixed (by decide +kernel) (Sm.out ?_))
      | (refine And.intro ?_ ?_; focus (first | assumption | omega | decide | trivial | (intro hob; simp only [hob, Bool.not_eq_true', Bool.not_eq_false', Bool.not_false, Bool.not_true, Bool.true_and, Bool.and_true, Bool.false_and, Bool.and_false, true_and, and_true, imp_self, implies_true, and_self]; done) | (intros; (repeat' refine And.intro ?_ ?_) <;> first | assumption | omega | trivial | decide) | (intros; simp only [decide_eq_true_eq, decide_eq_false_iff_not, Bool.and_eq_true, Bool.or_eq_true, Bool.and_eq_false_iff, Bool.or_eq_false_iff, bne_iff_ne, bne_eq_false_iff_eq, Int.not_lt, Int.not_le] at *; (repeat' refine And.intro ?_ ?_) <;> first | assumption | omega | trivial)))
      | (refine WP.block ?_)
      | (refine WP.cond rfl (fun hc => ?_) (fun hc => ?_) <;> (try simp only [decide_eq_true_eq, decide_eq_false_iff_not, Bool.and_eq_true, Bool.or_eq_true, Bool.and_eq_false_iff, Bool.or_eq_false_iff, Bool.not_eq_true', Bool.not_eq_false', Int.not_lt, Int.not_le, reduceCtorEq, false_and, and_false, false_or, or_false, true_and, and_true, true_or, or_true, not_true_eq_false, not_false_eq_true, beq_iff_eq, beq_eq_false_iff_ne, bne_iff_ne, bne_eq_false_iff_eq, ne_eq, Decidable.not_not] at hc) <;> (try (exact absurd hc (by decide))) <;> (try (exfalso; omega)))
      | (refine WP.skip ?_; simp only [SeqQ, BlkQ, LoopQ, BodyQ, ↓reduceIte, Nat.reduceEqDiff, reduceCtorEq, look, true_and])
      | (refine WP.exit ?_; simp only [SeqQ, BlkQ, LoopQ, BodyQ, ↓reduceIte, Nat.reduceEqDiff, reduceCtorEq, look, true_and])
      | (refine WP.ret (Sm.out ?_))
      | (refine ExG.mk (x := AV.any) (fun hg => absurd hg (by decide)) (Sm.out ?_))
      | (refine Or.inl (ExG.mk (x := AV.any) (fun hg => absurd hg (by decide)) (Sm.out ?_)))
      | (refine Or.inl (And.intro (fun hg => absurd hg (by decide)) (ExG.mk (x := AV.any) (fun hg => absurd hg (by decide)) (Sm.out ?_))))
      | (refine Rt.mk ?_; refine And.intro ?_ ?_ <;> (intro hg; first | exact absurd hg (by decide) | refine Sm.out ?_))
      | (refine Nu.mk ?_; first | ((fail_if_success (have hx := nb1)); intro nb1) | ((fail_if_success (have hx := nb2)); intro nb2) | ((fail_if_success (have hx := nb3)); intro nb3) | ((fail_if_success (have hx := nb4)); intro nb4) | ((fail_if_success (have hx := nb5)); intro nb5) | ((fail_if_success (have hx := nb6)); intro nb6) | ((fail_if_success (have hx := nb7)); intro nb7) | ((fail_if_success (have hx := nb8)); intro nb8) | ((fail_if_success (have hx := nb9)); intro nb9) | ((fail_if_success (have hx := nb10)); intro nb10) | ((fail_if_success (have hx := nb11)); intro nb11) | ((fail_if_success (have hx := nb12)); intro nb12) | ((fail_if_success (have hx := nb13)); intro nb13) | ((fail_if_success (have hx := nb14)); intro nb14) | ((fail_if_success (have hx := nb15)); intro nb15) | ((fail_if_success (have hx := nb16)); intro nb16) | ((fail_if_success (have hx := nb17)); intro nb17) | ((fail_if_success (have hx := nb18)); intro nb18) | ((fail_if_success (have hx := nb19)); intro nb19) | ((fail_if_success (have hx := nb20)); intro nb20) | ((fail_if_success (have hx := nb21)); intro nb21) | ((fail_if_success (have hx := nb22)); intro nb22) | ((fail_if_success (have hx := nb23)); intro nb23) | ((fail_if_success (have hx := nb24)); intro nb24) | ((fail_if_success (have hx := nb25)); intro nb25) | ((fail_if_success (have hx := nb26)); intro nb26) | ((fail_if_success (have hx := nb27)); intro nb27) | ((fail_if_success (have hx := nb28)); intro nb28) | ((fail_if_success (have hx := nb29)); intro nb29) | ((fail_if_success (have hx := nb30)); intro nb30))
      | (refine Fr.mk ?_; intro hfr; replace FR := And.intro hfr FR; clear hfr; refine Sm.out ?_)
      | (refine Two.mk ?_ ?_)
      | (refine Cs.mk ?_; intro hcs; first | exact False.elim hcs | (exfalso; omega) | (refine Sm.out ?_))
      | (refine (show VwL _ _ _ from ?_); simp only [VwL, and_true, true_and])
      | exact Vw.same _
      | (refine Vw.row' (by simp only [hget, ↓reduceIte, if_true, if_false, FR, e]; first | done | rfl) ?_ ?_ ?_ ?_)
      | (refine And.intro (Vw.same _) ?_)
      | (refine And.intro (Vw.row' (by simp only [hget, ↓reduceIte, if_true, if_false, FR, e]; first | done | rfl) ?_ ?_ ?_ ?_) ?_)
      | (refine OutQ.all ?_ ?_; (focus (simp only [resv, look, loadv, loadn, loadnm, load1, load1m, hget, maxLen_eq, ↓reduceIte, if_true, if_false, ite_true, ite_false, Nat.reduceEqDiff, Nat.reduceAdd, Nat.reduceMul, Nat.reduceLeDiff, Nat.reduceLT, reduceCtorEq, true_and, and_true, and_self, List.length_cons, List.length_nil, List.length_map, List.length_replicate, List.take_succ_cons, List.take_zero, List.drop_zero, List.drop_succ_cons, List.map_cons, List.map_nil, List.getD_cons_zero, List.getD_cons_succ, Nat.zero_add, Nat.add_zero, Nat.le_refl, Option.some.injEq, ne_eq, tyc0, tyc4, tyc24, tyc26, tyc29, tyc54, e, FR])); (try simp only [resv, resA, Fn, look, loadv, loadn, loadnm, load1, load1m, hget, maxLen_eq, ↓reduceIte, if_true, if_false, ite_true, ite_false, Nat.reduceEqDiff, Nat.reduceAdd, Nat.reduceMul, Nat.reduceLeDiff, Nat.reduceLT, reduceCtorEq, true_and, and_true, and_self, List.length_cons, List.length_nil, List.length_map, List.length_replicate, List.take_succ_cons, List.take_zero, List.drop_zero, List.drop_succ_cons, List.map_cons, List.map_nil, List.getD_cons_zero, List.getD_cons_succ, Nat.zero_add, Nat.add_zero, Nat.le_refl, Option.some.injEq, ne_eq, tyc0, tyc4, tyc24, tyc26, tyc29, tyc54, e, FR]); (try simp [resA, Fn, look, e, FR]); done)
      | go_step
      | omega
      | (simp only [maxLen_eq]; omega)

theorem add_between (a b c : Nat) (ha : a < 340282366920938463463374607431768211456) (hb : b < 340282366920938463463374607431768211456) (hc : c < 340282366920938463463374607431768211456) :
    ACt Try.prog 15 [sgN (dNeg a b) (dAbs a b), sgN (dNeg b c) (dAbs b c)] [] (Fn (.tup [sgN (dNeg a c) (dAbs a c), iv .i64 0])) := by
  unfold dNeg dAbs
  by_cases h1 : a < b
  · by_cases h2 : b < c
    · rw [decide_eq_true h1, decide_eq_true h2, if_pos h1, if_pos h2, decide_eq_true (show a < c by omega), if_pos (show a < c by omega)]
      have := add_same true (b - a) (c - b) (fun _ => by omega) (fun _ => by omega) (by omega)
      rw [show b - a + (c - b) = c - a by omega] at this
      exact this
    · rw [decide_eq_true h1, decide_eq_false h2, if_pos h1, if_neg h2]
      have := add_diff true (b - a) (b - c) (fun _ => by omega) (fun e => by cases e) (by omega) (by omega)
      rw [if_pos rfl, if_pos rfl] at this
      unfold dNeg dAbs at this
      by_cases h3 : a < c
      · rw [decide_eq_true (show b - c < b - a by omega), if_pos (show b - c < b - a by omega), show b - a - (b - c) = c - a by omega] at this
        rw [decide_eq_true h3, if_pos h3]; exact this
      · rw [decide_eq_false (show ¬ b - c < b - a by omega), if_neg (show ¬ b - c < b - a by omega), show b - c - (b - a) = a - c by omega] at this
        rw [decide_eq_false h3, if_neg h3]; exact this
  · by_cases h2 : b < c
    · rw [decide_eq_false h1, decide_eq_true h2, if_neg h1, if_pos h2]
      have := add_diff false (a - b) (c - b) (fun e => by cases e) (fun _ => by omega) (by omega) (by omega)
      rw [if_neg (by decide), if_neg (by decide)] at this
      unfold dNeg dAbs at this
      by_cases h3 : a < c
      · rw [decide_eq_true (show a - b < c - b by omega), if_pos (show a - b < c - b by omega), show c - b - (a - b) = c - a by omega] at this
        rw [decide_eq_true h3, if_pos h3]; exact this
      · rw [decide_eq_false (show ¬ a - b < c - b by omega), if_neg (show ¬ a - b < c - b by omega), show a - b - (c - b) = a - c by omega] at this
        rw [decide_eq_false h3, if_neg h3]; exact this
    · rw [decide_eq_false h1, decide_eq_false h2, if_neg h1, if_neg h2, decide_eq_false (show ¬ a < c by omega), if_neg (show ¬ a < c by omega)]
      have := add_same false (a - b) (b - c) (fun e => by cases e) (fun e => by cases e) (by omega)
      rw [show a - b + (b - c) = a - c by omega] at this
      exact this
end Go.Proofs.Ytngdgicgppaeaaa
