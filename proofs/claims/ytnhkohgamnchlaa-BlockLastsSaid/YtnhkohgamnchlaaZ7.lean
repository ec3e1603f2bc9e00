/-
  The walks and the laws that the statement leans on, part 7.
-/
import Derived.Test.YtnhkohgamnchlaaZ6
namespace Go.Proofs.Ytnhkohgamnchlaa
open Go
set_option linter.unusedVariables false
set_option linter.unusedSimpArgs false
theorem TFBlG : ((((((type_of% tyc0) ∧ (type_of% tyc3)) ∧ ((type_of% zmb3) ∧ (type_of% tyc4))) ∧ (((type_of% zmb4) ∧ (type_of% tyc5)) ∧ ((type_of% zmb5) ∧ (type_of% tyc9)))) ∧ ((((type_of% zmb9) ∧ (type_of% tyc20)) ∧ ((type_of% zmb20) ∧ (type_of% tyc30))) ∧ (((type_of% elt30) ∧ (type_of% mkz30)) ∧ ((type_of% apT30) ∧ (type_of% elk30))))) ∧ (((((type_of% zmb30) ∧ (type_of% tyc51)) ∧ ((type_of% elt51) ∧ (type_of% mkz51))) ∧ (((type_of% mkc51) ∧ (type_of% apT51)) ∧ ((type_of% elk51) ∧ (type_of% zmb51)))) ∧ ((((type_of% Try.underlying0) ∧ (type_of% Try.underlying3)) ∧ ((type_of% Try.underlying4) ∧ (type_of% Try.underlying5))) ∧ (((type_of% Try.underlying9) ∧ (type_of% Try.underlying20)) ∧ ((type_of% Try.underlying30) ∧ (type_of% Try.underlying51)))))) :=
  ⟨⟨⟨⟨⟨tyc0, tyc3⟩, ⟨zmb3, tyc4⟩⟩, ⟨⟨zmb4, tyc5⟩, ⟨zmb5, tyc9⟩⟩⟩, ⟨⟨⟨zmb9, tyc20⟩, ⟨zmb20, tyc30⟩⟩, ⟨⟨elt30, mkz30⟩, ⟨apT30, elk30⟩⟩⟩⟩, ⟨⟨⟨⟨zmb30, tyc51⟩, ⟨elt51, mkz51⟩⟩, ⟨⟨mkc51, apT51⟩, ⟨elk51, zmb51⟩⟩⟩, ⟨⟨⟨Try.underlying0, Try.underlying3⟩, ⟨Try.underlying4, Try.underlying5⟩⟩, ⟨⟨Try.underlying9, Try.underlying20⟩, ⟨Try.underlying30, Try.underlying51⟩⟩⟩⟩⟩
theorem grow_ct (n : Nat) (h1 : 1 ≤ n) (h2 : n ≤ 4096) : ACt Try.prog 35 [nl, iv .i64 (n : Int)] [] (fun r F' => ∃ x c : Nat, (n ≤ c ∧ c ≤ 9223372036854775807) ∧ r = ms x 0 0 c ∧ F' = [(x, .zs .u8 (List.replicate n 0) c 5)]) := by
  refine ACt.intro Try.func35 rfl (by kernel_rfl) (by simp [Try.ntmps35]) (fun cx => ?_)
  simp only [argE, Try.ntmps35, Try.results35]
  have e1 : IntKind.i64.wrap ((n : Int) - 0) = n := wrap_i64 (by omega) (by omega)
  have e2 : IntKind.i64.wrap (0 - 0) = 0 := by decide
  first | (have FRx := FR; clear FRx) | (have FR : Sm (¬ ((1 : Nat) = 0)) := Sm.mk Nat.one_ne_zero)
  repeat' first
    | (refine Sm.mk ?_; try simp -dsimp only [ZK, rvc, drawF, headN, pureH, stp, dvc, calleeOf, gcall, pev, eff, newB, okd, og, ogs, ogo, ogp, slv, bltv, opd, litv, strip, one, both, putE, St.put, look, gdOf, gdv, picka, pickv, pickw, binv, bini, bins, binb, binp, binq, isSlT, bina, shp, eqCells, unv, convv, nilv, faddv, addp, idxav, idxp, load1, load1m, loadn, loadnm, loadv, hget, hset, hrep, hdel, slicev, bnd, shift1, lenv, capv, IntKind.bits, extractv, fieldv, indexv, min2v, max2v, mkiv, cellsA, fillA, buildv, stC, oneC, rowMB, intsA, plN, appE, appZ, appC, appNZ, appNC, VwL, srcC, srcZ, srcM, isBoolT, isPtrT, isSliceT, uOk, Value.oneCell', Nat.reducePow, Int.reducePow, Nat.reduceAdd, Nat.reduceMul, Nat.reduceSub, Nat.reduceLT, Nat.reduceLeDiff, Nat.reduceEqDiff, Nat.reduceBEq, Nat.reduceDiv, Nat.reduceMod, ↓reduceIte, reduceCtorEq, Int.reduceToNat, Int.reduceLT, Int.reduceLE, TFBlG, SeqQ, BlkQ, LoopQ, BodyQ, e1, e2, List.length_replicate, FR.out])
    | (refine WP.seq fun K hK => ?_)
    | (refine WP.region (rvc_sound _ _ (Sm.out ?_)))
    | (refine WP.drawK rfl mixed (by decide +kernel) (Sm.out ?_))
    | (refine Ob.mk ?_; focus (first | assumption | omega | decide | trivial | (intro hob; simp only [hob, ZF]; done) | (intros; (repeat' refine And.intro ?_ ?_) <;> first | assumption | omega | trivial | decide) | (intros; simp only [ZE] at *; (repeat' refine And.intro ?_ ?_) <;> first | assumption | omega | trivial)))
    | (refine And.intro (Ob.out ?_) ?_)
    | (refine WP.block ?_)
    | (refine WP.cond rfl (fun hc => ?_) (fun hc => ?_) <;> (try simp only [ZC, reduceCtorEq, ZD] at hc) <;> (try (exact absurd hc (by decide))) <;> (try (exfalso; omega)))
    | ((first | refine WP.skip ?_ | refine WP.exit ?_); simp only [SeqQ, BlkQ, LoopQ, BodyQ, ↓reduceIte, Nat.reduceEqDiff, reduceCtorEq, look, true_and])
    | (refine WP.ret (Sm.out ?_))
    | (first | refine ExG.no (Sm.out ?_) | refine Or.inl (ExG.no (Sm.out ?_)) | refine Or.inl (And.intro (fun hg => absurd hg (by decide)) (ExG.no (Sm.out ?_))))
    | (refine Rt.mk ?_; refine And.intro ?_ ?_ <;> (intro hg; first | exact absurd hg (by decide) | refine Sm.out ?_))
    | (refine Nu.mk ?_; first | (fail_if_success (have := nb1)); intro nb1 | (fail_if_success (have := nb2)); intro nb2 | (fail_if_success (have := nb3)); intro nb3 | (fail_if_success (have := nb4)); intro nb4 | (fail_if_success (have := nb5)); intro nb5 | (fail_if_success (have := nb6)); intro nb6 | (fail_if_success (have := nb7)); intro nb7 | (fail_if_success (have := nb8)); intro nb8 | intro nbz)
    | (refine Fr.mk ?_; intro hfr; (first | (have hFRb : _ ≤ _ ∧ _ ≤ _ := And.intro hfr.1 hfr.2.1) | (have hFRb : _ ≤ _ := hfr.1) | skip); replace FR := Sm.mk (And.intro hfr FR.out); clear hfr; refine Sm.out ?_)
    | (refine Two.mk ?_ ?_)
    | (refine Cs.mk ?_; intro hcs; first | exact False.elim hcs | (exfalso; omega) | (refine Sm.out ?_))
    | go_step
    | omega
    | (simp only [maxLen_eq]; omega)
  (refine OutQ.drop _ _ (perm1 (by simp only [hget, hdel, ↓reduceIte, if_true, if_false, FR.out, ite_self, Nat.sub_zero]; first | done | rfl)) (by simp only [resv, ZK, look, loadv, loadn, loadnm, load1, load1m, hget, ↓reduceIte, Nat.reduceEqDiff, Nat.reduceAdd, Nat.reduceMul, Nat.reduceLeDiff, Nat.reduceLT, reduceCtorEq, TFBlG, FR.out, ite_self, Nat.sub_zero]) ⟨nb1, nb2, FR.out.1, (by simp only [resv, resA, ZK, look, loadv, loadn, loadnm, load1, load1m, hget, ↓reduceIte, Nat.reduceEqDiff, Nat.reduceAdd, Nat.reduceMul, Nat.reduceLeDiff, Nat.reduceLT, reduceCtorEq, TFBlG, FR.out, ite_self, Nat.sub_zero]; first | done | rfl), rfl⟩)
def cS (xs ys : List Int) : Nat → List Int
  | 0 => []
  | 1 => xs
  | _ => xs ++ ys
structure CG where
  j : Nat
  x : Nat
  c : Nat
theorem concat_ct (b : Nat) (xs ys : List Int) (h1 : 1 ≤ xs.length + ys.length) (h2 : xs.length + ys.length ≤ 4096) : ACt Try.prog 30 [ms b 0 2 2] [(b, .cells [.slz .u8 xs, .slz .u8 ys] 2 30)] (fun r F' => r = .slz .u8 (xs ++ ys) ∧ F' = [(b, .cells [.slz .u8 xs, .slz .u8 ys] 2 30)]) := by
  refine ACt.intro Try.func30 rfl (by kernel_rfl) (by simp [Try.ntmps30]) (fun cx => ?_)
  simp only [argE, Try.ntmps30, Try.results30]
  have lS : (cS xs ys 2).length = xs.length + ys.length := by simp [cS]
  have w0 : IntKind.i64.wrap (0 + 1) = 1 := by decide
  have w1 : IntKind.i64.wrap (1 + 1) = 2 := by decide
  have x1 : IntKind.i64.wrap (0 + (xs.length : Int)) = xs.length := by rw [wrap_i64 (by omega) (by omega)]; omega
  have x2 : IntKind.i64.wrap ((xs.length : Int) + (ys.length : Int)) = ((xs ++ ys).length : Nat) := by rw [wrap_i64 (by omega) (by omega), List.length_append]; omega
  have n1 : decide ((xs.length : Int) < 0) = false := by simp
  have n2 : decide ((((xs ++ ys).length : Nat) : Int) < 0) = false := by simp; omega
  first | (have FRx := FR; clear FRx) | (have FR : Sm (¬ ((1 : Nat) = 0)) := Sm.mk Nat.one_ne_zero)
  repeat' first
    | (refine Sm.mk ?_; try simp -dsimp only [ZK, rvc, drawF, headN, pureH, stp, dvc, calleeOf, gcall, pev, eff, newB, okd, og, ogs, ogo, ogp, slv, bltv, opd, litv, strip, one, both, putE, St.put, look, gdOf, gdv, picka, pickv, pickw, binv, bini, bins, binb, binp, binq, isSlT, bina, shp, eqCells, unv, convv, nilv, faddv, addp, idxav, idxp, load1, load1m, loadn, loadnm, loadv, hget, hset, hrep, hdel, slicev, bnd, shift1, lenv, capv, IntKind.bits, extractv, fieldv, indexv, min2v, max2v, mkiv, cellsA, fillA, buildv, stC, oneC, rowMB, intsA, plN, appE, appZ, appC, appNZ, appNC, VwL, srcC, srcZ, srcM, isBoolT, isPtrT, isSliceT, uOk, Value.oneCell', Nat.reducePow, Int.reducePow, Nat.reduceAdd, Nat.reduceMul, Nat.reduceSub, Nat.reduceLT, Nat.reduceLeDiff, Nat.reduceEqDiff, Nat.reduceBEq, Nat.reduceDiv, Nat.reduceMod, ↓reduceIte, reduceCtorEq, Int.reduceToNat, Int.reduceLT, Int.reduceLE, TFBlG, SeqQ, BlkQ, LoopQ, BodyQ, FR.out])
    | (refine WP.seq fun K hK => ?_)
    | (refine WP.region (rvc_sound _ _ (Sm.out ?_)))
    | (refine WP.drawK rfl mixed (by decide +kernel) (Sm.out ?_))
    | (refine Ob.mk ?_; focus (first | assumption | omega | decide | trivial | (intro hob; simp only [hob, ZF]; done) | (intros; (repeat' refine And.intro ?_ ?_) <;> first | assumption | omega | trivial | decide) | (intros; simp only [ZE] at *; (repeat' refine And.intro ?_ ?_) <;> first | assumption | omega | trivial)))
    | (refine And.intro (Ob.out ?_) ?_)
    | (refine WP.block ?_)
    | (refine WP.cond rfl (fun hc => ?_) (fun hc => ?_) <;> (try simp only [ZC, reduceCtorEq, ZD] at hc) <;> (try (exact absurd hc (by decide))) <;> (try (exfalso; omega)))
    | ((first | refine WP.skip ?_ | refine WP.exit ?_); simp only [SeqQ, BlkQ, LoopQ, BodyQ, ↓reduceIte, Nat.reduceEqDiff, reduceCtorEq, look, true_and])
    | (refine WP.ret (Sm.out ?_))
    | (first | refine ExG.no (Sm.out ?_) | refine Or.inl (ExG.no (Sm.out ?_)) | refine Or.inl (And.intro (fun hg => absurd hg (by decide)) (ExG.no (Sm.out ?_))))
    | (refine Rt.mk ?_; refine And.intro ?_ ?_ <;> (intro hg; first | exact absurd hg (by decide) | refine Sm.out ?_))
    | (refine Nu.mk ?_; first | (fail_if_success (have := nb1)); intro nb1 | (fail_if_success (have := nb2)); intro nb2 | (fail_if_success (have := nb3)); intro nb3 | (fail_if_success (have := nb4)); intro nb4 | (fail_if_success (have := nb5)); intro nb5 | (fail_if_success (have := nb6)); intro nb6 | (fail_if_success (have := nb7)); intro nb7 | (fail_if_success (have := nb8)); intro nb8 | intro nbz)
    | (refine Fr.mk ?_; intro hfr; (first | (have hFRb : _ ≤ _ ∧ _ ≤ _ := And.intro hfr.1 hfr.2.1) | (have hFRb : _ ≤ _ := hfr.1) | skip); replace FR := Sm.mk (And.intro hfr FR.out); clear hfr; refine Sm.out ?_)
    | (refine Two.mk ?_ ?_)
    | (refine Cs.mk ?_; intro hcs; first | exact False.elim hcs | (exfalso; omega) | (refine Sm.out ?_))
    | go_step
    | omega
    | (simp only [maxLen_eq]; omega)
  refine WP.loop (Γ := Nat) (fun j => ⟨[(11, iv .i64 (j : Nat)), (10, iv .i64 2), (9, ms b 0 2 2), (3, iv .i64 ((cS xs ys j).length : Nat)), (0, ms b 0 2 2)], [(b, .cells [.slz .u8 xs, .slz .u8 ys] 2 30)]⟩)
    (fun j => j ≤ 2) (fun j => 2 - j) 0 (by omega) (Sub.pick (by simp [pickB, hget, hdel, FR.out, cS]) (by simp [look, cS])) ?_
  intro j hj
  have FR : Sm (¬ ((1 : Nat) = 0)) := Sm.mk Nat.one_ne_zero
  obtain rfl | rfl | rfl : j = 0 ∨ j = 1 ∨ j = 2 := by omega
  · first | (have FRx := FR; clear FRx) | (have FR : Sm (¬ ((1 : Nat) = 0)) := Sm.mk Nat.one_ne_zero)
    repeat' first
      | (refine Sm.mk ?_; try simp -dsimp only [ZK, rvc, drawF, headN, pureH, stp, dvc, calleeOf, gcall, pev, eff, newB, okd, og, ogs, ogo, ogp, slv, bltv, opd, litv, strip, one, both, putE, St.put, look, gdOf, gdv, picka, pickv, pickw, binv, bini, bins, binb, binp, binq, isSlT, bina, shp, eqCells, unv, convv, nilv, faddv, addp, idxav, idxp, load1, load1m, loadn, loadnm, loadv, hget, hset, hrep, hdel, slicev, bnd, shift1, lenv, capv, IntKind.bits, extractv, fieldv, indexv, min2v, max2v, mkiv, cellsA, fillA, buildv, stC, oneC, rowMB, intsA, plN, appE, appZ, appC, appNZ, appNC, VwL, srcC, srcZ, srcM, isBoolT, isPtrT, isSliceT, uOk, Value.oneCell', Nat.reducePow, Int.reducePow, Nat.reduceAdd, Nat.reduceMul, Nat.reduceSub, Nat.reduceLT, Nat.reduceLeDiff, Nat.reduceEqDiff, Nat.reduceBEq, Nat.reduceDiv, Nat.reduceMod, ↓reduceIte, reduceCtorEq, Int.reduceToNat, Int.reduceLT, Int.reduceLE, TFBlG, SeqQ, BlkQ, LoopQ, BodyQ, cS, List.length_nil, x1, n1, w0, Int.natCast_zero, FR.out])
      | (refine WP.seq fun K hK => ?_)
      | (refine WP.region (rvc_sound _ _ (Sm.out ?_)))
      | (refine WP.drawK rfl mixed (by decide +kernel) (Sm.out ?_))
      | (refine Ob.mk ?_; focus (first | assumption | omega | decide | trivial | (intro hob; simp only [hob, ZF]; done) | (intros; (repeat' refine And.intro ?_ ?_) <;> first | assumption | omega | trivial | decide) | (intros; simp only [ZE] at *; (repeat' refine And.intro ?_ ?_) <;> first | assumption | omega | trivial)))
      | (refine And.intro (Ob.out ?_) ?_)
      | (refine WP.block ?_)
      | (refine WP.cond rfl (fun hc => ?_) (fun hc => ?_) <;> (try simp only [ZC, reduceCtorEq, ZD] at hc) <;> (try (exact absurd hc (by decide))) <;> (try (exfalso; omega)))
      | ((first | refine WP.skip ?_ | refine WP.exit ?_); simp only [SeqQ, BlkQ, LoopQ, BodyQ, ↓reduceIte, Nat.reduceEqDiff, reduceCtorEq, look, true_and])
      | (refine WP.ret (Sm.out ?_))
      | (first | refine ExG.no (Sm.out ?_) | refine Or.inl (ExG.no (Sm.out ?_)) | refine Or.inl (And.intro (fun hg => absurd hg (by decide)) (ExG.no (Sm.out ?_))))
      | (refine Rt.mk ?_; refine And.intro ?_ ?_ <;> (intro hg; first | exact absurd hg (by decide) | refine Sm.out ?_))
      | (refine Nu.mk ?_; first | (fail_if_success (have := nb1)); intro nb1 | (fail_if_success (have := nb2)); intro nb2 | (fail_if_success (have := nb3)); intro nb3 | (fail_if_success (have := nb4)); intro nb4 | (fail_if_success (have := nb5)); intro nb5 | (fail_if_success (have := nb6)); intro nb6 | (fail_if_success (have := nb7)); intro nb7 | (fail_if_success (have := nb8)); intro nb8 | intro nbz)
      | (refine Fr.mk ?_; intro hfr; (first | (have hFRb : _ ≤ _ ∧ _ ≤ _ := And.intro hfr.1 hfr.2.1) | (have hFRb : _ ≤ _ := hfr.1) | skip); replace FR := Sm.mk (And.intro hfr FR.out); clear hfr; refine Sm.out ?_)
      | (refine Two.mk ?_ ?_)
      | (refine Cs.mk ?_; intro hcs; first | exact False.elim hcs | (exfalso; omega) | (refine Sm.out ?_))
      | go_step
      | omega
      | (simp only [maxLen_eq]; omega)
    exact ⟨1, by omega, by omega, (Sub.pick (by simp [pickB, hget, hdel, FR.out, cS, w0, x1]) (by simp [look, cS, w0, x1]))⟩
  · first | (have FRx := FR; clear FRx) | (have FR : Sm (¬ ((1 : Nat) = 0)) := Sm.mk Nat.one_ne_zero)
    repeat' first
      | (refine Sm.mk ?_; try simp -dsimp only [ZK, rvc, drawF, headN, pureH, stp, dvc, calleeOf, gcall, pev, eff, newB, okd, og, ogs, ogo, ogp, slv, bltv, opd, litv, strip, one, both, putE, St.put, look, gdOf, gdv, picka, pickv, pickw, binv, bini, bins, binb, binp, binq, isSlT, bina, shp, eqCells, unv, convv, nilv, faddv, addp, idxav, idxp, load1, load1m, loadn, loadnm, loadv, hget, hset, hrep, hdel, slicev, bnd, shift1, lenv, capv, IntKind.bits, extractv, fieldv, indexv, min2v, max2v, mkiv, cellsA, fillA, buildv, stC, oneC, rowMB, intsA, plN, appE, appZ, appC, appNZ, appNC, VwL, srcC, srcZ, srcM, isBoolT, isPtrT, isSliceT, uOk, Value.oneCell', Nat.reducePow, Int.reducePow, Nat.reduceAdd, Nat.reduceMul, Nat.reduceSub, Nat.reduceLT, Nat.reduceLeDiff, Nat.reduceEqDiff, Nat.reduceBEq, Nat.reduceDiv, Nat.reduceMod, ↓reduceIte, reduceCtorEq, Int.reduceToNat, Int.reduceLT, Int.reduceLE, TFBlG, SeqQ, BlkQ, LoopQ, BodyQ, cS, x2, n2, w1, FR.out])
      | (refine WP.seq fun K hK => ?_)
      | (refine WP.region (rvc_sound _ _ (Sm.out ?_)))
      | (refine WP.drawK rfl mixed (by decide +kernel) (Sm.out ?_))
      | (refine Ob.mk ?_; focus (first | assumption | omega | decide | trivial | (intro hob; simp only [hob, ZF]; done) | (intros; (repeat' refine And.intro ?_ ?_) <;> first | assumption | omega | trivial | decide) | (intros; simp only [ZE] at *; (repeat' refine And.intro ?_ ?_) <;> first | assumption | omega | trivial)))
      | (refine And.intro (Ob.out ?_) ?_)
      | (refine WP.block ?_)
      | (refine WP.cond rfl (fun hc => ?_) (fun hc => ?_) <;> (try simp only [ZC, reduceCtorEq, ZD] at hc) <;> (try (exact absurd hc (by decide))) <;> (try (exfalso; omega)))
      | ((first | refine WP.skip ?_ | refine WP.exit ?_); simp only [SeqQ, BlkQ, LoopQ, BodyQ, ↓reduceIte, Nat.reduceEqDiff, reduceCtorEq, look, true_and])
      | (refine WP.ret (Sm.out ?_))
      | (first | refine ExG.no (Sm.out ?_) | refine Or.inl (ExG.no (Sm.out ?_)) | refine Or.inl (And.intro (fun hg => absurd hg (by decide)) (ExG.no (Sm.out ?_))))
      | (refine Rt.mk ?_; refine And.intro ?_ ?_ <;> (intro hg; first | exact absurd hg (by decide) | refine Sm.out ?_))
      | (refine Nu.mk ?_; first | (fail_if_success (have := nb1)); intro nb1 | (fail_if_success (have := nb2)); intro nb2 | (fail_if_success (have := nb3)); intro nb3 | (fail_if_success (have := nb4)); intro nb4 | (fail_if_success (have := nb5)); intro nb5 | (fail_if_success (have := nb6)); intro nb6 | (fail_if_success (have := nb7)); intro nb7 | (fail_if_success (have := nb8)); intro nb8 | intro nbz)
      | (refine Fr.mk ?_; intro hfr; (first | (have hFRb : _ ≤ _ ∧ _ ≤ _ := And.intro hfr.1 hfr.2.1) | (have hFRb : _ ≤ _ := hfr.1) | skip); replace FR := Sm.mk (And.intro hfr FR.out); clear hfr; refine Sm.out ?_)
      | (refine Two.mk ?_ ?_)
      | (refine Cs.mk ?_; intro hcs; first | exact False.elim hcs | (exfalso; omega) | (refine Sm.out ?_))
      | go_step
      | omega
      | (simp only [maxLen_eq]; omega)
    exact ⟨2, by omega, by omega, (Sub.pick (by simp [pickB, hget, hdel, FR.out, cS, w1, x2]) (by simp [look, cS, w1, x2]))⟩
  · have cg := grow_ct (xs.length + ys.length) h1 h2
    first | (have FRx := FR; clear FRx) | (have FR : Sm (¬ ((1 : Nat) = 0)) := Sm.mk Nat.one_ne_zero)
    repeat' first
      | (refine Sm.mk ?_; try simp -dsimp only [ZK, rvc, drawF, headN, pureH, stp, dvc, calleeOf, gcall, pev, eff, newB, okd, og, ogs, ogo, ogp, slv, bltv, opd, litv, strip, one, both, putE, St.put, look, gdOf, gdv, picka, pickv, pickw, binv, bini, bins, binb, binp, binq, isSlT, bina, shp, eqCells, unv, convv, nilv, faddv, addp, idxav, idxp, load1, load1m, loadn, loadnm, loadv, hget, hset, hrep, hdel, slicev, bnd, shift1, lenv, capv, IntKind.bits, extractv, fieldv, indexv, min2v, max2v, mkiv, cellsA, fillA, buildv, stC, oneC, rowMB, intsA, plN, appE, appZ, appC, appNZ, appNC, VwL, srcC, srcZ, srcM, isBoolT, isPtrT, isSliceT, uOk, Value.oneCell', Nat.reducePow, Int.reducePow, Nat.reduceAdd, Nat.reduceMul, Nat.reduceSub, Nat.reduceLT, Nat.reduceLeDiff, Nat.reduceEqDiff, Nat.reduceBEq, Nat.reduceDiv, Nat.reduceMod, ↓reduceIte, reduceCtorEq, Int.reduceToNat, Int.reduceLT, Int.reduceLE, TFBlG, SeqQ, BlkQ, LoopQ, BodyQ, cS, FR.out])
      | (refine CallV.newC (cg) (List.Perm.refl _) (fun _ _ => rfl) (Sm.out ?_))
      | (refine WP.seq fun K hK => ?_)
      | ((fail_if_success (show WP _ _ _ (.region 10 _ _) _ _)); refine WP.region (rvc_sound _ _ (Sm.out ?_)))
      | ((fail_if_success (show WP _ _ _ (.region 10 _ _) _ _)); refine WP.drawK rfl mixed (by decide +kernel) (Sm.out ?_))
      | (refine Ob.mk ?_; focus (first | assumption | omega | decide | trivial | (intro hob; simp only [hob, ZF]; done) | (intros; (repeat' refine And.intro ?_ ?_) <;> first | assumption | omega | trivial | decide) | (intros; simp only [ZE] at *; (repeat' refine And.intro ?_ ?_) <;> first | assumption | omega | trivial)))
      | (refine And.intro (Ob.out ?_) ?_)
      | (refine WP.block ?_)
      | (refine WP.cond rfl (fun hc => ?_) (fun hc => ?_) <;> (try simp only [ZC, reduceCtorEq, ZD] at hc) <;> (try (exact absurd hc (by decide))) <;> (try (exfalso; omega)))
      | ((first | refine WP.skip ?_ | refine WP.exit ?_); simp only [SeqQ, BlkQ, LoopQ, BodyQ, ↓reduceIte, Nat.reduceEqDiff, reduceCtorEq, look, true_and])
      | (refine WP.ret (Sm.out ?_))
      | (first | refine ExG.no (Sm.out ?_) | refine Or.inl (ExG.no (Sm.out ?_)) | refine Or.inl (And.intro (fun hg => absurd hg (by decide)) (ExG.no (Sm.out ?_))))
      | (refine Rt.mk ?_; refine And.intro ?_ ?_ <;> (intro hg; first | exact absurd hg (by decide) | refine Sm.out ?_))
      | (refine Nu.mk ?_; first | (fail_if_success (have := nb1)); intro nb1 | (fail_if_success (have := nb2)); intro nb2 | (fail_if_success (have := nb3)); intro nb3 | (fail_if_success (have := nb4)); intro nb4 | (fail_if_success (have := nb5)); intro nb5 | (fail_if_success (have := nb6)); intro nb6 | (fail_if_success (have := nb7)); intro nb7 | (fail_if_success (have := nb8)); intro nb8 | intro nbz)
      | (refine Fr.mk ?_; intro hfr; (first | (have hFRb : _ ≤ _ ∧ _ ≤ _ := And.intro hfr.1 hfr.2.1) | (have hFRb : _ ≤ _ := hfr.1) | skip); replace FR := Sm.mk (And.intro hfr FR.out); clear hfr; refine Sm.out ?_)
      | (refine Two.mk ?_ ?_)
      | (refine Cs.mk ?_; intro hcs; first | exact False.elim hcs | (exfalso; omega) | (refine Sm.out ?_))
      | go_step
      | omega
      | (simp only [maxLen_eq]; omega)
    refine WP.wk (Wk.cutz nb1 0 (by simp only [hget, ↓reduceIte]; rfl)) ?_
    simp only [hset, ↓reduceIte, List.take_zero]
    first | (have FRx := FR; clear FRx) | (have FR : Sm (¬ ((1 : Nat) = 0)) := Sm.mk Nat.one_ne_zero)
    repeat' first
      | (refine Sm.mk ?_; try simp -dsimp only [ZK, rvc, drawF, headN, pureH, stp, dvc, calleeOf, gcall, pev, eff, newB, okd, og, ogs, ogo, ogp, slv, bltv, opd, litv, strip, one, both, putE, St.put, look, gdOf, gdv, picka, pickv, pickw, binv, bini, bins, binb, binp, binq, isSlT, bina, shp, eqCells, unv, convv, nilv, faddv, addp, idxav, idxp, load1, load1m, loadn, loadnm, loadv, hget, hset, hrep, hdel, slicev, bnd, shift1, lenv, capv, IntKind.bits, extractv, fieldv, indexv, min2v, max2v, mkiv, cellsA, fillA, buildv, stC, oneC, rowMB, intsA, plN, appE, appZ, appC, appNZ, appNC, VwL, srcC, srcZ, srcM, isBoolT, isPtrT, isSliceT, uOk, Value.oneCell', Nat.reducePow, Int.reducePow, Nat.reduceAdd, Nat.reduceMul, Nat.reduceSub, Nat.reduceLT, Nat.reduceLeDiff, Nat.reduceEqDiff, Nat.reduceBEq, Nat.reduceDiv, Nat.reduceMod, ↓reduceIte, reduceCtorEq, Int.reduceToNat, Int.reduceLT, Int.reduceLE, TFBlG, SeqQ, BlkQ, LoopQ, BodyQ, FR.out])
      | (refine WP.seq fun K hK => ?_)
      | (refine WP.region (rvc_sound _ _ (Sm.out ?_)))
      | (refine WP.drawK rfl mixed (by decide +kernel) (Sm.out ?_))
      | (refine Ob.mk ?_; focus (first | assumption | omega | decide | trivial | (intro hob; simp only [hob, ZF]; done) | (intros; (repeat' refine And.intro ?_ ?_) <;> first | assumption | omega | trivial | decide) | (intros; simp only [ZE] at *; (repeat' refine And.intro ?_ ?_) <;> first | assumption | omega | trivial)))
      | (refine And.intro (Ob.out ?_) ?_)
      | (refine WP.block ?_)
      | (refine WP.cond rfl (fun hc => ?_) (fun hc => ?_) <;> (try simp only [ZC, reduceCtorEq, ZD] at hc) <;> (try (exact absurd hc (by decide))) <;> (try (exfalso; omega)))
      | ((first | refine WP.skip ?_ | refine WP.exit ?_); simp only [SeqQ, BlkQ, LoopQ, BodyQ, ↓reduceIte, Nat.reduceEqDiff, reduceCtorEq, look, true_and])
      | (refine WP.ret (Sm.out ?_))
      | (first | refine ExG.no (Sm.out ?_) | refine Or.inl (ExG.no (Sm.out ?_)) | refine Or.inl (And.intro (fun hg => absurd hg (by decide)) (ExG.no (Sm.out ?_))))
      | (refine Rt.mk ?_; refine And.intro ?_ ?_ <;> (intro hg; first | exact absurd hg (by decide) | refine Sm.out ?_))
      | (refine Nu.mk ?_; first | (fail_if_success (have := nb1)); intro nb1 | (fail_if_success (have := nb2)); intro nb2 | (fail_if_success (have := nb3)); intro nb3 | (fail_if_success (have := nb4)); intro nb4 | (fail_if_success (have := nb5)); intro nb5 | (fail_if_success (have := nb6)); intro nb6 | (fail_if_success (have := nb7)); intro nb7 | (fail_if_success (have := nb8)); intro nb8 | intro nbz)
      | (refine Fr.mk ?_; intro hfr; (first | (have hFRb : _ ≤ _ ∧ _ ≤ _ := And.intro hfr.1 hfr.2.1) | (have hFRb : _ ≤ _ := hfr.1) | skip); replace FR := Sm.mk (And.intro hfr FR.out); clear hfr; refine Sm.out ?_)
      | (refine Two.mk ?_ ?_)
      | (refine Cs.mk ?_; intro hcs; first | exact False.elim hcs | (exfalso; omega) | (refine Sm.out ?_))
      | go_step
      | omega
      | (simp only [maxLen_eq]; omega)
    refine WP.loop (Γ := CG) (fun q => ⟨[(27, iv .i64 (q.j : Nat)), (26, iv .i64 2), (25, ms b 0 2 2), (6, ms q.x 0 (cS xs ys q.j).length q.c)], [(q.x, .zs .u8 (cS xs ys q.j) q.c 5), (b, .cells [.slz .u8 xs, .slz .u8 ys] 2 30)]⟩)
      (fun q => q.j ≤ 2 ∧ ((cS xs ys q.j).length ≤ q.c ∧ q.c ≤ 9223372036854775807) ∧ q.x ≠ b ∧ b ≠ q.x) (fun q => 2 - q.j) ⟨0, nb1, nb2⟩ ⟨by simp, by simp only [cS, List.length_nil]; have := FR.out.1.1.2; omega, by simp [FR.out], by simp [FR.out]⟩ (Sub.pick (by simp [pickB, hget, hdel, FR.out, cS]) (by simp [look, cS])) ?_
    intro ⟨j, x, c⟩ ⟨hj, hc1, hc2⟩
    simp only at hj hc1 hc2 ⊢
    have FR : Sm (¬ ((1 : Nat) = 0)) := Sm.mk Nat.one_ne_zero
    obtain rfl | rfl | rfl : j = 0 ∨ j = 1 ∨ j = 2 := by omega
    · first | (have FRx := FR; clear FRx) | (have FR : Sm (¬ ((1 : Nat) = 0)) := Sm.mk Nat.one_ne_zero)
      repeat' first
        | (refine Sm.mk ?_; try simp -dsimp only [ZK, rvc, drawF, headN, pureH, stp, dvc, calleeOf, gcall, pev, eff, newB, okd, og, ogs, ogo, ogp, slv, bltv, opd, litv, strip, one, both, putE, St.put, look, gdOf, gdv, picka, pickv, pickw, binv, bini, bins, binb, binp, binq, isSlT, bina, shp, eqCells, unv, convv, nilv, faddv, addp, idxav, idxp, load1, load1m, loadn, loadnm, loadv, hget, hset, hrep, hdel, slicev, bnd, shift1, lenv, capv, IntKind.bits, extractv, fieldv, indexv, min2v, max2v, mkiv, cellsA, fillA, buildv, stC, oneC, rowMB, intsA, plN, appE, appZ, appC, appNZ, appNC, VwL, srcC, srcZ, srcM, isBoolT, isPtrT, isSliceT, uOk, Value.oneCell', Nat.reducePow, Int.reducePow, Nat.reduceAdd, Nat.reduceMul, Nat.reduceSub, Nat.reduceLT, Nat.reduceLeDiff, Nat.reduceEqDiff, Nat.reduceBEq, Nat.reduceDiv, Nat.reduceMod, ↓reduceIte, reduceCtorEq, Int.reduceToNat, Int.reduceLT, Int.reduceLE, TFBlG, SeqQ, BlkQ, LoopQ, BodyQ, cS, List.length_nil, w0, hc2, FR.out])
        | (refine WP.seq fun K hK => ?_)
        | (refine WP.region (rvc_sound _ _ (Sm.out ?_)))
        | (refine WP.drawK rfl mixed (by decide +kernel) (Sm.out ?_))
        | (refine Ob.mk ?_; focus (first | assumption | omega | decide | trivial | (intro hob; simp only [hob, ZF]; done) | (intros; (repeat' refine And.intro ?_ ?_) <;> first | assumption | omega | trivial | decide) | (intros; simp only [ZE] at *; (repeat' refine And.intro ?_ ?_) <;> first | assumption | omega | trivial)))
        | (refine And.intro (Ob.out ?_) ?_)
        | (refine WP.block ?_)
        | (refine WP.cond rfl (fun hc => ?_) (fun hc => ?_) <;> (try simp only [ZC, reduceCtorEq, ZD] at hc) <;> (try (exact absurd hc (by decide))) <;> (try (exfalso; omega)))
        | ((first | refine WP.skip ?_ | refine WP.exit ?_); simp only [SeqQ, BlkQ, LoopQ, BodyQ, ↓reduceIte, Nat.reduceEqDiff, reduceCtorEq, look, true_and])
        | (refine WP.ret (Sm.out ?_))
        | (first | refine ExG.no (Sm.out ?_) | refine Or.inl (ExG.no (Sm.out ?_)) | refine Or.inl (And.intro (fun hg => absurd hg (by decide)) (ExG.no (Sm.out ?_))))
        | (refine Rt.mk ?_; refine And.intro ?_ ?_ <;> (intro hg; first | exact absurd hg (by decide) | refine Sm.out ?_))
        | (refine Nu.mk ?_; first | (fail_if_success (have := nb1)); intro nb1 | (fail_if_success (have := nb2)); intro nb2 | (fail_if_success (have := nb3)); intro nb3 | (fail_if_success (have := nb4)); intro nb4 | (fail_if_success (have := nb5)); intro nb5 | (fail_if_success (have := nb6)); intro nb6 | (fail_if_success (have := nb7)); intro nb7 | (fail_if_success (have := nb8)); intro nb8 | intro nbz)
        | (refine Fr.mk ?_; intro hfr; (first | (have hFRb : _ ≤ _ ∧ _ ≤ _ := And.intro hfr.1 hfr.2.1) | (have hFRb : _ ≤ _ := hfr.1) | skip); replace FR := Sm.mk (And.intro hfr FR.out); clear hfr; refine Sm.out ?_)
        | (refine Two.mk ?_ ?_)
        | (refine Cs.mk ?_; intro hcs; first | exact False.elim hcs | (exfalso; omega) | (refine Sm.out ?_))
        | go_step
        | omega
        | (simp only [maxLen_eq]; omega)
      exact ⟨⟨1, nb3, nb4⟩, ⟨by simp only; omega, by simp only [cS, List.length_append]; omega, by simp [FR.out], by simp [FR.out]⟩, by simp only; omega, (Sub.pick (by simp [pickB, hget, hdel, FR.out, cS]) (by simp [look, cS]))⟩
    · first | (have FRx := FR; clear FRx) | (have FR : Sm (¬ ((1 : Nat) = 0)) := Sm.mk Nat.one_ne_zero)
      repeat' first
        | (refine Sm.mk ?_; try simp -dsimp only [ZK, rvc, drawF, headN, pureH, stp, dvc, calleeOf, gcall, pev, eff, newB, okd, og, ogs, ogo, ogp, slv, bltv, opd, litv, strip, one, both, putE, St.put, look, gdOf, gdv, picka, pickv, pickw, binv, bini, bins, binb, binp, binq, isSlT, bina, shp, eqCells, unv, convv, nilv, faddv, addp, idxav, idxp, load1, load1m, loadn, loadnm, loadv, hget, hset, hrep, hdel, slicev, bnd, shift1, lenv, capv, IntKind.bits, extractv, fieldv, indexv, min2v, max2v, mkiv, cellsA, fillA, buildv, stC, oneC, rowMB, intsA, plN, appE, appZ, appC, appNZ, appNC, VwL, srcC, srcZ, srcM, isBoolT, isPtrT, isSliceT, uOk, Value.oneCell', Nat.reducePow, Int.reducePow, Nat.reduceAdd, Nat.reduceMul, Nat.reduceSub, Nat.reduceLT, Nat.reduceLeDiff, Nat.reduceEqDiff, Nat.reduceBEq, Nat.reduceDiv, Nat.reduceMod, ↓reduceIte, reduceCtorEq, Int.reduceToNat, Int.reduceLT, Int.reduceLE, TFBlG, SeqQ, BlkQ, LoopQ, BodyQ, cS, hc2, w1, FR.out])
        | (refine WP.seq fun K hK => ?_)
        | (refine WP.region (rvc_sound _ _ (Sm.out ?_)))
        | (refine WP.drawK rfl mixed (by decide +kernel) (Sm.out ?_))
        | (refine Ob.mk ?_; focus (first | assumption | omega | decide | trivial | (intro hob; simp only [hob, ZF]; done) | (intros; (repeat' refine And.intro ?_ ?_) <;> first | assumption | omega | trivial | decide) | (intros; simp only [ZE] at *; (repeat' refine And.intro ?_ ?_) <;> first | assumption | omega | trivial)))
        | (refine And.intro (Ob.out ?_) ?_)
        | (refine WP.block ?_)
        | (refine WP.cond rfl (fun hc => ?_) (fun hc => ?_) <;> (try simp only [ZC, reduceCtorEq, ZD] at hc) <;> (try (exact absurd hc (by decide))) <;> (try (exfalso; omega)))
        | ((first | refine WP.skip ?_ | refine WP.exit ?_); simp only [SeqQ, BlkQ, LoopQ, BodyQ, ↓reduceIte, Nat.reduceEqDiff, reduceCtorEq, look, true_and])
        | (refine WP.ret (Sm.out ?_))
        | (first | refine ExG.no (Sm.out ?_) | refine Or.inl (ExG.no (Sm.out ?_)) | refine Or.inl (And.intro (fun hg => absurd hg (by decide)) (ExG.no (Sm.out ?_))))
        | (refine Rt.mk ?_; refine And.intro ?_ ?_ <;> (intro hg; first | exact absurd hg (by decide) | refine Sm.out ?_))
        | (refine Nu.mk ?_; first | (fail_if_success (have := nb1)); intro nb1 | (fail_if_success (have := nb2)); intro nb2 | (fail_if_success (have := nb3)); intro nb3 | (fail_if_success (have := nb4)); intro nb4 | (fail_if_success (have := nb5)); intro nb5 | (fail_if_success (have := nb6)); intro nb6 | (fail_if_success (have := nb7)); intro nb7 | (fail_if_success (have := nb8)); intro nb8 | intro nbz)
        | (refine Fr.mk ?_; intro hfr; (first | (have hFRb : _ ≤ _ ∧ _ ≤ _ := And.intro hfr.1 hfr.2.1) | (have hFRb : _ ≤ _ := hfr.1) | skip); replace FR := Sm.mk (And.intro hfr FR.out); clear hfr; refine Sm.out ?_)
        | (refine Two.mk ?_ ?_)
        | (refine Cs.mk ?_; intro hcs; first | exact False.elim hcs | (exfalso; omega) | (refine Sm.out ?_))
        | go_step
        | omega
        | (simp only [maxLen_eq]; omega)
      exact ⟨⟨2, nb3, nb4⟩, ⟨by simp only; omega, by simp only [cS, List.length_append]; omega, by simp [FR.out], by simp [FR.out]⟩, by simp only; omega, (Sub.pick (by simp [pickB, hget, hdel, FR.out, cS]) (by simp [look, cS]))⟩
    · rw [lS] at hc1
      have e3 : (xs ++ ys).take (xs.length + ys.length) = xs ++ ys := List.take_of_length_le (by simp)
      first | (have FRx := FR; clear FRx) | (have FR : Sm (¬ ((1 : Nat) = 0)) := Sm.mk Nat.one_ne_zero)
      repeat' first
        | (refine Sm.mk ?_; try simp -dsimp only [ZK, rvc, drawF, headN, pureH, stp, dvc, calleeOf, gcall, pev, eff, newB, okd, og, ogs, ogo, ogp, slv, bltv, opd, litv, strip, one, both, putE, St.put, look, gdOf, gdv, picka, pickv, pickw, binv, bini, bins, binb, binp, binq, isSlT, bina, shp, eqCells, unv, convv, nilv, faddv, addp, idxav, idxp, load1, load1m, loadn, loadnm, loadv, hget, hset, hrep, hdel, slicev, bnd, shift1, lenv, capv, IntKind.bits, extractv, fieldv, indexv, min2v, max2v, mkiv, cellsA, fillA, buildv, stC, oneC, rowMB, intsA, plN, appE, appZ, appC, appNZ, appNC, VwL, srcC, srcZ, srcM, isBoolT, isPtrT, isSliceT, uOk, Value.oneCell', Nat.reducePow, Int.reducePow, Nat.reduceAdd, Nat.reduceMul, Nat.reduceSub, Nat.reduceLT, Nat.reduceLeDiff, Nat.reduceEqDiff, Nat.reduceBEq, Nat.reduceDiv, Nat.reduceMod, ↓reduceIte, reduceCtorEq, Int.reduceToNat, Int.reduceLT, Int.reduceLE, TFBlG, SeqQ, BlkQ, LoopQ, BodyQ, cS, hc2, FR.out])
        | (refine WP.seq fun K hK => ?_)
        | (refine WP.region (rvc_sound _ _ (Sm.out ?_)))
        | (refine WP.drawK rfl mixed (by decide +kernel) (Sm.out ?_))
        | (refine Ob.mk ?_; focus (first | assumption | omega | decide | trivial | (intro hob; simp only [hob, ZF]; done) | (intros; (repeat' refine And.intro ?_ ?_) <;> first | assumption | omega | trivial | decide) | (intros; simp only [ZE] at *; (repeat' refine And.intro ?_ ?_) <;> first | assumption | omega | trivial)))
        | (refine And.intro (Ob.out ?_) ?_)
        | (refine WP.block ?_)
        | (refine WP.cond rfl (fun hc => ?_) (fun hc => ?_) <;> (try simp only [ZC, reduceCtorEq, ZD] at hc) <;> (try (exact absurd hc (by decide))) <;> (try (exfalso; omega)))
        | ((first | refine WP.skip ?_ | refine WP.exit ?_); simp only [SeqQ, BlkQ, LoopQ, BodyQ, ↓reduceIte, Nat.reduceEqDiff, reduceCtorEq, look, true_and])
        | (refine WP.ret (Sm.out ?_))
        | (first | refine ExG.no (Sm.out ?_) | refine Or.inl (ExG.no (Sm.out ?_)) | refine Or.inl (And.intro (fun hg => absurd hg (by decide)) (ExG.no (Sm.out ?_))))
        | (refine Rt.mk ?_; refine And.intro ?_ ?_ <;> (intro hg; first | exact absurd hg (by decide) | refine Sm.out ?_))
        | (refine Nu.mk ?_; first | (fail_if_success (have := nb1)); intro nb1 | (fail_if_success (have := nb2)); intro nb2 | (fail_if_success (have := nb3)); intro nb3 | (fail_if_success (have := nb4)); intro nb4 | (fail_if_success (have := nb5)); intro nb5 | (fail_if_success (have := nb6)); intro nb6 | (fail_if_success (have := nb7)); intro nb7 | (fail_if_success (have := nb8)); intro nb8 | intro nbz)
        | (refine Fr.mk ?_; intro hfr; (first | (have hFRb : _ ≤ _ ∧ _ ≤ _ := And.intro hfr.1 hfr.2.1) | (have hFRb : _ ≤ _ := hfr.1) | skip); replace FR := Sm.mk (And.intro hfr FR.out); clear hfr; refine Sm.out ?_)
        | (refine Two.mk ?_ ?_)
        | (refine Cs.mk ?_; intro hcs; first | exact False.elim hcs | (exfalso; omega) | (refine Sm.out ?_))
        | go_step
        | omega
        | (simp only [maxLen_eq]; omega)
      (refine OutQ.wk (Wk.freeze (x) (by simp only [ZK, rvc, drawF, headN, pureH, stp, dvc, calleeOf, gcall, pev, eff, newB, okd, og, ogs, ogo, ogp, slv, bltv, opd, litv, strip, one, both, putE, St.put, look, gdOf, gdv, picka, pickv, pickw, binv, bini, bins, binb, binp, binq, isSlT, bina, shp, eqCells, unv, convv, nilv, faddv, addp, idxav, idxp, load1, load1m, loadn, loadnm, loadv, hget, hset, hrep, hdel, slicev, bnd, shift1, lenv, capv, IntKind.bits, extractv, fieldv, indexv, min2v, max2v, mkiv, cellsA, fillA, buildv, stC, oneC, rowMB, intsA, plN, appE, appZ, appC, appNZ, appNC, VwL, srcC, srcZ, srcM, isBoolT, isPtrT, isSliceT, uOk, Value.oneCell', Nat.reducePow, Int.reducePow, Nat.reduceAdd, Nat.reduceMul, Nat.reduceSub, Nat.reduceLT, Nat.reduceLeDiff, Nat.reduceEqDiff, Nat.reduceBEq, Nat.reduceDiv, Nat.reduceMod, ↓reduceIte, reduceCtorEq, Int.reduceToNat, Int.reduceLT, Int.reduceLE, TFBlG, SeqQ, BlkQ, LoopQ, BodyQ, hc1, List.length_append, Nat.le_refl, Nat.zero_add, List.drop_zero, e3, FR.out]; first | done | rfl)) ?_; simp only [frzE, frz, ZK, rvc, drawF, headN, pureH, stp, dvc, calleeOf, gcall, pev, eff, newB, okd, og, ogs, ogo, ogp, slv, bltv, opd, litv, strip, one, both, putE, St.put, look, gdOf, gdv, picka, pickv, pickw, binv, bini, bins, binb, binp, binq, isSlT, bina, shp, eqCells, unv, convv, nilv, faddv, addp, idxav, idxp, load1, load1m, loadn, loadnm, loadv, hget, hset, hrep, hdel, slicev, bnd, shift1, lenv, capv, IntKind.bits, extractv, fieldv, indexv, min2v, max2v, mkiv, cellsA, fillA, buildv, stC, oneC, rowMB, intsA, plN, appE, appZ, appC, appNZ, appNC, VwL, srcC, srcZ, srcM, isBoolT, isPtrT, isSliceT, uOk, Value.oneCell', Nat.reducePow, Int.reducePow, Nat.reduceAdd, Nat.reduceMul, Nat.reduceSub, Nat.reduceLT, Nat.reduceLeDiff, Nat.reduceEqDiff, Nat.reduceBEq, Nat.reduceDiv, Nat.reduceMod, ↓reduceIte, reduceCtorEq, Int.reduceToNat, Int.reduceLT, Int.reduceLE, TFBlG, SeqQ, BlkQ, LoopQ, BodyQ, hc1, List.length_append, Nat.le_refl, Nat.zero_add, List.drop_zero, e3, FR.out])
      (refine OutQ.upd (by simp only [resv, ZK, look, loadv, loadn, loadnm, load1, load1m, hget, ↓reduceIte, Nat.reduceEqDiff, Nat.reduceAdd, Nat.reduceMul, Nat.reduceLeDiff, Nat.reduceLT, reduceCtorEq, TFBlG, FR.out, hc2]) (by simp only [resv, resA, ZK, look, loadv, loadn, loadnm, load1, load1m, hget, ↓reduceIte, Nat.reduceEqDiff, Nat.reduceAdd, Nat.reduceMul, Nat.reduceLeDiff, Nat.reduceLT, reduceCtorEq, TFBlG, FR.out, hc2]; first | done | rfl) (by simp only [hget, ↓reduceIte, if_true, if_false, FR.out, hc2]; first | done | rfl) ?_ <;> first | exact rfl | (simp only [ZK, look, loadv, loadn, loadnm, load1, load1m, hget, ↓reduceIte, Nat.reduceEqDiff, Nat.reduceAdd, Nat.reduceMul, Nat.reduceLeDiff, Nat.reduceLT, reduceCtorEq, TFBlG, FR.out, hc2]; done) | skip)
end Go.Proofs.Ytnhkohgamnchlaa
namespace Go.Proofs.Ytnhkohgamnchlaa
open Go
set_option linter.unusedVariables false
set_option linter.unusedSimpArgs false
theorem TFBlH : (((((((type_of% tyc0) ∧ (type_of% tyc3)) ∧ ((type_of% zmb3) ∧ (type_of% tyc4))) ∧ (((type_of% zmb4) ∧ (type_of% tyc5)) ∧ ((type_of% zmb5) ∧ (type_of% tyc24)))) ∧ ((((type_of% mth24_27) ∧ (type_of% mth24_26)) ∧ ((type_of% mth24_28) ∧ (type_of% con24))) ∧ (((type_of% zmb24) ∧ (type_of% tyc30)) ∧ ((type_of% elt30) ∧ (type_of% mkz30))))) ∧ (((((type_of% apT30) ∧ (type_of% elk30)) ∧ ((type_of% zmb30) ∧ (type_of% tyc51))) ∧ (((type_of% elt51) ∧ (type_of% mkz51)) ∧ ((type_of% mkc51) ∧ (type_of% apT51)))) ∧ ((((type_of% elk51) ∧ (type_of% zmb51)) ∧ ((type_of% tyc52) ∧ (type_of% elt52))) ∧ (((type_of% mkz52) ∧ (type_of% mkc52)) ∧ ((type_of% apT52) ∧ ((type_of% elk52) ∧ (type_of% zmb52))))))) ∧ ((((((type_of% tyc54) ∧ (type_of% foff54_0)) ∧ ((type_of% fpart54_0) ∧ (type_of% foff54_1))) ∧ (((type_of% fpart54_1) ∧ (type_of% foff54_2)) ∧ ((type_of% fpart54_2) ∧ (type_of% foff54_3)))) ∧ ((((type_of% fpart54_3) ∧ (type_of% foff54_4)) ∧ ((type_of% fpart54_4) ∧ (type_of% foff54_5))) ∧ (((type_of% fpart54_5) ∧ (type_of% foff54_6)) ∧ ((type_of% fpart54_6) ∧ ((type_of% zmb54) ∧ (type_of% bldT54)))))) ∧ (((((type_of% tyc58) ∧ (type_of% foff58_0)) ∧ ((type_of% fpart58_0) ∧ (type_of% foff58_1))) ∧ (((type_of% fpart58_1) ∧ (type_of% zmb58)) ∧ ((type_of% bldT58) ∧ (type_of% Try.underlying0)))) ∧ ((((type_of% Try.underlying3) ∧ (type_of% Try.underlying4)) ∧ ((type_of% Try.underlying5) ∧ (type_of% Try.underlying24))) ∧ (((type_of% Try.underlying30) ∧ (type_of% Try.underlying51)) ∧ ((type_of% Try.underlying52) ∧ ((type_of% Try.underlying54) ∧ (type_of% Try.underlying58)))))))) :=
  ⟨⟨⟨⟨⟨⟨tyc0, tyc3⟩, ⟨zmb3, tyc4⟩⟩, ⟨⟨zmb4, tyc5⟩, ⟨zmb5, tyc24⟩⟩⟩, ⟨⟨⟨mth24_27, mth24_26⟩, ⟨mth24_28, con24⟩⟩, ⟨⟨zmb24, tyc30⟩, ⟨elt30, mkz30⟩⟩⟩⟩, ⟨⟨⟨⟨apT30, elk30⟩, ⟨zmb30, tyc51⟩⟩, ⟨⟨elt51, mkz51⟩, ⟨mkc51, apT51⟩⟩⟩, ⟨⟨⟨elk51, zmb51⟩, ⟨tyc52, elt52⟩⟩, ⟨⟨mkz52, mkc52⟩, ⟨apT52, ⟨elk52, zmb52⟩⟩⟩⟩⟩⟩, ⟨⟨⟨⟨⟨tyc54, foff54_0⟩, ⟨fpart54_0, foff54_1⟩⟩, ⟨⟨fpart54_1, foff54_2⟩, ⟨fpart54_2, foff54_3⟩⟩⟩, ⟨⟨⟨fpart54_3, foff54_4⟩, ⟨fpart54_4, foff54_5⟩⟩, ⟨⟨fpart54_5, foff54_6⟩, ⟨fpart54_6, ⟨zmb54, bldT54⟩⟩⟩⟩⟩, ⟨⟨⟨⟨tyc58, foff58_0⟩, ⟨fpart58_0, foff58_1⟩⟩, ⟨⟨fpart58_1, zmb58⟩, ⟨bldT58, Try.underlying0⟩⟩⟩, ⟨⟨⟨Try.underlying3, Try.underlying4⟩, ⟨Try.underlying5, Try.underlying24⟩⟩, ⟨⟨Try.underlying30, Try.underlying51⟩, ⟨Try.underlying52, ⟨Try.underlying54, Try.underlying58⟩⟩⟩⟩⟩⟩⟩
/-- writes, one behind the other, over rows -/
def layW : List (List Int) → List (Nat × List Int) → List (List Int)
  | L, [] => L
  | L, (i, x) :: r => layW (L.set i x) r
theorem layW_len : ∀ (W : List (Nat × List Int)) (L : List (List Int)), (layW L W).length = L.length
  | [], L => rfl
  | (i, x) :: r, L => by rw [layW, layW_len r, List.length_set]
theorem layW_app : ∀ (W V : List (Nat × List Int)) (L : List (List Int)), layW L (W ++ V) = layW (layW L W) V
  | [], V, L => rfl
  | (i, x) :: r, V, L => by rw [List.cons_append, layW, layW_app r, layW]
theorem layW_rows {size : Nat} : ∀ (W : List (Nat × List Int)) (L : List (List Int)), (∀ z ∈ L, z.length = size) → (∀ w ∈ W, w.2.length = size) → ∀ z ∈ layW L W, z.length = size
  | [], L, h, _ => h
  | (i, x) :: r, L, h, hw => by
    rw [layW]
    refine layW_rows r _ (fun z hz => ?_) fun w hw' => hw w (List.mem_cons_of_mem _ hw')
    rcases List.mem_or_eq_of_mem_set hz with h1 | rfl
    · exact h z h1
    · exact hw _ (List.mem_cons_self ..)
/-- so many of them, and a part of the next one -/
def crL (L : List (List Int)) (W : List (Nat × List Int)) (k t : Nat) : List (List Int) :=
  match W[k]? with
  | none => layW L (W.take k)
  | some w => (layW L (W.take k)).set w.1 (w.2.take t ++ ((layW L (W.take k)).getD w.1 []).drop t)
def hN (n : Int) (m : Nat) : Nat := (held n m).toNat
theorem hN_le (n : Int) (m : Nat) : hN n m ≤ m := by unfold hN held; split <;> split at * <;> omega
theorem hN_eq (n : Int) (m : Nat) : held n m = (hN n m : Int) := by unfold hN held; split <;> split at * <;> omega
theorem wcs_drop : ∀ (W : List (Nat × List Int)) (j : Nat) (h : j < W.length), (wcs W).drop (j * 2) = iv .i64 (W[j].1 : Int) :: .slz .u8 W[j].2 :: wcs (W.drop (j + 1))
  | (i, x) :: r, 0, _ => rfl
  | (i, x) :: r, j + 1, h => by
    have := wcs_drop r j (by simpa using h)
    rw [show (j + 1) * 2 = j * 2 + 2 by omega]
    simpa [wcs] using this
theorem rws_set (L : List (List Int)) (i : Nat) (x : List Int) : (rws L).set i (.slz .u8 x) = rws (L.set i x) := by simp [rws, List.map_set]
theorem crash_none (b size de bl cl n : Nat) (f keep torn : Int) (dk : Bool) (S : AV) (Ls : List (List Int)) (hd : b ≠ bl ∧ bl ≠ b) (hn : Ls.length = n) (h1 : 1 ≤ n) (h2 : n ≤ 400) (hcl : n ≤ cl) :
    ACt Try.prog 14 [pt b 0, iv .i64 keep, iv .i64 torn] [(b, dkM size (ms bl 0 n cl) S nl f dk de), (bl, .cells (rws Ls) cl 30)]
    (fun r F' => ∃ x c : Nat, n ≤ c ∧ r = .tup [] ∧ F' = [(x, .cells (rws Ls) c 30), (b, dkM size (ms x 0 n c) (ms bl 0 n cl) nl (-1) false de), (bl, .cells (rws Ls) cl 30)]) := by
  refine ACt.intro Try.func14 rfl (by kernel_rfl) (by simp [Try.ntmps14]) (fun cx => ?_)
  simp only [argE, Try.ntmps14, Try.results14]
  have c1 := held_ct keep 0
  have h0 : held keep 0 = 0 := by unfold held; (repeat' split) <;> omega
  rw [h0] at c1
  have c3 := settle_ct b size de bl cl bl cl n nl f dk [] Ls hd hn h1 h2 hcl
  unfold dkM at c3 ⊢
  first | (have FRx := FR; clear FRx) | (have FR : Sm (¬ ((1 : Nat) = 0)) := Sm.mk Nat.one_ne_zero)
  repeat' first
    | (refine Sm.mk ?_; try simp -dsimp only [ZK, rvc, drawF, headN, pureH, stp, dvc, calleeOf, gcall, pev, eff, newB, okd, og, ogs, ogo, ogp, slv, bltv, opd, litv, strip, one, both, putE, St.put, look, gdOf, gdv, picka, pickv, pickw, binv, bini, bins, binb, binp, binq, isSlT, bina, shp, eqCells, unv, convv, nilv, faddv, addp, idxav, idxp, load1, load1m, loadn, loadnm, loadv, hget, hset, hrep, hdel, slicev, bnd, shift1, lenv, capv, IntKind.bits, extractv, fieldv, indexv, min2v, max2v, mkiv, cellsA, fillA, buildv, stC, oneC, rowMB, intsA, plN, appE, appZ, appC, appNZ, appNC, VwL, srcC, srcZ, srcM, isBoolT, isPtrT, isSliceT, uOk, Value.oneCell', Nat.reducePow, Int.reducePow, Nat.reduceAdd, Nat.reduceMul, Nat.reduceSub, Nat.reduceLT, Nat.reduceLeDiff, Nat.reduceEqDiff, Nat.reduceBEq, Nat.reduceDiv, Nat.reduceMod, ↓reduceIte, reduceCtorEq, Int.reduceToNat, Int.reduceLT, Int.reduceLE, drawMF, mkS, drawNF, drawNF1, nvc, xst, chF, chS, mkV, splitH, calleeV, putE, hdel, TFBlH, SeqQ, BlkQ, LoopQ, BodyQ, hd, FR.out])
    | (first | refine CallV.fn (c1) (Sm.out ?_) | refine ExF.mk (c1) (Sm.out ?_) | refine ExG.mk (fun _ => c1) (Sm.out ?_) | refine ExG.mkJ (fun _ => c1) (Sm.out ?_) | refine ExG.mkI (Ob.out ?_) (fun _ => c1) (Sm.out ?_))
    | (refine WP.seq fun K hK => ?_)
    | (refine WP.region (rvc_sound _ _ (Sm.out ?_)))
    | (refine WP.drawN (cs := [20,21]) (k := 22) (bs := []) mixed (by decide +kernel) (by decide +kernel) (by decide +kernel) (by decide +kernel) (Sm.out ?_))
    | (refine WP.drawMk (ia := 20) (k := 23) mixed (by decide +kernel) (by decide +kernel) (by decide +kernel) (by decide +kernel) (Sm.out ?_))
    | (refine WP.drawK rfl mixed (by decide +kernel) (Sm.out ?_))
    | (refine Ob.mk ?_; focus (first | assumption | omega | decide | trivial | (intro hob; simp only [hob, ZF]; done) | (intros; (repeat' refine And.intro ?_ ?_) <;> first | assumption | omega | trivial | decide) | (intros; simp only [ZE] at *; (repeat' refine And.intro ?_ ?_) <;> first | assumption | omega | trivial)))
    | (refine And.intro (Ob.out ?_) ?_)
    | (refine WP.block ?_)
    | (refine WP.cond rfl (fun hc => ?_) (fun hc => ?_) <;> (try simp only [ZC, reduceCtorEq, ZD] at hc) <;> (try (exact absurd hc (by decide))) <;> (try (exfalso; omega)))
    | ((first | refine WP.skip ?_ | refine WP.exit ?_); simp only [SeqQ, BlkQ, LoopQ, BodyQ, ↓reduceIte, Nat.reduceEqDiff, reduceCtorEq, look, true_and])
    | (refine WP.ret (Sm.out ?_))
    | (first | refine ExG.no (Sm.out ?_) | refine Or.inl (ExG.no (Sm.out ?_)) | refine Or.inl (And.intro (fun hg => absurd hg (by decide)) (ExG.no (Sm.out ?_))))
    | (refine Rt.mk ?_; refine And.intro ?_ ?_ <;> (intro hg; first | exact absurd hg (by decide) | refine Sm.out ?_))
    | (refine Nu.mk ?_; first | (fail_if_success (have := nb1)); intro nb1 | (fail_if_success (have := nb2)); intro nb2 | (fail_if_success (have := nb3)); intro nb3 | (fail_if_success (have := nb4)); intro nb4 | (fail_if_success (have := nb5)); intro nb5 | (fail_if_success (have := nb6)); intro nb6 | (fail_if_success (have := nb7)); intro nb7 | (fail_if_success (have := nb8)); intro nb8 | (fail_if_success (have := nb9)); intro nb9 | (fail_if_success (have := nb10)); intro nb10 | (fail_if_success (have := nb11)); intro nb11 | (fail_if_success (have := nb12)); intro nb12 | intro nbz)
    | (refine Fr.mk ?_; intro hfr; (first | (have hFRb : _ ≤ _ ∧ _ ≤ _ := And.intro hfr.1 hfr.2.1) | (have hFRb : _ ≤ _ := hfr.1) | skip); replace FR := Sm.mk (And.intro hfr FR.out); clear hfr; refine Sm.out ?_)
    | (refine Two.mk ?_ ?_)
    | (refine Cs.mk ?_; intro hcs; first | exact False.elim hcs | (exfalso; omega) | (refine Sm.out ?_))
    | go_step
    | omega
    | (simp only [maxLen_eq]; omega)
  refine WP.loop (Γ := Unit) (fun _ => ⟨[(33, iv .i64 0), (32, iv .i64 0), (2, iv .i64 torn), (1, iv .i64 0), (0, pt b 0)], [(b, MB.cells [iv .i64 (size : Int), ms bl 0 n cl, ms bl 0 n cl, nl, iv .i64 f, bv dk, iv .i64 (de : Int)] 7 54), (bl, .cells (rws Ls) cl 30)]⟩)
    (fun _ => True) (fun _ => 0) () trivial (Sub.pick (by simp [pickB, hget, hdel, FR.out, hd]) (by simp [look, hd])) ?_
  intro _ _
  have FR : Sm (¬ ((1 : Nat) = 0)) := Sm.mk Nat.one_ne_zero
  first | (have FRx := FR; clear FRx) | (have FR : Sm (¬ ((1 : Nat) = 0)) := Sm.mk Nat.one_ne_zero)
  repeat' first
    | (refine Sm.mk ?_; try simp -dsimp only [ZK, rvc, drawF, headN, pureH, stp, dvc, calleeOf, gcall, pev, eff, newB, okd, og, ogs, ogo, ogp, slv, bltv, opd, litv, strip, one, both, putE, St.put, look, gdOf, gdv, picka, pickv, pickw, binv, bini, bins, binb, binp, binq, isSlT, bina, shp, eqCells, unv, convv, nilv, faddv, addp, idxav, idxp, load1, load1m, loadn, loadnm, loadv, hget, hset, hrep, hdel, slicev, bnd, shift1, lenv, capv, IntKind.bits, extractv, fieldv, indexv, min2v, max2v, mkiv, cellsA, fillA, buildv, stC, oneC, rowMB, intsA, plN, appE, appZ, appC, appNZ, appNC, VwL, srcC, srcZ, srcM, isBoolT, isPtrT, isSliceT, uOk, Value.oneCell', Nat.reducePow, Int.reducePow, Nat.reduceAdd, Nat.reduceMul, Nat.reduceSub, Nat.reduceLT, Nat.reduceLeDiff, Nat.reduceEqDiff, Nat.reduceBEq, Nat.reduceDiv, Nat.reduceMod, ↓reduceIte, reduceCtorEq, Int.reduceToNat, Int.reduceLT, Int.reduceLE, drawMF, mkS, drawNF, drawNF1, nvc, xst, chF, chS, mkV, splitH, calleeV, putE, hdel, TFBlH, SeqQ, BlkQ, LoopQ, BodyQ, hd, FR.out])
    | (refine CallV.newC (c3) (perm2 (by simp only [hget, hdel, ↓reduceIte, FR.out, hd]; first | done | rfl) (by simp only [hget, hdel, ↓reduceIte, FR.out, hd]; first | done | rfl)) (fun _ _ => rfl) (Sm.out ?_))
    | (refine WP.seq fun K hK => ?_)
    | (refine WP.region (rvc_sound _ _ (Sm.out ?_)))
    | (refine WP.drawN (cs := [20,21]) (k := 22) (bs := []) mixed (by decide +kernel) (by decide +kernel) (by decide +kernel) (by decide +kernel) (Sm.out ?_))
    | (refine WP.drawMk (ia := 20) (k := 23) mixed (by decide +kernel) (by decide +kernel) (by decide +kernel) (by decide +kernel) (Sm.out ?_))
    | (refine WP.drawK rfl mixed (by decide +kernel) (Sm.out ?_))
    | (refine Ob.mk ?_; focus (first | assumption | omega | decide | trivial | (intro hob; simp only [hob, ZF]; done) | (intros; (repeat' refine And.intro ?_ ?_) <;> first | assumption | omega | trivial | decide) | (intros; simp only [ZE] at *; (repeat' refine And.intro ?_ ?_) <;> first | assumption | omega | trivial)))
    | (refine And.intro (Ob.out ?_) ?_)
    | (refine WP.block ?_)
    | (refine WP.cond rfl (fun hc => ?_) (fun hc => ?_) <;> (try simp only [ZC, reduceCtorEq, ZD] at hc) <;> (try (exact absurd hc (by decide))) <;> (try (exfalso; omega)))
    | ((first | refine WP.skip ?_ | refine WP.exit ?_); simp only [SeqQ, BlkQ, LoopQ, BodyQ, ↓reduceIte, Nat.reduceEqDiff, reduceCtorEq, look, true_and])
    | (refine WP.ret (Sm.out ?_))
    | (first | refine ExG.no (Sm.out ?_) | refine Or.inl (ExG.no (Sm.out ?_)) | refine Or.inl (And.intro (fun hg => absurd hg (by decide)) (ExG.no (Sm.out ?_))))
    | (refine Rt.mk ?_; refine And.intro ?_ ?_ <;> (intro hg; first | exact absurd hg (by decide) | refine Sm.out ?_))
    | (refine Nu.mk ?_; first | (fail_if_success (have := nb1)); intro nb1 | (fail_if_success (have := nb2)); intro nb2 | (fail_if_success (have := nb3)); intro nb3 | (fail_if_success (have := nb4)); intro nb4 | (fail_if_success (have := nb5)); intro nb5 | (fail_if_success (have := nb6)); intro nb6 | (fail_if_success (have := nb7)); intro nb7 | (fail_if_success (have := nb8)); intro nb8 | (fail_if_success (have := nb9)); intro nb9 | (fail_if_success (have := nb10)); intro nb10 | (fail_if_success (have := nb11)); intro nb11 | (fail_if_success (have := nb12)); intro nb12 | intro nbz)
    | (refine Fr.mk ?_; intro hfr; (first | (have hFRb : _ ≤ _ ∧ _ ≤ _ := And.intro hfr.1 hfr.2.1) | (have hFRb : _ ≤ _ := hfr.1) | skip); replace FR := Sm.mk (And.intro hfr FR.out); clear hfr; refine Sm.out ?_)
    | (refine Two.mk ?_ ?_)
    | (refine Cs.mk ?_; intro hcs; first | exact False.elim hcs | (exfalso; omega) | (refine Sm.out ?_))
    | go_step
    | omega
    | (simp only [maxLen_eq]; omega)
  (refine OutQ.drop _ _ (perm3 (by simp only [hget, hdel, ↓reduceIte, if_true, if_false, FR.out, hd]; first | done | rfl) (by simp only [hget, hdel, ↓reduceIte, if_true, if_false, FR.out, hd]; first | done | rfl) (by simp only [hget, hdel, ↓reduceIte, if_true, if_false, FR.out, hd]; first | done | rfl)) (by simp only [resv, ZK, look, loadv, loadn, loadnm, load1, load1m, hget, ↓reduceIte, Nat.reduceEqDiff, Nat.reduceAdd, Nat.reduceMul, Nat.reduceLeDiff, Nat.reduceLT, reduceCtorEq, TFBlH, FR.out, hd]) ⟨nb1, nb2, FR.out.1.1, (by simp only [resv, resA, ZK, look, loadv, loadn, loadnm, load1, load1m, hget, ↓reduceIte, Nat.reduceEqDiff, Nat.reduceAdd, Nat.reduceMul, Nat.reduceLeDiff, Nat.reduceLT, reduceCtorEq, TFBlH, FR.out, hd]; first | done | rfl), rfl⟩)
theorem crash_some (b size de bl cl bw k m n : Nat) (f keep torn : Int) (dk : Bool) (S : AV) (Ls : List (List Int)) (Wl : List (Nat × List Int)) (hd : (b ≠ bl ∧ bl ≠ b) ∧ (b ≠ bw ∧ bw ≠ b) ∧ bl ≠ bw ∧ bw ≠ bl) (hn : Ls.length = n) (h1 : 1 ≤ n) (h2 : n ≤ 400) (hcl : n ≤ cl)
    (hm : Wl.length = m) (hm1 : 1 ≤ m) (hm2 : m ≤ 1000) (hmk : m ≤ k) (hs1 : 1 ≤ size) (hs2 : size ≤ 512) (hL : ∀ z ∈ Ls, z.length = size) (hW : ∀ w ∈ Wl, w.1 < n ∧ w.2.length = size) :
    ACt Try.prog 14 [pt b 0, iv .i64 keep, iv .i64 torn] [(b, dkM size (ms bl 0 n cl) S (ms bw 0 m k) f dk de), (bl, .cells (rws Ls) cl 30), (bw, .cells (wcs Wl) (k * 2) 58)]
    (fun r F' => ∃ x c : Nat, n ≤ c ∧ r = .tup [] ∧ F' = [(x, .cells (rws (crL Ls Wl (hN keep m) (hN torn size))) c 30), (b, dkM size (ms x 0 n c) (ms bl 0 n cl) nl (-1) false de), (bl, .cells (rws (crL Ls Wl (hN keep m) (hN torn size))) cl 30), (bw, .cells (wcs Wl) (k * 2) 58)]) := by
  refine ACt.intro Try.func14 rfl (by kernel_rfl) (by simp [Try.ntmps14]) (fun cx => ?_)
  simp only [argE, Try.ntmps14, Try.results14]
  have c1 := held_ct keep m
  have hk1 := hN_le keep m
  rw [hN_eq] at c1
  obtain ⟨kk, hkk⟩ : ∃ kk, kk = hN keep m := ⟨_, rfl⟩
  rw [← hkk] at c1 hk1 ⊢
  unfold dkM
  have hwl := wcs_len Wl
  have hwd := wcs_drop Wl
  obtain ⟨C, hC⟩ : ∃ C, C = wcs Wl := ⟨_, rfl⟩
  rw [← hC] at hwl hwd ⊢
  have z1 : (kk : Int) ≤ (m : Int) := by omega
  first | (have FRx := FR; clear FRx) | (have FR : Sm (¬ ((1 : Nat) = 0)) := Sm.mk Nat.one_ne_zero)
  repeat' first
    | (refine Sm.mk ?_; try simp -dsimp only [ZK, rvc, drawF, headN, pureH, stp, dvc, calleeOf, gcall, pev, eff, newB, okd, og, ogs, ogo, ogp, slv, bltv, opd, litv, strip, one, both, putE, St.put, look, gdOf, gdv, picka, pickv, pickw, binv, bini, bins, binb, binp, binq, isSlT, bina, shp, eqCells, unv, convv, nilv, faddv, addp, idxav, idxp, load1, load1m, loadn, loadnm, loadv, hget, hset, hrep, hdel, slicev, bnd, shift1, lenv, capv, IntKind.bits, extractv, fieldv, indexv, min2v, max2v, mkiv, cellsA, fillA, buildv, stC, oneC, rowMB, intsA, plN, appE, appZ, appC, appNZ, appNC, VwL, srcC, srcZ, srcM, isBoolT, isPtrT, isSliceT, uOk, Value.oneCell', Nat.reducePow, Int.reducePow, Nat.reduceAdd, Nat.reduceMul, Nat.reduceSub, Nat.reduceLT, Nat.reduceLeDiff, Nat.reduceEqDiff, Nat.reduceBEq, Nat.reduceDiv, Nat.reduceMod, ↓reduceIte, reduceCtorEq, Int.reduceToNat, Int.reduceLT, Int.reduceLE, drawMF, mkS, drawNF, drawNF1, nvc, xst, chF, chS, mkV, splitH, calleeV, putE, hdel, TFBlH, SeqQ, BlkQ, LoopQ, BodyQ, hd, z1, ite_self, Nat.sub_zero, FR.out])
    | (first | refine CallV.fn (c1) (Sm.out ?_) | refine ExF.mk (c1) (Sm.out ?_) | refine ExG.mk (fun _ => c1) (Sm.out ?_) | refine ExG.mkJ (fun _ => c1) (Sm.out ?_) | refine ExG.mkI (Ob.out ?_) (fun _ => c1) (Sm.out ?_))
    | (refine WP.seq fun K hK => ?_)
    | (refine WP.region (rvc_sound _ _ (Sm.out ?_)))
    | (refine WP.drawN (cs := [20,21]) (k := 22) (bs := []) mixed (by decide +kernel) (by decide +kernel) (by decide +kernel) (by decide +kernel) (Sm.out ?_))
    | (refine WP.drawMk (ia := 20) (k := 23) mixed (by decide +kernel) (by decide +kernel) (by decide +kernel) (by decide +kernel) (Sm.out ?_))
    | (refine WP.drawK rfl mixed (by decide +kernel) (Sm.out ?_))
    | (refine Ob.mk ?_; focus (first | assumption | omega | decide | trivial | (intro hob; simp only [hob, ZF]; done) | (intros; (repeat' refine And.intro ?_ ?_) <;> first | assumption | omega | trivial | decide) | (intros; simp only [ZE] at *; (repeat' refine And.intro ?_ ?_) <;> first | assumption | omega | trivial)))
    | (refine And.intro (Ob.out ?_) ?_)
    | (refine WP.block ?_)
    | (refine WP.cond rfl (fun hc => ?_) (fun hc => ?_) <;> (try simp only [ZC, reduceCtorEq, ZD] at hc) <;> (try (exact absurd hc (by decide))) <;> (try (exfalso; omega)))
    | ((first | refine WP.skip ?_ | refine WP.exit ?_); simp only [SeqQ, BlkQ, LoopQ, BodyQ, ↓reduceIte, Nat.reduceEqDiff, reduceCtorEq, look, true_and])
    | (refine WP.ret (Sm.out ?_))
    | (first | refine ExG.no (Sm.out ?_) | refine Or.inl (ExG.no (Sm.out ?_)) | refine Or.inl (And.intro (fun hg => absurd hg (by decide)) (ExG.no (Sm.out ?_))))
    | (refine Rt.mk ?_; refine And.intro ?_ ?_ <;> (intro hg; first | exact absurd hg (by decide) | refine Sm.out ?_))
    | (refine Nu.mk ?_; first | (fail_if_success (have := nb1)); intro nb1 | (fail_if_success (have := nb2)); intro nb2 | (fail_if_success (have := nb3)); intro nb3 | (fail_if_success (have := nb4)); intro nb4 | (fail_if_success (have := nb5)); intro nb5 | (fail_if_success (have := nb6)); intro nb6 | (fail_if_success (have := nb7)); intro nb7 | (fail_if_success (have := nb8)); intro nb8 | (fail_if_success (have := nb9)); intro nb9 | (fail_if_success (have := nb10)); intro nb10 | (fail_if_success (have := nb11)); intro nb11 | (fail_if_success (have := nb12)); intro nb12 | intro nbz)
    | (refine Fr.mk ?_; intro hfr; (first | (have hFRb : _ ≤ _ ∧ _ ≤ _ := And.intro hfr.1 hfr.2.1) | (have hFRb : _ ≤ _ := hfr.1) | skip); replace FR := Sm.mk (And.intro hfr FR.out); clear hfr; refine Sm.out ?_)
    | (refine Two.mk ?_ ?_)
    | (refine Cs.mk ?_; intro hcs; first | exact False.elim hcs | (exfalso; omega) | (refine Sm.out ?_))
    | go_step
    | omega
    | (simp only [maxLen_eq]; omega)
  refine WP.loop (Γ := Nat) (fun j => ⟨[(33, iv .i64 (j : Nat)), (32, iv .i64 (kk : Nat)), (31, ms bw 0 kk k), (2, iv .i64 torn), (1, iv .i64 (kk : Nat)), (0, pt b 0)], [(b, MB.cells [iv .i64 (size : Int), ms bl 0 n cl, ms bl 0 n cl, ms bw 0 m k, iv .i64 f, bv dk, iv .i64 (de : Int)] 7 54), (bl, .cells (rws (layW Ls (Wl.take j))) cl 30), (bw, .cells C (k * 2) 58)]⟩)
    (fun j => j ≤ kk) (fun j => kk - j) 0 (by omega) (Sub.pick (by simp [pickB, hget, hdel, FR.out, hd, layW]) (by simp [look, hd, layW])) ?_
  intro j hj
  have FR : Sm (¬ ((1 : Nat) = 0)) := Sm.mk Nat.one_ne_zero
  have el : (rws (layW Ls (Wl.take j))).length = n := by rw [rws_len, layW_len, hn]
  by_cases hlt : j < kk
  · have k1 : decide ((j : Int) < (kk : Int)) = true := by simp; omega
    have hjw : j < Wl.length := by omega
    have hd1 := hwd j hjw
    have ew := hW _ (List.getElem_mem hjw)
    have et : Wl.take (j + 1) = Wl.take j ++ [Wl[j]] := by rw [List.take_add_one, List.getElem?_eq_getElem hjw]; rfl
    have es : layW Ls (Wl.take (j + 1)) = (layW Ls (Wl.take j)).set Wl[j].1 Wl[j].2 := by rw [et, layW_app]; rfl
    obtain ⟨w, hw⟩ : ∃ w, w = Wl[j] := ⟨_, rfl⟩
    rw [← hw] at hd1 ew es
    obtain ⟨TR, hTR⟩ : ∃ TR, TR = wcs (Wl.drop (j + 1)) := ⟨_, rfl⟩
    rw [← hTR] at hd1
    obtain ⟨cur, hcur⟩ : ∃ cur, cur = layW Ls (Wl.take j) := ⟨_, rfl⟩
    rw [← hcur] at el es ⊢
    have q1 : j * 2 + 2 ≤ C.length := by omega
    have q2 := ew.1
    have q3 := rws_set cur w.1 w.2
    have w1 : IntKind.i64.wrap ((j : Int) + 1) = ((j + 1 : Nat) : Int) := by rw [wrap_i64 (by omega) (by omega)]; omega
    clear hwd hTR hcur hw et
    first | (have FRx := FR; clear FRx) | (have FR : Sm (¬ ((1 : Nat) = 0)) := Sm.mk Nat.one_ne_zero)
    repeat' first
      | (refine Sm.mk ?_; try simp -dsimp only [ZK, rvc, drawF, headN, pureH, stp, dvc, calleeOf, gcall, pev, eff, newB, okd, og, ogs, ogo, ogp, slv, bltv, opd, litv, strip, one, both, putE, St.put, look, gdOf, gdv, picka, pickv, pickw, binv, bini, bins, binb, binp, binq, isSlT, bina, shp, eqCells, unv, convv, nilv, faddv, addp, idxav, idxp, load1, load1m, loadn, loadnm, loadv, hget, hset, hrep, hdel, slicev, bnd, shift1, lenv, capv, IntKind.bits, extractv, fieldv, indexv, min2v, max2v, mkiv, cellsA, fillA, buildv, stC, oneC, rowMB, intsA, plN, appE, appZ, appC, appNZ, appNC, VwL, srcC, srcZ, srcM, isBoolT, isPtrT, isSliceT, uOk, Value.oneCell', Nat.reducePow, Int.reducePow, Nat.reduceAdd, Nat.reduceMul, Nat.reduceSub, Nat.reduceLT, Nat.reduceLeDiff, Nat.reduceEqDiff, Nat.reduceBEq, Nat.reduceDiv, Nat.reduceMod, ↓reduceIte, reduceCtorEq, Int.reduceToNat, Int.reduceLT, Int.reduceLE, drawMF, mkS, drawNF, drawNF1, nvc, xst, chF, chS, mkV, splitH, calleeV, putE, hdel, TFBlH, SeqQ, BlkQ, LoopQ, BodyQ, hd, k1, hd1, el, q1, q2, q3, FR.out])
      | (refine WP.seq fun K hK => ?_)
      | (refine WP.region (rvc_sound _ _ (Sm.out ?_)))
      | (refine WP.drawN (cs := [20,21]) (k := 22) (bs := []) mixed (by decide +kernel) (by decide +kernel) (by decide +kernel) (by decide +kernel) (Sm.out ?_))
      | (refine WP.drawMk (ia := 20) (k := 23) mixed (by decide +kernel) (by decide +kernel) (by decide +kernel) (by decide +kernel) (Sm.out ?_))
      | (refine WP.drawK rfl mixed (by decide +kernel) (Sm.out ?_))
      | (refine Ob.mk ?_; focus (first | assumption | omega | decide | trivial | (intro hob; simp only [hob, ZF]; done) | (intros; (repeat' refine And.intro ?_ ?_) <;> first | assumption | omega | trivial | decide) | (intros; simp only [ZE] at *; (repeat' refine And.intro ?_ ?_) <;> first | assumption | omega | trivial)))
      | (refine And.intro (Ob.out ?_) ?_)
      | (refine WP.block ?_)
      | (refine WP.cond rfl (fun hc => ?_) (fun hc => ?_) <;> (try simp only [ZC, reduceCtorEq, ZD] at hc) <;> (try (exact absurd hc (by decide))) <;> (try (exfalso; omega)))
      | ((first | refine WP.skip ?_ | refine WP.exit ?_); simp only [SeqQ, BlkQ, LoopQ, BodyQ, ↓reduceIte, Nat.reduceEqDiff, reduceCtorEq, look, true_and])
      | (refine WP.ret (Sm.out ?_))
      | (first | refine ExG.no (Sm.out ?_) | refine Or.inl (ExG.no (Sm.out ?_)) | refine Or.inl (And.intro (fun hg => absurd hg (by decide)) (ExG.no (Sm.out ?_))))
      | (refine Rt.mk ?_; refine And.intro ?_ ?_ <;> (intro hg; first | exact absurd hg (by decide) | refine Sm.out ?_))
      | (refine Nu.mk ?_; first | (fail_if_success (have := nb1)); intro nb1 | (fail_if_success (have := nb2)); intro nb2 | (fail_if_success (have := nb3)); intro nb3 | (fail_if_success (have := nb4)); intro nb4 | (fail_if_success (have := nb5)); intro nb5 | (fail_if_success (have := nb6)); intro nb6 | (fail_if_success (have := nb7)); intro nb7 | (fail_if_success (have := nb8)); intro nb8 | (fail_if_success (have := nb9)); intro nb9 | (fail_if_success (have := nb10)); intro nb10 | (fail_if_success (have := nb11)); intro nb11 | (fail_if_success (have := nb12)); intro nb12 | intro nbz)
      | (refine Fr.mk ?_; intro hfr; (first | (have hFRb : _ ≤ _ ∧ _ ≤ _ := And.intro hfr.1 hfr.2.1) | (have hFRb : _ ≤ _ := hfr.1) | skip); replace FR := Sm.mk (And.intro hfr FR.out); clear hfr; refine Sm.out ?_)
      | (refine Two.mk ?_ ?_)
      | (refine Cs.mk ?_; intro hcs; first | exact False.elim hcs | (exfalso; omega) | (refine Sm.out ?_))
      | go_step
      | omega
      | (simp only [maxLen_eq]; omega)
    exact ⟨j + 1, by omega, by omega, (Sub.pick (by simp [pickB, hget, hdel, FR.out, hd, w1, es]) (by simp [look, hd, w1, es]))⟩
  · obtain rfl : j = kk := by omega
    have k1 : decide ((j : Int) < (j : Int)) = false := by simp
    have hrow := layW_rows (Wl.take j) Ls hL fun w hw => (hW w (List.mem_of_mem_take hw)).2
    have hln := layW_len (Wl.take j) Ls
    by_cases hjm : j < m
    · have k2 : decide ((j : Int) < (m : Int)) = true := by simp; omega
      have hjw : j < Wl.length := by omega
      have hd1 := hwd j hjw
      have ew := hW _ (List.getElem_mem hjw)
      have ec : crL Ls Wl j (hN torn size) = (layW Ls (Wl.take j)).set Wl[j].1 (Wl[j].2.take (hN torn size) ++ ((layW Ls (Wl.take j)).getD Wl[j].1 []).drop (hN torn size)) := by
        unfold crL; rw [List.getElem?_eq_getElem hjw]
      obtain ⟨w, hw⟩ : ∃ w, w = Wl[j] := ⟨_, rfl⟩
      rw [← hw] at hd1 ew ec
      obtain ⟨TR, hTR⟩ : ∃ TR, TR = wcs (Wl.drop (j + 1)) := ⟨_, rfl⟩
      rw [← hTR] at hd1
      have c2 := held_ct torn size
      have ht1 := hN_le torn size
      rw [hN_eq] at c2
      obtain ⟨tt, htt⟩ : ∃ tt, tt = hN torn size := ⟨_, rfl⟩
      rw [← htt] at c2 ht1 ec ⊢
      obtain ⟨cur, hcur⟩ : ∃ cur, cur = layW Ls (Wl.take j) := ⟨_, rfl⟩
      rw [← hcur] at el hrow hln ec ⊢
      have q1 : j * 2 + 2 ≤ C.length := by omega
      have q2 := ew.1
      have eg := rws_get (Ls := cur) (i := w.1) (by omega)
      have ly : (cur.getD w.1 []).length = size := by
        rw [List.getD_eq_getElem?_getD, List.getElem?_eq_getElem (by omega)]
        exact hrow _ (List.getElem_mem _)
      obtain ⟨y, hy⟩ : ∃ y, y = cur.getD w.1 [] := ⟨_, rfl⟩
      rw [← hy] at eg ly ec
      have eg2 : (rws cur).getD w.1 .any = .slz .u8 y := by rw [List.getD_eq_getElem?_getD, eg]; rfl
      have q3 := rws_set cur w.1 (w.2.take tt ++ y.drop tt)
      have lx := ew.2
      have l1 : (w.2.take tt).length = tt := by rw [List.length_take]; omega
      have l2 : (y.drop tt).length = size - tt := by rw [List.length_drop]; omega
      have cc := fun x => concat_ct x (w.2.take tt) (y.drop tt) (by omega) (by omega)
      have c3 := settle_ct b size de bl cl bl cl n (ms bw 0 m k) f dk [] (cur.set w.1 (w.2.take tt ++ y.drop tt)) hd.1 (by rw [List.length_set]; omega) h1 h2 hcl
      unfold dkM at c3
      have ec2 : crL Ls Wl j (hN torn size) = cur.set w.1 (w.2.take tt ++ y.drop tt) := by rw [← htt]; exact ec
      have ty : y.take size = y := List.take_of_length_le (by omega)
      clear hwd hTR hcur hw hy hkk ec
      first | (have FRx := FR; clear FRx) | (have FR : Sm (¬ ((1 : Nat) = 0)) := Sm.mk Nat.one_ne_zero)
      repeat' first
        | (refine Sm.mk ?_; try simp -dsimp only [ZK, rvc, drawF, headN, pureH, stp, dvc, calleeOf, gcall, pev, eff, newB, okd, og, ogs, ogo, ogp, slv, bltv, opd, litv, strip, one, both, putE, St.put, look, gdOf, gdv, picka, pickv, pickw, binv, bini, bins, binb, binp, binq, isSlT, bina, shp, eqCells, unv, convv, nilv, faddv, addp, idxav, idxp, load1, load1m, loadn, loadnm, loadv, hget, hset, hrep, hdel, slicev, bnd, shift1, lenv, capv, IntKind.bits, extractv, fieldv, indexv, min2v, max2v, mkiv, cellsA, fillA, buildv, stC, oneC, rowMB, intsA, plN, appE, appZ, appC, appNZ, appNC, VwL, srcC, srcZ, srcM, isBoolT, isPtrT, isSliceT, uOk, Value.oneCell', Nat.reducePow, Int.reducePow, Nat.reduceAdd, Nat.reduceMul, Nat.reduceSub, Nat.reduceLT, Nat.reduceLeDiff, Nat.reduceEqDiff, Nat.reduceBEq, Nat.reduceDiv, Nat.reduceMod, ↓reduceIte, reduceCtorEq, Int.reduceToNat, Int.reduceLT, Int.reduceLE, drawMF, mkS, drawNF, drawNF1, nvc, xst, chF, chS, mkV, splitH, calleeV, putE, hdel, TFBlH, SeqQ, BlkQ, LoopQ, BodyQ, hd, k1, k2, hd1, el, eg, eg2, q1, q2, q3, lx, ly, ty, FR.out])
        | (first | refine CallV.fn (c2) (Sm.out ?_) | refine ExF.mk (c2) (Sm.out ?_) | refine ExG.mk (fun _ => c2) (Sm.out ?_) | refine ExG.mkJ (fun _ => c2) (Sm.out ?_) | refine ExG.mkI (Ob.out ?_) (fun _ => c2) (Sm.out ?_))
        | (refine CallV.updM (cc _) (perm1 (by simp only [hget, hdel, ↓reduceIte, FR.out, hd, k1, k2, hd1, el, eg, eg2, q1, q2, q3, lx, ly, ty]; first | done | rfl)) (Sm.out ?_))
        | (refine WCt.updM (cc _) (perm1 (by simp only [hget, hdel, ↓reduceIte, FR.out, hd, k1, k2, hd1, el, eg, eg2, q1, q2, q3, lx, ly, ty]; first | done | rfl)) (Sm.out ?_))
        | (refine CallV.newC (c3) (perm2 (by simp only [hget, hdel, ↓reduceIte, FR.out, hd, k1, k2, hd1, el, eg, eg2, q1, q2, q3, lx, ly, ty]; first | done | rfl) (by simp only [hget, hdel, ↓reduceIte, FR.out, hd, k1, k2, hd1, el, eg, eg2, q1, q2, q3, lx, ly, ty]; first | done | rfl)) (fun _ _ => rfl) (Sm.out ?_))
        | (refine WP.seq fun K hK => ?_)
        | (refine WP.region (rvc_sound _ _ (Sm.out ?_)))
        | (refine WP.drawN (cs := [20,21]) (k := 22) (bs := []) mixed (by decide +kernel) (by decide +kernel) (by decide +kernel) (by decide +kernel) (Sm.out ?_))
        | (refine WP.drawMk (ia := 20) (k := 23) mixed (by decide +kernel) (by decide +kernel) (by decide +kernel) (by decide +kernel) (Sm.out ?_))
        | (refine WP.drawK rfl mixed (by decide +kernel) (Sm.out ?_))
        | (refine Ob.mk ?_; focus (first | assumption | omega | decide | trivial | (intro hob; simp only [hob, ZF]; done) | (intros; (repeat' refine And.intro ?_ ?_) <;> first | assumption | omega | trivial | decide) | (intros; simp only [ZE] at *; (repeat' refine And.intro ?_ ?_) <;> first | assumption | omega | trivial)))
        | (refine And.intro (Ob.out ?_) ?_)
        | (refine WP.block ?_)
        | (refine WP.cond rfl (fun hc => ?_) (fun hc => ?_) <;> (try simp only [ZC, reduceCtorEq, ZD] at hc) <;> (try (exact absurd hc (by decide))) <;> (try (exfalso; omega)))
        | ((first | refine WP.skip ?_ | refine WP.exit ?_); simp only [SeqQ, BlkQ, LoopQ, BodyQ, ↓reduceIte, Nat.reduceEqDiff, reduceCtorEq, look, true_and])
        | (refine WP.ret (Sm.out ?_))
        | (first | refine ExG.no (Sm.out ?_) | refine Or.inl (ExG.no (Sm.out ?_)) | refine Or.inl (And.intro (fun hg => absurd hg (by decide)) (ExG.no (Sm.out ?_))))
        | (refine Rt.mk ?_; refine And.intro ?_ ?_ <;> (intro hg; first | exact absurd hg (by decide) | refine Sm.out ?_))
        | (refine Nu.mk ?_; first | (fail_if_success (have := nb1)); intro nb1 | (fail_if_success (have := nb2)); intro nb2 | (fail_if_success (have := nb3)); intro nb3 | (fail_if_success (have := nb4)); intro nb4 | (fail_if_success (have := nb5)); intro nb5 | (fail_if_success (have := nb6)); intro nb6 | (fail_if_success (have := nb7)); intro nb7 | (fail_if_success (have := nb8)); intro nb8 | (fail_if_success (have := nb9)); intro nb9 | (fail_if_success (have := nb10)); intro nb10 | (fail_if_success (have := nb11)); intro nb11 | (fail_if_success (have := nb12)); intro nb12 | intro nbz)
        | (refine Fr.mk ?_; intro hfr; (first | (have hFRb : _ ≤ _ ∧ _ ≤ _ := And.intro hfr.1 hfr.2.1) | (have hFRb : _ ≤ _ := hfr.1) | skip); replace FR := Sm.mk (And.intro hfr FR.out); clear hfr; refine Sm.out ?_)
        | (refine Two.mk ?_ ?_)
        | (refine Cs.mk ?_; intro hcs; first | exact False.elim hcs | (exfalso; omega) | (refine Sm.out ?_))
        | go_step
        | omega
        | (simp only [maxLen_eq]; omega)
      (refine OutQ.drop _ _ (perm4 (by simp only [hget, hdel, ↓reduceIte, if_true, if_false, FR.out, hd, ec2]; first | done | rfl) (by simp only [hget, hdel, ↓reduceIte, if_true, if_false, FR.out, hd, ec2]; first | done | rfl) (by simp only [hget, hdel, ↓reduceIte, if_true, if_false, FR.out, hd, ec2]; first | done | rfl) (by simp only [hget, hdel, ↓reduceIte, if_true, if_false, FR.out, hd, ec2]; first | done | rfl)) (by simp only [resv, ZK, look, loadv, loadn, loadnm, load1, load1m, hget, ↓reduceIte, Nat.reduceEqDiff, Nat.reduceAdd, Nat.reduceMul, Nat.reduceLeDiff, Nat.reduceLT, reduceCtorEq, TFBlH, FR.out, hd, ec2]) ⟨nb3, nb4, FR.out.1.1, (by simp only [resv, resA, ZK, look, loadv, loadn, loadnm, load1, load1m, hget, ↓reduceIte, Nat.reduceEqDiff, Nat.reduceAdd, Nat.reduceMul, Nat.reduceLeDiff, Nat.reduceLT, reduceCtorEq, TFBlH, FR.out, hd, ec2]; first | done | rfl), rfl⟩)
    · obtain rfl : j = m := by omega
      have k2 : decide ((j : Int) < (j : Int)) = false := by simp
      have ec : crL Ls Wl j (hN torn size) = layW Ls (Wl.take j) := by unfold crL; rw [List.getElem?_eq_none (by omega)]
      obtain ⟨cur, hcur⟩ : ∃ cur, cur = layW Ls (Wl.take j) := ⟨_, rfl⟩
      rw [← hcur] at el hrow hln ec ⊢
      have c3 := settle_ct b size de bl cl bl cl n (ms bw 0 j k) f dk [] cur hd.1 (by omega) h1 h2 hcl
      unfold dkM at c3
      first | (have FRx := FR; clear FRx) | (have FR : Sm (¬ ((1 : Nat) = 0)) := Sm.mk Nat.one_ne_zero)
      repeat' first
        | (refine Sm.mk ?_; try simp -dsimp only [ZK, rvc, drawF, headN, pureH, stp, dvc, calleeOf, gcall, pev, eff, newB, okd, og, ogs, ogo, ogp, slv, bltv, opd, litv, strip, one, both, putE, St.put, look, gdOf, gdv, picka, pickv, pickw, binv, bini, bins, binb, binp, binq, isSlT, bina, shp, eqCells, unv, convv, nilv, faddv, addp, idxav, idxp, load1, load1m, loadn, loadnm, loadv, hget, hset, hrep, hdel, slicev, bnd, shift1, lenv, capv, IntKind.bits, extractv, fieldv, indexv, min2v, max2v, mkiv, cellsA, fillA, buildv, stC, oneC, rowMB, intsA, plN, appE, appZ, appC, appNZ, appNC, VwL, srcC, srcZ, srcM, isBoolT, isPtrT, isSliceT, uOk, Value.oneCell', Nat.reducePow, Int.reducePow, Nat.reduceAdd, Nat.reduceMul, Nat.reduceSub, Nat.reduceLT, Nat.reduceLeDiff, Nat.reduceEqDiff, Nat.reduceBEq, Nat.reduceDiv, Nat.reduceMod, ↓reduceIte, reduceCtorEq, Int.reduceToNat, Int.reduceLT, Int.reduceLE, drawMF, mkS, drawNF, drawNF1, nvc, xst, chF, chS, mkV, splitH, calleeV, putE, hdel, TFBlH, SeqQ, BlkQ, LoopQ, BodyQ, hd, k1, k2, FR.out])
        | (refine CallV.newC (c3) (perm2 (by simp only [hget, hdel, ↓reduceIte, FR.out, hd, k1, k2]; first | done | rfl) (by simp only [hget, hdel, ↓reduceIte, FR.out, hd, k1, k2]; first | done | rfl)) (fun _ _ => rfl) (Sm.out ?_))
        | (refine WP.seq fun K hK => ?_)
        | (refine WP.region (rvc_sound _ _ (Sm.out ?_)))
        | (refine WP.drawN (cs := [20,21]) (k := 22) (bs := []) mixed (by decide +kernel) (by decide +kernel) (by decide +kernel) (by decide +kernel) (Sm.out ?_))
        | (refine WP.drawMk (ia := 20) (k := 23) mixed (by decide +kernel) (by decide +kernel) (by decide +kernel) (by decide +kernel) (Sm.out ?_))
        | (refine WP.drawK rfl mixed (by decide +kernel) (Sm.out ?_))
        | (refine Ob.mk ?_; focus (first | assumption | omega | decide | trivial | (intro hob; simp only [hob, ZF]; done) | (intros; (repeat' refine And.intro ?_ ?_) <;> first | assumption | omega | trivial | decide) | (intros; simp only [ZE] at *; (repeat' refine And.intro ?_ ?_) <;> first | assumption | omega | trivial)))
        | (refine And.intro (Ob.out ?_) ?_)
        | (refine WP.block ?_)
        | (refine WP.cond rfl (fun hc => ?_) (fun hc => ?_) <;> (try simp only [ZC, reduceCtorEq, ZD] at hc) <;> (try (exact absurd hc (by decide))) <;> (try (exfalso; omega)))
        | ((first | refine WP.skip ?_ | refine WP.exit ?_); simp only [SeqQ, BlkQ, LoopQ, BodyQ, ↓reduceIte, Nat.reduceEqDiff, reduceCtorEq, look, true_and])
        | (refine WP.ret (Sm.out ?_))
        | (first | refine ExG.no (Sm.out ?_) | refine Or.inl (ExG.no (Sm.out ?_)) | refine Or.inl (And.intro (fun hg => absurd hg (by decide)) (ExG.no (Sm.out ?_))))
        | (refine Rt.mk ?_; refine And.intro ?_ ?_ <;> (intro hg; first | exact absurd hg (by decide) | refine Sm.out ?_))
        | (refine Nu.mk ?_; first | (fail_if_success (have := nb1)); intro nb1 | (fail_if_success (have := nb2)); intro nb2 | (fail_if_success (have := nb3)); intro nb3 | (fail_if_success (have := nb4)); intro nb4 | (fail_if_success (have := nb5)); intro nb5 | (fail_if_success (have := nb6)); intro nb6 | (fail_if_success (have := nb7)); intro nb7 | (fail_if_success (have := nb8)); intro nb8 | (fail_if_success (have := nb9)); intro nb9 | (fail_if_success (have := nb10)); intro nb10 | (fail_if_success (have := nb11)); intro nb11 | (fail_if_success (have := nb12)); intro nb12 | intro nbz)
        | (refine Fr.mk ?_; intro hfr; (first | (have hFRb : _ ≤ _ ∧ _ ≤ _ := And.intro hfr.1 hfr.2.1) | (have hFRb : _ ≤ _ := hfr.1) | skip); replace FR := Sm.mk (And.intro hfr FR.out); clear hfr; refine Sm.out ?_)
        | (refine Two.mk ?_ ?_)
        | (refine Cs.mk ?_; intro hcs; first | exact False.elim hcs | (exfalso; omega) | (refine Sm.out ?_))
        | go_step
        | omega
        | (simp only [maxLen_eq]; omega)
      (refine OutQ.drop _ _ (perm4 (by simp only [hget, hdel, ↓reduceIte, if_true, if_false, FR.out, hd, ec]; first | done | rfl) (by simp only [hget, hdel, ↓reduceIte, if_true, if_false, FR.out, hd, ec]; first | done | rfl) (by simp only [hget, hdel, ↓reduceIte, if_true, if_false, FR.out, hd, ec]; first | done | rfl) (by simp only [hget, hdel, ↓reduceIte, if_true, if_false, FR.out, hd, ec]; first | done | rfl)) (by simp only [resv, ZK, look, loadv, loadn, loadnm, load1, load1m, hget, ↓reduceIte, Nat.reduceEqDiff, Nat.reduceAdd, Nat.reduceMul, Nat.reduceLeDiff, Nat.reduceLT, reduceCtorEq, TFBlH, FR.out, hd, ec]) ⟨nb1, nb2, FR.out.1.1, (by simp only [resv, resA, ZK, look, loadv, loadn, loadnm, load1, load1m, hget, ↓reduceIte, Nat.reduceEqDiff, Nat.reduceAdd, Nat.reduceMul, Nat.reduceLeDiff, Nat.reduceLT, reduceCtorEq, TFBlH, FR.out, hd, ec]; first | done | rfl), rfl⟩)
end Go.Proofs.Ytnhkohgamnchlaa
namespace Go.Proofs.Ytnhkohgamnchlaa
open Go
set_option linter.unusedVariables false
set_option linter.unusedSimpArgs false
structure DA where
  size : Nat
  n : Nat
  L : List (List Int)
  S : List (List Int)
  W : List (Nat × List Int)
  f : Int
  dk : Bool
  de : Nat
structure DL where
  bl : Nat
  cl : Nat
  bs : Nat
  cs : Nat
  bw : Nat
  k : Nat
def dW : List (Nat × List Int) → DL → AV
  | [], _ => nl
  | w :: r, l => ms l.bw 0 (w :: r).length l.k
def dB : List (Nat × List Int) → DL → Hp
  | [], _ => []
  | w :: r, l => [(l.bw, MB.cells (wcs (w :: r)) (l.k * 2) 58)]
def dH (b : Nat) (a : DA) (l : DL) : Hp :=
  (b, dkM a.size (ms l.bl 0 a.n l.cl) (ms l.bs 0 a.n l.cs) (dW a.W l) a.f a.dk a.de) :: (l.bs, MB.cells (rws a.S) l.cs 30) :: (l.bl, MB.cells (rws a.L) l.cl 30) :: dB a.W l
structure AOk (c : Nat) (a : DA) : Prop where
  n1 : 1 ≤ a.n
  n2 : a.n ≤ 400
  s1 : 1 ≤ a.size
  s2 : a.size ≤ 512
  Ll : a.L.length = a.n
  Lr : ∀ z ∈ a.L, z.length = a.size
  Sl : a.S.length = a.n
  Sr : ∀ z ∈ a.S, z.length = a.size
  W : ∀ w ∈ a.W, w.1 < a.n ∧ w.2.length = a.size
  Wc : a.W.length ≤ c
  f1 : -1 ≤ a.f
  f2 : a.f < 9223372036854775808
  de : a.de ≤ c
structure LOk (b : Nat) (a : DA) (l : DL) : Prop where
  cl : a.n ≤ l.cl
  cs : a.n ≤ l.cs
  k : a.W ≠ [] → a.W.length ≤ l.k ∧ l.k ≤ 9223372036854775807
  nd : ((dH b a l).map (·.1)).Nodup
abbrev LS (b : Nat) (a : DA) : Type := {l : DL // LOk b a l}
theorem LOk.d1 {b : Nat} {a : DA} {l : DL} (h : LOk b a l) : (b ≠ l.bs ∧ l.bs ≠ b) ∧ (b ≠ l.bl ∧ l.bl ≠ b) ∧ l.bs ≠ l.bl ∧ l.bl ≠ l.bs := by
  have := h.nd
  unfold dH at this
  simp only [List.map_cons, List.nodup_cons, List.mem_cons, not_or] at this
  obtain ⟨⟨h1, h2, _⟩, ⟨h3, _⟩, _⟩ := this
  exact ⟨⟨h1, Ne.symm h1⟩, ⟨h2, Ne.symm h2⟩, h3, Ne.symm h3⟩
theorem first_d {f : FuncId} {args : List AV} {b : Nat} {m m' : MB} {x : AV} (R : Hp) (h : ACt Try.prog f args [(b, m)] (fun r F' => r = x ∧ F' = [(b, m')])) : ACt Try.prog f args ((b, m) :: R) (fun r F' => r = x ∧ F' = (b, m') :: R) :=
  ACt.frm (R := R) h (.refl _) fun r F' hr _ => by
    obtain ⟨e1, e2⟩ := hr
    subst e1 e2
    exact ⟨_, [], by rw [List.append_nil]; exact .refl _, rfl, rfl⟩
theorem nd_of {F H D : Hp} (hp : F.Perm (H ++ D)) (hn : (F.map (·.1)).Nodup) : (H.map (·.1)).Nodup := by
  have := (hp.map (·.1)).nodup_iff.1 hn
  rw [List.map_append, List.nodup_append] at this
  exact this.1
section
variable (b : Nat) (a : DA) (l : DL)
theorem dark_d : ACt Try.prog 11 [pt b 0] (dH b a l) (fun r F' => r = bv a.dk ∧ F' = dH b a l) := first_d _ (dark_ct _ _ _ _ _ _ _ _)
theorem blocks_d : ACt Try.prog 21 [pt b 0] (dH b a l) (fun r F' => r = iv .i64 (a.n : Int) ∧ F' = dH b a l) := first_d _ (blocks_ct _ _ _ _ _ _ _ _ _ _)
theorem waits_d : ACt Try.prog 16 [pt b 0] (dH b a l) (fun r F' => r = iv .i64 (a.W.length : Int) ∧ F' = dH b a l) := by
  obtain ⟨s, n, L, S, W, f, dk, de⟩ := a
  cases W with
  | nil => exact first_d _ (waits_ct b s de _ _ none f dk)
  | cons w r => exact first_d _ (waits_ct b s de _ _ (some (l.bw, (w :: r).length, l.k)) f dk)
theorem readok_d {c : Nat} (hA : AOk c a) (hl : LOk b a l) (i : Nat) (hi : i < a.n) (hk : a.dk = false) : ACt Try.prog 23 [pt b 0, iv .i64 (i : Int)] (dH b a l) (fun r F' => r = .tup [.slz .u8 (a.S.getD i []), iv .i64 0] ∧ F' = dH b a l) := by
  have h := read_ok b a.size a.de l.bs a.n l.cs i (ms l.bl 0 a.n l.cl) (dW a.W l) a.f a.S hl.d1.1 hA.Sl hi hA.n2 hl.cs hA.Sr hA.s1 hA.s2
  unfold dH
  rw [hk]
  refine ACt.frm (R := (l.bl, MB.cells (rws a.L) l.cl 30) :: dB a.W l) h (.refl _) fun r F' hr _ => ?_
  obtain ⟨e1, e2⟩ := hr
  subst e1 e2
  exact ⟨_, [], by rw [List.append_nil]; exact .refl _, rfl, rfl⟩
/-- a write -/
def mayA (i k : Int) : Int := mayC a.size a.n a.dk i k
def wrC (i k : Int) : Int := if mayA a i k ≠ 0 then mayA a i k else if a.f = 0 then 12 else 0
def wrA (i : Int) (zs : List Int) : DA :=
  if mayA a i zs.length ≠ 0 then a else if a.f = 0 then { a with dk := true } else
    { a with f := fuseN a.f, de := a.de + 1, W := a.W ++ [(i.toNat, pad a.size zs)], S := a.S.set i.toNat (pad a.size zs) }
theorem mayC_in {size n : Nat} {dk : Bool} {i k : Int} (h : mayC size n dk i k = 0) : dk = false ∧ 0 ≤ i ∧ i < n ∧ k ≤ size := by
  unfold mayC at h
  cases dk
  · simp only [Bool.false_eq_true, if_false] at h
    split at h
    · omega
    · exact ⟨rfl, by omega, by omega, by omega⟩
  · simp at h
theorem dH_W {b : Nat} {a : DA} {l : DL} (h : a.W ≠ []) : dH b a l = (b, dkM a.size (ms l.bl 0 a.n l.cl) (ms l.bs 0 a.n l.cs) (ms l.bw 0 a.W.length l.k) a.f a.dk a.de) :: (l.bs, MB.cells (rws a.S) l.cs 30) :: (l.bl, MB.cells (rws a.L) l.cl 30) :: [(l.bw, MB.cells (wcs a.W) (l.k * 2) 58)] := by
  obtain ⟨s, n, L, S, W, f, dk, de⟩ := a
  cases W with
  | nil => exact absurd rfl h
  | cons w r => rfl
theorem dH_0 {b : Nat} {a : DA} {l : DL} (h : a.W = []) : dH b a l = [(b, dkM a.size (ms l.bl 0 a.n l.cl) (ms l.bs 0 a.n l.cs) nl a.f a.dk a.de), (l.bs, MB.cells (rws a.S) l.cs 30), (l.bl, MB.cells (rws a.L) l.cl 30)] := by
  obtain ⟨s, n, L, S, W, f, dk, de⟩ := a
  cases W with
  | nil => rfl
  | cons w r => exact absurd h (by simp)
variable {b a l}
theorem write_d {c : Nat} (hA : AOk c a) (hl : LOk b a l) (hc : c ≤ 1000) (i : Int) (zs : List Int) :
    ACt Try.prog 13 [pt b 0, iv .i64 i, .slz .u8 zs] (dH b a l) (fun r F' => ∃ q : LS b (wrA a i zs), r = iv .i64 (wrC a i zs.length) ∧ F' = dH b (wrA a i zs) q.1) := by
  by_cases h1 : mayA a i zs.length ≠ 0
  · have eA : wrA a i zs = a := by unfold wrA; rw [if_pos h1]
    have eC : wrC a i zs.length = mayA a i zs.length := by unfold wrC; rw [if_pos h1]
    rw [eA, eC]
    refine (first_d _ (write_bad b a.size a.de l.bs a.n l.cs (ms l.bl 0 a.n l.cl) (dW a.W l) a.f i a.dk zs h1)).mono ?_
    rintro r F' ⟨e1, e2⟩
    exact ⟨⟨l, hl⟩, e1, e2⟩
  · have h1' : mayA a i zs.length = 0 := by simpa using h1
    obtain ⟨hk, i0, i1, i2⟩ := mayC_in h1'
    by_cases h2 : a.f = 0
    · have eA : wrA a i zs = { a with dk := true } := by unfold wrA; rw [if_neg h1, if_pos h2]
      have eC : wrC a i zs.length = 12 := by unfold wrC; rw [if_neg h1, if_pos h2]
      rw [eA, eC]
      have hw := write_out b a.size a.de l.bs a.n l.cs (ms l.bl 0 a.n l.cl) (dW a.W l) i a.dk zs h1'
      unfold dH
      rw [h2]
      refine (first_d _ hw).mono ?_
      rintro r F' ⟨e1, e2⟩
      exact ⟨⟨l, ⟨hl.cl, hl.cs, hl.k, hl.nd⟩⟩, e1, by rw [e2]⟩
    · have eC : wrC a i zs.length = 0 := by unfold wrC; rw [if_neg h1, if_neg h2]
      have eA : wrA a i zs = { a with f := fuseN a.f, de := a.de + 1, W := a.W ++ [(i.toNat, pad a.size zs)], S := a.S.set i.toNat (pad a.size zs) } := by unfold wrA; rw [if_neg h1, if_neg h2]
      have eW : (wrA a i zs).W ≠ [] := by rw [eA]; simp
      rw [eC]
      obtain ⟨m, rfl⟩ := Int.eq_ofNat_of_zero_le i0
      have hm : m < a.n := by omega
      have hz : zs.length ≤ a.size := by omega
      have hde := hA.de
      have hWc := hA.Wc
      have key : ∀ x k : Nat, a.W.length + 1 ≤ k ∧ k ≤ 9223372036854775807 → ∀ R : Hp, (([(x, MB.cells (wcs (a.W ++ [(m, pad a.size zs)])) (k * 2) 58), (b, dkM a.size (ms l.bl 0 a.n l.cl) (ms l.bs 0 a.n l.cs) (ms x 0 (a.W.length + 1) k) (fuseN a.f) false (a.de + 1)), (l.bs, MB.cells (rws (a.S.set m (pad a.size zs))) l.cs 30)] ++ [(l.bl, MB.cells (rws a.L) l.cl 30)]).map (·.1)).Nodup →
          ∃ H' D, ([(x, MB.cells (wcs (a.W ++ [(m, pad a.size zs)])) (k * 2) 58), (b, dkM a.size (ms l.bl 0 a.n l.cl) (ms l.bs 0 a.n l.cs) (ms x 0 (a.W.length + 1) k) (fuseN a.f) false (a.de + 1)), (l.bs, MB.cells (rws (a.S.set m (pad a.size zs))) l.cs 30)] ++ [(l.bl, MB.cells (rws a.L) l.cl 30)]).Perm (H' ++ D) ∧
            ∃ q : LS b (wrA a m zs), iv .i64 0 = iv .i64 0 ∧ H' = dH b (wrA a m zs) q.1 := fun x k hk' R hn => by
        have e : dH b (wrA a m zs) { l with bw := x, k := k } = [(b, dkM a.size (ms l.bl 0 a.n l.cl) (ms l.bs 0 a.n l.cs) (ms x 0 (a.W.length + 1) k) (fuseN a.f) false (a.de + 1)), (l.bs, MB.cells (rws (a.S.set m (pad a.size zs))) l.cs 30), (l.bl, MB.cells (rws a.L) l.cl 30), (x, MB.cells (wcs (a.W ++ [(m, pad a.size zs)])) (k * 2) 58)] := by
          rw [dH_W eW, eA]
          simp only [List.length_append, List.length_cons, List.length_nil, Int.toNat_natCast, hk]
        have hp : ([(x, MB.cells (wcs (a.W ++ [(m, pad a.size zs)])) (k * 2) 58), (b, dkM a.size (ms l.bl 0 a.n l.cl) (ms l.bs 0 a.n l.cs) (ms x 0 (a.W.length + 1) k) (fuseN a.f) false (a.de + 1)), (l.bs, MB.cells (rws (a.S.set m (pad a.size zs))) l.cs 30)] ++ [(l.bl, MB.cells (rws a.L) l.cl 30)]).Perm (dH b (wrA a m zs) { l with bw := x, k := k } ++ []) := by
          rw [List.append_nil, e]
          exact List.perm_append_comm (l₁ := [_])
        refine ⟨_, [], hp, ⟨⟨{ l with bw := x, k := k }, ⟨?_, ?_, fun _ => ?_, nd_of hp hn⟩⟩, rfl, rfl⟩⟩
        · rw [eA]; exact hl.cl
        · rw [eA]; exact hl.cs
        · rw [eA]; simpa using hk'
      by_cases hW : a.W = []
      · rw [dH_0 hW, hk]
        refine ACt.frm (R := [(l.bl, MB.cells (rws a.L) l.cl 30)]) (write_first b a.size a.de l.bs a.n l.cs m (ms l.bl 0 a.n l.cl) a.f a.S zs hl.d1.1 hA.Sl hm hA.n2 hl.cs hz hA.s2 h2 hA.f1 hA.f2 (by omega)) (.refl _) fun r F' hr hn => ?_
        obtain ⟨x, k, hk', e1, e2⟩ := hr
        subst e1 e2
        have := key x k (by rw [hW]; exact hk') []
        rw [hW] at this
        exact this hn
      · rw [dH_W hW, hk]
        have hk2 := hl.k hW
        have hnd := hl.nd
        rw [dH_W hW] at hnd
        simp only [List.map_cons, List.nodup_cons, List.mem_cons, not_or] at hnd
        obtain ⟨⟨_, _, d1, _⟩, ⟨_, d2, _⟩, _⟩ := hnd
        have hm1 : 1 ≤ a.W.length := by
          have : a.W.length ≠ 0 := fun h => hW (List.eq_nil_of_length_eq_zero h)
          omega
        refine ACt.frm (R := [(l.bl, MB.cells (rws a.L) l.cl 30)]) (write_more b a.size a.de l.bs a.n l.cs m l.bw l.k a.W.length (ms l.bl 0 a.n l.cl) a.f a.S a.W rfl hk2.1 hm1 (by omega) hk2.2 ⟨⟨d1, Ne.symm d1⟩, d2, Ne.symm d2⟩ zs hl.d1.1 hA.Sl hm hA.n2 hl.cs hz hA.s2 h2 hA.f1 hA.f2 (by omega))
          (.cons _ (.cons _ (.swap _ _ _))) fun r F' hr hn => ?_
        obtain ⟨x, k, hk', e1, e2⟩ := hr
        subst e1 e2
        exact key x k hk' [] hn
/-- a sync -/
def syC (a : DA) : Int := if a.dk = true then 12 else if a.f = 0 then 12 else 0
def syA (a : DA) : DA := if a.dk = true then a else if a.f = 0 then { a with dk := true } else { a with f := fuseN a.f, de := a.de + 1, L := a.S, W := [] }
theorem sync_d {c : Nat} (hA : AOk c a) (hl : LOk b a l) (hc : c ≤ 1000) :
    ACt Try.prog 12 [pt b 0] (dH b a l) (fun r F' => ∃ q : LS b (syA a), r = iv .i64 (syC a) ∧ F' = dH b (syA a) q.1) := by
  by_cases h1 : a.dk = true
  · have eA : syA a = a := by unfold syA; rw [if_pos h1]
    have eC : syC a = 12 := by unfold syC; rw [if_pos h1]
    rw [eA, eC]
    have hs := sync_dark b a.size a.de l.bs a.n l.cs (ms l.bl 0 a.n l.cl) (dW a.W l) a.f
    rw [← h1] at hs
    refine (first_d _ hs).mono ?_
    rintro r F' ⟨e1, e2⟩
    exact ⟨⟨l, hl⟩, e1, e2⟩
  · have hk : a.dk = false := by simpa using h1
    by_cases h2 : a.f = 0
    · have eA : syA a = { a with dk := true } := by unfold syA; rw [if_neg h1, if_pos h2]
      have eC : syC a = 12 := by unfold syC; rw [if_neg h1, if_pos h2]
      rw [eA, eC]
      have hs := sync_out b a.size a.de l.bs a.n l.cs (ms l.bl 0 a.n l.cl) (dW a.W l) hA.n1
      rw [← hk] at hs
      unfold dH
      rw [h2]
      refine (first_d _ hs).mono ?_
      rintro r F' ⟨e1, e2⟩
      exact ⟨⟨l, ⟨hl.cl, hl.cs, hl.k, hl.nd⟩⟩, e1, by rw [e2]⟩
    · have eA : syA a = { a with f := fuseN a.f, de := a.de + 1, L := a.S, W := [] } := by unfold syA; rw [if_neg h1, if_neg h2]
      have eC : syC a = 0 := by unfold syC; rw [if_neg h1, if_neg h2]
      rw [eA, eC]
      have hde := hA.de
      have hs := sync_ok b a.size a.de l.bl l.cl l.bs l.cs a.n (dW a.W l) a.f a.S hl.d1.1 hA.Sl hA.n1 hA.n2 hl.cs h2 hA.f1 hA.f2 (by omega)
      rw [← hk] at hs
      unfold dH
      refine ACt.frm (R := (l.bl, MB.cells (rws a.L) l.cl 30) :: dB a.W l) hs (.refl _) fun r F' hr hn => ?_
      obtain ⟨x, k, hk', e1, e2⟩ := hr
      subst e1 e2
      have hp : ([(x, MB.cells (rws a.S) k 30), (b, dkM a.size (ms x 0 a.n k) (ms l.bs 0 a.n l.cs) nl (fuseN a.f) a.dk (a.de + 1)), (l.bs, MB.cells (rws a.S) l.cs 30)] ++ ((l.bl, MB.cells (rws a.L) l.cl 30) :: dB a.W l)).Perm
          (dH b { a with f := fuseN a.f, de := a.de + 1, L := a.S, W := [] } { l with bl := x, cl := k } ++ ((l.bl, MB.cells (rws a.L) l.cl 30) :: dB a.W l)) := by
        refine List.Perm.append_right _ ?_
        rw [dH_0 rfl]
        exact List.perm_append_comm (l₁ := [_])
      exact ⟨_, _, hp, ⟨{ l with bl := x, cl := k }, ⟨hk', hl.cs, fun h => absurd rfl h, nd_of hp hn⟩⟩, rfl, rfl⟩
/-- a crash -/
def crA (a : DA) (keep torn : Int) : DA := { a with L := crL a.L a.W (hN keep a.W.length) (hN torn a.size), S := crL a.L a.W (hN keep a.W.length) (hN torn a.size), W := [], f := -1, dk := false }
theorem crash_d {c : Nat} (hA : AOk c a) (hl : LOk b a l) (hc : c ≤ 1000) (keep torn : Int) :
    ACt Try.prog 14 [pt b 0, iv .i64 keep, iv .i64 torn] (dH b a l) (fun r F' => ∃ q : LS b (crA a keep torn), r = .tup [] ∧ F' = dH b (crA a keep torn) q.1) := by
  have hWc := hA.Wc
  by_cases hW : a.W = []
  · have eC : crL a.L a.W (hN keep a.W.length) (hN torn a.size) = a.L := by rw [hW]; simp [crL, layW]
    have hs := crash_none b a.size a.de l.bl l.cl a.n a.f keep torn a.dk (ms l.bs 0 a.n l.cs) a.L hl.d1.2.1 hA.Ll hA.n1 hA.n2 hl.cl
    rw [dH_0 hW]
    refine ACt.frm (R := [(l.bs, MB.cells (rws a.S) l.cs 30)]) hs (.cons _ (.swap _ _ _)) fun r F' hr hn => ?_
    obtain ⟨x, k, hk', e1, e2⟩ := hr
    subst e1 e2
    have e : dH b (crA a keep torn) { l with bl := x, cl := k, bs := l.bl, cs := l.cl } = [(b, dkM a.size (ms x 0 a.n k) (ms l.bl 0 a.n l.cl) nl (-1) false a.de), (l.bl, MB.cells (rws a.L) l.cl 30), (x, MB.cells (rws a.L) k 30)] := by
      rw [dH_0 rfl]; simp only [crA, eC]
    have hp : ([(x, MB.cells (rws a.L) k 30), (b, dkM a.size (ms x 0 a.n k) (ms l.bl 0 a.n l.cl) nl (-1) false a.de), (l.bl, MB.cells (rws a.L) l.cl 30)] ++ [(l.bs, MB.cells (rws a.S) l.cs 30)]).Perm (dH b (crA a keep torn) { l with bl := x, cl := k, bs := l.bl, cs := l.cl } ++ [(l.bs, MB.cells (rws a.S) l.cs 30)]) := by
      refine List.Perm.append_right _ ?_
      rw [e]
      exact List.perm_append_comm (l₁ := [_])
    exact ⟨_, _, hp, ⟨{ l with bl := x, cl := k, bs := l.bl, cs := l.cl }, ⟨hk', hl.cl, fun h => absurd rfl h, nd_of hp hn⟩⟩, rfl, rfl⟩
  · have hnd := hl.nd
    rw [dH_W hW] at hnd
    simp only [List.map_cons, List.nodup_cons, List.mem_cons, not_or] at hnd
    obtain ⟨⟨_, d0, d1, _⟩, ⟨_, d2, _⟩, ⟨d3, _⟩, _⟩ := hnd
    have hk2 := hl.k hW
    have hm1 : 1 ≤ a.W.length := by
      have : a.W.length ≠ 0 := fun h => hW (List.eq_nil_of_length_eq_zero h)
      omega
    have hs := crash_some b a.size a.de l.bl l.cl l.bw l.k a.W.length a.n a.f keep torn a.dk (ms l.bs 0 a.n l.cs) a.L a.W ⟨hl.d1.2.1, ⟨d1, Ne.symm d1⟩, d3, Ne.symm d3⟩ hA.Ll hA.n1 hA.n2 hl.cl rfl hm1 (by omega) hk2.1 hA.s1 hA.s2 hA.Lr hA.W
    rw [dH_W hW]
    refine ACt.frm (R := [(l.bs, MB.cells (rws a.S) l.cs 30)]) hs (.cons _ ((List.perm_append_comm (l₁ := [_])))) fun r F' hr hn => ?_
    obtain ⟨x, k, hk', e1, e2⟩ := hr
    subst e1 e2
    obtain ⟨X, hX⟩ : ∃ X, X = crL a.L a.W (hN keep a.W.length) (hN torn a.size) := ⟨_, rfl⟩
    rw [← hX] at hn ⊢
    have e : dH b (crA a keep torn) { l with bl := x, cl := k, bs := l.bl, cs := l.cl } = [(b, dkM a.size (ms x 0 a.n k) (ms l.bl 0 a.n l.cl) nl (-1) false a.de), (l.bl, MB.cells (rws X) l.cl 30), (x, MB.cells (rws X) k 30)] := by
      rw [dH_0 rfl]; simp only [crA, hX]
    have hp : ([(x, MB.cells (rws X) k 30), (b, dkM a.size (ms x 0 a.n k) (ms l.bl 0 a.n l.cl) nl (-1) false a.de), (l.bl, MB.cells (rws X) l.cl 30), (l.bw, MB.cells (wcs a.W) (l.k * 2) 58)] ++ [(l.bs, MB.cells (rws a.S) l.cs 30)]).Perm
        (dH b (crA a keep torn) { l with bl := x, cl := k, bs := l.bl, cs := l.cl } ++ [(l.bw, MB.cells (wcs a.W) (l.k * 2) 58), (l.bs, MB.cells (rws a.S) l.cs 30)]) := by
      rw [e]
      show ([_, _, _] ++ [_, _]).Perm ([_, _, _] ++ [_, _])
      refine List.Perm.append_right _ ?_
      exact List.perm_append_comm (l₁ := [_])
    exact ⟨_, _, hp, ⟨{ l with bl := x, cl := k, bs := l.bl, cs := l.cl }, ⟨hk', hl.cl, fun h => absurd rfl h, nd_of hp hn⟩⟩, rfl, rfl⟩
/-- a new one -/
def nwA (n size : Nat) : DA := ⟨size, n, List.replicate n (zrow size), List.replicate n (zrow size), [], -1, false, 0⟩
abbrev NS (n size : Nat) : Type := {p : Nat × DL // LOk p.1 (nwA n size) p.2}
theorem new_d (n size : Nat) (h1 : 1 ≤ n) (h2 : n ≤ 400) (h3 : 32 ≤ size) (h4 : size ≤ 512) : ACt Try.prog 8 [iv .i64 (n : Int), iv .i64 (size : Int)] []
    (fun r F' => ∃ g : NS n size, r = .tup [pt g.1.1 0, iv .i64 0] ∧ F' = dH g.1.1 (nwA n size) g.1.2) := by
  refine ACt.frm (R := []) (new_ok n size h1 h2 h3 h4) (.refl _) fun r F' hr hn => ?_
  obtain ⟨⟨⟨x, l, cl⟩, s, cs⟩, hk', e1, e2⟩ := hr
  subst e1 e2
  have hp : ([(x, dkM size (ms l 0 n cl) (ms s 0 n cs) nl (-1) false 0), (l, MB.cells (rws (List.replicate n (zrow size))) cl 30), (s, MB.cells (rws (List.replicate n (zrow size))) cs 30)] ++ []).Perm (dH x (nwA n size) ⟨l, cl, s, cs, 0, 0⟩ ++ []) := by
    rw [List.append_nil, List.append_nil]
    exact .cons _ (.swap _ _ _)
  exact ⟨_, _, hp, ⟨⟨(x, ⟨l, cl, s, cs, 0, 0⟩), ⟨hk'.1, hk'.2, fun h => absurd rfl h, nd_of hp hn⟩⟩, rfl, rfl⟩⟩
end
theorem nwA_ok {n size : Nat} (h1 : 1 ≤ n) (h2 : n ≤ 400) (h3 : 32 ≤ size) (h4 : size ≤ 512) : AOk 0 (nwA n size) :=
  ⟨h1, h2, by simp only [nwA]; omega, h4, by simp [nwA], fun z hz => by rw [List.eq_of_mem_replicate hz]; simp [nwA, zrow], by simp [nwA], fun z hz => by rw [List.eq_of_mem_replicate hz]; simp [nwA, zrow],
    fun w hw => (by cases hw), by simp [nwA], by simp [nwA], by simp [nwA], by simp [nwA]⟩
theorem pad_len {size : Nat} {zs : List Int} (h : zs.length ≤ size) : (pad size zs).length = size := by simp [pad]; omega
theorem fuseN_le {f : Int} (h : -1 ≤ f) : -1 ≤ fuseN f ∧ fuseN f ≤ f := by unfold fuseN; split <;> omega
theorem set_rows {L : List (List Int)} {i size : Nat} {x : List Int} (h : ∀ z ∈ L, z.length = size) (hx : x.length = size) : ∀ z ∈ L.set i x, z.length = size := fun z hz => by
  rcases List.mem_or_eq_of_mem_set hz with h1 | rfl
  · exact h z h1
  · exact hx
theorem AOk.up {c : Nat} {a : DA} (h : AOk c a) : AOk (c + 1) a := { h with Wc := by have := h.Wc; omega, de := by have := h.de; omega }
theorem AOk.le {c d : Nat} {a : DA} (h : AOk c a) (hd : c ≤ d) : AOk d a := { h with Wc := by have := h.Wc; omega, de := by have := h.de; omega }
theorem wrA_ok {c : Nat} {a : DA} (h : AOk c a) (i : Int) (zs : List Int) : AOk (c + 1) (wrA a i zs) := by
  unfold wrA
  by_cases h1 : mayA a i zs.length ≠ 0
  · rw [if_pos h1]; exact h.up
  · rw [if_neg h1]
    have h1' : mayA a i zs.length = 0 := by simpa using h1
    obtain ⟨hk, i0, i1, i2⟩ := mayC_in h1'
    split
    · exact { h.up with }
    · have hp : (pad a.size zs).length = a.size := pad_len (by omega)
      have hf := fuseN_le h.f1
      exact ⟨h.n1, h.n2, h.s1, h.s2, h.Ll, h.Lr, by simp only [List.length_set]; exact h.Sl, set_rows h.Sr hp, fun w hw => by
        rcases List.mem_append.1 hw with hw | hw
        · exact h.W w hw
        · rw [List.mem_singleton.1 hw]; exact ⟨by simp only; omega, hp⟩, by simp only [List.length_append, List.length_cons, List.length_nil]; have := h.Wc; omega, hf.1, by have := h.f2; simp only; omega, by have := h.de; simp only; omega⟩
theorem syA_ok {c : Nat} {a : DA} (h : AOk c a) : AOk (c + 1) (syA a) := by
  unfold syA
  split
  · exact h.up
  · split
    · exact { h.up with }
    · have hf := fuseN_le h.f1
      exact ⟨h.n1, h.n2, h.s1, h.s2, h.Sl, h.Sr, h.Sl, h.Sr, fun w hw => (by cases hw), by simp, hf.1, by have := h.f2; simp only; omega, by have := h.de; simp only; omega⟩
theorem crL_len (L : List (List Int)) (W : List (Nat × List Int)) (k t : Nat) : (crL L W k t).length = L.length := by
  unfold crL; split
  · exact layW_len ..
  · rw [List.length_set]; exact layW_len ..
theorem crL_rows {size n k t : Nat} {L : List (List Int)} {W : List (Nat × List Int)} (hL : ∀ z ∈ L, z.length = size) (hn : L.length = n) (hW : ∀ w ∈ W, w.1 < n ∧ w.2.length = size) (ht : t ≤ size) : ∀ z ∈ crL L W k t, z.length = size := by
  have hr := layW_rows (W.take k) L hL fun w hw => (hW w (List.mem_of_mem_take hw)).2
  unfold crL
  split
  · exact hr
  · rename_i w hw
    have hmem := List.mem_of_getElem? hw
    have := hW w hmem
    refine set_rows hr ?_
    have hl : ((layW L (W.take k)).getD w.1 []).length = size := by
      have hlt : w.1 < (layW L (W.take k)).length := by rw [layW_len]; omega
      rw [List.getD_eq_getElem?_getD, List.getElem?_eq_getElem hlt]
      exact hr _ (List.getElem_mem _)
    rw [List.length_append, List.length_take, List.length_drop]
    omega
theorem crA_ok {c : Nat} {a : DA} (h : AOk c a) (keep torn : Int) : AOk c (crA a keep torn) :=
  ⟨h.n1, h.n2, h.s1, h.s2, by simp only [crA, crL_len]; exact h.Ll, crL_rows h.Lr h.Ll h.W (hN_le ..), by simp only [crA, crL_len]; exact h.Ll, crL_rows h.Lr h.Ll h.W (hN_le ..), fun w hw => (by cases hw), by simp [crA], by simp [crA], by simp [crA], h.de⟩
end Go.Proofs.Ytnhkohgamnchlaa
namespace Go.Proofs.Ytnhkohgamnchlaa
open Go
set_option linter.unusedVariables false
set_option linter.unusedSimpArgs false
theorem TFBlJ : ((((((type_of% tyc0) ∧ (type_of% tyc3)) ∧ ((type_of% zmb3) ∧ (type_of% tyc4))) ∧ (((type_of% zmb4) ∧ (type_of% tyc5)) ∧ ((type_of% zmb5) ∧ (type_of% tyc24)))) ∧ ((((type_of% mth24_27) ∧ (type_of% mth24_26)) ∧ ((type_of% mth24_28) ∧ (type_of% con24))) ∧ (((type_of% zmb24) ∧ (type_of% tyc25)) ∧ ((type_of% zmb25) ∧ (type_of% tyc26))))) ∧ (((((type_of% tyc30) ∧ (type_of% elt30)) ∧ ((type_of% mkz30) ∧ (type_of% apT30))) ∧ (((type_of% elk30) ∧ (type_of% zmb30)) ∧ ((type_of% tyc46) ∧ (type_of% Try.underlying0)))) ∧ ((((type_of% Try.underlying3) ∧ (type_of% Try.underlying4)) ∧ ((type_of% Try.underlying5) ∧ (type_of% Try.underlying24))) ∧ (((type_of% Try.underlying25) ∧ (type_of% Try.underlying26)) ∧ ((type_of% Try.underlying30) ∧ (type_of% Try.underlying46)))))) :=
  ⟨⟨⟨⟨⟨tyc0, tyc3⟩, ⟨zmb3, tyc4⟩⟩, ⟨⟨zmb4, tyc5⟩, ⟨zmb5, tyc24⟩⟩⟩, ⟨⟨⟨mth24_27, mth24_26⟩, ⟨mth24_28, con24⟩⟩, ⟨⟨zmb24, tyc25⟩, ⟨zmb25, tyc26⟩⟩⟩⟩, ⟨⟨⟨⟨tyc30, elt30⟩, ⟨mkz30, apT30⟩⟩, ⟨⟨elk30, zmb30⟩, ⟨tyc46, Try.underlying0⟩⟩⟩, ⟨⟨⟨Try.underlying3, Try.underlying4⟩, ⟨Try.underlying5, Try.underlying24⟩⟩, ⟨⟨Try.underlying25, Try.underlying26⟩, ⟨Try.underlying30, Try.underlying46⟩⟩⟩⟩⟩
theorem pmz {α : Type} (H : List α) : H.Perm (H ++ []) := by rw [List.append_nil]
def k1A : DA := wrA (nwA 2 32) 1 [97, 98, 99]
def k2A : DA := syA k1A
def k3A : DA := wrA k2A 1 [120, 121, 122]
def k4A : DA := crA k3A 0 2
theorem awake_ct : ACt Try.prog 7 [] [] (Fn (bv true)) := by
  refine ACt.intro Try.func7 rfl (by kernel_rfl) (by simp [Try.ntmps7]) (fun cx => ?_)
  simp only [argE, Try.ntmps7, Try.results7]
  have a0 : AOk 0 (nwA 2 32) := nwA_ok (by omega) (by omega) (by omega) (by omega)
  have a1 : AOk 1 k1A := wrA_ok a0 1 [97, 98, 99]
  have a2 : AOk 2 k2A := syA_ok a1
  have a3 : AOk 3 k3A := wrA_ok a2 1 [120, 121, 122]
  have a4 : AOk 3 k4A := crA_ok a3 0 2
  have cN := new_d 2 32 (by omega) (by omega) (by omega) (by omega)
  have c1 := fun (g : NS 2 32) => write_d a0 g.2 (by omega) 1 [97, 98, 99]
  first | (have FRx := FR; clear FRx) | (have FR : Sm (¬ ((1 : Nat) = 0)) := Sm.mk Nat.one_ne_zero)
  repeat' first
    | (refine Sm.mk ?_; try simp -dsimp only [ZK, rvc, drawF, headN, pureH, stp, dvc, calleeOf, gcall, pev, eff, newB, okd, og, ogs, ogo, ogp, slv, bltv, opd, litv, strip, one, both, putE, St.put, look, gdOf, gdv, picka, pickv, pickw, binv, bini, bins, binb, binp, binq, isSlT, bina, shp, eqCells, unv, convv, nilv, faddv, addp, idxav, idxp, load1, load1m, loadn, loadnm, loadv, hget, hset, hrep, hdel, slicev, bnd, shift1, lenv, capv, IntKind.bits, extractv, fieldv, indexv, min2v, max2v, mkiv, cellsA, fillA, buildv, stC, oneC, rowMB, intsA, plN, appE, appZ, appC, appNZ, appNC, VwL, srcC, srcZ, srcM, isBoolT, isPtrT, isSliceT, uOk, Value.oneCell', Nat.reducePow, Int.reducePow, Nat.reduceAdd, Nat.reduceMul, Nat.reduceSub, Nat.reduceLT, Nat.reduceLeDiff, Nat.reduceEqDiff, Nat.reduceBEq, Nat.reduceDiv, Nat.reduceMod, ↓reduceIte, reduceCtorEq, Int.reduceToNat, Int.reduceLT, Int.reduceLE, TFBlJ, SeqQ, BlkQ, LoopQ, BodyQ, FR.out])
    | (refine CallV.ex (F := []) (List.Perm.refl _) (cN) (fun g => Sm.out ?_))
    | (refine WP.seq fun K hK => ?_)
    | ((fail_if_success (show WP _ _ _ (.region 2 _ _) _ _)); refine WP.region (rvc_sound _ _ (Sm.out ?_)))
    | ((fail_if_success (show WP _ _ _ (.region 2 _ _) _ _)); refine WP.drawK rfl mixed (by decide +kernel) (Sm.out ?_))
    | (refine Ob.mk ?_; focus (first | assumption | omega | decide | trivial | (intro hob; simp only [hob, ZF]; done) | (intros; (repeat' refine And.intro ?_ ?_) <;> first | assumption | omega | trivial | decide) | (intros; simp only [ZE] at *; (repeat' refine And.intro ?_ ?_) <;> first | assumption | omega | trivial)))
    | (refine And.intro (Ob.out ?_) ?_)
    | (refine WP.block ?_)
    | (refine WP.cond rfl (fun hc => ?_) (fun hc => ?_) <;> (try simp only [ZC, reduceCtorEq, ZD] at hc) <;> (try (exact absurd hc (by decide))) <;> (try (exfalso; omega)))
    | ((first | refine WP.skip ?_ | refine WP.exit ?_); simp only [SeqQ, BlkQ, LoopQ, BodyQ, ↓reduceIte, Nat.reduceEqDiff, reduceCtorEq, look, true_and])
    | (refine WP.ret (Sm.out ?_))
    | (first | refine ExG.no (Sm.out ?_) | refine Or.inl (ExG.no (Sm.out ?_)) | refine Or.inl (And.intro (fun hg => absurd hg (by decide)) (ExG.no (Sm.out ?_))))
    | (refine Rt.mk ?_; refine And.intro ?_ ?_ <;> (intro hg; first | exact absurd hg (by decide) | refine Sm.out ?_))
    | (refine Nu.mk ?_; first | (fail_if_success (have := nb1)); intro nb1 | (fail_if_success (have := nb2)); intro nb2 | (fail_if_success (have := nb3)); intro nb3 | intro nbz)
    | (refine Fr.mk ?_; intro hfr; (first | (have hFRb : _ ≤ _ ∧ _ ≤ _ := And.intro hfr.1 hfr.2.1) | (have hFRb : _ ≤ _ := hfr.1) | skip); replace FR := Sm.mk (And.intro hfr FR.out); clear hfr; refine Sm.out ?_)
    | (refine Two.mk ?_ ?_)
    | (refine Cs.mk ?_; intro hcs; first | exact False.elim hcs | (exfalso; omega) | (refine Sm.out ?_))
    | go_step
    | omega
    | (simp only [maxLen_eq]; omega)
  obtain ⟨⟨b, l⟩, hl⟩ := g
  simp only [List.append_nil]
  have c1 : ACt Try.prog 13 [pt b 0, iv .i64 1, .slz .u8 [97, 98, 99]] (dH b (nwA 2 32) l) (fun r F' => ∃ q : LS b k1A, r = iv .i64 (wrC (nwA 2 32) 1 3) ∧ F' = dH b k1A q.1) := write_d a0 hl (by omega) 1 [97, 98, 99]
  first | (have FRx := FR; clear FRx) | (have FR : Sm (¬ ((1 : Nat) = 0)) := Sm.mk Nat.one_ne_zero)
  repeat' first
    | (refine Sm.mk ?_; try simp -dsimp only [ZK, rvc, drawF, headN, pureH, stp, dvc, calleeOf, gcall, pev, eff, newB, okd, og, ogs, ogo, ogp, slv, bltv, opd, litv, strip, one, both, putE, St.put, look, gdOf, gdv, picka, pickv, pickw, binv, bini, bins, binb, binp, binq, isSlT, bina, shp, eqCells, unv, convv, nilv, faddv, addp, idxav, idxp, load1, load1m, loadn, loadnm, loadv, hget, hset, hrep, hdel, slicev, bnd, shift1, lenv, capv, IntKind.bits, extractv, fieldv, indexv, min2v, max2v, mkiv, cellsA, fillA, buildv, stC, oneC, rowMB, intsA, plN, appE, appZ, appC, appNZ, appNC, VwL, srcC, srcZ, srcM, isBoolT, isPtrT, isSliceT, uOk, Value.oneCell', Nat.reducePow, Int.reducePow, Nat.reduceAdd, Nat.reduceMul, Nat.reduceSub, Nat.reduceLT, Nat.reduceLeDiff, Nat.reduceEqDiff, Nat.reduceBEq, Nat.reduceDiv, Nat.reduceMod, ↓reduceIte, reduceCtorEq, Int.reduceToNat, Int.reduceLT, Int.reduceLE, TFBlJ, SeqQ, BlkQ, LoopQ, BodyQ, FR.out])
    | (refine CallV.exM (c1) (pmz _) (fun g => Sm.out ?_))
    | (refine WP.seq fun K hK => ?_)
    | ((fail_if_success (show WP _ _ _ (.region 3 _ _) _ _)); refine WP.region (rvc_sound _ _ (Sm.out ?_)))
    | ((fail_if_success (show WP _ _ _ (.region 3 _ _) _ _)); refine WP.drawK rfl mixed (by decide +kernel) (Sm.out ?_))
    | (refine Ob.mk ?_; focus (first | assumption | omega | decide | trivial | (intro hob; simp only [hob, ZF]; done) | (intros; (repeat' refine And.intro ?_ ?_) <;> first | assumption | omega | trivial | decide) | (intros; simp only [ZE] at *; (repeat' refine And.intro ?_ ?_) <;> first | assumption | omega | trivial)))
    | (refine And.intro (Ob.out ?_) ?_)
    | (refine WP.block ?_)
    | (refine WP.cond rfl (fun hc => ?_) (fun hc => ?_) <;> (try simp only [ZC, reduceCtorEq, ZD] at hc) <;> (try (exact absurd hc (by decide))) <;> (try (exfalso; omega)))
    | ((first | refine WP.skip ?_ | refine WP.exit ?_); simp only [SeqQ, BlkQ, LoopQ, BodyQ, ↓reduceIte, Nat.reduceEqDiff, reduceCtorEq, look, true_and])
    | (refine WP.ret (Sm.out ?_))
    | (first | refine ExG.no (Sm.out ?_) | refine Or.inl (ExG.no (Sm.out ?_)) | refine Or.inl (And.intro (fun hg => absurd hg (by decide)) (ExG.no (Sm.out ?_))))
    | (refine Rt.mk ?_; refine And.intro ?_ ?_ <;> (intro hg; first | exact absurd hg (by decide) | refine Sm.out ?_))
    | (refine Nu.mk ?_; first | (fail_if_success (have := nb1)); intro nb1 | (fail_if_success (have := nb2)); intro nb2 | (fail_if_success (have := nb3)); intro nb3 | intro nbz)
    | (refine Fr.mk ?_; intro hfr; (first | (have hFRb : _ ≤ _ ∧ _ ≤ _ := And.intro hfr.1 hfr.2.1) | (have hFRb : _ ≤ _ := hfr.1) | skip); replace FR := Sm.mk (And.intro hfr FR.out); clear hfr; refine Sm.out ?_)
    | (refine Two.mk ?_ ?_)
    | (refine Cs.mk ?_; intro hcs; first | exact False.elim hcs | (exfalso; omega) | (refine Sm.out ?_))
    | go_step
    | omega
    | (simp only [maxLen_eq]; omega)
  obtain ⟨l1, hl1⟩ := g
  simp only [List.append_nil]
  have c2 := sync_d a1 hl1 (by omega)
  first | (have FRx := FR; clear FRx) | (have FR : Sm (¬ ((1 : Nat) = 0)) := Sm.mk Nat.one_ne_zero)
  repeat' first
    | (refine Sm.mk ?_; try simp -dsimp only [ZK, rvc, drawF, headN, pureH, stp, dvc, calleeOf, gcall, pev, eff, newB, okd, og, ogs, ogo, ogp, slv, bltv, opd, litv, strip, one, both, putE, St.put, look, gdOf, gdv, picka, pickv, pickw, binv, bini, bins, binb, binp, binq, isSlT, bina, shp, eqCells, unv, convv, nilv, faddv, addp, idxav, idxp, load1, load1m, loadn, loadnm, loadv, hget, hset, hrep, hdel, slicev, bnd, shift1, lenv, capv, IntKind.bits, extractv, fieldv, indexv, min2v, max2v, mkiv, cellsA, fillA, buildv, stC, oneC, rowMB, intsA, plN, appE, appZ, appC, appNZ, appNC, VwL, srcC, srcZ, srcM, isBoolT, isPtrT, isSliceT, uOk, Value.oneCell', Nat.reducePow, Int.reducePow, Nat.reduceAdd, Nat.reduceMul, Nat.reduceSub, Nat.reduceLT, Nat.reduceLeDiff, Nat.reduceEqDiff, Nat.reduceBEq, Nat.reduceDiv, Nat.reduceMod, ↓reduceIte, reduceCtorEq, Int.reduceToNat, Int.reduceLT, Int.reduceLE, TFBlJ, SeqQ, BlkQ, LoopQ, BodyQ, FR.out])
    | (refine CallV.exM (c2) (pmz _) (fun g => Sm.out ?_))
    | (refine WP.seq fun K hK => ?_)
    | ((fail_if_success (show WP _ _ _ (.region 4 _ _) _ _)); refine WP.region (rvc_sound _ _ (Sm.out ?_)))
    | ((fail_if_success (show WP _ _ _ (.region 4 _ _) _ _)); refine WP.drawK rfl mixed (by decide +kernel) (Sm.out ?_))
    | (refine Ob.mk ?_; focus (first | assumption | omega | decide | trivial | (intro hob; simp only [hob, ZF]; done) | (intros; (repeat' refine And.intro ?_ ?_) <;> first | assumption | omega | trivial | decide) | (intros; simp only [ZE] at *; (repeat' refine And.intro ?_ ?_) <;> first | assumption | omega | trivial)))
    | (refine And.intro (Ob.out ?_) ?_)
    | (refine WP.block ?_)
    | (refine WP.cond rfl (fun hc => ?_) (fun hc => ?_) <;> (try simp only [ZC, reduceCtorEq, ZD] at hc) <;> (try (exact absurd hc (by decide))) <;> (try (exfalso; omega)))
    | ((first | refine WP.skip ?_ | refine WP.exit ?_); simp only [SeqQ, BlkQ, LoopQ, BodyQ, ↓reduceIte, Nat.reduceEqDiff, reduceCtorEq, look, true_and])
    | (refine WP.ret (Sm.out ?_))
    | (first | refine ExG.no (Sm.out ?_) | refine Or.inl (ExG.no (Sm.out ?_)) | refine Or.inl (And.intro (fun hg => absurd hg (by decide)) (ExG.no (Sm.out ?_))))
    | (refine Rt.mk ?_; refine And.intro ?_ ?_ <;> (intro hg; first | exact absurd hg (by decide) | refine Sm.out ?_))
    | (refine Nu.mk ?_; first | (fail_if_success (have := nb1)); intro nb1 | (fail_if_success (have := nb2)); intro nb2 | (fail_if_success (have := nb3)); intro nb3 | intro nbz)
    | (refine Fr.mk ?_; intro hfr; (first | (have hFRb : _ ≤ _ ∧ _ ≤ _ := And.intro hfr.1 hfr.2.1) | (have hFRb : _ ≤ _ := hfr.1) | skip); replace FR := Sm.mk (And.intro hfr FR.out); clear hfr; refine Sm.out ?_)
    | (refine Two.mk ?_ ?_)
    | (refine Cs.mk ?_; intro hcs; first | exact False.elim hcs | (exfalso; omega) | (refine Sm.out ?_))
    | go_step
    | omega
    | (simp only [maxLen_eq]; omega)
  obtain ⟨l2, hl2⟩ := g
  simp only [List.append_nil]
  have c3 : ACt Try.prog 13 [pt b 0, iv .i64 1, .slz .u8 [120, 121, 122]] (dH b (syA k1A) l2) (fun r F' => ∃ q : LS b k3A, r = iv .i64 (wrC k2A 1 3) ∧ F' = dH b k3A q.1) := write_d a2 hl2 (by omega) 1 [120, 121, 122]
  first | (have FRx := FR; clear FRx) | (have FR : Sm (¬ ((1 : Nat) = 0)) := Sm.mk Nat.one_ne_zero)
  repeat' first
    | (refine Sm.mk ?_; try simp -dsimp only [ZK, rvc, drawF, headN, pureH, stp, dvc, calleeOf, gcall, pev, eff, newB, okd, og, ogs, ogo, ogp, slv, bltv, opd, litv, strip, one, both, putE, St.put, look, gdOf, gdv, picka, pickv, pickw, binv, bini, bins, binb, binp, binq, isSlT, bina, shp, eqCells, unv, convv, nilv, faddv, addp, idxav, idxp, load1, load1m, loadn, loadnm, loadv, hget, hset, hrep, hdel, slicev, bnd, shift1, lenv, capv, IntKind.bits, extractv, fieldv, indexv, min2v, max2v, mkiv, cellsA, fillA, buildv, stC, oneC, rowMB, intsA, plN, appE, appZ, appC, appNZ, appNC, VwL, srcC, srcZ, srcM, isBoolT, isPtrT, isSliceT, uOk, Value.oneCell', Nat.reducePow, Int.reducePow, Nat.reduceAdd, Nat.reduceMul, Nat.reduceSub, Nat.reduceLT, Nat.reduceLeDiff, Nat.reduceEqDiff, Nat.reduceBEq, Nat.reduceDiv, Nat.reduceMod, ↓reduceIte, reduceCtorEq, Int.reduceToNat, Int.reduceLT, Int.reduceLE, TFBlJ, SeqQ, BlkQ, LoopQ, BodyQ, FR.out])
    | (refine CallV.exM (c3) (pmz _) (fun g => Sm.out ?_))
    | (refine WP.seq fun K hK => ?_)
    | ((fail_if_success (show WP _ _ _ (.region 5 _ _) _ _)); refine WP.region (rvc_sound _ _ (Sm.out ?_)))
    | ((fail_if_success (show WP _ _ _ (.region 5 _ _) _ _)); refine WP.drawK rfl mixed (by decide +kernel) (Sm.out ?_))
    | (refine Ob.mk ?_; focus (first | assumption | omega | decide | trivial | (intro hob; simp only [hob, ZF]; done) | (intros; (repeat' refine And.intro ?_ ?_) <;> first | assumption | omega | trivial | decide) | (intros; simp only [ZE] at *; (repeat' refine And.intro ?_ ?_) <;> first | assumption | omega | trivial)))
    | (refine And.intro (Ob.out ?_) ?_)
    | (refine WP.block ?_)
    | (refine WP.cond rfl (fun hc => ?_) (fun hc => ?_) <;> (try simp only [ZC, reduceCtorEq, ZD] at hc) <;> (try (exact absurd hc (by decide))) <;> (try (exfalso; omega)))
    | ((first | refine WP.skip ?_ | refine WP.exit ?_); simp only [SeqQ, BlkQ, LoopQ, BodyQ, ↓reduceIte, Nat.reduceEqDiff, reduceCtorEq, look, true_and])
    | (refine WP.ret (Sm.out ?_))
    | (first | refine ExG.no (Sm.out ?_) | refine Or.inl (ExG.no (Sm.out ?_)) | refine Or.inl (And.intro (fun hg => absurd hg (by decide)) (ExG.no (Sm.out ?_))))
    | (refine Rt.mk ?_; refine And.intro ?_ ?_ <;> (intro hg; first | exact absurd hg (by decide) | refine Sm.out ?_))
    | (refine Nu.mk ?_; first | (fail_if_success (have := nb1)); intro nb1 | (fail_if_success (have := nb2)); intro nb2 | (fail_if_success (have := nb3)); intro nb3 | intro nbz)
    | (refine Fr.mk ?_; intro hfr; (first | (have hFRb : _ ≤ _ ∧ _ ≤ _ := And.intro hfr.1 hfr.2.1) | (have hFRb : _ ≤ _ := hfr.1) | skip); replace FR := Sm.mk (And.intro hfr FR.out); clear hfr; refine Sm.out ?_)
    | (refine Two.mk ?_ ?_)
    | (refine Cs.mk ?_; intro hcs; first | exact False.elim hcs | (exfalso; omega) | (refine Sm.out ?_))
    | go_step
    | omega
    | (simp only [maxLen_eq]; omega)
  obtain ⟨l3, hl3⟩ := g
  simp only [List.append_nil]
  have c4 := crash_d a3 hl3 (by omega) 0 2
  first | (have FRx := FR; clear FRx) | (have FR : Sm (¬ ((1 : Nat) = 0)) := Sm.mk Nat.one_ne_zero)
  repeat' first
    | (refine Sm.mk ?_; try simp -dsimp only [ZK, rvc, drawF, headN, pureH, stp, dvc, calleeOf, gcall, pev, eff, newB, okd, og, ogs, ogo, ogp, slv, bltv, opd, litv, strip, one, both, putE, St.put, look, gdOf, gdv, picka, pickv, pickw, binv, bini, bins, binb, binp, binq, isSlT, bina, shp, eqCells, unv, convv, nilv, faddv, addp, idxav, idxp, load1, load1m, loadn, loadnm, loadv, hget, hset, hrep, hdel, slicev, bnd, shift1, lenv, capv, IntKind.bits, extractv, fieldv, indexv, min2v, max2v, mkiv, cellsA, fillA, buildv, stC, oneC, rowMB, intsA, plN, appE, appZ, appC, appNZ, appNC, VwL, srcC, srcZ, srcM, isBoolT, isPtrT, isSliceT, uOk, Value.oneCell', Nat.reducePow, Int.reducePow, Nat.reduceAdd, Nat.reduceMul, Nat.reduceSub, Nat.reduceLT, Nat.reduceLeDiff, Nat.reduceEqDiff, Nat.reduceBEq, Nat.reduceDiv, Nat.reduceMod, ↓reduceIte, reduceCtorEq, Int.reduceToNat, Int.reduceLT, Int.reduceLE, TFBlJ, SeqQ, BlkQ, LoopQ, BodyQ, FR.out])
    | (refine CallV.exM (c4) (pmz _) (fun g => Sm.out ?_))
    | (refine WP.seq fun K hK => ?_)
    | ((fail_if_success (show WP _ _ _ (.region 6 _ _) _ _)); refine WP.region (rvc_sound _ _ (Sm.out ?_)))
    | ((fail_if_success (show WP _ _ _ (.region 6 _ _) _ _)); refine WP.drawK rfl mixed (by decide +kernel) (Sm.out ?_))
    | (refine Ob.mk ?_; focus (first | assumption | omega | decide | trivial | (intro hob; simp only [hob, ZF]; done) | (intros; (repeat' refine And.intro ?_ ?_) <;> first | assumption | omega | trivial | decide) | (intros; simp only [ZE] at *; (repeat' refine And.intro ?_ ?_) <;> first | assumption | omega | trivial)))
    | (refine And.intro (Ob.out ?_) ?_)
    | (refine WP.block ?_)
    | (refine WP.cond rfl (fun hc => ?_) (fun hc => ?_) <;> (try simp only [ZC, reduceCtorEq, ZD] at hc) <;> (try (exact absurd hc (by decide))) <;> (try (exfalso; omega)))
    | ((first | refine WP.skip ?_ | refine WP.exit ?_); simp only [SeqQ, BlkQ, LoopQ, BodyQ, ↓reduceIte, Nat.reduceEqDiff, reduceCtorEq, look, true_and])
    | (refine WP.ret (Sm.out ?_))
    | (first | refine ExG.no (Sm.out ?_) | refine Or.inl (ExG.no (Sm.out ?_)) | refine Or.inl (And.intro (fun hg => absurd hg (by decide)) (ExG.no (Sm.out ?_))))
    | (refine Rt.mk ?_; refine And.intro ?_ ?_ <;> (intro hg; first | exact absurd hg (by decide) | refine Sm.out ?_))
    | (refine Nu.mk ?_; first | (fail_if_success (have := nb1)); intro nb1 | (fail_if_success (have := nb2)); intro nb2 | (fail_if_success (have := nb3)); intro nb3 | intro nbz)
    | (refine Fr.mk ?_; intro hfr; (first | (have hFRb : _ ≤ _ ∧ _ ≤ _ := And.intro hfr.1 hfr.2.1) | (have hFRb : _ ≤ _ := hfr.1) | skip); replace FR := Sm.mk (And.intro hfr FR.out); clear hfr; refine Sm.out ?_)
    | (refine Two.mk ?_ ?_)
    | (refine Cs.mk ?_; intro hcs; first | exact False.elim hcs | (exfalso; omega) | (refine Sm.out ?_))
    | go_step
    | omega
    | (simp only [maxLen_eq]; omega)
  obtain ⟨l4, hl4⟩ := g
  simp only [List.append_nil]
  have c5 := readok_d b k4A l4 a4 hl4 1 (by decide) (by decide)
  have e5 : k4A.S.getD 1 [] = 120 :: 121 :: 99 :: List.replicate 29 0 := by decide +kernel
  rw [e5] at c5
  obtain ⟨z, hz⟩ : ∃ z, z = List.replicate 29 (0 : Int) := ⟨_, rfl⟩
  have lz : z.length = 29 := by rw [hz]; simp
  rw [← hz] at c5
  clear hz
  first | (have FRx := FR; clear FRx) | (have FR : Sm (¬ ((1 : Nat) = 0)) := Sm.mk Nat.one_ne_zero)
  repeat' first
    | (refine Sm.mk ?_; try simp -dsimp only [ZK, rvc, drawF, headN, pureH, stp, dvc, calleeOf, gcall, pev, eff, newB, okd, og, ogs, ogo, ogp, slv, bltv, opd, litv, strip, one, both, putE, St.put, look, gdOf, gdv, picka, pickv, pickw, binv, bini, bins, binb, binp, binq, isSlT, bina, shp, eqCells, unv, convv, nilv, faddv, addp, idxav, idxp, load1, load1m, loadn, loadnm, loadv, hget, hset, hrep, hdel, slicev, bnd, shift1, lenv, capv, IntKind.bits, extractv, fieldv, indexv, min2v, max2v, mkiv, cellsA, fillA, buildv, stC, oneC, rowMB, intsA, plN, appE, appZ, appC, appNZ, appNC, VwL, srcC, srcZ, srcM, isBoolT, isPtrT, isSliceT, uOk, Value.oneCell', Nat.reducePow, Int.reducePow, Nat.reduceAdd, Nat.reduceMul, Nat.reduceSub, Nat.reduceLT, Nat.reduceLeDiff, Nat.reduceEqDiff, Nat.reduceBEq, Nat.reduceDiv, Nat.reduceMod, ↓reduceIte, reduceCtorEq, Int.reduceToNat, Int.reduceLT, Int.reduceLE, TFBlJ, SeqQ, BlkQ, LoopQ, BodyQ, lz, FR.out])
    | (refine CallV.updM (c5) (pmz _) (Sm.out ?_))
    | (refine WP.seq fun K hK => ?_)
    | (refine WP.region (rvc_sound _ _ (Sm.out ?_)))
    | (refine WP.drawK rfl mixed (by decide +kernel) (Sm.out ?_))
    | (refine Ob.mk ?_; focus (first | assumption | omega | decide | trivial | (intro hob; simp only [hob, ZF]; done) | (intros; (repeat' refine And.intro ?_ ?_) <;> first | assumption | omega | trivial | decide) | (intros; simp only [ZE] at *; (repeat' refine And.intro ?_ ?_) <;> first | assumption | omega | trivial)))
    | (refine And.intro (Ob.out ?_) ?_)
    | (refine WP.block ?_)
    | (refine WP.cond rfl (fun hc => ?_) (fun hc => ?_) <;> (try simp only [ZC, reduceCtorEq, ZD] at hc) <;> (try (exact absurd hc (by decide))) <;> (try (exfalso; omega)))
    | ((first | refine WP.skip ?_ | refine WP.exit ?_); simp only [SeqQ, BlkQ, LoopQ, BodyQ, ↓reduceIte, Nat.reduceEqDiff, reduceCtorEq, look, true_and])
    | (refine WP.ret (Sm.out ?_))
    | (first | refine ExG.no (Sm.out ?_) | refine Or.inl (ExG.no (Sm.out ?_)) | refine Or.inl (And.intro (fun hg => absurd hg (by decide)) (ExG.no (Sm.out ?_))))
    | (refine Rt.mk ?_; refine And.intro ?_ ?_ <;> (intro hg; first | exact absurd hg (by decide) | refine Sm.out ?_))
    | (refine Nu.mk ?_; first | (fail_if_success (have := nb1)); intro nb1 | (fail_if_success (have := nb2)); intro nb2 | (fail_if_success (have := nb3)); intro nb3 | intro nbz)
    | (refine Fr.mk ?_; intro hfr; (first | (have hFRb : _ ≤ _ ∧ _ ≤ _ := And.intro hfr.1 hfr.2.1) | (have hFRb : _ ≤ _ := hfr.1) | skip); replace FR := Sm.mk (And.intro hfr FR.out); clear hfr; refine Sm.out ?_)
    | (refine Two.mk ?_ ?_)
    | (refine Cs.mk ?_; intro hcs; first | exact False.elim hcs | (exfalso; omega) | (refine Sm.out ?_))
    | go_step
    | omega
    | (simp only [maxLen_eq]; omega)
  (refine OutQ.all ?_ ?_; (focus (simp only [resv, ZK, look, loadv, loadn, loadnm, load1, load1m, hget, ↓reduceIte, Nat.reduceEqDiff, Nat.reduceAdd, Nat.reduceMul, Nat.reduceLeDiff, Nat.reduceLT, reduceCtorEq, TFBlJ, lz])); (try simp only [resv, resA, Fn, ZK, look, loadv, loadn, loadnm, load1, load1m, hget, ↓reduceIte, Nat.reduceEqDiff, Nat.reduceAdd, Nat.reduceMul, Nat.reduceLeDiff, Nat.reduceLT, reduceCtorEq, TFBlJ, lz]); (try simp [resA, Fn, look, lz]))
end Go.Proofs.Ytnhkohgamnchlaa
namespace Go.Proofs.Ytnhkohgamnchlaa
open Go
set_option linter.unusedVariables false
set_option linter.unusedSimpArgs false
structure Ac where
  kd : Int
  i : Int
  k : Int
  bs : List Int
def acC : List Ac → List AV
  | [] => []
  | e :: r => iv .i64 e.kd :: iv .i64 e.i :: iv .i64 e.k :: .slz .u8 e.bs :: acC r
theorem acC_len : ∀ l, (acC l).length = l.length * 4
  | [] => rfl
  | e :: r => by simp only [acC, List.length_cons, acC_len r]; omega
theorem acC_drop : ∀ (l : List Ac) (i : Nat) (h : i < l.length), (acC l).drop (i * 4) = iv .i64 l[i].kd :: iv .i64 l[i].i :: iv .i64 l[i].k :: .slz .u8 l[i].bs :: acC (l.drop (i + 1))
  | e :: r, 0, _ => rfl
  | e :: r, i + 1, h => by
    have := acC_drop r i (by simpa using h)
    rw [show (i + 1) * 4 = i * 4 + 4 by omega]
    simpa [acC] using this
/-- a fuse of n, and the deeds so far -/
structure FI (n : Int) (a : DA) : Prop where
  f : a.f = if n < 0 then -1 else n - a.de
  d : 0 ≤ n → (a.de : Int) ≤ n
  k : a.dk = true → 0 ≤ n ∧ (a.de : Int) = n
/-- what a step of a fused disk shows -/
structure FStep (n : Int) (a a' : DA) (e : Int) : Prop where
  I : FI n a'
  d : a.dk = true → e = 12
  s : (e = 0 ∧ a'.de = a.de + 1) ∨ (e ≠ 0 ∧ a'.de = a.de)
theorem FI.write {n : Int} {a : DA} (h : FI n a) (i : Int) (zs : List Int) : FStep n a (wrA a i zs) (wrC a i zs.length) := by
  unfold wrA wrC
  by_cases h1 : mayA a i zs.length ≠ 0
  · rw [if_pos h1, if_pos h1]
    refine ⟨h, fun hd => ?_, .inr ⟨h1, rfl⟩⟩
    unfold mayA mayC; rw [hd]; rfl
  · rw [if_neg h1, if_neg h1]
    obtain ⟨hk, i0, i1, i2⟩ := mayC_in (show mayA a i zs.length = 0 by simpa using h1)
    by_cases h2 : a.f = 0
    · rw [if_pos h2, if_pos h2]
      refine ⟨⟨h.f, h.d, fun _ => ?_⟩, fun hd => rfl, .inr ⟨by omega, rfl⟩⟩
      have := h.f
      have := h.d
      split at * <;> simp only <;> omega
    · rw [if_neg h2, if_neg h2]
      have hf := h.f
      have hd := h.d
      refine ⟨⟨?_, fun h0 => ?_, fun hx => ?_⟩, fun hx => ?_, .inl ⟨rfl, rfl⟩⟩
      · simp only [fuseN]; split at hf <;> (repeat' split) <;> omega
      · simp only; split at hf <;> omega
      · simp only at hx; rw [hk] at hx; cases hx
      · rw [hk] at hx; cases hx
theorem FI.sync {n : Int} {a : DA} (h : FI n a) : FStep n a (syA a) (syC a) := by
  unfold syA syC
  by_cases h1 : a.dk = true
  · rw [if_pos h1, if_pos h1]
    exact ⟨h, fun hd => rfl, .inr ⟨by omega, rfl⟩⟩
  · rw [if_neg h1, if_neg h1]
    have hk : a.dk = false := by simpa using h1
    by_cases h2 : a.f = 0
    · rw [if_pos h2, if_pos h2]
      refine ⟨⟨h.f, h.d, fun _ => ?_⟩, fun hd => rfl, .inr ⟨by omega, rfl⟩⟩
      have := h.f
      have := h.d
      split at * <;> simp only <;> omega
    · rw [if_neg h2, if_neg h2]
      have hf := h.f
      have hd := h.d
      refine ⟨⟨?_, fun h0 => ?_, fun hx => ?_⟩, fun hx => ?_, .inl ⟨rfl, rfl⟩⟩
      · simp only [fuseN]; split at hf <;> (repeat' split) <;> omega
      · simp only; split at hf <;> omega
      · simp only at hx; rw [hk] at hx; cases hx
      · rw [hk] at hx; cases hx
theorem FStep.no {n c : Int} {a a' : DA} (h : FStep n a a' c) : ¬ ((((a.dk = true ∧ ¬c = 12 ∨ ¬((c == 0) = ((a'.de : Int) == ((a.de + 1 : Nat) : Int)))) ∨ ¬c = 0 ∧ ¬(a'.de : Int) = (a.de : Int)) ∨ n ≥ 0 ∧ (a'.de : Int) > n) ∨ a'.dk = true ∧ ¬(a'.de : Int) = n) := by
  have h1 := h.d
  have h2 := h.I.d
  have h3 := h.I.k
  rintro ((((⟨x, y⟩ | x) | ⟨x, y⟩) | ⟨x, y⟩) | ⟨x, y⟩)
  · exact y (h1 x)
  · refine x ?_
    rcases h.s with ⟨s1, s2⟩ | ⟨s1, s2⟩
    · rw [s1, s2]; simp
    · rw [s2, show (c == 0) = false by simpa using s1]
      symm; simp; omega
  · rcases h.s with ⟨s1, s2⟩ | ⟨s1, s2⟩
    · exact x s1
    · exact y (by rw [s2])
  · have := h2 x; omega
  · exact y (h3 x).2
structure KG where
  i : Nat
  a : DA
  l : DL
abbrev acTy : Ty := .st [.int .i64, .int .i64, .int .i64, .row .u8]
theorem ac_rows : ∀ (rows : List (List AV)), (∀ r ∈ rows, Shp acTy r) → ∃ L : List Ac, L.length = rows.length ∧ rows.flatten = acC L ∧ ∀ p ∈ L, (-9223372036854775808 ≤ p.i ∧ p.i ≤ 9223372036854775807) ∧ -9223372036854775808 ≤ p.k ∧ p.k ≤ 9223372036854775807
  | [], _ => ⟨[], rfl, rfl, fun p hp => by cases hp⟩
  | r :: rows, h => by
    obtain ⟨L, l1, l2, l3⟩ := ac_rows rows fun x hx => h x (List.mem_cons_of_mem _ hx)
    have h0 := h r (List.mem_cons_self ..)
    simp only [Shp, ShpL] at h0
    obtain ⟨_, _, rfl, ⟨a, rfl, ha⟩, _, _, rfl, ⟨b, rfl, hb⟩, _, _, rfl, ⟨c, rfl, hc⟩, _, _, rfl, ⟨d, rfl, hd⟩, rfl⟩ := h0
    refine ⟨⟨a, b, c, d⟩ :: L, by simp [l1], by simp [l2, acC], fun p hp => ?_⟩
    rcases List.mem_cons.1 hp with rfl | hp
    · exact ⟨wf_i64 hb, wf_i64 hc⟩
    · exact l3 p hp
end Go.Proofs.Ytnhkohgamnchlaa
