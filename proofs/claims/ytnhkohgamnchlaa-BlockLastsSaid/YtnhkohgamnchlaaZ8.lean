/-
  The walks and the laws that the statement leans on, part 8.
-/
import Derived.Test.YtnhkohgamnchlaaZ7
namespace Go.Proofs.Ytnhkohgamnchlaa
open Go
set_option linter.unusedVariables false
set_option linter.unusedSimpArgs false
theorem TFBlL : (((((type_of% tyc3) ∧ ((type_of% zmb3) ∧ (type_of% tyc4))) ∧ (((type_of% zmb4) ∧ (type_of% tyc5)) ∧ ((type_of% zmb5) ∧ (type_of% tyc9)))) ∧ ((((type_of% zmb9) ∧ (type_of% tyc24)) ∧ ((type_of% mth24_27) ∧ (type_of% mth24_26))) ∧ (((type_of% mth24_28) ∧ (type_of% con24)) ∧ ((type_of% zmb24) ∧ (type_of% tyc25))))) ∧ (((((type_of% zmb25) ∧ (type_of% tyc30)) ∧ ((type_of% elt30) ∧ (type_of% mkz30))) ∧ (((type_of% apT30) ∧ (type_of% elk30)) ∧ ((type_of% zmb30) ∧ (type_of% tyc46)))) ∧ ((((type_of% Try.underlying3) ∧ (type_of% Try.underlying4)) ∧ ((type_of% Try.underlying5) ∧ (type_of% Try.underlying9))) ∧ (((type_of% Try.underlying24) ∧ (type_of% Try.underlying25)) ∧ ((type_of% Try.underlying30) ∧ (type_of% Try.underlying46)))))) :=
  ⟨⟨⟨⟨tyc3, ⟨zmb3, tyc4⟩⟩, ⟨⟨zmb4, tyc5⟩, ⟨zmb5, tyc9⟩⟩⟩, ⟨⟨⟨zmb9, tyc24⟩, ⟨mth24_27, mth24_26⟩⟩, ⟨⟨mth24_28, con24⟩, ⟨zmb24, tyc25⟩⟩⟩⟩, ⟨⟨⟨⟨zmb25, tyc30⟩, ⟨elt30, mkz30⟩⟩, ⟨⟨apT30, elk30⟩, ⟨zmb30, tyc46⟩⟩⟩, ⟨⟨⟨Try.underlying3, Try.underlying4⟩, ⟨Try.underlying5, Try.underlying9⟩⟩, ⟨⟨Try.underlying24, Try.underlying25⟩, ⟨Try.underlying30, Try.underlying46⟩⟩⟩⟩⟩
theorem bstr_size (zs : List Int) : (bstr zs).size = zs.length := by simp [bstr, ByteArray.size]
theorem bstr_app (xs ys : List Int) : bstr xs ++ bstr ys = bstr (xs ++ ys) := by
  apply ByteArray.ext
  simp [bstr, ByteArray.data_append]
theorem flat_len {size : Nat} : ∀ (L : List (List Int)), (∀ z ∈ L, z.length = size) → L.flatten.length = L.length * size
  | [], _ => by simp
  | x :: r, h => by
    rw [List.flatten_cons, List.length_append, flat_len r fun z hz => h z (List.mem_cons_of_mem _ hz), h x (List.mem_cons_self ..), List.length_cons, Nat.succ_mul]; omega
theorem all_ct (b : Nat) (a : DA) (l : DL) {c : Nat} (hA : AOk c a) (hl : LOk b a l) (hk : a.dk = false) : ACt Try.prog 15 [pt b 0] (dH b a l) (fun r F' => r = .lit (.string (bstr a.S.flatten)) ∧ F' = dH b a l) := by
  refine ACt.intro Try.func15 rfl (by kernel_rfl) (by simp [Try.ntmps15]) (fun cx => ?_)
  simp only [argE, Try.ntmps15, Try.results15]
  have cB := blocks_d b a l
  first | (have FRx := FR; clear FRx) | (have FR : Sm (¬ ((1 : Nat) = 0)) := Sm.mk Nat.one_ne_zero)
  repeat' first
    | (refine Sm.mk ?_; try simp -dsimp only [ZK, rvc, drawF, headN, pureH, stp, dvc, calleeOf, gcall, pev, eff, newB, okd, og, ogs, ogo, ogp, slv, bltv, opd, litv, strip, one, both, putE, St.put, look, gdOf, gdv, picka, pickv, pickw, binv, bini, bins, binb, binp, binq, isSlT, bina, shp, eqCells, unv, convv, nilv, faddv, addp, idxav, idxp, load1, load1m, loadn, loadnm, loadv, hget, hset, hrep, hdel, slicev, bnd, shift1, lenv, capv, IntKind.bits, extractv, fieldv, indexv, min2v, max2v, mkiv, cellsA, fillA, buildv, stC, oneC, rowMB, intsA, plN, appE, appZ, appC, appNZ, appNC, VwL, srcC, srcZ, srcM, isBoolT, isPtrT, isSliceT, uOk, Value.oneCell', Nat.reducePow, Int.reducePow, Nat.reduceAdd, Nat.reduceMul, Nat.reduceSub, Nat.reduceLT, Nat.reduceLeDiff, Nat.reduceEqDiff, Nat.reduceBEq, Nat.reduceDiv, Nat.reduceMod, ↓reduceIte, reduceCtorEq, Int.reduceToNat, Int.reduceLT, Int.reduceLE, TFBlL, SeqQ, BlkQ, LoopQ, BodyQ, FR.out])
    | (refine WP.seq fun K hK => ?_)
    | (refine WP.region (rvc_sound _ _ (Sm.out ?_)))
    | (refine WP.drawK rfl mixed (by decide +kernel) (Sm.out ?_))
    | (refine Ob.mk ?_; focus (first | assumption | omega | decide | trivial | (intro hob; simp only [hob, ZF]; done) | (intros; (repeat' refine And.intro ?_ ?_) <;> first | assumption | omega | trivial | decide) | (intros; simp only [ZE] at *; (repeat' refine And.intro ?_ ?_) <;> first | assumption | omega | trivial)))
    | (refine And.intro (Ob.out ?_) ?_)
    | (refine WP.block ?_)
    | (refine WP.cond rfl (fun hc => ?_) (fun hc => ?_) <;> (try simp only [ZC, reduceCtorEq, ZD] at hc) <;> (try (exact absurd hc (by decide))) <;> (try (exfalso; omega)))
    | ((first | refine WP.skip ?_ | refine WP.exit ?_); simp only [SeqQ, BlkQ, LoopQ, BodyQ, ↓reduceIte, Nat.reduceEqDiff, reduceCtorEq, look, true_and])
    | (refine WP.ret (Sm.out ?_))
    | (first | refine ExG.no (Sm.out ?_) | refine Or.inl (ExG.no (Sm.out ?_)) | refine Or.inl (And.intro (fun hg => absurd hg (by decide)) (ExG.no (Sm.out ?_))))
    | (refine Rt.mk ?_; refine And.intro ?_ ?_ <;> (intro hg; first | exact absurd hg (by decide) | refine Sm.out ?_))
    | (refine Nu.mk ?_; first | (fail_if_success (have := nb1)); intro nb1 | (fail_if_success (have := nb2)); intro nb2 | (fail_if_success (have := nb3)); intro nb3 | intro nbz)
    | (refine Fr.mk ?_; intro hfr; (first | (have hFRb : _ ≤ _ ∧ _ ≤ _ := And.intro hfr.1 hfr.2.1) | (have hFRb : _ ≤ _ := hfr.1) | skip); replace FR := Sm.mk (And.intro hfr FR.out); clear hfr; refine Sm.out ?_)
    | (refine Two.mk ?_ ?_)
    | (refine Cs.mk ?_; intro hcs; first | exact False.elim hcs | (exfalso; omega) | (refine Sm.out ?_))
    | go_step
    | omega
    | (simp only [maxLen_eq]; omega)
  refine WP.loop (Γ := Nat) (fun i => ⟨[(4, iv .i64 (i : Nat)), (3, .lit (.string (bstr (a.S.take i).flatten))), (0, pt b 0)], dH b a l⟩)
    (fun i => i ≤ a.n) (fun i => a.n - i) 0 (by omega) (Sub.of_env [] (pmz _) (by simp [look, bstr])) ?_
  intro i hi
  have FR : Sm (¬ ((1 : Nat) = 0)) := Sm.mk Nat.one_ne_zero
  by_cases hlt : i < a.n
  · have k1 : decide ((i : Int) < (a.n : Int)) = true := by simp; omega
    have cR := readok_d b a l hA hl i hlt hk
    have w1 : IntKind.i64.wrap ((i : Int) + 1) = ((i + 1 : Nat) : Int) := by have := hA.n2; rw [wrap_i64 (by omega) (by omega)]; omega
    have hs := hA.Sl
    have et : (a.S.take (i + 1)).flatten = (a.S.take i).flatten ++ a.S.getD i [] := by
      rw [List.take_add_one, List.getElem?_eq_getElem (by omega), List.flatten_append, List.getD_eq_getElem?_getD, List.getElem?_eq_getElem (by omega)]
      simp
    have z1 : (a.S.getD i []).length = a.size := by
      rw [List.getD_eq_getElem?_getD, List.getElem?_eq_getElem (by omega)]
      exact hA.Sr _ (List.getElem_mem _)
    have z2 : (a.S.take i).flatten.length = i * a.size := by
      rw [flat_len (size := a.size) _ fun z hz => hA.Sr z (List.mem_of_mem_take hz), List.length_take, Nat.min_eq_left (by omega)]
    have zz : (bstr (a.S.take i).flatten).size + (bstr (a.S.getD i [])).size ≤ 9223372036854775807 := by
      rw [bstr_size, bstr_size, z1, z2]
      have h1 := hA.n2
      have h2 := hA.s2
      have : i * a.size ≤ 400 * 512 := Nat.mul_le_mul (by omega) h2
      omega
    first | (have FRx := FR; clear FRx) | (have FR : Sm (¬ ((1 : Nat) = 0)) := Sm.mk Nat.one_ne_zero)
    repeat' first
      | (refine Sm.mk ?_; try simp -dsimp only [ZK, rvc, drawF, headN, pureH, stp, dvc, calleeOf, gcall, pev, eff, newB, okd, og, ogs, ogo, ogp, slv, bltv, opd, litv, strip, one, both, putE, St.put, look, gdOf, gdv, picka, pickv, pickw, binv, bini, bins, binb, binp, binq, isSlT, bina, shp, eqCells, unv, convv, nilv, faddv, addp, idxav, idxp, load1, load1m, loadn, loadnm, loadv, hget, hset, hrep, hdel, slicev, bnd, shift1, lenv, capv, IntKind.bits, extractv, fieldv, indexv, min2v, max2v, mkiv, cellsA, fillA, buildv, stC, oneC, rowMB, intsA, plN, appE, appZ, appC, appNZ, appNC, VwL, srcC, srcZ, srcM, isBoolT, isPtrT, isSliceT, uOk, Value.oneCell', Nat.reducePow, Int.reducePow, Nat.reduceAdd, Nat.reduceMul, Nat.reduceSub, Nat.reduceLT, Nat.reduceLeDiff, Nat.reduceEqDiff, Nat.reduceBEq, Nat.reduceDiv, Nat.reduceMod, ↓reduceIte, reduceCtorEq, Int.reduceToNat, Int.reduceLT, Int.reduceLE, TFBlL, SeqQ, BlkQ, LoopQ, BodyQ, k1, FR.out])
      | (refine CallV.updM (cB) (pmz _) (Sm.out ?_))
      | ((first | refine ExF.up ?_ (cB) (Sm.out ?_) | refine ExG.up ?_ (fun _ => cB) (Sm.out ?_) | refine ExG.upJ ?_ (fun _ => cB) (Sm.out ?_) | refine ExG.upI ?_ (fun _ => cB) (Ob.out ?_) (Sm.out ?_)); focus (exact ⟨_, (pmz _)⟩))
      | (refine CallV.updM (cR) (pmz _) (Sm.out ?_))
      | ((first | refine ExF.up ?_ (cR) (Sm.out ?_) | refine ExG.up ?_ (fun _ => cR) (Sm.out ?_) | refine ExG.upJ ?_ (fun _ => cR) (Sm.out ?_) | refine ExG.upI ?_ (fun _ => cR) (Ob.out ?_) (Sm.out ?_)); focus (exact ⟨_, (pmz _)⟩))
      | (refine WP.seq fun K hK => ?_)
      | (refine WP.region (rvc_sound _ _ (Sm.out ?_)))
      | (refine WP.drawK rfl mixed (by decide +kernel) (Sm.out ?_))
      | (refine Ob.mk ?_; focus (first | assumption | omega | decide | trivial | (intro hob; simp only [hob, ZF]; done) | (intros; (repeat' refine And.intro ?_ ?_) <;> first | assumption | omega | trivial | decide) | (intros; simp only [ZE] at *; (repeat' refine And.intro ?_ ?_) <;> first | assumption | omega | trivial)))
      | (refine And.intro (Ob.out ?_) ?_)
      | (refine WP.block ?_)
      | (refine WP.cond rfl (fun hc => ?_) (fun hc => ?_) <;> (try simp only [ZC, reduceCtorEq, ZD] at hc) <;> (try (exact absurd hc (by decide))) <;> (try (exfalso; omega)))
      | ((first | refine WP.skip ?_ | refine WP.exit ?_); simp only [SeqQ, BlkQ, LoopQ, BodyQ, ↓reduceIte, Nat.reduceEqDiff, reduceCtorEq, look, true_and])
      | (refine WP.ret (Sm.out ?_))
      | (first | refine ExG.no (Sm.out ?_) | refine Or.inl (ExG.no (Sm.out ?_)) | refine Or.inl (And.intro (fun hg => absurd hg (by decide)) (ExG.no (Sm.out ?_))))
      | (refine Rt.mk ?_; refine And.intro ?_ ?_ <;> (intro hg; first | exact absurd hg (by decide) | refine Sm.out ?_))
      | (refine Nu.mk ?_; first | (fail_if_success (have := nb1)); intro nb1 | (fail_if_success (have := nb2)); intro nb2 | (fail_if_success (have := nb3)); intro nb3 | intro nbz)
      | (refine Fr.mk ?_; intro hfr; (first | (have hFRb : _ ≤ _ ∧ _ ≤ _ := And.intro hfr.1 hfr.2.1) | (have hFRb : _ ≤ _ := hfr.1) | skip); replace FR := Sm.mk (And.intro hfr FR.out); clear hfr; refine Sm.out ?_)
      | (refine Two.mk ?_ ?_)
      | (refine Cs.mk ?_; intro hcs; first | exact False.elim hcs | (exfalso; omega) | (refine Sm.out ?_))
      | go_step
      | omega
      | (simp only [maxLen_eq]; omega)
    exact ⟨i + 1, by omega, by omega, Sub.of_env [] (pmz _) (by simp [look, w1, et, bstr_app])⟩
  · obtain rfl : i = a.n := by omega
    have k1 : decide ((a.n : Int) < (a.n : Int)) = false := by simp
    have et : a.S.take a.n = a.S := List.take_of_length_le (by have := hA.Sl; omega)
    first | (have FRx := FR; clear FRx) | (have FR : Sm (¬ ((1 : Nat) = 0)) := Sm.mk Nat.one_ne_zero)
    repeat' first
      | (refine Sm.mk ?_; try simp -dsimp only [ZK, rvc, drawF, headN, pureH, stp, dvc, calleeOf, gcall, pev, eff, newB, okd, og, ogs, ogo, ogp, slv, bltv, opd, litv, strip, one, both, putE, St.put, look, gdOf, gdv, picka, pickv, pickw, binv, bini, bins, binb, binp, binq, isSlT, bina, shp, eqCells, unv, convv, nilv, faddv, addp, idxav, idxp, load1, load1m, loadn, loadnm, loadv, hget, hset, hrep, hdel, slicev, bnd, shift1, lenv, capv, IntKind.bits, extractv, fieldv, indexv, min2v, max2v, mkiv, cellsA, fillA, buildv, stC, oneC, rowMB, intsA, plN, appE, appZ, appC, appNZ, appNC, VwL, srcC, srcZ, srcM, isBoolT, isPtrT, isSliceT, uOk, Value.oneCell', Nat.reducePow, Int.reducePow, Nat.reduceAdd, Nat.reduceMul, Nat.reduceSub, Nat.reduceLT, Nat.reduceLeDiff, Nat.reduceEqDiff, Nat.reduceBEq, Nat.reduceDiv, Nat.reduceMod, ↓reduceIte, reduceCtorEq, Int.reduceToNat, Int.reduceLT, Int.reduceLE, TFBlL, SeqQ, BlkQ, LoopQ, BodyQ, k1, FR.out])
      | (refine CallV.updM (cB) (pmz _) (Sm.out ?_))
      | ((first | refine ExF.up ?_ (cB) (Sm.out ?_) | refine ExG.up ?_ (fun _ => cB) (Sm.out ?_) | refine ExG.upJ ?_ (fun _ => cB) (Sm.out ?_) | refine ExG.upI ?_ (fun _ => cB) (Ob.out ?_) (Sm.out ?_)); focus (exact ⟨_, (pmz _)⟩))
      | (refine WP.seq fun K hK => ?_)
      | (refine WP.region (rvc_sound _ _ (Sm.out ?_)))
      | (refine WP.drawK rfl mixed (by decide +kernel) (Sm.out ?_))
      | (refine Ob.mk ?_; focus (first | assumption | omega | decide | trivial | (intro hob; simp only [hob, ZF]; done) | (intros; (repeat' refine And.intro ?_ ?_) <;> first | assumption | omega | trivial | decide) | (intros; simp only [ZE] at *; (repeat' refine And.intro ?_ ?_) <;> first | assumption | omega | trivial)))
      | (refine And.intro (Ob.out ?_) ?_)
      | (refine WP.block ?_)
      | (refine WP.cond rfl (fun hc => ?_) (fun hc => ?_) <;> (try simp only [ZC, reduceCtorEq, ZD] at hc) <;> (try (exact absurd hc (by decide))) <;> (try (exfalso; omega)))
      | ((first | refine WP.skip ?_ | refine WP.exit ?_); simp only [SeqQ, BlkQ, LoopQ, BodyQ, ↓reduceIte, Nat.reduceEqDiff, reduceCtorEq, look, true_and])
      | (refine WP.ret (Sm.out ?_))
      | (first | refine ExG.no (Sm.out ?_) | refine Or.inl (ExG.no (Sm.out ?_)) | refine Or.inl (And.intro (fun hg => absurd hg (by decide)) (ExG.no (Sm.out ?_))))
      | (refine Rt.mk ?_; refine And.intro ?_ ?_ <;> (intro hg; first | exact absurd hg (by decide) | refine Sm.out ?_))
      | (refine Nu.mk ?_; first | (fail_if_success (have := nb1)); intro nb1 | (fail_if_success (have := nb2)); intro nb2 | (fail_if_success (have := nb3)); intro nb3 | intro nbz)
      | (refine Fr.mk ?_; intro hfr; (first | (have hFRb : _ ≤ _ ∧ _ ≤ _ := And.intro hfr.1 hfr.2.1) | (have hFRb : _ ≤ _ := hfr.1) | skip); replace FR := Sm.mk (And.intro hfr FR.out); clear hfr; refine Sm.out ?_)
      | (refine Two.mk ?_ ?_)
      | (refine Cs.mk ?_; intro hcs; first | exact False.elim hcs | (exfalso; omega) | (refine Sm.out ?_))
      | go_step
      | omega
      | (simp only [maxLen_eq]; omega)
    (refine OutQ.drop _ _ (pmz _) (by simp only [resv, ZK, look, loadv, loadn, loadnm, load1, load1m, hget, ↓reduceIte, Nat.reduceEqDiff, Nat.reduceAdd, Nat.reduceMul, Nat.reduceLeDiff, Nat.reduceLT, reduceCtorEq, TFBlL, FR.out, et]) ⟨(by simp only [resv, resA, ZK, look, loadv, loadn, loadnm, load1, load1m, hget, ↓reduceIte, Nat.reduceEqDiff, Nat.reduceAdd, Nat.reduceMul, Nat.reduceLeDiff, Nat.reduceLT, reduceCtorEq, TFBlL, FR.out, et]; first | done | rfl), rfl⟩)
end Go.Proofs.Ytnhkohgamnchlaa
