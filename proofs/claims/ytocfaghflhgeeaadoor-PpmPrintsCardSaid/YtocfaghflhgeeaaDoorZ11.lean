/-
  The walks and the laws that the statement leans on, part 11.
-/
import Derived.Test.YtocfaghflhgeeaaDoorZ10
namespace Go.Proofs.YtocfaghflhgeeaaDoor
open Go
set_option linter.unusedVariables false
set_option linter.unusedSimpArgs false
theorem TFStPG : ((((((type_of% tyc3) ∧ (type_of% zmb3)) ∧ ((type_of% tyc4) ∧ ((type_of% zmb4) ∧ (type_of% tyc5)))) ∧ (((type_of% zmb5) ∧ ((type_of% tyc9) ∧ (type_of% zmb9))) ∧ ((type_of% tyc22) ∧ ((type_of% zmb22) ∧ (type_of% tyc23))))) ∧ ((((type_of% zmb23) ∧ ((type_of% tyc26) ∧ (type_of% foff26_0))) ∧ ((type_of% fpart26_0) ∧ ((type_of% foff26_1) ∧ (type_of% fpart26_1)))) ∧ (((type_of% fe26) ∧ ((type_of% zmb26) ∧ (type_of% bldT26))) ∧ ((type_of% tyc27) ∧ ((type_of% zmb27) ∧ (type_of% tyc32)))))) ∧ (((((type_of% elt32) ∧ ((type_of% mkz32) ∧ (type_of% mkc32))) ∧ ((type_of% apT32) ∧ ((type_of% elk32) ∧ (type_of% zmb32)))) ∧ (((type_of% tyc42) ∧ ((type_of% tyc65) ∧ (type_of% elt65))) ∧ ((type_of% mkz65) ∧ ((type_of% apT65) ∧ (type_of% elk65))))) ∧ ((((type_of% zmb65) ∧ ((type_of% Tryd.underlying3) ∧ (type_of% Tryd.underlying4))) ∧ ((type_of% Tryd.underlying5) ∧ ((type_of% Tryd.underlying9) ∧ (type_of% Tryd.underlying22)))) ∧ (((type_of% Tryd.underlying23) ∧ ((type_of% Tryd.underlying26) ∧ (type_of% Tryd.underlying27))) ∧ ((type_of% Tryd.underlying32) ∧ ((type_of% Tryd.underlying42) ∧ (type_of% Tryd.underlying65))))))) :=
  ⟨⟨⟨⟨⟨tyc3, zmb3⟩, ⟨tyc4, ⟨zmb4, tyc5⟩⟩⟩, ⟨⟨zmb5, ⟨tyc9, zmb9⟩⟩, ⟨tyc22, ⟨zmb22, tyc23⟩⟩⟩⟩, ⟨⟨⟨zmb23, ⟨tyc26, foff26_0⟩⟩, ⟨fpart26_0, ⟨foff26_1, fpart26_1⟩⟩⟩, ⟨⟨fe26, ⟨zmb26, bldT26⟩⟩, ⟨tyc27, ⟨zmb27, tyc32⟩⟩⟩⟩⟩, ⟨⟨⟨⟨elt32, ⟨mkz32, mkc32⟩⟩, ⟨apT32, ⟨elk32, zmb32⟩⟩⟩, ⟨⟨tyc42, ⟨tyc65, elt65⟩⟩, ⟨mkz65, ⟨apT65, elk65⟩⟩⟩⟩, ⟨⟨⟨zmb65, ⟨Tryd.underlying3, Tryd.underlying4⟩⟩, ⟨Tryd.underlying5, ⟨Tryd.underlying9, Tryd.underlying22⟩⟩⟩, ⟨⟨Tryd.underlying23, ⟨Tryd.underlying26, Tryd.underlying27⟩⟩, ⟨Tryd.underlying32, ⟨Tryd.underlying42, Tryd.underlying65⟩⟩⟩⟩⟩⟩
theorem rest_bad (p : Nat) (hp : ¬ p ≤ 1000000) : ACt Tryd.prog 12 [iv .u32 (p : Int)] [] (Fn (iv .u32 0)) := by
  have cR := right_ct (p : Int)
  rw [decide_eq_false (by omega)] at cR
  refine ACt.intro Tryd.func12 rfl (by kernel_rfl) (by simp [Tryd.ntmps12]) (fun cx => ?_)
  simp only [argE, Tryd.ntmps12, Tryd.results12]
  first | (have FRx := FR; clear FRx) | (have FR : Sm (¬ ((1 : Nat) = 0)) := Sm.mk Nat.one_ne_zero)
  repeat' first
    | (refine Sm.mk ?_; try simp -dsimp only [ZK, rvc, drawF, headN, pureH, stp, dvc, calleeOf, gcall, pev, eff, newB, okd, og, ogs, ogo, ogp, slv, bltv, opd, litv, strip, one, both, putE, St.put, look, gdOf, gdv, picka, pickv, pickw, binv, bini, bins, binb, binp, binq, isSlT, bina, shp, eqCells, unv, convv, nilv, faddv, addp, idxav, idxp, load1, load1m, loadn, loadnm, loadv, hget, hset, hrep, hdel, slicev, bnd, shift1, lenv, capv, IntKind.bits, extractv, fieldv, indexv, min2v, max2v, mkiv, cellsA, fillA, buildv, stC, oneC, rowMB, intsA, plN, appE, appZ, appC, appNZ, appNC, VwL, srcC, srcZ, srcM, isBoolT, isPtrT, isSliceT, uOk, Value.oneCell', Nat.reducePow, Int.reducePow, Nat.reduceAdd, Nat.reduceMul, Nat.reduceSub, Nat.reduceLT, Nat.reduceLeDiff, Nat.reduceEqDiff, Nat.reduceBEq, Nat.reduceDiv, Nat.reduceMod, ↓reduceIte, reduceCtorEq, Int.reduceToNat, Int.reduceLT, Int.reduceLE, TFStPG, SeqQ, BlkQ, LoopQ, BodyQ, FR.out])
    | (first | refine CallV.fn (cR) (Sm.out ?_) | refine ExF.mk (cR) (Sm.out ?_) | refine ExG.mk (fun _ => cR) (Sm.out ?_) | refine ExG.mkJ (fun _ => cR) (Sm.out ?_) | refine ExG.mkI (Ob.out ?_) (fun _ => cR) (Sm.out ?_))
    | (refine WP.seq fun K hK => ?_)
    | (refine WP.region (rvc_sound _ _ (Sm.out ?_)))
    | (refine WP.drawK rfl mixed (by decide +kernel) (Sm.out ?_))
    | (refine Ob.mk ?_; focus (first | assumption | omega | decide | trivial | (intro hob; simp only [hob, ZF]; done) | (intros; (repeat' refine And.intro ?_ ?_) <;> first | assumption | omega | trivial | decide) | (intros; simp only [ZE] at *; (repeat' refine And.intro ?_ ?_) <;> first | assumption | omega | trivial)))
    | (refine And.intro (Ob.out ?_) ?_)
    | (refine WP.block ?_)
    | (refine WP.cond rfl (fun hc => ?_) (fun hc => ?_) <;> (try simp only [ZC, reduceCtorEq, ZD] at hc) <;> (try (exact absurd hc (by decide))) <;> (try (exfalso; omega)))
    | ((first | refine WP.skip ?_ | refine WP.exit ?_); simp only [SeqQ, BlkQ, LoopQ, BodyQ, ↓reduceIte, Nat.reduceEqDiff, reduceCtorEq, look, true_and])
    | (refine WP.ret (Sm.out ?_))
    | (first | refine ExG.no (Sm.out ?_) | refine Or.inl (ExG.no (Sm.out ?_)) | refine Or.inl (And.intro (fun hg => absurd hg (by decide)) (ExG.no (Sm.out ?_))))
    | (refine Rt.mk ?_; refine And.intro ?_ ?_ <;> (intro hg; first | exact absurd hg (by decide) | refine Sm.out ?_))
    | (refine Nu.mk ?_; first | (fail_if_success (have := nb1)); intro nb1 | (fail_if_success (have := nb2)); intro nb2 | (fail_if_success (have := nb3)); intro nb3 | (fail_if_success (have := nb4)); intro nb4 | (fail_if_success (have := nb5)); intro nb5 | (fail_if_success (have := nb6)); intro nb6 | (fail_if_success (have := nb7)); intro nb7 | (fail_if_success (have := nb8)); intro nb8 | intro nbz)
    | (refine Fr.mk ?_; intro hfr; (first | (have hFRb : _ ≤ _ ∧ _ ≤ _ := And.intro hfr.1 hfr.2.1) | (have hFRb : _ ≤ _ := hfr.1) | skip); replace FR := Sm.mk (And.intro hfr FR.out); clear hfr; refine Sm.out ?_)
    | (refine Two.mk ?_ ?_)
    | (refine Cs.mk ?_; intro hcs; first | exact False.elim hcs | (exfalso; omega) | (refine Sm.out ?_))
    | (refine OutQ.all ?_ ?_; (focus (simp only [resv, ZK, look, loadv, loadn, loadnm, load1, load1m, hget, ↓reduceIte, Nat.reduceEqDiff, Nat.reduceAdd, Nat.reduceMul, Nat.reduceLeDiff, Nat.reduceLT, reduceCtorEq, TFStPG, FR.out])); (try simp only [resv, resA, Fn, ZK, look, loadv, loadn, loadnm, load1, load1m, hget, ↓reduceIte, Nat.reduceEqDiff, Nat.reduceAdd, Nat.reduceMul, Nat.reduceLeDiff, Nat.reduceLT, reduceCtorEq, TFStPG, FR.out]); (try simp [resA, Fn, look, FR.out]); done)
    | go_step
    | omega
    | (simp only [maxLen_eq]; omega)
theorem rprint_bad (p : Nat) (hp : ¬ p ≤ 1000000) : ACt Tryd.prog 21 [iv .u32 (p : Int)] [] (Fn (stz [63])) := by
  have k1 : decide ((p : Int) > 1000000) = true := decide_eq_true (by omega)
  have e : (⟨#[63]⟩ : ByteArray) = bstr [63] := rfl
  refine ACt.intro Tryd.func21 rfl (by kernel_rfl) (by simp [Tryd.ntmps21]) (fun cx => ?_)
  simp only [argE, Tryd.ntmps21, Tryd.results21]
  first | (have FRx := FR; clear FRx) | (have FR : Sm (¬ ((1 : Nat) = 0)) := Sm.mk Nat.one_ne_zero)
  repeat' first
    | (refine Sm.mk ?_; try simp -dsimp only [ZK, rvc, drawF, headN, pureH, stp, dvc, calleeOf, gcall, pev, eff, newB, okd, og, ogs, ogo, ogp, slv, bltv, opd, litv, strip, one, both, putE, St.put, look, gdOf, gdv, picka, pickv, pickw, binv, bini, bins, binb, binp, binq, isSlT, bina, shp, eqCells, unv, convv, nilv, faddv, addp, idxav, idxp, load1, load1m, loadn, loadnm, loadv, hget, hset, hrep, hdel, slicev, bnd, shift1, lenv, capv, IntKind.bits, extractv, fieldv, indexv, min2v, max2v, mkiv, cellsA, fillA, buildv, stC, oneC, rowMB, intsA, plN, appE, appZ, appC, appNZ, appNC, VwL, srcC, srcZ, srcM, isBoolT, isPtrT, isSliceT, uOk, Value.oneCell', Nat.reducePow, Int.reducePow, Nat.reduceAdd, Nat.reduceMul, Nat.reduceSub, Nat.reduceLT, Nat.reduceLeDiff, Nat.reduceEqDiff, Nat.reduceBEq, Nat.reduceDiv, Nat.reduceMod, ↓reduceIte, reduceCtorEq, Int.reduceToNat, Int.reduceLT, Int.reduceLE, TFStPG, SeqQ, BlkQ, LoopQ, BodyQ, k1, e, FR.out])
    | (refine WP.seq fun K hK => ?_)
    | (refine WP.region (rvc_sound _ _ (Sm.out ?_)))
    | (refine WP.drawK rfl mixed (by decide +kernel) (Sm.out ?_))
    | (refine Ob.mk ?_; focus (first | assumption | omega | decide | trivial | (intro hob; simp only [hob, ZF]; done) | (intros; (repeat' refine And.intro ?_ ?_) <;> first | assumption | omega | trivial | decide) | (intros; simp only [ZE] at *; (repeat' refine And.intro ?_ ?_) <;> first | assumption | omega | trivial)))
    | (refine And.intro (Ob.out ?_) ?_)
    | (refine WP.block ?_)
    | (refine WP.cond rfl (fun hc => ?_) (fun hc => ?_) <;> (try simp only [ZC, reduceCtorEq, ZD] at hc) <;> (try (exact absurd hc (by decide))) <;> (try (exfalso; omega)))
    | ((first | refine WP.skip ?_ | refine WP.exit ?_); simp only [SeqQ, BlkQ, LoopQ, BodyQ, ↓reduceIte, Nat.reduceEqDiff, reduceCtorEq, look, true_and])
    | (refine WP.ret (Sm.out ?_))
    | (first | refine ExG.no (Sm.out ?_) | refine Or.inl (ExG.no (Sm.out ?_)) | refine Or.inl (And.intro (fun hg => absurd hg (by decide)) (ExG.no (Sm.out ?_))))
    | (refine Rt.mk ?_; refine And.intro ?_ ?_ <;> (intro hg; first | exact absurd hg (by decide) | refine Sm.out ?_))
    | (refine Nu.mk ?_; first | (fail_if_success (have := nb1)); intro nb1 | (fail_if_success (have := nb2)); intro nb2 | (fail_if_success (have := nb3)); intro nb3 | (fail_if_success (have := nb4)); intro nb4 | (fail_if_success (have := nb5)); intro nb5 | (fail_if_success (have := nb6)); intro nb6 | (fail_if_success (have := nb7)); intro nb7 | (fail_if_success (have := nb8)); intro nb8 | intro nbz)
    | (refine Fr.mk ?_; intro hfr; (first | (have hFRb : _ ≤ _ ∧ _ ≤ _ := And.intro hfr.1 hfr.2.1) | (have hFRb : _ ≤ _ := hfr.1) | skip); replace FR := Sm.mk (And.intro hfr FR.out); clear hfr; refine Sm.out ?_)
    | (refine Two.mk ?_ ?_)
    | (refine Cs.mk ?_; intro hcs; first | exact False.elim hcs | (exfalso; omega) | (refine Sm.out ?_))
    | go_step
    | omega
    | (simp only [maxLen_eq]; omega)
  (refine OutQ.all ?_ ?_; (focus (simp only [resv, ZK, look, loadv, loadn, loadnm, load1, load1m, hget, ↓reduceIte, Nat.reduceEqDiff, Nat.reduceAdd, Nat.reduceMul, Nat.reduceLeDiff, Nat.reduceLT, reduceCtorEq, TFStPG, FR.out])); (try simp only [resv, resA, Fn, ZK, look, loadv, loadn, loadnm, load1, load1m, hget, ↓reduceIte, Nat.reduceEqDiff, Nat.reduceAdd, Nat.reduceMul, Nat.reduceLeDiff, Nat.reduceLT, reduceCtorEq, TFStPG, FR.out]); (try simp [resA, Fn, look, FR.out]))
theorem rprint_all (p : Nat) : ACt Tryd.prog 21 [iv .u32 (p : Int)] [] (Fn (stz (prP p))) := by
  by_cases hp : p ≤ 1000000
  · have := rprint_ct p hp
    rw [print_eq p hp] at this
    exact this
  · have e : prP p = [63] := by unfold prP; rw [if_neg hp]
    rw [e]; exact rprint_bad p hp
theorem By.app {xs ys : List Int} (h1 : By xs) (h2 : By ys) : By (xs ++ ys) := fun i hi => by
  rw [List.length_append] at hi
  by_cases h : i < xs.length
  · have := h1 i h
    simpa [List.getD_eq_getElem?_getD, List.getElem?_append_left h] using this
  · have := h2 (i - xs.length) (by omega)
    simpa [List.getD_eq_getElem?_getD, List.getElem?_append_right (show xs.length ≤ i by omega)] using this
theorem By.one {c : Int} (h : 0 ≤ c ∧ c ≤ 255) : By [c] := fun i hi => by
  have : i = 0 := by simp at hi; omega
  subst this; simpa using h
theorem dgp_len (q : Nat) : (dgp q).length ≤ 3 := by unfold dgp dgs; (repeat' split) <;> simp
theorem prP_by (p : Nat) : By (prP p) ∧ (prP p).length ≤ 1000 := by
  by_cases hp : p ≤ 1000000
  · have b1 : By (dgp (p / 10000)) := digZ_by (dgp_all (p / 10000) (by omega)).1.2.1
    have l1 := dgp_len (p / 10000)
    unfold prP
    rw [if_pos hp]
    split
    · exact ⟨b1.app (By.one (by decide)), by rw [List.length_append]; simp; omega⟩
    · rename_i h0
      have e : dgs (p / 10000) = dgp (p / 10000) := by unfold dgp; rw [if_neg (by omega)]
      have b2 : By (tr4 (p % 10000)) := digZ_by (tr4_dig (by omega))
      have l2 := tr4_len (p % 10000)
      rw [e]
      exact ⟨(b1.app ((By.one (c := 46) (by decide)).app b2)).app (By.one (by decide)), by simp only [List.length_append, List.length_cons, List.length_nil]; omega⟩
  · unfold prP
    rw [if_neg hp]
    exact ⟨By.one (by decide), by decide⟩
set_option maxRecDepth 8000 in
set_option maxHeartbeats 4000000 in
theorem prints_ct (n0 : Nat) (p : Nat) (zs : List Int) (hb : By zs) : ACt Tryd.prog 5 [iv .u32 (p : Int), stz zs] (GG n0) (fun r F' => r = bv true ∧ F' = GG n0) := by
  have cA := awake_ct n0
  have p1 := print_ct n0 p
  obtain ⟨ib, il⟩ := prP_by p
  have r1 := rdP_ct (prP p) ib il
  rw [rd_prP] at r1
  have p3 := rprint_all p
  have c9 := right_ct (p : Int)
  obtain ⟨P, hP⟩ : ∃ P, P = bstr (prP p) := ⟨_, rfl⟩
  unfold stz at p1 r1 p3 ⊢
  rw [← hP] at p1 r1 p3
  refine ACt.intro Tryd.func5 rfl (by kernel_rfl) (by simp [Tryd.ntmps5]) (fun cx => ?_)
  simp only [argE, Tryd.ntmps5, Tryd.results5, GG, p10] at cA p1 ⊢
  have hs := bstr_size zs
  by_cases hl : 200 < zs.length
  · have k0 : decide ((zs.length : Int) > 200) = true := decide_eq_true (by omega)
    first | (have FRx := FR; clear FRx) | (have FR : Sm (¬ ((1 : Nat) = 0)) := Sm.mk Nat.one_ne_zero)
    repeat' first
      | (refine Sm.mk ?_; try simp -dsimp only [ZK, rvc, drawF, headN, pureH, stp, dvc, calleeOf, gcall, pev, eff, newB, okd, og, ogs, ogo, ogp, slv, bltv, opd, litv, strip, one, both, putE, St.put, look, gdOf, gdv, picka, pickv, pickw, binv, bini, bins, binb, binp, binq, isSlT, bina, shp, eqCells, unv, convv, nilv, faddv, addp, idxav, idxp, load1, load1m, loadn, loadnm, loadv, hget, hset, hrep, hdel, slicev, bnd, shift1, lenv, capv, IntKind.bits, extractv, fieldv, indexv, min2v, max2v, mkiv, cellsA, fillA, buildv, stC, oneC, rowMB, intsA, plN, appE, appZ, appC, appNZ, appNC, VwL, srcC, srcZ, srcM, isBoolT, isPtrT, isSliceT, uOk, Value.oneCell', Nat.reducePow, Int.reducePow, Nat.reduceAdd, Nat.reduceMul, Nat.reduceSub, Nat.reduceLT, Nat.reduceLeDiff, Nat.reduceEqDiff, Nat.reduceBEq, Nat.reduceDiv, Nat.reduceMod, ↓reduceIte, reduceCtorEq, Int.reduceToNat, Int.reduceLT, Int.reduceLE, TFStPG, SeqQ, BlkQ, LoopQ, BodyQ, hs, k0, FR.out])
      | (refine CallV.updM (cA) (perm1 (by simp only [hget, hdel, ↓reduceIte, FR.out, hs, k0]; first | done | rfl)) (Sm.out ?_))
      | ((first | refine ExF.up ?_ (cA) (Sm.out ?_) | refine ExG.up ?_ (fun _ => cA) (Sm.out ?_) | refine ExG.upJ ?_ (fun _ => cA) (Sm.out ?_) | refine ExG.upI ?_ (fun _ => cA) (Ob.out ?_) (Sm.out ?_)); focus (exact ⟨_, (perm1 (by simp only [hget, hdel, ↓reduceIte, FR.out, hs, k0]; first | done | rfl))⟩))
      | (refine WP.seq fun K hK => ?_)
      | (refine WP.region (rvc_sound _ _ (Sm.out ?_)))
      | (refine WP.drawK rfl mixed (by decide +kernel) (Sm.out ?_))
      | (refine Ob.mk ?_; focus (first | assumption | omega | decide | trivial | (intro hob; simp only [hob, ZF]; done) | (intros; (repeat' refine And.intro ?_ ?_) <;> first | assumption | omega | trivial | decide) | (intros; simp only [ZE] at *; (repeat' refine And.intro ?_ ?_) <;> first | assumption | omega | trivial)))
      | (refine And.intro (Ob.out ?_) ?_)
      | (refine WP.block ?_)
      | (refine WP.cond rfl (fun hc => ?_) (fun hc => ?_) <;> (try simp only [ZC, reduceCtorEq, ZD] at hc) <;> (try (exact absurd hc (by decide))) <;> (try (exfalso; omega)))
      | ((first | refine WP.skip ?_ | refine WP.exit ?_); simp only [SeqQ, BlkQ, LoopQ, BodyQ, ↓reduceIte, Nat.reduceEqDiff, reduceCtorEq, look, true_and])
      | (refine WP.ret (Sm.out ?_))
      | (first | refine ExG.no (Sm.out ?_) | refine Or.inl (ExG.no (Sm.out ?_)) | refine Or.inl (And.intro (fun hg => absurd hg (by decide)) (ExG.no (Sm.out ?_))))
      | (refine Rt.mk ?_; refine And.intro ?_ ?_ <;> (intro hg; first | exact absurd hg (by decide) | refine Sm.out ?_))
      | (refine Nu.mk ?_; first | (fail_if_success (have := nb1)); intro nb1 | (fail_if_success (have := nb2)); intro nb2 | (fail_if_success (have := nb3)); intro nb3 | (fail_if_success (have := nb4)); intro nb4 | (fail_if_success (have := nb5)); intro nb5 | (fail_if_success (have := nb6)); intro nb6 | (fail_if_success (have := nb7)); intro nb7 | (fail_if_success (have := nb8)); intro nb8 | intro nbz)
      | (refine Fr.mk ?_; intro hfr; (first | (have hFRb : _ ≤ _ ∧ _ ≤ _ := And.intro hfr.1 hfr.2.1) | (have hFRb : _ ≤ _ := hfr.1) | skip); replace FR := Sm.mk (And.intro hfr FR.out); clear hfr; refine Sm.out ?_)
      | (refine Two.mk ?_ ?_)
      | (refine Cs.mk ?_; intro hcs; first | exact False.elim hcs | (exfalso; omega) | (refine Sm.out ?_))
      | go_step
      | omega
      | (simp only [maxLen_eq]; omega)
    (refine OutQ.upd (by simp only [resv, ZK, look, loadv, loadn, loadnm, load1, load1m, hget, ↓reduceIte, Nat.reduceEqDiff, Nat.reduceAdd, Nat.reduceMul, Nat.reduceLeDiff, Nat.reduceLT, reduceCtorEq, TFStPG, FR.out]) (by simp only [resv, resA, ZK, look, loadv, loadn, loadnm, load1, load1m, hget, ↓reduceIte, Nat.reduceEqDiff, Nat.reduceAdd, Nat.reduceMul, Nat.reduceLeDiff, Nat.reduceLT, reduceCtorEq, TFStPG, FR.out]; first | done | rfl) (by simp only [hget, ↓reduceIte, if_true, if_false, FR.out]; first | done | rfl) ?_ <;> first | exact rfl | (simp only [ZK, look, loadv, loadn, loadnm, load1, load1m, hget, ↓reduceIte, Nat.reduceEqDiff, Nat.reduceAdd, Nat.reduceMul, Nat.reduceLeDiff, Nat.reduceLT, reduceCtorEq, TFStPG, FR.out]; done) | skip)
  have k0 : decide ((zs.length : Int) > 200) = false := decide_eq_false (by omega)
  have r2 := rdP_ct zs hb (by omega)
  have r3 := rdR_ct zs hb (by omega)
  have y1 : ∀ x : List UInt8, (x == x) = true := fun x => beq_self_eq_true x
  have y2 : ∀ x : Int, (x == x) = true := fun x => beq_self_eq_true x
  obtain ⟨S, hS⟩ : ∃ S, S = bstr zs := ⟨_, rfl⟩
  have hw : (∃ v : Nat, v ≤ 1000000 ∧ rdP zs = rgood (v : Int) ∧ bstr (prP v) = S) ∨ ∃ c : Int, c ≠ 0 ∧ rdP zs = rbad c := by
    rcases rd_text zs with ⟨v, h1, e1, e2⟩ | h
    · exact .inl ⟨v, h1, e1, by rw [e2, hS]⟩
    · exact .inr h
  unfold stz at r2 r3
  rw [← hS] at r2 r3 hs ⊢
  by_cases hp : p ≤ 1000000
  · rw [if_pos hp] at r1
    have cR := rest_ct p hp
    have kp : decide ((p : Int) > 1000000) = false := decide_eq_false (by omega)
    have kq : decide ((p : Int) ≤ 1000000) = true := decide_eq_true (by omega)
    have wr : IntKind.u32.wrap (1000000 - (p : Int)) = ((1000000 - p : Nat) : Int) := by rw [wrap_u32 (by omega) (by omega)]; omega
    obtain ⟨d, hd⟩ : ∃ d, d = 1000000 - p := ⟨_, rfl⟩
    rw [← hd] at cR wr
    rcases hw with ⟨v, hv, e1, e2⟩ | ⟨c, hc0, e1⟩
    · rw [e1] at r2 r3
      have p2 := print_ct n0 v
      unfold stz at p2
      rw [e2] at p2
      simp only [GG, p10] at p2
      first | (have FRx := FR; clear FRx) | (have FR : Sm (¬ ((1 : Nat) = 0)) := Sm.mk Nat.one_ne_zero)
      repeat' first
        | (refine Sm.mk ?_; try simp -dsimp only [ZK, rvc, drawF, headN, pureH, stp, dvc, calleeOf, gcall, pev, eff, newB, okd, og, ogs, ogo, ogp, slv, bltv, opd, litv, strip, one, both, putE, St.put, look, gdOf, gdv, picka, pickv, pickw, binv, bini, bins, binb, binp, binq, isSlT, bina, shp, eqCells, unv, convv, nilv, faddv, addp, idxav, idxp, load1, load1m, loadn, loadnm, loadv, hget, hset, hrep, hdel, slicev, bnd, shift1, lenv, capv, IntKind.bits, extractv, fieldv, indexv, min2v, max2v, mkiv, cellsA, fillA, buildv, stC, oneC, rowMB, intsA, plN, appE, appZ, appC, appNZ, appNC, VwL, srcC, srcZ, srcM, isBoolT, isPtrT, isSliceT, uOk, Value.oneCell', Nat.reducePow, Int.reducePow, Nat.reduceAdd, Nat.reduceMul, Nat.reduceSub, Nat.reduceLT, Nat.reduceLeDiff, Nat.reduceEqDiff, Nat.reduceBEq, Nat.reduceDiv, Nat.reduceMod, ↓reduceIte, reduceCtorEq, Int.reduceToNat, Int.reduceLT, Int.reduceLE, TFStPG, SeqQ, BlkQ, LoopQ, BodyQ, k0, hs, y1, y2, kp, kq, wr, FR.out])
        | (refine CallV.updM (cA) (perm1 (by simp only [hget, hdel, ↓reduceIte, FR.out, k0, hs, y1, y2, kp, kq, wr]; first | done | rfl)) (Sm.out ?_))
        | ((first | refine ExF.up ?_ (cA) (Sm.out ?_) | refine ExG.up ?_ (fun _ => cA) (Sm.out ?_) | refine ExG.upJ ?_ (fun _ => cA) (Sm.out ?_) | refine ExG.upI ?_ (fun _ => cA) (Ob.out ?_) (Sm.out ?_)); focus (exact ⟨_, (perm1 (by simp only [hget, hdel, ↓reduceIte, FR.out, k0, hs, y1, y2, kp, kq, wr]; first | done | rfl))⟩))
        | (refine CallV.updM (p1) (perm1 (by simp only [hget, hdel, ↓reduceIte, FR.out, k0, hs, y1, y2, kp, kq, wr]; first | done | rfl)) (Sm.out ?_))
        | ((first | refine ExF.up ?_ (p1) (Sm.out ?_) | refine ExG.up ?_ (fun _ => p1) (Sm.out ?_) | refine ExG.upJ ?_ (fun _ => p1) (Sm.out ?_) | refine ExG.upI ?_ (fun _ => p1) (Ob.out ?_) (Sm.out ?_)); focus (exact ⟨_, (perm1 (by simp only [hget, hdel, ↓reduceIte, FR.out, k0, hs, y1, y2, kp, kq, wr]; first | done | rfl))⟩))
        | (first | refine CallV.fn (r1) (Sm.out ?_) | refine ExF.mk (r1) (Sm.out ?_) | refine ExG.mk (fun _ => r1) (Sm.out ?_) | refine ExG.mkJ (fun _ => r1) (Sm.out ?_) | refine ExG.mkI (Ob.out ?_) (fun _ => r1) (Sm.out ?_))
        | (first | refine CallV.fn (r2) (Sm.out ?_) | refine ExF.mk (r2) (Sm.out ?_) | refine ExG.mk (fun _ => r2) (Sm.out ?_) | refine ExG.mkJ (fun _ => r2) (Sm.out ?_) | refine ExG.mkI (Ob.out ?_) (fun _ => r2) (Sm.out ?_))
        | (first | refine CallV.fn (r3) (Sm.out ?_) | refine ExF.mk (r3) (Sm.out ?_) | refine ExG.mk (fun _ => r3) (Sm.out ?_) | refine ExG.mkJ (fun _ => r3) (Sm.out ?_) | refine ExG.mkI (Ob.out ?_) (fun _ => r3) (Sm.out ?_))
        | (first | refine CallV.fn (p3) (Sm.out ?_) | refine ExF.mk (p3) (Sm.out ?_) | refine ExG.mk (fun _ => p3) (Sm.out ?_) | refine ExG.mkJ (fun _ => p3) (Sm.out ?_) | refine ExG.mkI (Ob.out ?_) (fun _ => p3) (Sm.out ?_))
        | (first | refine CallV.fn (c9) (Sm.out ?_) | refine ExF.mk (c9) (Sm.out ?_) | refine ExG.mk (fun _ => c9) (Sm.out ?_) | refine ExG.mkJ (fun _ => c9) (Sm.out ?_) | refine ExG.mkI (Ob.out ?_) (fun _ => c9) (Sm.out ?_))
        | (refine CallV.updM (p2) (perm1 (by simp only [hget, hdel, ↓reduceIte, FR.out, k0, hs, y1, y2, kp, kq, wr]; first | done | rfl)) (Sm.out ?_))
        | ((first | refine ExF.up ?_ (p2) (Sm.out ?_) | refine ExG.up ?_ (fun _ => p2) (Sm.out ?_) | refine ExG.upJ ?_ (fun _ => p2) (Sm.out ?_) | refine ExG.upI ?_ (fun _ => p2) (Ob.out ?_) (Sm.out ?_)); focus (exact ⟨_, (perm1 (by simp only [hget, hdel, ↓reduceIte, FR.out, k0, hs, y1, y2, kp, kq, wr]; first | done | rfl))⟩))
        | (first | refine CallV.fn (cR) (Sm.out ?_) | refine ExF.mk (cR) (Sm.out ?_) | refine ExG.mk (fun _ => cR) (Sm.out ?_) | refine ExG.mkJ (fun _ => cR) (Sm.out ?_) | refine ExG.mkI (Ob.out ?_) (fun _ => cR) (Sm.out ?_))
        | (refine WP.seq fun K hK => ?_)
        | (refine WP.region (rvc_sound _ _ (Sm.out ?_)))
        | (refine WP.drawK rfl mixed (by decide +kernel) (Sm.out ?_))
        | (refine Ob.mk ?_; focus (first | assumption | omega | decide | trivial | (intro hob; simp only [hob, ZF]; done) | (intros; (repeat' refine And.intro ?_ ?_) <;> first | assumption | omega | trivial | decide) | (intros; simp only [ZE] at *; (repeat' refine And.intro ?_ ?_) <;> first | assumption | omega | trivial)))
        | (refine And.intro (Ob.out ?_) ?_)
        | (refine WP.block ?_)
        | (refine WP.cond rfl (fun hc => ?_) (fun hc => ?_) <;> (try simp only [ZC, reduceCtorEq, ZD] at hc) <;> (try (exact absurd hc (by decide))) <;> (try (exfalso; omega)))
        | ((first | refine WP.skip ?_ | refine WP.exit ?_); simp only [SeqQ, BlkQ, LoopQ, BodyQ, ↓reduceIte, Nat.reduceEqDiff, reduceCtorEq, look, true_and])
        | (refine WP.ret (Sm.out ?_))
        | (first | refine ExG.no (Sm.out ?_) | refine Or.inl (ExG.no (Sm.out ?_)) | refine Or.inl (And.intro (fun hg => absurd hg (by decide)) (ExG.no (Sm.out ?_))))
        | (refine Rt.mk ?_; refine And.intro ?_ ?_ <;> (intro hg; first | exact absurd hg (by decide) | refine Sm.out ?_))
        | (refine Nu.mk ?_; first | (fail_if_success (have := nb1)); intro nb1 | (fail_if_success (have := nb2)); intro nb2 | (fail_if_success (have := nb3)); intro nb3 | (fail_if_success (have := nb4)); intro nb4 | (fail_if_success (have := nb5)); intro nb5 | (fail_if_success (have := nb6)); intro nb6 | (fail_if_success (have := nb7)); intro nb7 | (fail_if_success (have := nb8)); intro nb8 | intro nbz)
        | (refine Fr.mk ?_; intro hfr; (first | (have hFRb : _ ≤ _ ∧ _ ≤ _ := And.intro hfr.1 hfr.2.1) | (have hFRb : _ ≤ _ := hfr.1) | skip); replace FR := Sm.mk (And.intro hfr FR.out); clear hfr; refine Sm.out ?_)
        | (refine Two.mk ?_ ?_)
        | (refine Cs.mk ?_; intro hcs; first | exact False.elim hcs | (exfalso; omega) | (refine Sm.out ?_))
        | go_step
        | omega
        | (simp only [maxLen_eq]; omega)
      (refine OutQ.upd (by simp only [resv, ZK, look, loadv, loadn, loadnm, load1, load1m, hget, ↓reduceIte, Nat.reduceEqDiff, Nat.reduceAdd, Nat.reduceMul, Nat.reduceLeDiff, Nat.reduceLT, reduceCtorEq, TFStPG, FR.out]) (by simp only [resv, resA, ZK, look, loadv, loadn, loadnm, load1, load1m, hget, ↓reduceIte, Nat.reduceEqDiff, Nat.reduceAdd, Nat.reduceMul, Nat.reduceLeDiff, Nat.reduceLT, reduceCtorEq, TFStPG, FR.out]; first | done | rfl) (by simp only [hget, ↓reduceIte, if_true, if_false, FR.out]; first | done | rfl) ?_ <;> first | exact rfl | (simp only [ZK, look, loadv, loadn, loadnm, load1, load1m, hget, ↓reduceIte, Nat.reduceEqDiff, Nat.reduceAdd, Nat.reduceMul, Nat.reduceLeDiff, Nat.reduceLT, reduceCtorEq, TFStPG, FR.out]; done) | skip)
    · rw [e1] at r2 r3
      have k1 : (c == 0) = false := by simpa using hc0
      have k2 : (c != 0) = true := by simpa using hc0
      first | (have FRx := FR; clear FRx) | (have FR : Sm (¬ ((1 : Nat) = 0)) := Sm.mk Nat.one_ne_zero)
      repeat' first
        | (refine Sm.mk ?_; try simp -dsimp only [ZK, rvc, drawF, headN, pureH, stp, dvc, calleeOf, gcall, pev, eff, newB, okd, og, ogs, ogo, ogp, slv, bltv, opd, litv, strip, one, both, putE, St.put, look, gdOf, gdv, picka, pickv, pickw, binv, bini, bins, binb, binp, binq, isSlT, bina, shp, eqCells, unv, convv, nilv, faddv, addp, idxav, idxp, load1, load1m, loadn, loadnm, loadv, hget, hset, hrep, hdel, slicev, bnd, shift1, lenv, capv, IntKind.bits, extractv, fieldv, indexv, min2v, max2v, mkiv, cellsA, fillA, buildv, stC, oneC, rowMB, intsA, plN, appE, appZ, appC, appNZ, appNC, VwL, srcC, srcZ, srcM, isBoolT, isPtrT, isSliceT, uOk, Value.oneCell', Nat.reducePow, Int.reducePow, Nat.reduceAdd, Nat.reduceMul, Nat.reduceSub, Nat.reduceLT, Nat.reduceLeDiff, Nat.reduceEqDiff, Nat.reduceBEq, Nat.reduceDiv, Nat.reduceMod, ↓reduceIte, reduceCtorEq, Int.reduceToNat, Int.reduceLT, Int.reduceLE, TFStPG, SeqQ, BlkQ, LoopQ, BodyQ, k0, hs, y1, y2, k1, k2, kp, kq, wr, FR.out])
        | (refine CallV.updM (cA) (perm1 (by simp only [hget, hdel, ↓reduceIte, FR.out, k0, hs, y1, y2, k1, k2, kp, kq, wr]; first | done | rfl)) (Sm.out ?_))
        | ((first | refine ExF.up ?_ (cA) (Sm.out ?_) | refine ExG.up ?_ (fun _ => cA) (Sm.out ?_) | refine ExG.upJ ?_ (fun _ => cA) (Sm.out ?_) | refine ExG.upI ?_ (fun _ => cA) (Ob.out ?_) (Sm.out ?_)); focus (exact ⟨_, (perm1 (by simp only [hget, hdel, ↓reduceIte, FR.out, k0, hs, y1, y2, k1, k2, kp, kq, wr]; first | done | rfl))⟩))
        | (refine CallV.updM (p1) (perm1 (by simp only [hget, hdel, ↓reduceIte, FR.out, k0, hs, y1, y2, k1, k2, kp, kq, wr]; first | done | rfl)) (Sm.out ?_))
        | ((first | refine ExF.up ?_ (p1) (Sm.out ?_) | refine ExG.up ?_ (fun _ => p1) (Sm.out ?_) | refine ExG.upJ ?_ (fun _ => p1) (Sm.out ?_) | refine ExG.upI ?_ (fun _ => p1) (Ob.out ?_) (Sm.out ?_)); focus (exact ⟨_, (perm1 (by simp only [hget, hdel, ↓reduceIte, FR.out, k0, hs, y1, y2, k1, k2, kp, kq, wr]; first | done | rfl))⟩))
        | (first | refine CallV.fn (r1) (Sm.out ?_) | refine ExF.mk (r1) (Sm.out ?_) | refine ExG.mk (fun _ => r1) (Sm.out ?_) | refine ExG.mkJ (fun _ => r1) (Sm.out ?_) | refine ExG.mkI (Ob.out ?_) (fun _ => r1) (Sm.out ?_))
        | (first | refine CallV.fn (r2) (Sm.out ?_) | refine ExF.mk (r2) (Sm.out ?_) | refine ExG.mk (fun _ => r2) (Sm.out ?_) | refine ExG.mkJ (fun _ => r2) (Sm.out ?_) | refine ExG.mkI (Ob.out ?_) (fun _ => r2) (Sm.out ?_))
        | (first | refine CallV.fn (r3) (Sm.out ?_) | refine ExF.mk (r3) (Sm.out ?_) | refine ExG.mk (fun _ => r3) (Sm.out ?_) | refine ExG.mkJ (fun _ => r3) (Sm.out ?_) | refine ExG.mkI (Ob.out ?_) (fun _ => r3) (Sm.out ?_))
        | (first | refine CallV.fn (p3) (Sm.out ?_) | refine ExF.mk (p3) (Sm.out ?_) | refine ExG.mk (fun _ => p3) (Sm.out ?_) | refine ExG.mkJ (fun _ => p3) (Sm.out ?_) | refine ExG.mkI (Ob.out ?_) (fun _ => p3) (Sm.out ?_))
        | (first | refine CallV.fn (c9) (Sm.out ?_) | refine ExF.mk (c9) (Sm.out ?_) | refine ExG.mk (fun _ => c9) (Sm.out ?_) | refine ExG.mkJ (fun _ => c9) (Sm.out ?_) | refine ExG.mkI (Ob.out ?_) (fun _ => c9) (Sm.out ?_))
        | (first | refine CallV.fn (cR) (Sm.out ?_) | refine ExF.mk (cR) (Sm.out ?_) | refine ExG.mk (fun _ => cR) (Sm.out ?_) | refine ExG.mkJ (fun _ => cR) (Sm.out ?_) | refine ExG.mkI (Ob.out ?_) (fun _ => cR) (Sm.out ?_))
        | (refine WP.seq fun K hK => ?_)
        | (refine WP.region (rvc_sound _ _ (Sm.out ?_)))
        | (refine WP.drawK rfl mixed (by decide +kernel) (Sm.out ?_))
        | (refine Ob.mk ?_; focus (first | assumption | omega | decide | trivial | (intro hob; simp only [hob, ZF]; done) | (intros; (repeat' refine And.intro ?_ ?_) <;> first | assumption | omega | trivial | decide) | (intros; simp only [ZE] at *; (repeat' refine And.intro ?_ ?_) <;> first | assumption | omega | trivial)))
        | (refine And.intro (Ob.out ?_) ?_)
        | (refine WP.block ?_)
        | (refine WP.cond rfl (fun hc => ?_) (fun hc => ?_) <;> (try simp only [ZC, reduceCtorEq, ZD] at hc) <;> (try (exact absurd hc (by decide))) <;> (try (exfalso; omega)))
        | ((first | refine WP.skip ?_ | refine WP.exit ?_); simp only [SeqQ, BlkQ, LoopQ, BodyQ, ↓reduceIte, Nat.reduceEqDiff, reduceCtorEq, look, true_and])
        | (refine WP.ret (Sm.out ?_))
        | (first | refine ExG.no (Sm.out ?_) | refine Or.inl (ExG.no (Sm.out ?_)) | refine Or.inl (And.intro (fun hg => absurd hg (by decide)) (ExG.no (Sm.out ?_))))
        | (refine Rt.mk ?_; refine And.intro ?_ ?_ <;> (intro hg; first | exact absurd hg (by decide) | refine Sm.out ?_))
        | (refine Nu.mk ?_; first | (fail_if_success (have := nb1)); intro nb1 | (fail_if_success (have := nb2)); intro nb2 | (fail_if_success (have := nb3)); intro nb3 | (fail_if_success (have := nb4)); intro nb4 | (fail_if_success (have := nb5)); intro nb5 | (fail_if_success (have := nb6)); intro nb6 | (fail_if_success (have := nb7)); intro nb7 | (fail_if_success (have := nb8)); intro nb8 | intro nbz)
        | (refine Fr.mk ?_; intro hfr; (first | (have hFRb : _ ≤ _ ∧ _ ≤ _ := And.intro hfr.1 hfr.2.1) | (have hFRb : _ ≤ _ := hfr.1) | skip); replace FR := Sm.mk (And.intro hfr FR.out); clear hfr; refine Sm.out ?_)
        | (refine Two.mk ?_ ?_)
        | (refine Cs.mk ?_; intro hcs; first | exact False.elim hcs | (exfalso; omega) | (refine Sm.out ?_))
        | go_step
        | omega
        | (simp only [maxLen_eq]; omega)
      (refine OutQ.upd (by simp only [resv, ZK, look, loadv, loadn, loadnm, load1, load1m, hget, ↓reduceIte, Nat.reduceEqDiff, Nat.reduceAdd, Nat.reduceMul, Nat.reduceLeDiff, Nat.reduceLT, reduceCtorEq, TFStPG, FR.out]) (by simp only [resv, resA, ZK, look, loadv, loadn, loadnm, load1, load1m, hget, ↓reduceIte, Nat.reduceEqDiff, Nat.reduceAdd, Nat.reduceMul, Nat.reduceLeDiff, Nat.reduceLT, reduceCtorEq, TFStPG, FR.out]; first | done | rfl) (by simp only [hget, ↓reduceIte, if_true, if_false, FR.out]; first | done | rfl) ?_ <;> first | exact rfl | (simp only [ZK, look, loadv, loadn, loadnm, load1, load1m, hget, ↓reduceIte, Nat.reduceEqDiff, Nat.reduceAdd, Nat.reduceMul, Nat.reduceLeDiff, Nat.reduceLT, reduceCtorEq, TFStPG, FR.out]; done) | skip)
  · rw [if_neg hp] at r1
    have cR := rest_bad p hp
    have kp : decide ((p : Int) > 1000000) = true := decide_eq_true (by omega)
    have kq : decide ((p : Int) ≤ 1000000) = false := decide_eq_false (by omega)
    rcases hw with ⟨v, hv, e1, e2⟩ | ⟨c, hc0, e1⟩
    · rw [e1] at r2 r3
      have p2 := print_ct n0 v
      unfold stz at p2
      rw [e2] at p2
      simp only [GG, p10] at p2
      first | (have FRx := FR; clear FRx) | (have FR : Sm (¬ ((1 : Nat) = 0)) := Sm.mk Nat.one_ne_zero)
      repeat' first
        | (refine Sm.mk ?_; try simp -dsimp only [ZK, rvc, drawF, headN, pureH, stp, dvc, calleeOf, gcall, pev, eff, newB, okd, og, ogs, ogo, ogp, slv, bltv, opd, litv, strip, one, both, putE, St.put, look, gdOf, gdv, picka, pickv, pickw, binv, bini, bins, binb, binp, binq, isSlT, bina, shp, eqCells, unv, convv, nilv, faddv, addp, idxav, idxp, load1, load1m, loadn, loadnm, loadv, hget, hset, hrep, hdel, slicev, bnd, shift1, lenv, capv, IntKind.bits, extractv, fieldv, indexv, min2v, max2v, mkiv, cellsA, fillA, buildv, stC, oneC, rowMB, intsA, plN, appE, appZ, appC, appNZ, appNC, VwL, srcC, srcZ, srcM, isBoolT, isPtrT, isSliceT, uOk, Value.oneCell', Nat.reducePow, Int.reducePow, Nat.reduceAdd, Nat.reduceMul, Nat.reduceSub, Nat.reduceLT, Nat.reduceLeDiff, Nat.reduceEqDiff, Nat.reduceBEq, Nat.reduceDiv, Nat.reduceMod, ↓reduceIte, reduceCtorEq, Int.reduceToNat, Int.reduceLT, Int.reduceLE, TFStPG, SeqQ, BlkQ, LoopQ, BodyQ, k0, hs, y1, y2, kp, kq, FR.out])
        | (refine CallV.updM (cA) (perm1 (by simp only [hget, hdel, ↓reduceIte, FR.out, k0, hs, y1, y2, kp, kq]; first | done | rfl)) (Sm.out ?_))
        | ((first | refine ExF.up ?_ (cA) (Sm.out ?_) | refine ExG.up ?_ (fun _ => cA) (Sm.out ?_) | refine ExG.upJ ?_ (fun _ => cA) (Sm.out ?_) | refine ExG.upI ?_ (fun _ => cA) (Ob.out ?_) (Sm.out ?_)); focus (exact ⟨_, (perm1 (by simp only [hget, hdel, ↓reduceIte, FR.out, k0, hs, y1, y2, kp, kq]; first | done | rfl))⟩))
        | (refine CallV.updM (p1) (perm1 (by simp only [hget, hdel, ↓reduceIte, FR.out, k0, hs, y1, y2, kp, kq]; first | done | rfl)) (Sm.out ?_))
        | ((first | refine ExF.up ?_ (p1) (Sm.out ?_) | refine ExG.up ?_ (fun _ => p1) (Sm.out ?_) | refine ExG.upJ ?_ (fun _ => p1) (Sm.out ?_) | refine ExG.upI ?_ (fun _ => p1) (Ob.out ?_) (Sm.out ?_)); focus (exact ⟨_, (perm1 (by simp only [hget, hdel, ↓reduceIte, FR.out, k0, hs, y1, y2, kp, kq]; first | done | rfl))⟩))
        | (first | refine CallV.fn (r1) (Sm.out ?_) | refine ExF.mk (r1) (Sm.out ?_) | refine ExG.mk (fun _ => r1) (Sm.out ?_) | refine ExG.mkJ (fun _ => r1) (Sm.out ?_) | refine ExG.mkI (Ob.out ?_) (fun _ => r1) (Sm.out ?_))
        | (first | refine CallV.fn (r2) (Sm.out ?_) | refine ExF.mk (r2) (Sm.out ?_) | refine ExG.mk (fun _ => r2) (Sm.out ?_) | refine ExG.mkJ (fun _ => r2) (Sm.out ?_) | refine ExG.mkI (Ob.out ?_) (fun _ => r2) (Sm.out ?_))
        | (first | refine CallV.fn (r3) (Sm.out ?_) | refine ExF.mk (r3) (Sm.out ?_) | refine ExG.mk (fun _ => r3) (Sm.out ?_) | refine ExG.mkJ (fun _ => r3) (Sm.out ?_) | refine ExG.mkI (Ob.out ?_) (fun _ => r3) (Sm.out ?_))
        | (first | refine CallV.fn (p3) (Sm.out ?_) | refine ExF.mk (p3) (Sm.out ?_) | refine ExG.mk (fun _ => p3) (Sm.out ?_) | refine ExG.mkJ (fun _ => p3) (Sm.out ?_) | refine ExG.mkI (Ob.out ?_) (fun _ => p3) (Sm.out ?_))
        | (first | refine CallV.fn (c9) (Sm.out ?_) | refine ExF.mk (c9) (Sm.out ?_) | refine ExG.mk (fun _ => c9) (Sm.out ?_) | refine ExG.mkJ (fun _ => c9) (Sm.out ?_) | refine ExG.mkI (Ob.out ?_) (fun _ => c9) (Sm.out ?_))
        | (refine CallV.updM (p2) (perm1 (by simp only [hget, hdel, ↓reduceIte, FR.out, k0, hs, y1, y2, kp, kq]; first | done | rfl)) (Sm.out ?_))
        | ((first | refine ExF.up ?_ (p2) (Sm.out ?_) | refine ExG.up ?_ (fun _ => p2) (Sm.out ?_) | refine ExG.upJ ?_ (fun _ => p2) (Sm.out ?_) | refine ExG.upI ?_ (fun _ => p2) (Ob.out ?_) (Sm.out ?_)); focus (exact ⟨_, (perm1 (by simp only [hget, hdel, ↓reduceIte, FR.out, k0, hs, y1, y2, kp, kq]; first | done | rfl))⟩))
        | (first | refine CallV.fn (cR) (Sm.out ?_) | refine ExF.mk (cR) (Sm.out ?_) | refine ExG.mk (fun _ => cR) (Sm.out ?_) | refine ExG.mkJ (fun _ => cR) (Sm.out ?_) | refine ExG.mkI (Ob.out ?_) (fun _ => cR) (Sm.out ?_))
        | (refine WP.seq fun K hK => ?_)
        | (refine WP.region (rvc_sound _ _ (Sm.out ?_)))
        | (refine WP.drawK rfl mixed (by decide +kernel) (Sm.out ?_))
        | (refine Ob.mk ?_; focus (first | assumption | omega | decide | trivial | (intro hob; simp only [hob, ZF]; done) | (intros; (repeat' refine And.intro ?_ ?_) <;> first | assumption | omega | trivial | decide) | (intros; simp only [ZE] at *; (repeat' refine And.intro ?_ ?_) <;> first | assumption | omega | trivial)))
        | (refine And.intro (Ob.out ?_) ?_)
        | (refine WP.block ?_)
        | (refine WP.cond rfl (fun hc => ?_) (fun hc => ?_) <;> (try simp only [ZC, reduceCtorEq, ZD] at hc) <;> (try (exact absurd hc (by decide))) <;> (try (exfalso; omega)))
        | ((first | refine WP.skip ?_ | refine WP.exit ?_); simp only [SeqQ, BlkQ, LoopQ, BodyQ, ↓reduceIte, Nat.reduceEqDiff, reduceCtorEq, look, true_and])
        | (refine WP.ret (Sm.out ?_))
        | (first | refine ExG.no (Sm.out ?_) | refine Or.inl (ExG.no (Sm.out ?_)) | refine Or.inl (And.intro (fun hg => absurd hg (by decide)) (ExG.no (Sm.out ?_))))
        | (refine Rt.mk ?_; refine And.intro ?_ ?_ <;> (intro hg; first | exact absurd hg (by decide) | refine Sm.out ?_))
        | (refine Nu.mk ?_; first | (fail_if_success (have := nb1)); intro nb1 | (fail_if_success (have := nb2)); intro nb2 | (fail_if_success (have := nb3)); intro nb3 | (fail_if_success (have := nb4)); intro nb4 | (fail_if_success (have := nb5)); intro nb5 | (fail_if_success (have := nb6)); intro nb6 | (fail_if_success (have := nb7)); intro nb7 | (fail_if_success (have := nb8)); intro nb8 | intro nbz)
        | (refine Fr.mk ?_; intro hfr; (first | (have hFRb : _ ≤ _ ∧ _ ≤ _ := And.intro hfr.1 hfr.2.1) | (have hFRb : _ ≤ _ := hfr.1) | skip); replace FR := Sm.mk (And.intro hfr FR.out); clear hfr; refine Sm.out ?_)
        | (refine Two.mk ?_ ?_)
        | (refine Cs.mk ?_; intro hcs; first | exact False.elim hcs | (exfalso; omega) | (refine Sm.out ?_))
        | go_step
        | omega
        | (simp only [maxLen_eq]; omega)
      (refine OutQ.upd (by simp only [resv, ZK, look, loadv, loadn, loadnm, load1, load1m, hget, ↓reduceIte, Nat.reduceEqDiff, Nat.reduceAdd, Nat.reduceMul, Nat.reduceLeDiff, Nat.reduceLT, reduceCtorEq, TFStPG, FR.out]) (by simp only [resv, resA, ZK, look, loadv, loadn, loadnm, load1, load1m, hget, ↓reduceIte, Nat.reduceEqDiff, Nat.reduceAdd, Nat.reduceMul, Nat.reduceLeDiff, Nat.reduceLT, reduceCtorEq, TFStPG, FR.out]; first | done | rfl) (by simp only [hget, ↓reduceIte, if_true, if_false, FR.out]; first | done | rfl) ?_ <;> first | exact rfl | (simp only [ZK, look, loadv, loadn, loadnm, load1, load1m, hget, ↓reduceIte, Nat.reduceEqDiff, Nat.reduceAdd, Nat.reduceMul, Nat.reduceLeDiff, Nat.reduceLT, reduceCtorEq, TFStPG, FR.out]; done) | skip)
    · rw [e1] at r2 r3
      have k1 : (c == 0) = false := by simpa using hc0
      have k2 : (c != 0) = true := by simpa using hc0
      first | (have FRx := FR; clear FRx) | (have FR : Sm (¬ ((1 : Nat) = 0)) := Sm.mk Nat.one_ne_zero)
      repeat' first
        | (refine Sm.mk ?_; try simp -dsimp only [ZK, rvc, drawF, headN, pureH, stp, dvc, calleeOf, gcall, pev, eff, newB, okd, og, ogs, ogo, ogp, slv, bltv, opd, litv, strip, one, both, putE, St.put, look, gdOf, gdv, picka, pickv, pickw, binv, bini, bins, binb, binp, binq, isSlT, bina, shp, eqCells, unv, convv, nilv, faddv, addp, idxav, idxp, load1, load1m, loadn, loadnm, loadv, hget, hset, hrep, hdel, slicev, bnd, shift1, lenv, capv, IntKind.bits, extractv, fieldv, indexv, min2v, max2v, mkiv, cellsA, fillA, buildv, stC, oneC, rowMB, intsA, plN, appE, appZ, appC, appNZ, appNC, VwL, srcC, srcZ, srcM, isBoolT, isPtrT, isSliceT, uOk, Value.oneCell', Nat.reducePow, Int.reducePow, Nat.reduceAdd, Nat.reduceMul, Nat.reduceSub, Nat.reduceLT, Nat.reduceLeDiff, Nat.reduceEqDiff, Nat.reduceBEq, Nat.reduceDiv, Nat.reduceMod, ↓reduceIte, reduceCtorEq, Int.reduceToNat, Int.reduceLT, Int.reduceLE, TFStPG, SeqQ, BlkQ, LoopQ, BodyQ, k0, hs, y1, y2, k1, k2, kp, kq, FR.out])
        | (refine CallV.updM (cA) (perm1 (by simp only [hget, hdel, ↓reduceIte, FR.out, k0, hs, y1, y2, k1, k2, kp, kq]; first | done | rfl)) (Sm.out ?_))
        | ((first | refine ExF.up ?_ (cA) (Sm.out ?_) | refine ExG.up ?_ (fun _ => cA) (Sm.out ?_) | refine ExG.upJ ?_ (fun _ => cA) (Sm.out ?_) | refine ExG.upI ?_ (fun _ => cA) (Ob.out ?_) (Sm.out ?_)); focus (exact ⟨_, (perm1 (by simp only [hget, hdel, ↓reduceIte, FR.out, k0, hs, y1, y2, k1, k2, kp, kq]; first | done | rfl))⟩))
        | (refine CallV.updM (p1) (perm1 (by simp only [hget, hdel, ↓reduceIte, FR.out, k0, hs, y1, y2, k1, k2, kp, kq]; first | done | rfl)) (Sm.out ?_))
        | ((first | refine ExF.up ?_ (p1) (Sm.out ?_) | refine ExG.up ?_ (fun _ => p1) (Sm.out ?_) | refine ExG.upJ ?_ (fun _ => p1) (Sm.out ?_) | refine ExG.upI ?_ (fun _ => p1) (Ob.out ?_) (Sm.out ?_)); focus (exact ⟨_, (perm1 (by simp only [hget, hdel, ↓reduceIte, FR.out, k0, hs, y1, y2, k1, k2, kp, kq]; first | done | rfl))⟩))
        | (first | refine CallV.fn (r1) (Sm.out ?_) | refine ExF.mk (r1) (Sm.out ?_) | refine ExG.mk (fun _ => r1) (Sm.out ?_) | refine ExG.mkJ (fun _ => r1) (Sm.out ?_) | refine ExG.mkI (Ob.out ?_) (fun _ => r1) (Sm.out ?_))
        | (first | refine CallV.fn (r2) (Sm.out ?_) | refine ExF.mk (r2) (Sm.out ?_) | refine ExG.mk (fun _ => r2) (Sm.out ?_) | refine ExG.mkJ (fun _ => r2) (Sm.out ?_) | refine ExG.mkI (Ob.out ?_) (fun _ => r2) (Sm.out ?_))
        | (first | refine CallV.fn (r3) (Sm.out ?_) | refine ExF.mk (r3) (Sm.out ?_) | refine ExG.mk (fun _ => r3) (Sm.out ?_) | refine ExG.mkJ (fun _ => r3) (Sm.out ?_) | refine ExG.mkI (Ob.out ?_) (fun _ => r3) (Sm.out ?_))
        | (first | refine CallV.fn (p3) (Sm.out ?_) | refine ExF.mk (p3) (Sm.out ?_) | refine ExG.mk (fun _ => p3) (Sm.out ?_) | refine ExG.mkJ (fun _ => p3) (Sm.out ?_) | refine ExG.mkI (Ob.out ?_) (fun _ => p3) (Sm.out ?_))
        | (first | refine CallV.fn (c9) (Sm.out ?_) | refine ExF.mk (c9) (Sm.out ?_) | refine ExG.mk (fun _ => c9) (Sm.out ?_) | refine ExG.mkJ (fun _ => c9) (Sm.out ?_) | refine ExG.mkI (Ob.out ?_) (fun _ => c9) (Sm.out ?_))
        | (first | refine CallV.fn (cR) (Sm.out ?_) | refine ExF.mk (cR) (Sm.out ?_) | refine ExG.mk (fun _ => cR) (Sm.out ?_) | refine ExG.mkJ (fun _ => cR) (Sm.out ?_) | refine ExG.mkI (Ob.out ?_) (fun _ => cR) (Sm.out ?_))
        | (refine WP.seq fun K hK => ?_)
        | (refine WP.region (rvc_sound _ _ (Sm.out ?_)))
        | (refine WP.drawK rfl mixed (by decide +kernel) (Sm.out ?_))
        | (refine Ob.mk ?_; focus (first | assumption | omega | decide | trivial | (intro hob; simp only [hob, ZF]; done) | (intros; (repeat' refine And.intro ?_ ?_) <;> first | assumption | omega | trivial | decide) | (intros; simp only [ZE] at *; (repeat' refine And.intro ?_ ?_) <;> first | assumption | omega | trivial)))
        | (refine And.intro (Ob.out ?_) ?_)
        | (refine WP.block ?_)
        | (refine WP.cond rfl (fun hc => ?_) (fun hc => ?_) <;> (try simp only [ZC, reduceCtorEq, ZD] at hc) <;> (try (exact absurd hc (by decide))) <;> (try (exfalso; omega)))
        | ((first | refine WP.skip ?_ | refine WP.exit ?_); simp only [SeqQ, BlkQ, LoopQ, BodyQ, ↓reduceIte, Nat.reduceEqDiff, reduceCtorEq, look, true_and])
        | (refine WP.ret (Sm.out ?_))
        | (first | refine ExG.no (Sm.out ?_) | refine Or.inl (ExG.no (Sm.out ?_)) | refine Or.inl (And.intro (fun hg => absurd hg (by decide)) (ExG.no (Sm.out ?_))))
        | (refine Rt.mk ?_; refine And.intro ?_ ?_ <;> (intro hg; first | exact absurd hg (by decide) | refine Sm.out ?_))
        | (refine Nu.mk ?_; first | (fail_if_success (have := nb1)); intro nb1 | (fail_if_success (have := nb2)); intro nb2 | (fail_if_success (have := nb3)); intro nb3 | (fail_if_success (have := nb4)); intro nb4 | (fail_if_success (have := nb5)); intro nb5 | (fail_if_success (have := nb6)); intro nb6 | (fail_if_success (have := nb7)); intro nb7 | (fail_if_success (have := nb8)); intro nb8 | intro nbz)
        | (refine Fr.mk ?_; intro hfr; (first | (have hFRb : _ ≤ _ ∧ _ ≤ _ := And.intro hfr.1 hfr.2.1) | (have hFRb : _ ≤ _ := hfr.1) | skip); replace FR := Sm.mk (And.intro hfr FR.out); clear hfr; refine Sm.out ?_)
        | (refine Two.mk ?_ ?_)
        | (refine Cs.mk ?_; intro hcs; first | exact False.elim hcs | (exfalso; omega) | (refine Sm.out ?_))
        | go_step
        | omega
        | (simp only [maxLen_eq]; omega)
      (refine OutQ.upd (by simp only [resv, ZK, look, loadv, loadn, loadnm, load1, load1m, hget, ↓reduceIte, Nat.reduceEqDiff, Nat.reduceAdd, Nat.reduceMul, Nat.reduceLeDiff, Nat.reduceLT, reduceCtorEq, TFStPG, FR.out]) (by simp only [resv, resA, ZK, look, loadv, loadn, loadnm, load1, load1m, hget, ↓reduceIte, Nat.reduceEqDiff, Nat.reduceAdd, Nat.reduceMul, Nat.reduceLeDiff, Nat.reduceLT, reduceCtorEq, TFStPG, FR.out]; first | done | rfl) (by simp only [hget, ↓reduceIte, if_true, if_false, FR.out]; first | done | rfl) ?_ <;> first | exact rfl | (simp only [ZK, look, loadv, loadn, loadnm, load1, load1m, hget, ↓reduceIte, Nat.reduceEqDiff, Nat.reduceAdd, Nat.reduceMul, Nat.reduceLeDiff, Nat.reduceLT, reduceCtorEq, TFStPG, FR.out]; done) | skip)
theorem prints_law (a0 : Int) (h : 0 ≤ a0) (s : ByteArray) (n0 : Nat) : ACt Tryd.prog 5 [iv .u32 a0, .lit (.string s)] (GG n0) (fun r F' => r = bv true ∧ F' = GG n0) := by
  obtain ⟨p, rfl⟩ : ∃ p : Nat, a0 = (p : Int) := ⟨a0.toNat, by omega⟩
  have e : s = bstr (ub s.data.toList) := by
    apply ByteArray.ext
    apply Array.ext'
    simp only [bstr, ub, List.map_map]
    have e2 : s.data.toList.map ((fun n : Int => UInt8.ofNat n.toNat) ∘ fun b : UInt8 => (b.toNat : Int)) = s.data.toList.map id := List.map_congr_left fun b _ => by simp
    rw [e2, List.map_id]
  have hb : By (ub s.data.toList) := fun i hi => by
    rw [ub_getD]
    have := ((s.data.toList).getD i 0).toNat_lt
    omega
  rw [e]
  exact prints_ct n0 p (ub s.data.toList) hb
end Go.Proofs.YtocfaghflhgeeaaDoor
