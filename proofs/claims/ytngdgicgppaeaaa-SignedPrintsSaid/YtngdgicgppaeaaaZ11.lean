/-
  The walks and the laws that the statement leans on, part 11.
-/
import Derived.Test.YtngdgicgppaeaaaZ10
namespace Go.Proofs.Ytngdgicgppaeaaa
open Go
set_option linter.unusedVariables false
set_option linter.unusedSimpArgs false
theorem TFSiQ : ((((((type_of% tyc0) ∧ (type_of% tyc3)) ∧ ((type_of% zmb3) ∧ ((type_of% tyc4) ∧ (type_of% zmb4)))) ∧ (((type_of% tyc9) ∧ (type_of% zmb9)) ∧ ((type_of% tyc24) ∧ ((type_of% foff24_0) ∧ (type_of% fpart24_0))))) ∧ ((((type_of% foff24_1) ∧ (type_of% fpart24_1)) ∧ ((type_of% fe24) ∧ ((type_of% zmb24) ∧ (type_of% bldT24)))) ∧ (((type_of% tyc26) ∧ (type_of% foff26_0)) ∧ ((type_of% fpart26_0) ∧ ((type_of% foff26_1) ∧ (type_of% fpart26_1)))))) ∧ (((((type_of% zmb26) ∧ (type_of% bldT26)) ∧ ((type_of% tyc29) ∧ ((type_of% zmb29) ∧ (type_of% tyc37)))) ∧ (((type_of% elt37) ∧ (type_of% mkz37)) ∧ ((type_of% mkc37) ∧ ((type_of% apT37) ∧ (type_of% elk37))))) ∧ ((((type_of% zmb37) ∧ (type_of% tyc42)) ∧ ((type_of% Try.underlying0) ∧ ((type_of% Try.underlying3) ∧ (type_of% Try.underlying4)))) ∧ (((type_of% Try.underlying9) ∧ ((type_of% Try.underlying24) ∧ (type_of% Try.underlying26))) ∧ ((type_of% Try.underlying29) ∧ ((type_of% Try.underlying37) ∧ (type_of% Try.underlying42))))))) :=
  ⟨⟨⟨⟨⟨tyc0, tyc3⟩, ⟨zmb3, ⟨tyc4, zmb4⟩⟩⟩, ⟨⟨tyc9, zmb9⟩, ⟨tyc24, ⟨foff24_0, fpart24_0⟩⟩⟩⟩, ⟨⟨⟨foff24_1, fpart24_1⟩, ⟨fe24, ⟨zmb24, bldT24⟩⟩⟩, ⟨⟨tyc26, foff26_0⟩, ⟨fpart26_0, ⟨foff26_1, fpart26_1⟩⟩⟩⟩⟩, ⟨⟨⟨⟨zmb26, bldT26⟩, ⟨tyc29, ⟨zmb29, tyc37⟩⟩⟩, ⟨⟨elt37, mkz37⟩, ⟨mkc37, ⟨apT37, elk37⟩⟩⟩⟩, ⟨⟨⟨zmb37, tyc42⟩, ⟨Try.underlying0, ⟨Try.underlying3, Try.underlying4⟩⟩⟩, ⟨⟨Try.underlying9, ⟨Try.underlying24, Try.underlying26⟩⟩, ⟨Try.underlying29, ⟨Try.underlying37, Try.underlying42⟩⟩⟩⟩⟩⟩
/-- a number's print -/
def spZ (b : Bool) (n : Nat) : List Int := if b = true ∧ n ≠ 0 then 45 :: digF 39 n else digF 39 n
theorem digF_by {n : Nat} (hn : n < 340282366920938463463374607431768211456) : By (digF 39 n) := fun i hi => by
  have := (digF_ok 39 n (by omega) (by omega)).1.d i hi; omega
theorem spZ_by {b : Bool} {n : Nat} (hn : n < 340282366920938463463374607431768211456) : By (spZ b n) := by
  have h := digF_by hn
  unfold spZ; split
  · intro i hi
    cases i with
    | zero => simp
    | succ i => simpa [List.getD_eq_getElem?_getD] using h i (by simpa using hi)
  · exact h
theorem spZ_len {b : Bool} {n : Nat} : (spZ b n).length ≤ 40 := by
  have := digF_len 39 n
  unfold spZ; split
  · simp; omega
  · omega
theorem rgt_nat (b : Bool) (h l : Nat) : rgt b (h : Int) (l : Int) = true ↔ ¬ (b = true ∧ h * 18446744073709551616 + l = 0) := by
  unfold rgt
  cases b
  · simp
  · simp; omega
theorem sprint_ct (b : Bool) (h l : Nat) (h1 : h < 18446744073709551616) (h2 : l < 18446744073709551616) : ACt Try.prog 20 [sgA b h l] [] (Fn (stz (spZ b (h * 18446744073709551616 + l)))) := by
  have c := right_ct b (h : Int) (l : Int)
  have p := print_ct (h * 18446744073709551616 + l) (by omega)
  unfold wideA at p
  rw [(hilo h l h2).1, (hilo h l h2).2] at p
  have pl := digF_len 39 (h * 18446744073709551616 + l)
  have eP : prt (h * 18446744073709551616 + l) = bstr (digF 39 (h * 18446744073709551616 + l)) := rfl
  by_cases hn : b = true ∧ h * 18446744073709551616 + l ≠ 0
  · have e1 : spZ b (h * 18446744073709551616 + l) = 45 :: digF 39 (h * 18446744073709551616 + l) := by unfold spZ; rw [if_pos hn]
    rw [e1]
    obtain ⟨rfl, hn⟩ := hn
    have hr := (rgt_nat true h l).2 (fun x => hn x.2)
    rw [hr] at c
    rw [eP] at p
    obtain ⟨D, hD⟩ : ∃ D, D = digF 39 (h * 18446744073709551616 + l) := ⟨_, rfl⟩
    rw [← hD] at p pl ⊢
    have e2 : (⟨#[45]⟩ : ByteArray) ++ bstr D = bstr (45 :: D) := by rw [minus_str, bstr_app]; rfl
    have e3 : (⟨#[45]⟩ : ByteArray).size = 1 := rfl
    have i1 : 1 + D.length ≤ 9223372036854775807 := by omega
    have hs := bstr_size D
    refine ACt.intro Try.func20 rfl (by kernel_rfl) (by simp [Try.ntmps20]) (fun cx => ?_)
    simp only [argE, Try.ntmps20, Try.results20]
    first | (have FRx := FR; clear FRx) | (have FR : Sm (¬ ((1 : Nat) = 0)) := Sm.mk Nat.one_ne_zero)
    repeat' first
      | (refine Sm.mk ?_; try simp -dsimp only [ZK, rvc, drawF, headN, pureH, stp, dvc, calleeOf, gcall, pev, eff, newB, okd, og, ogs, ogo, ogp, slv, bltv, opd, litv, strip, one, both, putE, St.put, look, gdOf, gdv, picka, pickv, pickw, binv, bini, bins, binb, binp, binq, isSlT, bina, shp, eqCells, unv, convv, nilv, faddv, addp, idxav, idxp, load1, load1m, loadn, loadnm, loadv, hget, hset, hrep, hdel, slicev, bnd, shift1, lenv, capv, IntKind.bits, extractv, fieldv, indexv, min2v, max2v, mkiv, cellsA, fillA, buildv, stC, oneC, rowMB, intsA, plN, appE, appZ, appC, appNZ, appNC, VwL, srcC, srcZ, srcM, isBoolT, isPtrT, isSliceT, uOk, Value.oneCell', Nat.reducePow, Int.reducePow, Nat.reduceAdd, Nat.reduceMul, Nat.reduceSub, Nat.reduceLT, Nat.reduceLeDiff, Nat.reduceEqDiff, Nat.reduceBEq, Nat.reduceDiv, Nat.reduceMod, ↓reduceIte, reduceCtorEq, Int.reduceToNat, Int.reduceLT, Int.reduceLE, TFSiQ, SeqQ, BlkQ, LoopQ, BodyQ, e2, e3, hs, i1, FR.out])
      | (first | refine CallV.fn (c) (Sm.out ?_) | refine ExF.mk (c) (Sm.out ?_) | refine ExG.mk (fun _ => c) (Sm.out ?_) | refine ExG.mkJ (fun _ => c) (Sm.out ?_) | refine ExG.mkI (Ob.out ?_) (fun _ => c) (Sm.out ?_))
      | (first | refine CallV.fn (p) (Sm.out ?_) | refine ExF.mk (p) (Sm.out ?_) | refine ExG.mk (fun _ => p) (Sm.out ?_) | refine ExG.mkJ (fun _ => p) (Sm.out ?_) | refine ExG.mkI (Ob.out ?_) (fun _ => p) (Sm.out ?_))
      | (refine WP.seq fun K hK => ?_)
      | (refine WP.region (rvc_sound _ _ (Sm.out ?_)))
      | (refine WP.drawK rfl mixed (by decide +kernel) (Sm.out ?_))
      | (refine Ob.mk ?_; focus (first | assumption | omega | decide | trivial | (intro hob; simp only [hob, ZF]; done) | (intros; (repeat' refine And.intro ?_ ?_) <;> first | assumption | omega | trivial | decide) | (intros; simp only [ZE] at *; (repeat' refine And.intro ?_ ?_) <;> first | assumption | omega | trivial)))
      | (refine And.intro (Ob.out ?_) ?_)
      | (refine WP.block ?_)
      | (refine WP.cond rfl (fun hc => ?_) (fun hc => ?_) <;> (try simp only [ZC, reduceCtorEq, ZD] at hc) <;> (try (exact absurd hc (by decide))) <;> (try (exfalso; omega)))
      | ((first | refine WP.skip ?_ | refine WP.exit ?_); simp only [SeqQ, BlkQ, LoopQ, BodyQ, ↓reduceIte, Nat.reduceEqDiff, reduceCtorEq, look, true_and])
      | (refine WP.ret (Sm.out ?_))
      | (first | refine ExG.no (Sm.out ?_) | refine Or.inl (ExG.no (Sm.out ?_)) | refine Or.inl (And.intro (fun hg => absurd hg (by decide)) (ExG.no (Sm.out ?_))))
      | (refine Rt.mk ?_; refine And.intro ?_ ?_ <;> (intro hg; first | exact absurd hg (by decide) | refine Sm.out ?_))
      | (refine Nu.mk ?_; first | (fail_if_success (have := nb1)); intro nb1 | (fail_if_success (have := nb2)); intro nb2 | (fail_if_success (have := nb3)); intro nb3 | (fail_if_success (have := nb4)); intro nb4 | (fail_if_success (have := nb5)); intro nb5 | (fail_if_success (have := nb6)); intro nb6 | (fail_if_success (have := nb7)); intro nb7 | (fail_if_success (have := nb8)); intro nb8 | intro nbz)
      | (refine Fr.mk ?_; intro hfr; (first | (have hFRb : _ ≤ _ ∧ _ ≤ _ := And.intro hfr.1 hfr.2.1) | (have hFRb : _ ≤ _ := hfr.1) | skip); replace FR := Sm.mk (And.intro hfr FR.out); clear hfr; refine Sm.out ?_)
      | (refine Two.mk ?_ ?_)
      | (refine Cs.mk ?_; intro hcs; first | exact False.elim hcs | (exfalso; omega) | (refine Sm.out ?_))
      | go_step
      | omega
      | (simp only [maxLen_eq]; omega)
    (refine OutQ.all ?_ ?_; (focus (simp only [resv, ZK, look, loadv, loadn, loadnm, load1, load1m, hget, ↓reduceIte, Nat.reduceEqDiff, Nat.reduceAdd, Nat.reduceMul, Nat.reduceLeDiff, Nat.reduceLT, reduceCtorEq, TFSiQ])); (try simp only [resv, resA, Fn, ZK, look, loadv, loadn, loadnm, load1, load1m, hget, ↓reduceIte, Nat.reduceEqDiff, Nat.reduceAdd, Nat.reduceMul, Nat.reduceLeDiff, Nat.reduceLT, reduceCtorEq, TFSiQ]); (try simp [resA, Fn, look]))
  · have e1 : spZ b (h * 18446744073709551616 + l) = digF 39 (h * 18446744073709551616 + l) := by unfold spZ; rw [if_neg hn]
    rw [e1]
    have c' : ACt Try.prog 25 [sgA b h l] [] (Fn (sgA false h l)) := by
      cases b
      · have hr := (rgt_nat false h l).2 (by simp)
        rw [hr] at c; exact c
      · have hz : h * 18446744073709551616 + l = 0 := by
          apply Classical.byContradiction; intro x; exact hn ⟨rfl, x⟩
        have h0 : h = 0 := by omega
        have l0 : l = 0 := by omega
        subst h0 l0
        exact c
    rw [eP] at p
    obtain ⟨D, hD⟩ : ∃ D, D = digF 39 (h * 18446744073709551616 + l) := ⟨_, rfl⟩
    rw [← hD] at p ⊢
    refine ACt.intro Try.func20 rfl (by kernel_rfl) (by simp [Try.ntmps20]) (fun cx => ?_)
    simp only [argE, Try.ntmps20, Try.results20]
    first | (have FRx := FR; clear FRx) | (have FR : Sm (¬ ((1 : Nat) = 0)) := Sm.mk Nat.one_ne_zero)
    repeat' first
      | (refine Sm.mk ?_; try simp -dsimp only [ZK, rvc, drawF, headN, pureH, stp, dvc, calleeOf, gcall, pev, eff, newB, okd, og, ogs, ogo, ogp, slv, bltv, opd, litv, strip, one, both, putE, St.put, look, gdOf, gdv, picka, pickv, pickw, binv, bini, bins, binb, binp, binq, isSlT, bina, shp, eqCells, unv, convv, nilv, faddv, addp, idxav, idxp, load1, load1m, loadn, loadnm, loadv, hget, hset, hrep, hdel, slicev, bnd, shift1, lenv, capv, IntKind.bits, extractv, fieldv, indexv, min2v, max2v, mkiv, cellsA, fillA, buildv, stC, oneC, rowMB, intsA, plN, appE, appZ, appC, appNZ, appNC, VwL, srcC, srcZ, srcM, isBoolT, isPtrT, isSliceT, uOk, Value.oneCell', Nat.reducePow, Int.reducePow, Nat.reduceAdd, Nat.reduceMul, Nat.reduceSub, Nat.reduceLT, Nat.reduceLeDiff, Nat.reduceEqDiff, Nat.reduceBEq, Nat.reduceDiv, Nat.reduceMod, ↓reduceIte, reduceCtorEq, Int.reduceToNat, Int.reduceLT, Int.reduceLE, TFSiQ, SeqQ, BlkQ, LoopQ, BodyQ, FR.out])
      | (first | refine CallV.fn (c') (Sm.out ?_) | refine ExF.mk (c') (Sm.out ?_) | refine ExG.mk (fun _ => c') (Sm.out ?_) | refine ExG.mkJ (fun _ => c') (Sm.out ?_) | refine ExG.mkI (Ob.out ?_) (fun _ => c') (Sm.out ?_))
      | (first | refine CallV.fn (p) (Sm.out ?_) | refine ExF.mk (p) (Sm.out ?_) | refine ExG.mk (fun _ => p) (Sm.out ?_) | refine ExG.mkJ (fun _ => p) (Sm.out ?_) | refine ExG.mkI (Ob.out ?_) (fun _ => p) (Sm.out ?_))
      | (refine WP.seq fun K hK => ?_)
      | (refine WP.region (rvc_sound _ _ (Sm.out ?_)))
      | (refine WP.drawK rfl mixed (by decide +kernel) (Sm.out ?_))
      | (refine Ob.mk ?_; focus (first | assumption | omega | decide | trivial | (intro hob; simp only [hob, ZF]; done) | (intros; (repeat' refine And.intro ?_ ?_) <;> first | assumption | omega | trivial | decide) | (intros; simp only [ZE] at *; (repeat' refine And.intro ?_ ?_) <;> first | assumption | omega | trivial)))
      | (refine And.intro (Ob.out ?_) ?_)
      | (refine WP.block ?_)
      | (refine WP.cond rfl (fun hc => ?_) (fun hc => ?_) <;> (try simp only [ZC, reduceCtorEq, ZD] at hc) <;> (try (exact absurd hc (by decide))) <;> (try (exfalso; omega)))
      | ((first | refine WP.skip ?_ | refine WP.exit ?_); simp only [SeqQ, BlkQ, LoopQ, BodyQ, ↓reduceIte, Nat.reduceEqDiff, reduceCtorEq, look, true_and])
      | (refine WP.ret (Sm.out ?_))
      | (first | refine ExG.no (Sm.out ?_) | refine Or.inl (ExG.no (Sm.out ?_)) | refine Or.inl (And.intro (fun hg => absurd hg (by decide)) (ExG.no (Sm.out ?_))))
      | (refine Rt.mk ?_; refine And.intro ?_ ?_ <;> (intro hg; first | exact absurd hg (by decide) | refine Sm.out ?_))
      | (refine Nu.mk ?_; first | (fail_if_success (have := nb1)); intro nb1 | (fail_if_success (have := nb2)); intro nb2 | (fail_if_success (have := nb3)); intro nb3 | (fail_if_success (have := nb4)); intro nb4 | (fail_if_success (have := nb5)); intro nb5 | (fail_if_success (have := nb6)); intro nb6 | (fail_if_success (have := nb7)); intro nb7 | (fail_if_success (have := nb8)); intro nb8 | intro nbz)
      | (refine Fr.mk ?_; intro hfr; (first | (have hFRb : _ ≤ _ ∧ _ ≤ _ := And.intro hfr.1 hfr.2.1) | (have hFRb : _ ≤ _ := hfr.1) | skip); replace FR := Sm.mk (And.intro hfr FR.out); clear hfr; refine Sm.out ?_)
      | (refine Two.mk ?_ ?_)
      | (refine Cs.mk ?_; intro hcs; first | exact False.elim hcs | (exfalso; omega) | (refine Sm.out ?_))
      | go_step
      | omega
      | (simp only [maxLen_eq]; omega)
    (refine OutQ.all ?_ ?_; (focus (simp only [resv, ZK, look, loadv, loadn, loadnm, load1, load1m, hget, ↓reduceIte, Nat.reduceEqDiff, Nat.reduceAdd, Nat.reduceMul, Nat.reduceLeDiff, Nat.reduceLT, reduceCtorEq, TFSiQ])); (try simp only [resv, resA, Fn, ZK, look, loadv, loadn, loadnm, load1, load1m, hget, ↓reduceIte, Nat.reduceEqDiff, Nat.reduceAdd, Nat.reduceMul, Nat.reduceLeDiff, Nat.reduceLT, reduceCtorEq, TFSiQ]); (try simp [resA, Fn, look]))
theorem srprint_ct (b : Bool) (h l : Nat) (h1 : h < 18446744073709551616) (h2 : l < 18446744073709551616) : ACt Try.prog 23 [sgA b h l] [] (Fn (stz (spZ b (h * 18446744073709551616 + l)))) := by
  have p := rdigits_ct (h * 18446744073709551616 + l) (by omega)
  have q := bitsW_ct (h * 18446744073709551616 + l) (by omega)
  unfold wideA at q
  rw [(hilo h l h2).1, (hilo h l h2).2] at q
  have pl := digF_len 39 (h * 18446744073709551616 + l)
  have eP : prt (h * 18446744073709551616 + l) = bstr (digF 39 (h * 18446744073709551616 + l)) := rfl
  obtain ⟨T, hT⟩ : ∃ T, T = bitsN (h * 18446744073709551616 + l) 128 := ⟨_, rfl⟩
  rw [← hT] at p q
  rw [eP] at p
  have hsp : spZ b (h * 18446744073709551616 + l) = if b = true ∧ h * 18446744073709551616 + l ≠ 0 then 45 :: digF 39 (h * 18446744073709551616 + l) else digF 39 (h * 18446744073709551616 + l) := rfl
  obtain ⟨D, hD⟩ : ∃ D, D = digF 39 (h * 18446744073709551616 + l) := ⟨_, rfl⟩
  rw [← hD] at p pl hsp
  have e2 : (⟨#[45]⟩ : ByteArray) ++ bstr D = bstr (45 :: D) := by rw [minus_str, bstr_app]; rfl
  have e3 : (⟨#[45]⟩ : ByteArray).size = 1 := rfl
  have i1 : 1 + D.length ≤ 9223372036854775807 := by omega
  have hs := bstr_size D
  refine ACt.intro Try.func23 rfl (by kernel_rfl) (by simp [Try.ntmps23]) (fun cx => ?_)
  simp only [argE, Try.ntmps23, Try.results23]
  cases b
  · rw [if_neg (by simp)] at hsp
    rw [hsp]
    first | (have FRx := FR; clear FRx) | (have FR : Sm (¬ ((1 : Nat) = 0)) := Sm.mk Nat.one_ne_zero)
    repeat' first
      | (refine Sm.mk ?_; try simp -dsimp only [ZK, rvc, drawF, headN, pureH, stp, dvc, calleeOf, gcall, pev, eff, newB, okd, og, ogs, ogo, ogp, slv, bltv, opd, litv, strip, one, both, putE, St.put, look, gdOf, gdv, picka, pickv, pickw, binv, bini, bins, binb, binp, binq, isSlT, bina, shp, eqCells, unv, convv, nilv, faddv, addp, idxav, idxp, load1, load1m, loadn, loadnm, loadv, hget, hset, hrep, hdel, slicev, bnd, shift1, lenv, capv, IntKind.bits, extractv, fieldv, indexv, min2v, max2v, mkiv, cellsA, fillA, buildv, stC, oneC, rowMB, intsA, plN, appE, appZ, appC, appNZ, appNC, VwL, srcC, srcZ, srcM, isBoolT, isPtrT, isSliceT, uOk, Value.oneCell', Nat.reducePow, Int.reducePow, Nat.reduceAdd, Nat.reduceMul, Nat.reduceSub, Nat.reduceLT, Nat.reduceLeDiff, Nat.reduceEqDiff, Nat.reduceBEq, Nat.reduceDiv, Nat.reduceMod, ↓reduceIte, reduceCtorEq, Int.reduceToNat, Int.reduceLT, Int.reduceLE, TFSiQ, SeqQ, BlkQ, LoopQ, BodyQ, FR.out])
      | (first | refine CallV.fn (q) (Sm.out ?_) | refine ExF.mk (q) (Sm.out ?_) | refine ExG.mk (fun _ => q) (Sm.out ?_) | refine ExG.mkJ (fun _ => q) (Sm.out ?_) | refine ExG.mkI (Ob.out ?_) (fun _ => q) (Sm.out ?_))
      | (first | refine CallV.fn (p) (Sm.out ?_) | refine ExF.mk (p) (Sm.out ?_) | refine ExG.mk (fun _ => p) (Sm.out ?_) | refine ExG.mkJ (fun _ => p) (Sm.out ?_) | refine ExG.mkI (Ob.out ?_) (fun _ => p) (Sm.out ?_))
      | (refine WP.seq fun K hK => ?_)
      | (refine WP.region (rvc_sound _ _ (Sm.out ?_)))
      | (refine WP.drawK rfl mixed (by decide +kernel) (Sm.out ?_))
      | (refine Ob.mk ?_; focus (first | assumption | omega | decide | trivial | (intro hob; simp only [hob, ZF]; done) | (intros; (repeat' refine And.intro ?_ ?_) <;> first | assumption | omega | trivial | decide) | (intros; simp only [ZE] at *; (repeat' refine And.intro ?_ ?_) <;> first | assumption | omega | trivial)))
      | (refine And.intro (Ob.out ?_) ?_)
      | (refine WP.block ?_)
      | (refine WP.cond rfl (fun hc => ?_) (fun hc => ?_) <;> (try simp only [ZC, reduceCtorEq, ZD] at hc) <;> (try (exact absurd hc (by decide))) <;> (try (exfalso; omega)))
      | ((first | refine WP.skip ?_ | refine WP.exit ?_); simp only [SeqQ, BlkQ, LoopQ, BodyQ, ↓reduceIte, Nat.reduceEqDiff, reduceCtorEq, look, true_and])
      | (refine WP.ret (Sm.out ?_))
      | (first | refine ExG.no (Sm.out ?_) | refine Or.inl (ExG.no (Sm.out ?_)) | refine Or.inl (And.intro (fun hg => absurd hg (by decide)) (ExG.no (Sm.out ?_))))
      | (refine Rt.mk ?_; refine And.intro ?_ ?_ <;> (intro hg; first | exact absurd hg (by decide) | refine Sm.out ?_))
      | (refine Nu.mk ?_; first | (fail_if_success (have := nb1)); intro nb1 | (fail_if_success (have := nb2)); intro nb2 | (fail_if_success (have := nb3)); intro nb3 | (fail_if_success (have := nb4)); intro nb4 | (fail_if_success (have := nb5)); intro nb5 | (fail_if_success (have := nb6)); intro nb6 | (fail_if_success (have := nb7)); intro nb7 | (fail_if_success (have := nb8)); intro nb8 | intro nbz)
      | (refine Fr.mk ?_; intro hfr; (first | (have hFRb : _ ≤ _ ∧ _ ≤ _ := And.intro hfr.1 hfr.2.1) | (have hFRb : _ ≤ _ := hfr.1) | skip); replace FR := Sm.mk (And.intro hfr FR.out); clear hfr; refine Sm.out ?_)
      | (refine Two.mk ?_ ?_)
      | (refine Cs.mk ?_; intro hcs; first | exact False.elim hcs | (exfalso; omega) | (refine Sm.out ?_))
      | go_step
      | omega
      | (simp only [maxLen_eq]; omega)
    (refine OutQ.all ?_ ?_; (focus (simp only [resv, ZK, look, loadv, loadn, loadnm, load1, load1m, hget, ↓reduceIte, Nat.reduceEqDiff, Nat.reduceAdd, Nat.reduceMul, Nat.reduceLeDiff, Nat.reduceLT, reduceCtorEq, TFSiQ])); (try simp only [resv, resA, Fn, ZK, look, loadv, loadn, loadnm, load1, load1m, hget, ↓reduceIte, Nat.reduceEqDiff, Nat.reduceAdd, Nat.reduceMul, Nat.reduceLeDiff, Nat.reduceLT, reduceCtorEq, TFSiQ]); (try simp [resA, Fn, look]))
  · by_cases hz : h * 18446744073709551616 + l = 0
    · rw [if_neg (fun x => x.2 hz)] at hsp
      rw [hsp]
      have k1 : (!((h : Int) == 0 && (l : Int) == 0)) = false := by
        have a : h = 0 := by omega
        have b : l = 0 := by omega
        rw [a, b]; rfl
      first | (have FRx := FR; clear FRx) | (have FR : Sm (¬ ((1 : Nat) = 0)) := Sm.mk Nat.one_ne_zero)
      repeat' first
        | (refine Sm.mk ?_; try simp -dsimp only [ZK, rvc, drawF, headN, pureH, stp, dvc, calleeOf, gcall, pev, eff, newB, okd, og, ogs, ogo, ogp, slv, bltv, opd, litv, strip, one, both, putE, St.put, look, gdOf, gdv, picka, pickv, pickw, binv, bini, bins, binb, binp, binq, isSlT, bina, shp, eqCells, unv, convv, nilv, faddv, addp, idxav, idxp, load1, load1m, loadn, loadnm, loadv, hget, hset, hrep, hdel, slicev, bnd, shift1, lenv, capv, IntKind.bits, extractv, fieldv, indexv, min2v, max2v, mkiv, cellsA, fillA, buildv, stC, oneC, rowMB, intsA, plN, appE, appZ, appC, appNZ, appNC, VwL, srcC, srcZ, srcM, isBoolT, isPtrT, isSliceT, uOk, Value.oneCell', Nat.reducePow, Int.reducePow, Nat.reduceAdd, Nat.reduceMul, Nat.reduceSub, Nat.reduceLT, Nat.reduceLeDiff, Nat.reduceEqDiff, Nat.reduceBEq, Nat.reduceDiv, Nat.reduceMod, ↓reduceIte, reduceCtorEq, Int.reduceToNat, Int.reduceLT, Int.reduceLE, TFSiQ, SeqQ, BlkQ, LoopQ, BodyQ, k1, FR.out])
        | (first | refine CallV.fn (q) (Sm.out ?_) | refine ExF.mk (q) (Sm.out ?_) | refine ExG.mk (fun _ => q) (Sm.out ?_) | refine ExG.mkJ (fun _ => q) (Sm.out ?_) | refine ExG.mkI (Ob.out ?_) (fun _ => q) (Sm.out ?_))
        | (first | refine CallV.fn (p) (Sm.out ?_) | refine ExF.mk (p) (Sm.out ?_) | refine ExG.mk (fun _ => p) (Sm.out ?_) | refine ExG.mkJ (fun _ => p) (Sm.out ?_) | refine ExG.mkI (Ob.out ?_) (fun _ => p) (Sm.out ?_))
        | (refine WP.seq fun K hK => ?_)
        | (refine WP.region (rvc_sound _ _ (Sm.out ?_)))
        | (refine WP.drawK rfl mixed (by decide +kernel) (Sm.out ?_))
        | (refine Ob.mk ?_; focus (first | assumption | omega | decide | trivial | (intro hob; simp only [hob, ZF]; done) | (intros; (repeat' refine And.intro ?_ ?_) <;> first | assumption | omega | trivial | decide) | (intros; simp only [ZE] at *; (repeat' refine And.intro ?_ ?_) <;> first | assumption | omega | trivial)))
        | (refine And.intro (Ob.out ?_) ?_)
        | (refine WP.block ?_)
        | (refine WP.cond rfl (fun hc => ?_) (fun hc => ?_) <;> (try simp only [ZC, reduceCtorEq, ZD] at hc) <;> (try (exact absurd hc (by decide))) <;> (try (exfalso; omega)))
        | ((first | refine WP.skip ?_ | refine WP.exit ?_); simp only [SeqQ, BlkQ, LoopQ, BodyQ, ↓reduceIte, Nat.reduceEqDiff, reduceCtorEq, look, true_and])
        | (refine WP.ret (Sm.out ?_))
        | (first | refine ExG.no (Sm.out ?_) | refine Or.inl (ExG.no (Sm.out ?_)) | refine Or.inl (And.intro (fun hg => absurd hg (by decide)) (ExG.no (Sm.out ?_))))
        | (refine Rt.mk ?_; refine And.intro ?_ ?_ <;> (intro hg; first | exact absurd hg (by decide) | refine Sm.out ?_))
        | (refine Nu.mk ?_; first | (fail_if_success (have := nb1)); intro nb1 | (fail_if_success (have := nb2)); intro nb2 | (fail_if_success (have := nb3)); intro nb3 | (fail_if_success (have := nb4)); intro nb4 | (fail_if_success (have := nb5)); intro nb5 | (fail_if_success (have := nb6)); intro nb6 | (fail_if_success (have := nb7)); intro nb7 | (fail_if_success (have := nb8)); intro nb8 | intro nbz)
        | (refine Fr.mk ?_; intro hfr; (first | (have hFRb : _ ≤ _ ∧ _ ≤ _ := And.intro hfr.1 hfr.2.1) | (have hFRb : _ ≤ _ := hfr.1) | skip); replace FR := Sm.mk (And.intro hfr FR.out); clear hfr; refine Sm.out ?_)
        | (refine Two.mk ?_ ?_)
        | (refine Cs.mk ?_; intro hcs; first | exact False.elim hcs | (exfalso; omega) | (refine Sm.out ?_))
        | go_step
        | omega
        | (simp only [maxLen_eq]; omega)
      (refine OutQ.all ?_ ?_; (focus (simp only [resv, ZK, look, loadv, loadn, loadnm, load1, load1m, hget, ↓reduceIte, Nat.reduceEqDiff, Nat.reduceAdd, Nat.reduceMul, Nat.reduceLeDiff, Nat.reduceLT, reduceCtorEq, TFSiQ])); (try simp only [resv, resA, Fn, ZK, look, loadv, loadn, loadnm, load1, load1m, hget, ↓reduceIte, Nat.reduceEqDiff, Nat.reduceAdd, Nat.reduceMul, Nat.reduceLeDiff, Nat.reduceLT, reduceCtorEq, TFSiQ]); (try simp [resA, Fn, look]))
    · rw [if_pos ⟨rfl, hz⟩] at hsp
      rw [hsp]
      have k1 : (!((h : Int) == 0 && (l : Int) == 0)) = true := by simp; omega
      first | (have FRx := FR; clear FRx) | (have FR : Sm (¬ ((1 : Nat) = 0)) := Sm.mk Nat.one_ne_zero)
      repeat' first
        | (refine Sm.mk ?_; try simp -dsimp only [ZK, rvc, drawF, headN, pureH, stp, dvc, calleeOf, gcall, pev, eff, newB, okd, og, ogs, ogo, ogp, slv, bltv, opd, litv, strip, one, both, putE, St.put, look, gdOf, gdv, picka, pickv, pickw, binv, bini, bins, binb, binp, binq, isSlT, bina, shp, eqCells, unv, convv, nilv, faddv, addp, idxav, idxp, load1, load1m, loadn, loadnm, loadv, hget, hset, hrep, hdel, slicev, bnd, shift1, lenv, capv, IntKind.bits, extractv, fieldv, indexv, min2v, max2v, mkiv, cellsA, fillA, buildv, stC, oneC, rowMB, intsA, plN, appE, appZ, appC, appNZ, appNC, VwL, srcC, srcZ, srcM, isBoolT, isPtrT, isSliceT, uOk, Value.oneCell', Nat.reducePow, Int.reducePow, Nat.reduceAdd, Nat.reduceMul, Nat.reduceSub, Nat.reduceLT, Nat.reduceLeDiff, Nat.reduceEqDiff, Nat.reduceBEq, Nat.reduceDiv, Nat.reduceMod, ↓reduceIte, reduceCtorEq, Int.reduceToNat, Int.reduceLT, Int.reduceLE, TFSiQ, SeqQ, BlkQ, LoopQ, BodyQ, k1, e2, e3, hs, i1, FR.out])
        | (first | refine CallV.fn (q) (Sm.out ?_) | refine ExF.mk (q) (Sm.out ?_) | refine ExG.mk (fun _ => q) (Sm.out ?_) | refine ExG.mkJ (fun _ => q) (Sm.out ?_) | refine ExG.mkI (Ob.out ?_) (fun _ => q) (Sm.out ?_))
        | (first | refine CallV.fn (p) (Sm.out ?_) | refine ExF.mk (p) (Sm.out ?_) | refine ExG.mk (fun _ => p) (Sm.out ?_) | refine ExG.mkJ (fun _ => p) (Sm.out ?_) | refine ExG.mkI (Ob.out ?_) (fun _ => p) (Sm.out ?_))
        | (refine WP.seq fun K hK => ?_)
        | (refine WP.region (rvc_sound _ _ (Sm.out ?_)))
        | (refine WP.drawK rfl mixed (by decide +kernel) (Sm.out ?_))
        | (refine Ob.mk ?_; focus (first | assumption | omega | decide | trivial | (intro hob; simp only [hob, ZF]; done) | (intros; (repeat' refine And.intro ?_ ?_) <;> first | assumption | omega | trivial | decide) | (intros; simp only [ZE] at *; (repeat' refine And.intro ?_ ?_) <;> first | assumption | omega | trivial)))
        | (refine And.intro (Ob.out ?_) ?_)
        | (refine WP.block ?_)
        | (refine WP.cond rfl (fun hc => ?_) (fun hc => ?_) <;> (try simp only [ZC, reduceCtorEq, ZD] at hc) <;> (try (exact absurd hc (by decide))) <;> (try (exfalso; omega)))
        | ((first | refine WP.skip ?_ | refine WP.exit ?_); simp only [SeqQ, BlkQ, LoopQ, BodyQ, ↓reduceIte, Nat.reduceEqDiff, reduceCtorEq, look, true_and])
        | (refine WP.ret (Sm.out ?_))
        | (first | refine ExG.no (Sm.out ?_) | refine Or.inl (ExG.no (Sm.out ?_)) | refine Or.inl (And.intro (fun hg => absurd hg (by decide)) (ExG.no (Sm.out ?_))))
        | (refine Rt.mk ?_; refine And.intro ?_ ?_ <;> (intro hg; first | exact absurd hg (by decide) | refine Sm.out ?_))
        | (refine Nu.mk ?_; first | (fail_if_success (have := nb1)); intro nb1 | (fail_if_success (have := nb2)); intro nb2 | (fail_if_success (have := nb3)); intro nb3 | (fail_if_success (have := nb4)); intro nb4 | (fail_if_success (have := nb5)); intro nb5 | (fail_if_success (have := nb6)); intro nb6 | (fail_if_success (have := nb7)); intro nb7 | (fail_if_success (have := nb8)); intro nb8 | intro nbz)
        | (refine Fr.mk ?_; intro hfr; (first | (have hFRb : _ ≤ _ ∧ _ ≤ _ := And.intro hfr.1 hfr.2.1) | (have hFRb : _ ≤ _ := hfr.1) | skip); replace FR := Sm.mk (And.intro hfr FR.out); clear hfr; refine Sm.out ?_)
        | (refine Two.mk ?_ ?_)
        | (refine Cs.mk ?_; intro hcs; first | exact False.elim hcs | (exfalso; omega) | (refine Sm.out ?_))
        | go_step
        | omega
        | (simp only [maxLen_eq]; omega)
      (refine OutQ.all ?_ ?_; (focus (simp only [resv, ZK, look, loadv, loadn, loadnm, load1, load1m, hget, ↓reduceIte, Nat.reduceEqDiff, Nat.reduceAdd, Nat.reduceMul, Nat.reduceLeDiff, Nat.reduceLT, reduceCtorEq, TFSiQ])); (try simp only [resv, resA, Fn, ZK, look, loadv, loadn, loadnm, load1, load1m, hget, ↓reduceIte, Nat.reduceEqDiff, Nat.reduceAdd, Nat.reduceMul, Nat.reduceLeDiff, Nat.reduceLT, reduceCtorEq, TFSiQ]); (try simp [resA, Fn, look]))
theorem mn_neg {ds : List Int} : mn (45 :: ds) = true ∧ tl (45 :: ds) = ds := by
  have h : mn (45 :: ds) = true := by unfold mn; simp
  exact ⟨h, by unfold tl; rw [if_pos h]; rfl⟩
theorem mn_pos {ds : List Int} (h : OkZ ds) : mn ds = false ∧ tl ds = ds := by
  have h0 : mn ds = false := by
    unfold mn
    have := h.d 0 h.ne
    have : (ds.getD 0 0 == 45) = false := beq_eq_false_iff_ne.2 (by omega)
    rw [this, Bool.and_false]
  exact ⟨h0, by unfold tl; rw [if_neg (by rw [h0]; simp)]⟩
theorem sd_print (b : Bool) {n : Nat} (hn : n < 340282366920938463463374607431768211456) : sdA (spZ b n) = .tup [sgA (b && decide (n ≠ 0)) ((n / 18446744073709551616 : Nat) : Int) ((n % 18446744073709551616 : Nat) : Int), iv .i64 0] := by
  obtain ⟨d1, d2, _⟩ := digF_ok 39 n (by omega) (by omega)
  have ho := (okZ_iff _).2 d1
  by_cases h : b = true ∧ n ≠ 0
  · have e : spZ b n = 45 :: digF 39 n := by unfold spZ; rw [if_pos h]
    rw [e]
    unfold sdA
    rw [mn_neg.2, mn_neg.1, if_pos ho, d2, if_pos hn, if_neg (fun x => h.2 x.2), h.1, decide_eq_true h.2]
    rfl
  · have e : spZ b n = digF 39 n := by unfold spZ; rw [if_neg h]
    rw [e]
    unfold sdA
    rw [(mn_pos d1).2, (mn_pos d1).1, if_pos ho, d2, if_pos hn, if_neg (fun x => by cases x.1)]
    have : (b && decide (n ≠ 0)) = false := by
      cases b
      · rfl
      · have : n = 0 := by apply Classical.byContradiction; intro x; exact h ⟨rfl, x⟩
        simp [this]
    rw [this]
theorem sd_cases (zs : List Int) : (∃ (b : Bool) (h l : Nat), h < 18446744073709551616 ∧ l < 18446744073709551616 ∧ sdA zs = .tup [sgA b h l, iv .i64 0] ∧ zs = spZ b (h * 18446744073709551616 + l)) ∨ ∃ c : Int, c ≠ 0 ∧ sdA zs = z3 c := by
  unfold sdA
  by_cases ho : okZ (tl zs) = true
  · rw [if_pos ho]
    by_cases hv : decV (tl zs) < 340282366920938463463374607431768211456
    · rw [if_pos hv]
      by_cases hm : mn zs = true ∧ decV (tl zs) = 0
      · rw [if_pos hm]; exact .inr ⟨5, by omega, rfl⟩
      · rw [if_neg hm]
        refine .inl ⟨mn zs, decV (tl zs) / 18446744073709551616, decV (tl zs) % 18446744073709551616, by omega, by omega, rfl, ?_⟩
        rw [show decV (tl zs) / 18446744073709551616 * 18446744073709551616 + decV (tl zs) % 18446744073709551616 = decV (tl zs) by omega]
        have hk := (okZ_iff _).1 ho
        have h39 : ¬ 39 < (tl zs).length := fun h => big39 hk h hv
        have hd := hk.digits _ 39 rfl (by omega)
        cases hmn : mn zs
        · unfold spZ
          rw [if_neg (by simp), ← hd]
          unfold tl; rw [if_neg (by rw [hmn]; simp)]
        · have hv0 : decV (tl zs) ≠ 0 := fun h => hm ⟨hmn, h⟩
          unfold spZ
          rw [if_pos ⟨rfl, hv0⟩, ← hd]
          unfold tl; rw [if_pos hmn]
          unfold mn at hmn
          simp only [Bool.and_eq_true, decide_eq_true_eq, beq_iff_eq] at hmn
          cases zs with
          | nil => simp at hmn
          | cons a r =>
            have : a = 45 := by simpa using hmn.2
            rw [this]; rfl
    · rw [if_neg hv]; exact .inr ⟨3, by omega, rfl⟩
  · rw [if_neg ho]; exact .inr ⟨5, by omega, rfl⟩
set_option maxRecDepth 8000 in
set_option maxHeartbeats 4000000 in
theorem prints_ct (b : Bool) (h l : Nat) (h1 : h < 18446744073709551616) (h2 : l < 18446744073709551616) (zs : List Int) (hb : By zs) : ACt Try.prog 6 [sgA b h l, stz zs] [] (fun r _ => r = bv true) := by
  refine ACt.intro Try.func6 rfl (by kernel_rfl) (by simp [Try.ntmps6]) (fun cx => ?_)
  simp only [argE, Try.ntmps6, Try.results6]
  have hs := bstr_size zs
  by_cases hl : 200 < zs.length
  · have k0 : decide ((zs.length : Int) > 200) = true := by simp; omega
    first | (have FRx := FR; clear FRx) | (have FR : Sm (¬ ((1 : Nat) = 0)) := Sm.mk Nat.one_ne_zero)
    repeat' first
      | (refine Sm.mk ?_; try simp -dsimp only [ZK, rvc, drawF, headN, pureH, stp, dvc, calleeOf, gcall, pev, eff, newB, okd, og, ogs, ogo, ogp, slv, bltv, opd, litv, strip, one, both, putE, St.put, look, gdOf, gdv, picka, pickv, pickw, binv, bini, bins, binb, binp, binq, isSlT, bina, shp, eqCells, unv, convv, nilv, faddv, addp, idxav, idxp, load1, load1m, loadn, loadnm, loadv, hget, hset, hrep, hdel, slicev, bnd, shift1, lenv, capv, IntKind.bits, extractv, fieldv, indexv, min2v, max2v, mkiv, cellsA, fillA, buildv, stC, oneC, rowMB, intsA, plN, appE, appZ, appC, appNZ, appNC, VwL, srcC, srcZ, srcM, isBoolT, isPtrT, isSliceT, uOk, Value.oneCell', Nat.reducePow, Int.reducePow, Nat.reduceAdd, Nat.reduceMul, Nat.reduceSub, Nat.reduceLT, Nat.reduceLeDiff, Nat.reduceEqDiff, Nat.reduceBEq, Nat.reduceDiv, Nat.reduceMod, ↓reduceIte, reduceCtorEq, Int.reduceToNat, Int.reduceLT, Int.reduceLE, TFSiQ, SeqQ, BlkQ, LoopQ, BodyQ, hs, k0, FR.out])
      | (first | refine CallV.fn (awake_ct) (Sm.out ?_) | refine ExF.mk (awake_ct) (Sm.out ?_) | refine ExG.mk (fun _ => awake_ct) (Sm.out ?_) | refine ExG.mkJ (fun _ => awake_ct) (Sm.out ?_) | refine ExG.mkI (Ob.out ?_) (fun _ => awake_ct) (Sm.out ?_))
      | (refine WP.seq fun K hK => ?_)
      | (refine WP.region (rvc_sound _ _ (Sm.out ?_)))
      | (refine WP.drawK rfl mixed (by decide +kernel) (Sm.out ?_))
      | (refine Ob.mk ?_; focus (first | assumption | omega | decide | trivial | (intro hob; simp only [hob, ZF]; done) | (intros; (repeat' refine And.intro ?_ ?_) <;> first | assumption | omega | trivial | decide) | (intros; simp only [ZE] at *; (repeat' refine And.intro ?_ ?_) <;> first | assumption | omega | trivial)))
      | (refine And.intro (Ob.out ?_) ?_)
      | (refine WP.block ?_)
      | (refine WP.cond rfl (fun hc => ?_) (fun hc => ?_) <;> (try simp only [ZC, reduceCtorEq, ZD] at hc) <;> (try (exact absurd hc (by decide))) <;> (try (exfalso; omega)))
      | ((first | refine WP.skip ?_ | refine WP.exit ?_); simp only [SeqQ, BlkQ, LoopQ, BodyQ, ↓reduceIte, Nat.reduceEqDiff, reduceCtorEq, look, true_and])
      | (refine WP.ret (Sm.out ?_))
      | (first | refine ExG.no (Sm.out ?_) | refine Or.inl (ExG.no (Sm.out ?_)) | refine Or.inl (And.intro (fun hg => absurd hg (by decide)) (ExG.no (Sm.out ?_))))
      | (refine Rt.mk ?_; refine And.intro ?_ ?_ <;> (intro hg; first | exact absurd hg (by decide) | refine Sm.out ?_))
      | (refine Nu.mk ?_; first | (fail_if_success (have := nb1)); intro nb1 | (fail_if_success (have := nb2)); intro nb2 | (fail_if_success (have := nb3)); intro nb3 | (fail_if_success (have := nb4)); intro nb4 | (fail_if_success (have := nb5)); intro nb5 | (fail_if_success (have := nb6)); intro nb6 | (fail_if_success (have := nb7)); intro nb7 | (fail_if_success (have := nb8)); intro nb8 | intro nbz)
      | (refine Fr.mk ?_; intro hfr; (first | (have hFRb : _ ≤ _ ∧ _ ≤ _ := And.intro hfr.1 hfr.2.1) | (have hFRb : _ ≤ _ := hfr.1) | skip); replace FR := Sm.mk (And.intro hfr FR.out); clear hfr; refine Sm.out ?_)
      | (refine Two.mk ?_ ?_)
      | (refine Cs.mk ?_; intro hcs; first | exact False.elim hcs | (exfalso; omega) | (refine Sm.out ?_))
      | go_step
      | omega
      | (simp only [maxLen_eq]; omega)
    (refine OutQ.all ?_ ?_; (focus (simp only [resv, ZK, look, loadv, loadn, loadnm, load1, load1m, hget, ↓reduceIte, Nat.reduceEqDiff, Nat.reduceAdd, Nat.reduceMul, Nat.reduceLeDiff, Nat.reduceLT, reduceCtorEq, TFSiQ])); (try simp only [resv, resA, Fn, ZK, look, loadv, loadn, loadnm, load1, load1m, hget, ↓reduceIte, Nat.reduceEqDiff, Nat.reduceAdd, Nat.reduceMul, Nat.reduceLeDiff, Nat.reduceLT, reduceCtorEq, TFSiQ]); (try simp [resA, Fn, look]))
  have k0 : decide ((zs.length : Int) > 200) = false := by simp; omega
  have p1 := sprint_ct b h l h1 h2
  have q1 := srprint_ct b h l h1 h2
  have hn : h * 18446744073709551616 + l < 340282366920938463463374607431768211456 := by omega
  have r1 := sread_ct (spZ b (h * 18446744073709551616 + l)) (spZ_by hn) (Nat.le_trans spZ_len (by omega))
  rw [sd_print b hn, (hilo h l h2).1, (hilo h l h2).2] at r1
  have r2 := sread_ct zs hb (by omega)
  have r3 := srread_ct zs hb (by omega)
  have cR := Right_ct b (h : Int) (l : Int)
  obtain ⟨P, hP⟩ : ∃ P, P = bstr (spZ b (h * 18446744073709551616 + l)) := ⟨_, rfl⟩
  unfold stz at p1 q1 r1 r2 r3 ⊢
  rw [← hP] at p1 q1 r1
  have y1 : ∀ x : List UInt8, (x == x) = true := fun x => beq_self_eq_true x
  have y2 : ∀ x : Int, (x == x) = true := fun x => beq_self_eq_true x
  have y3 : ∀ x : Int, (x != x) = false := fun x => by simp
  have y4 : ∀ x : Bool, (x == x) = true := fun x => by simp
  obtain ⟨b', hb'⟩ : ∃ b', b' = (b && decide (h * 18446744073709551616 + l ≠ 0)) := ⟨_, rfl⟩
  rw [← hb'] at r1
  have fin : (rgt b (h : Int) (l : Int) = false ∧ b' = false ∧ h = 0 ∧ l = 0) ∨ (rgt b (h : Int) (l : Int) = true ∧ b' = b) := by
    have hg := rgt_nat b h l
    by_cases hx : b = true ∧ h * 18446744073709551616 + l = 0
    · refine .inl ⟨?_, ?_, by omega, by omega⟩
      · cases hr : rgt b (h : Int) (l : Int)
        · rfl
        · exact absurd hx (hg.1 hr)
      · rw [hb', hx.1, hx.2]; rfl
    · refine .inr ⟨hg.2 hx, ?_⟩
      rw [hb']
      cases b
      · rfl
      · have : h * 18446744073709551616 + l ≠ 0 := fun x => hx ⟨rfl, x⟩
        simp; omega
  have hw := sd_cases zs
  obtain ⟨S, hS⟩ : ∃ S, S = bstr zs := ⟨_, rfl⟩
  rw [← hS] at r2 r3 hs ⊢
  rcases hw with ⟨c, x, y, x1, x2, e1, e2⟩ | ⟨c, hc0, e1⟩
  · rw [e1] at r2 r3
    have p2 := sprint_ct c x y x1 x2
    rw [← e2] at p2
    unfold stz at p2
    rw [← hS] at p2
    rcases fin with ⟨f1, f2, f3, f4⟩ | ⟨f1, f2⟩
    · rw [f1] at cR
      rw [f2] at r1
      subst f3 f4
      first | (have FRx := FR; clear FRx) | (have FR : Sm (¬ ((1 : Nat) = 0)) := Sm.mk Nat.one_ne_zero)
      repeat' first
        | (refine Sm.mk ?_; try simp -dsimp only [ZK, rvc, drawF, headN, pureH, stp, dvc, calleeOf, gcall, pev, eff, newB, okd, og, ogs, ogo, ogp, slv, bltv, opd, litv, strip, one, both, putE, St.put, look, gdOf, gdv, picka, pickv, pickw, binv, bini, bins, binb, binp, binq, isSlT, bina, shp, eqCells, unv, convv, nilv, faddv, addp, idxav, idxp, load1, load1m, loadn, loadnm, loadv, hget, hset, hrep, hdel, slicev, bnd, shift1, lenv, capv, IntKind.bits, extractv, fieldv, indexv, min2v, max2v, mkiv, cellsA, fillA, buildv, stC, oneC, rowMB, intsA, plN, appE, appZ, appC, appNZ, appNC, VwL, srcC, srcZ, srcM, isBoolT, isPtrT, isSliceT, uOk, Value.oneCell', Nat.reducePow, Int.reducePow, Nat.reduceAdd, Nat.reduceMul, Nat.reduceSub, Nat.reduceLT, Nat.reduceLeDiff, Nat.reduceEqDiff, Nat.reduceBEq, Nat.reduceDiv, Nat.reduceMod, ↓reduceIte, reduceCtorEq, Int.reduceToNat, Int.reduceLT, Int.reduceLE, TFSiQ, SeqQ, BlkQ, LoopQ, BodyQ, k0, hs, y1, y2, y3, y4, fe26, FR.out])
        | (first | refine CallV.fn (awake_ct) (Sm.out ?_) | refine ExF.mk (awake_ct) (Sm.out ?_) | refine ExG.mk (fun _ => awake_ct) (Sm.out ?_) | refine ExG.mkJ (fun _ => awake_ct) (Sm.out ?_) | refine ExG.mkI (Ob.out ?_) (fun _ => awake_ct) (Sm.out ?_))
        | (first | refine CallV.fn (p1) (Sm.out ?_) | refine ExF.mk (p1) (Sm.out ?_) | refine ExG.mk (fun _ => p1) (Sm.out ?_) | refine ExG.mkJ (fun _ => p1) (Sm.out ?_) | refine ExG.mkI (Ob.out ?_) (fun _ => p1) (Sm.out ?_))
        | (first | refine CallV.fn (r1) (Sm.out ?_) | refine ExF.mk (r1) (Sm.out ?_) | refine ExG.mk (fun _ => r1) (Sm.out ?_) | refine ExG.mkJ (fun _ => r1) (Sm.out ?_) | refine ExG.mkI (Ob.out ?_) (fun _ => r1) (Sm.out ?_))
        | (first | refine CallV.fn (r2) (Sm.out ?_) | refine ExF.mk (r2) (Sm.out ?_) | refine ExG.mk (fun _ => r2) (Sm.out ?_) | refine ExG.mkJ (fun _ => r2) (Sm.out ?_) | refine ExG.mkI (Ob.out ?_) (fun _ => r2) (Sm.out ?_))
        | (first | refine CallV.fn (r3) (Sm.out ?_) | refine ExF.mk (r3) (Sm.out ?_) | refine ExG.mk (fun _ => r3) (Sm.out ?_) | refine ExG.mkJ (fun _ => r3) (Sm.out ?_) | refine ExG.mkI (Ob.out ?_) (fun _ => r3) (Sm.out ?_))
        | (first | refine CallV.fn (q1) (Sm.out ?_) | refine ExF.mk (q1) (Sm.out ?_) | refine ExG.mk (fun _ => q1) (Sm.out ?_) | refine ExG.mkJ (fun _ => q1) (Sm.out ?_) | refine ExG.mkI (Ob.out ?_) (fun _ => q1) (Sm.out ?_))
        | (first | refine CallV.fn (p2) (Sm.out ?_) | refine ExF.mk (p2) (Sm.out ?_) | refine ExG.mk (fun _ => p2) (Sm.out ?_) | refine ExG.mkJ (fun _ => p2) (Sm.out ?_) | refine ExG.mkI (Ob.out ?_) (fun _ => p2) (Sm.out ?_))
        | (first | refine CallV.fn (cR) (Sm.out ?_) | refine ExF.mk (cR) (Sm.out ?_) | refine ExG.mk (fun _ => cR) (Sm.out ?_) | refine ExG.mkJ (fun _ => cR) (Sm.out ?_) | refine ExG.mkI (Ob.out ?_) (fun _ => cR) (Sm.out ?_))
        | (refine WP.seq fun K hK => ?_)
        | (refine WP.region (rvc_sound _ _ (Sm.out ?_)))
        | (refine WP.drawK rfl mixed (by decide +kernel) (Sm.out ?_))
        | (refine Ob.mk ?_; focus (first | assumption | omega | decide | trivial | (intro hob; simp only [hob, ZF]; done) | (intros; (repeat' refine And.intro ?_ ?_) <;> first | assumption | omega | trivial | decide) | (intros; simp only [ZE] at *; (repeat' refine And.intro ?_ ?_) <;> first | assumption | omega | trivial)))
        | (refine And.intro (Ob.out ?_) ?_)
        | (refine WP.block ?_)
        | (refine WP.cond rfl (fun hc => ?_) (fun hc => ?_) <;> (try simp only [ZC, reduceCtorEq, ZD] at hc) <;> (try (exact absurd hc (by decide))) <;> (try (exfalso; omega)))
        | ((first | refine WP.skip ?_ | refine WP.exit ?_); simp only [SeqQ, BlkQ, LoopQ, BodyQ, ↓reduceIte, Nat.reduceEqDiff, reduceCtorEq, look, true_and])
        | (refine WP.ret (Sm.out ?_))
        | (first | refine ExG.no (Sm.out ?_) | refine Or.inl (ExG.no (Sm.out ?_)) | refine Or.inl (And.intro (fun hg => absurd hg (by decide)) (ExG.no (Sm.out ?_))))
        | (refine Rt.mk ?_; refine And.intro ?_ ?_ <;> (intro hg; first | exact absurd hg (by decide) | refine Sm.out ?_))
        | (refine Nu.mk ?_; first | (fail_if_success (have := nb1)); intro nb1 | (fail_if_success (have := nb2)); intro nb2 | (fail_if_success (have := nb3)); intro nb3 | (fail_if_success (have := nb4)); intro nb4 | (fail_if_success (have := nb5)); intro nb5 | (fail_if_success (have := nb6)); intro nb6 | (fail_if_success (have := nb7)); intro nb7 | (fail_if_success (have := nb8)); intro nb8 | intro nbz)
        | (refine Fr.mk ?_; intro hfr; (first | (have hFRb : _ ≤ _ ∧ _ ≤ _ := And.intro hfr.1 hfr.2.1) | (have hFRb : _ ≤ _ := hfr.1) | skip); replace FR := Sm.mk (And.intro hfr FR.out); clear hfr; refine Sm.out ?_)
        | (refine Two.mk ?_ ?_)
        | (refine Cs.mk ?_; intro hcs; first | exact False.elim hcs | (exfalso; omega) | (refine Sm.out ?_))
        | go_step
        | omega
        | (simp only [maxLen_eq]; omega)
      (refine OutQ.all ?_ ?_; (focus (simp only [resv, ZK, look, loadv, loadn, loadnm, load1, load1m, hget, ↓reduceIte, Nat.reduceEqDiff, Nat.reduceAdd, Nat.reduceMul, Nat.reduceLeDiff, Nat.reduceLT, reduceCtorEq, TFSiQ])); (try simp only [resv, resA, Fn, ZK, look, loadv, loadn, loadnm, load1, load1m, hget, ↓reduceIte, Nat.reduceEqDiff, Nat.reduceAdd, Nat.reduceMul, Nat.reduceLeDiff, Nat.reduceLT, reduceCtorEq, TFSiQ]); (try simp [resA, Fn, look]))
    · rw [f1] at cR
      rw [f2] at r1
      first | (have FRx := FR; clear FRx) | (have FR : Sm (¬ ((1 : Nat) = 0)) := Sm.mk Nat.one_ne_zero)
      repeat' first
        | (refine Sm.mk ?_; try simp -dsimp only [ZK, rvc, drawF, headN, pureH, stp, dvc, calleeOf, gcall, pev, eff, newB, okd, og, ogs, ogo, ogp, slv, bltv, opd, litv, strip, one, both, putE, St.put, look, gdOf, gdv, picka, pickv, pickw, binv, bini, bins, binb, binp, binq, isSlT, bina, shp, eqCells, unv, convv, nilv, faddv, addp, idxav, idxp, load1, load1m, loadn, loadnm, loadv, hget, hset, hrep, hdel, slicev, bnd, shift1, lenv, capv, IntKind.bits, extractv, fieldv, indexv, min2v, max2v, mkiv, cellsA, fillA, buildv, stC, oneC, rowMB, intsA, plN, appE, appZ, appC, appNZ, appNC, VwL, srcC, srcZ, srcM, isBoolT, isPtrT, isSliceT, uOk, Value.oneCell', Nat.reducePow, Int.reducePow, Nat.reduceAdd, Nat.reduceMul, Nat.reduceSub, Nat.reduceLT, Nat.reduceLeDiff, Nat.reduceEqDiff, Nat.reduceBEq, Nat.reduceDiv, Nat.reduceMod, ↓reduceIte, reduceCtorEq, Int.reduceToNat, Int.reduceLT, Int.reduceLE, TFSiQ, SeqQ, BlkQ, LoopQ, BodyQ, k0, hs, y1, y2, y3, y4, fe26, FR.out])
        | (first | refine CallV.fn (awake_ct) (Sm.out ?_) | refine ExF.mk (awake_ct) (Sm.out ?_) | refine ExG.mk (fun _ => awake_ct) (Sm.out ?_) | refine ExG.mkJ (fun _ => awake_ct) (Sm.out ?_) | refine ExG.mkI (Ob.out ?_) (fun _ => awake_ct) (Sm.out ?_))
        | (first | refine CallV.fn (p1) (Sm.out ?_) | refine ExF.mk (p1) (Sm.out ?_) | refine ExG.mk (fun _ => p1) (Sm.out ?_) | refine ExG.mkJ (fun _ => p1) (Sm.out ?_) | refine ExG.mkI (Ob.out ?_) (fun _ => p1) (Sm.out ?_))
        | (first | refine CallV.fn (r1) (Sm.out ?_) | refine ExF.mk (r1) (Sm.out ?_) | refine ExG.mk (fun _ => r1) (Sm.out ?_) | refine ExG.mkJ (fun _ => r1) (Sm.out ?_) | refine ExG.mkI (Ob.out ?_) (fun _ => r1) (Sm.out ?_))
        | (first | refine CallV.fn (r2) (Sm.out ?_) | refine ExF.mk (r2) (Sm.out ?_) | refine ExG.mk (fun _ => r2) (Sm.out ?_) | refine ExG.mkJ (fun _ => r2) (Sm.out ?_) | refine ExG.mkI (Ob.out ?_) (fun _ => r2) (Sm.out ?_))
        | (first | refine CallV.fn (r3) (Sm.out ?_) | refine ExF.mk (r3) (Sm.out ?_) | refine ExG.mk (fun _ => r3) (Sm.out ?_) | refine ExG.mkJ (fun _ => r3) (Sm.out ?_) | refine ExG.mkI (Ob.out ?_) (fun _ => r3) (Sm.out ?_))
        | (first | refine CallV.fn (q1) (Sm.out ?_) | refine ExF.mk (q1) (Sm.out ?_) | refine ExG.mk (fun _ => q1) (Sm.out ?_) | refine ExG.mkJ (fun _ => q1) (Sm.out ?_) | refine ExG.mkI (Ob.out ?_) (fun _ => q1) (Sm.out ?_))
        | (first | refine CallV.fn (p2) (Sm.out ?_) | refine ExF.mk (p2) (Sm.out ?_) | refine ExG.mk (fun _ => p2) (Sm.out ?_) | refine ExG.mkJ (fun _ => p2) (Sm.out ?_) | refine ExG.mkI (Ob.out ?_) (fun _ => p2) (Sm.out ?_))
        | (first | refine CallV.fn (cR) (Sm.out ?_) | refine ExF.mk (cR) (Sm.out ?_) | refine ExG.mk (fun _ => cR) (Sm.out ?_) | refine ExG.mkJ (fun _ => cR) (Sm.out ?_) | refine ExG.mkI (Ob.out ?_) (fun _ => cR) (Sm.out ?_))
        | (refine WP.seq fun K hK => ?_)
        | (refine WP.region (rvc_sound _ _ (Sm.out ?_)))
        | (refine WP.drawK rfl mixed (by decide +kernel) (Sm.out ?_))
        | (refine Ob.mk ?_; focus (first | assumption | omega | decide | trivial | (intro hob; simp only [hob, ZF]; done) | (intros; (repeat' refine And.intro ?_ ?_) <;> first | assumption | omega | trivial | decide) | (intros; simp only [ZE] at *; (repeat' refine And.intro ?_ ?_) <;> first | assumption | omega | trivial)))
        | (refine And.intro (Ob.out ?_) ?_)
        | (refine WP.block ?_)
        | (refine WP.cond rfl (fun hc => ?_) (fun hc => ?_) <;> (try simp only [ZC, reduceCtorEq, ZD] at hc) <;> (try (exact absurd hc (by decide))) <;> (try (exfalso; omega)))
        | ((first | refine WP.skip ?_ | refine WP.exit ?_); simp only [SeqQ, BlkQ, LoopQ, BodyQ, ↓reduceIte, Nat.reduceEqDiff, reduceCtorEq, look, true_and])
        | (refine WP.ret (Sm.out ?_))
        | (first | refine ExG.no (Sm.out ?_) | refine Or.inl (ExG.no (Sm.out ?_)) | refine Or.inl (And.intro (fun hg => absurd hg (by decide)) (ExG.no (Sm.out ?_))))
        | (refine Rt.mk ?_; refine And.intro ?_ ?_ <;> (intro hg; first | exact absurd hg (by decide) | refine Sm.out ?_))
        | (refine Nu.mk ?_; first | (fail_if_success (have := nb1)); intro nb1 | (fail_if_success (have := nb2)); intro nb2 | (fail_if_success (have := nb3)); intro nb3 | (fail_if_success (have := nb4)); intro nb4 | (fail_if_success (have := nb5)); intro nb5 | (fail_if_success (have := nb6)); intro nb6 | (fail_if_success (have := nb7)); intro nb7 | (fail_if_success (have := nb8)); intro nb8 | intro nbz)
        | (refine Fr.mk ?_; intro hfr; (first | (have hFRb : _ ≤ _ ∧ _ ≤ _ := And.intro hfr.1 hfr.2.1) | (have hFRb : _ ≤ _ := hfr.1) | skip); replace FR := Sm.mk (And.intro hfr FR.out); clear hfr; refine Sm.out ?_)
        | (refine Two.mk ?_ ?_)
        | (refine Cs.mk ?_; intro hcs; first | exact False.elim hcs | (exfalso; omega) | (refine Sm.out ?_))
        | go_step
        | omega
        | (simp only [maxLen_eq]; omega)
      (refine OutQ.all ?_ ?_; (focus (simp only [resv, ZK, look, loadv, loadn, loadnm, load1, load1m, hget, ↓reduceIte, Nat.reduceEqDiff, Nat.reduceAdd, Nat.reduceMul, Nat.reduceLeDiff, Nat.reduceLT, reduceCtorEq, TFSiQ])); (try simp only [resv, resA, Fn, ZK, look, loadv, loadn, loadnm, load1, load1m, hget, ↓reduceIte, Nat.reduceEqDiff, Nat.reduceAdd, Nat.reduceMul, Nat.reduceLeDiff, Nat.reduceLT, reduceCtorEq, TFSiQ]); (try simp [resA, Fn, look]))
  · rw [e1] at r2 r3
    have k1 : (c == 0) = false := by simpa using hc0
    have k2 : (c != 0) = true := by simpa using hc0
    rcases fin with ⟨f1, f2, f3, f4⟩ | ⟨f1, f2⟩
    · rw [f1] at cR
      rw [f2] at r1
      subst f3 f4
      first | (have FRx := FR; clear FRx) | (have FR : Sm (¬ ((1 : Nat) = 0)) := Sm.mk Nat.one_ne_zero)
      repeat' first
        | (refine Sm.mk ?_; try simp -dsimp only [ZK, rvc, drawF, headN, pureH, stp, dvc, calleeOf, gcall, pev, eff, newB, okd, og, ogs, ogo, ogp, slv, bltv, opd, litv, strip, one, both, putE, St.put, look, gdOf, gdv, picka, pickv, pickw, binv, bini, bins, binb, binp, binq, isSlT, bina, shp, eqCells, unv, convv, nilv, faddv, addp, idxav, idxp, load1, load1m, loadn, loadnm, loadv, hget, hset, hrep, hdel, slicev, bnd, shift1, lenv, capv, IntKind.bits, extractv, fieldv, indexv, min2v, max2v, mkiv, cellsA, fillA, buildv, stC, oneC, rowMB, intsA, plN, appE, appZ, appC, appNZ, appNC, VwL, srcC, srcZ, srcM, isBoolT, isPtrT, isSliceT, uOk, Value.oneCell', Nat.reducePow, Int.reducePow, Nat.reduceAdd, Nat.reduceMul, Nat.reduceSub, Nat.reduceLT, Nat.reduceLeDiff, Nat.reduceEqDiff, Nat.reduceBEq, Nat.reduceDiv, Nat.reduceMod, ↓reduceIte, reduceCtorEq, Int.reduceToNat, Int.reduceLT, Int.reduceLE, TFSiQ, SeqQ, BlkQ, LoopQ, BodyQ, k0, hs, y1, y2, y3, y4, k1, k2, fe26, FR.out])
        | (first | refine CallV.fn (awake_ct) (Sm.out ?_) | refine ExF.mk (awake_ct) (Sm.out ?_) | refine ExG.mk (fun _ => awake_ct) (Sm.out ?_) | refine ExG.mkJ (fun _ => awake_ct) (Sm.out ?_) | refine ExG.mkI (Ob.out ?_) (fun _ => awake_ct) (Sm.out ?_))
        | (first | refine CallV.fn (p1) (Sm.out ?_) | refine ExF.mk (p1) (Sm.out ?_) | refine ExG.mk (fun _ => p1) (Sm.out ?_) | refine ExG.mkJ (fun _ => p1) (Sm.out ?_) | refine ExG.mkI (Ob.out ?_) (fun _ => p1) (Sm.out ?_))
        | (first | refine CallV.fn (r1) (Sm.out ?_) | refine ExF.mk (r1) (Sm.out ?_) | refine ExG.mk (fun _ => r1) (Sm.out ?_) | refine ExG.mkJ (fun _ => r1) (Sm.out ?_) | refine ExG.mkI (Ob.out ?_) (fun _ => r1) (Sm.out ?_))
        | (first | refine CallV.fn (r2) (Sm.out ?_) | refine ExF.mk (r2) (Sm.out ?_) | refine ExG.mk (fun _ => r2) (Sm.out ?_) | refine ExG.mkJ (fun _ => r2) (Sm.out ?_) | refine ExG.mkI (Ob.out ?_) (fun _ => r2) (Sm.out ?_))
        | (first | refine CallV.fn (r3) (Sm.out ?_) | refine ExF.mk (r3) (Sm.out ?_) | refine ExG.mk (fun _ => r3) (Sm.out ?_) | refine ExG.mkJ (fun _ => r3) (Sm.out ?_) | refine ExG.mkI (Ob.out ?_) (fun _ => r3) (Sm.out ?_))
        | (first | refine CallV.fn (q1) (Sm.out ?_) | refine ExF.mk (q1) (Sm.out ?_) | refine ExG.mk (fun _ => q1) (Sm.out ?_) | refine ExG.mkJ (fun _ => q1) (Sm.out ?_) | refine ExG.mkI (Ob.out ?_) (fun _ => q1) (Sm.out ?_))
        | (first | refine CallV.fn (cR) (Sm.out ?_) | refine ExF.mk (cR) (Sm.out ?_) | refine ExG.mk (fun _ => cR) (Sm.out ?_) | refine ExG.mkJ (fun _ => cR) (Sm.out ?_) | refine ExG.mkI (Ob.out ?_) (fun _ => cR) (Sm.out ?_))
        | (refine WP.seq fun K hK => ?_)
        | (refine WP.region (rvc_sound _ _ (Sm.out ?_)))
        | (refine WP.drawK rfl mixed (by decide +kernel) (Sm.out ?_))
        | (refine Ob.mk ?_; focus (first | assumption | omega | decide | trivial | (intro hob; simp only [hob, ZF]; done) | (intros; (repeat' refine And.intro ?_ ?_) <;> first | assumption | omega | trivial | decide) | (intros; simp only [ZE] at *; (repeat' refine And.intro ?_ ?_) <;> first | assumption | omega | trivial)))
        | (refine And.intro (Ob.out ?_) ?_)
        | (refine WP.block ?_)
        | (refine WP.cond rfl (fun hc => ?_) (fun hc => ?_) <;> (try simp only [ZC, reduceCtorEq, ZD] at hc) <;> (try (exact absurd hc (by decide))) <;> (try (exfalso; omega)))
        | ((first | refine WP.skip ?_ | refine WP.exit ?_); simp only [SeqQ, BlkQ, LoopQ, BodyQ, ↓reduceIte, Nat.reduceEqDiff, reduceCtorEq, look, true_and])
        | (refine WP.ret (Sm.out ?_))
        | (first | refine ExG.no (Sm.out ?_) | refine Or.inl (ExG.no (Sm.out ?_)) | refine Or.inl (And.intro (fun hg => absurd hg (by decide)) (ExG.no (Sm.out ?_))))
        | (refine Rt.mk ?_; refine And.intro ?_ ?_ <;> (intro hg; first | exact absurd hg (by decide) | refine Sm.out ?_))
        | (refine Nu.mk ?_; first | (fail_if_success (have := nb1)); intro nb1 | (fail_if_success (have := nb2)); intro nb2 | (fail_if_success (have := nb3)); intro nb3 | (fail_if_success (have := nb4)); intro nb4 | (fail_if_success (have := nb5)); intro nb5 | (fail_if_success (have := nb6)); intro nb6 | (fail_if_success (have := nb7)); intro nb7 | (fail_if_success (have := nb8)); intro nb8 | intro nbz)
        | (refine Fr.mk ?_; intro hfr; (first | (have hFRb : _ ≤ _ ∧ _ ≤ _ := And.intro hfr.1 hfr.2.1) | (have hFRb : _ ≤ _ := hfr.1) | skip); replace FR := Sm.mk (And.intro hfr FR.out); clear hfr; refine Sm.out ?_)
        | (refine Two.mk ?_ ?_)
        | (refine Cs.mk ?_; intro hcs; first | exact False.elim hcs | (exfalso; omega) | (refine Sm.out ?_))
        | go_step
        | omega
        | (simp only [maxLen_eq]; omega)
      (refine OutQ.all ?_ ?_; (focus (simp only [resv, ZK, look, loadv, loadn, loadnm, load1, load1m, hget, ↓reduceIte, Nat.reduceEqDiff, Nat.reduceAdd, Nat.reduceMul, Nat.reduceLeDiff, Nat.reduceLT, reduceCtorEq, TFSiQ])); (try simp only [resv, resA, Fn, ZK, look, loadv, loadn, loadnm, load1, load1m, hget, ↓reduceIte, Nat.reduceEqDiff, Nat.reduceAdd, Nat.reduceMul, Nat.reduceLeDiff, Nat.reduceLT, reduceCtorEq, TFSiQ]); (try simp [resA, Fn, look]))
    · rw [f1] at cR
      rw [f2] at r1
      first | (have FRx := FR; clear FRx) | (have FR : Sm (¬ ((1 : Nat) = 0)) := Sm.mk Nat.one_ne_zero)
      repeat' first
        | (refine Sm.mk ?_; try simp -dsimp only [ZK, rvc, drawF, headN, pureH, stp, dvc, calleeOf, gcall, pev, eff, newB, okd, og, ogs, ogo, ogp, slv, bltv, opd, litv, strip, one, both, putE, St.put, look, gdOf, gdv, picka, pickv, pickw, binv, bini, bins, binb, binp, binq, isSlT, bina, shp, eqCells, unv, convv, nilv, faddv, addp, idxav, idxp, load1, load1m, loadn, loadnm, loadv, hget, hset, hrep, hdel, slicev, bnd, shift1, lenv, capv, IntKind.bits, extractv, fieldv, indexv, min2v, max2v, mkiv, cellsA, fillA, buildv, stC, oneC, rowMB, intsA, plN, appE, appZ, appC, appNZ, appNC, VwL, srcC, srcZ, srcM, isBoolT, isPtrT, isSliceT, uOk, Value.oneCell', Nat.reducePow, Int.reducePow, Nat.reduceAdd, Nat.reduceMul, Nat.reduceSub, Nat.reduceLT, Nat.reduceLeDiff, Nat.reduceEqDiff, Nat.reduceBEq, Nat.reduceDiv, Nat.reduceMod, ↓reduceIte, reduceCtorEq, Int.reduceToNat, Int.reduceLT, Int.reduceLE, TFSiQ, SeqQ, BlkQ, LoopQ, BodyQ, k0, hs, y1, y2, y3, y4, k1, k2, fe26, FR.out])
        | (first | refine CallV.fn (awake_ct) (Sm.out ?_) | refine ExF.mk (awake_ct) (Sm.out ?_) | refine ExG.mk (fun _ => awake_ct) (Sm.out ?_) | refine ExG.mkJ (fun _ => awake_ct) (Sm.out ?_) | refine ExG.mkI (Ob.out ?_) (fun _ => awake_ct) (Sm.out ?_))
        | (first | refine CallV.fn (p1) (Sm.out ?_) | refine ExF.mk (p1) (Sm.out ?_) | refine ExG.mk (fun _ => p1) (Sm.out ?_) | refine ExG.mkJ (fun _ => p1) (Sm.out ?_) | refine ExG.mkI (Ob.out ?_) (fun _ => p1) (Sm.out ?_))
        | (first | refine CallV.fn (r1) (Sm.out ?_) | refine ExF.mk (r1) (Sm.out ?_) | refine ExG.mk (fun _ => r1) (Sm.out ?_) | refine ExG.mkJ (fun _ => r1) (Sm.out ?_) | refine ExG.mkI (Ob.out ?_) (fun _ => r1) (Sm.out ?_))
        | (first | refine CallV.fn (r2) (Sm.out ?_) | refine ExF.mk (r2) (Sm.out ?_) | refine ExG.mk (fun _ => r2) (Sm.out ?_) | refine ExG.mkJ (fun _ => r2) (Sm.out ?_) | refine ExG.mkI (Ob.out ?_) (fun _ => r2) (Sm.out ?_))
        | (first | refine CallV.fn (r3) (Sm.out ?_) | refine ExF.mk (r3) (Sm.out ?_) | refine ExG.mk (fun _ => r3) (Sm.out ?_) | refine ExG.mkJ (fun _ => r3) (Sm.out ?_) | refine ExG.mkI (Ob.out ?_) (fun _ => r3) (Sm.out ?_))
        | (first | refine CallV.fn (q1) (Sm.out ?_) | refine ExF.mk (q1) (Sm.out ?_) | refine ExG.mk (fun _ => q1) (Sm.out ?_) | refine ExG.mkJ (fun _ => q1) (Sm.out ?_) | refine ExG.mkI (Ob.out ?_) (fun _ => q1) (Sm.out ?_))
        | (first | refine CallV.fn (cR) (Sm.out ?_) | refine ExF.mk (cR) (Sm.out ?_) | refine ExG.mk (fun _ => cR) (Sm.out ?_) | refine ExG.mkJ (fun _ => cR) (Sm.out ?_) | refine ExG.mkI (Ob.out ?_) (fun _ => cR) (Sm.out ?_))
        | (refine WP.seq fun K hK => ?_)
        | (refine WP.region (rvc_sound _ _ (Sm.out ?_)))
        | (refine WP.drawK rfl mixed (by decide +kernel) (Sm.out ?_))
        | (refine Ob.mk ?_; focus (first | assumption | omega | decide | trivial | (intro hob; simp only [hob, ZF]; done) | (intros; (repeat' refine And.intro ?_ ?_) <;> first | assumption | omega | trivial | decide) | (intros; simp only [ZE] at *; (repeat' refine And.intro ?_ ?_) <;> first | assumption | omega | trivial)))
        | (refine And.intro (Ob.out ?_) ?_)
        | (refine WP.block ?_)
        | (refine WP.cond rfl (fun hc => ?_) (fun hc => ?_) <;> (try simp only [ZC, reduceCtorEq, ZD] at hc) <;> (try (exact absurd hc (by decide))) <;> (try (exfalso; omega)))
        | ((first | refine WP.skip ?_ | refine WP.exit ?_); simp only [SeqQ, BlkQ, LoopQ, BodyQ, ↓reduceIte, Nat.reduceEqDiff, reduceCtorEq, look, true_and])
        | (refine WP.ret (Sm.out ?_))
        | (first | refine ExG.no (Sm.out ?_) | refine Or.inl (ExG.no (Sm.out ?_)) | refine Or.inl (And.intro (fun hg => absurd hg (by decide)) (ExG.no (Sm.out ?_))))
        | (refine Rt.mk ?_; refine And.intro ?_ ?_ <;> (intro hg; first | exact absurd hg (by decide) | refine Sm.out ?_))
        | (refine Nu.mk ?_; first | (fail_if_success (have := nb1)); intro nb1 | (fail_if_success (have := nb2)); intro nb2 | (fail_if_success (have := nb3)); intro nb3 | (fail_if_success (have := nb4)); intro nb4 | (fail_if_success (have := nb5)); intro nb5 | (fail_if_success (have := nb6)); intro nb6 | (fail_if_success (have := nb7)); intro nb7 | (fail_if_success (have := nb8)); intro nb8 | intro nbz)
        | (refine Fr.mk ?_; intro hfr; (first | (have hFRb : _ ≤ _ ∧ _ ≤ _ := And.intro hfr.1 hfr.2.1) | (have hFRb : _ ≤ _ := hfr.1) | skip); replace FR := Sm.mk (And.intro hfr FR.out); clear hfr; refine Sm.out ?_)
        | (refine Two.mk ?_ ?_)
        | (refine Cs.mk ?_; intro hcs; first | exact False.elim hcs | (exfalso; omega) | (refine Sm.out ?_))
        | go_step
        | omega
        | (simp only [maxLen_eq]; omega)
      (refine OutQ.all ?_ ?_; (focus (simp only [resv, ZK, look, loadv, loadn, loadnm, load1, load1m, hget, ↓reduceIte, Nat.reduceEqDiff, Nat.reduceAdd, Nat.reduceMul, Nat.reduceLeDiff, Nat.reduceLT, reduceCtorEq, TFSiQ])); (try simp only [resv, resA, Fn, ZK, look, loadv, loadn, loadnm, load1, load1m, hget, ↓reduceIte, Nat.reduceEqDiff, Nat.reduceAdd, Nat.reduceMul, Nat.reduceLeDiff, Nat.reduceLT, reduceCtorEq, TFSiQ]); (try simp [resA, Fn, look]))
theorem prints_law {xs : List AV} (hx : Shp sgTy xs) (s : ByteArray) : ACt Try.prog 6 [.agg xs, .lit (.string s)] [] (fun r _ => r = bv true) := by
  obtain ⟨b, h, l, e, h1, h2, h3, h4⟩ := sg_shp hx
  rw [e]
  obtain ⟨h, rfl⟩ := Int.eq_ofNat_of_zero_le h1
  obtain ⟨l, rfl⟩ := Int.eq_ofNat_of_zero_le h3
  have es : s = bstr (ub s.data.toList) := by
    apply ByteArray.ext
    apply Array.ext'
    simp only [bstr, ub, List.map_map]
    have e2 : s.data.toList.map ((fun n : Int => UInt8.ofNat n.toNat) ∘ fun b : UInt8 => (b.toNat : Int)) = s.data.toList.map id := List.map_congr_left fun b _ => by simp
    rw [e2, List.map_id]
  have hb : By (ub s.data.toList) := fun i hi => by
    rw [ub_getD]
    have := ((s.data.toList).getD i 0).toNat_lt
    omega
  rw [es]
  exact prints_ct b h l (by omega) (by omega) (ub s.data.toList) hb
end Go.Proofs.Ytngdgicgppaeaaa
