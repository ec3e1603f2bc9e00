/-
  The walks and the laws that the statement leans on, part 14.
-/
import Derived.Test.YtjdjpgjjnajjhaaDoorZ13
namespace Go.Proofs.YtjdjpgjjnajjhaaDoor
open Go
set_option linter.unusedVariables false
set_option linter.unusedSimpArgs false
theorem TFTyM : (((((type_of% tyc3) ∧ ((type_of% zmb3) ∧ (type_of% tyc4))) ∧ ((type_of% zmb4) ∧ ((type_of% tyc9) ∧ (type_of% zmb9)))) ∧ (((type_of% tyc21) ∧ ((type_of% zmb21) ∧ (type_of% tyc26))) ∧ ((type_of% elt26) ∧ ((type_of% mkz26) ∧ (type_of% apT26))))) ∧ ((((type_of% elk26) ∧ ((type_of% zmb26) ∧ (type_of% tyc32))) ∧ ((type_of% zmb32) ∧ ((type_of% tyc33) ∧ (type_of% Tryd.underlying3)))) ∧ (((type_of% Tryd.underlying4) ∧ ((type_of% Tryd.underlying9) ∧ (type_of% Tryd.underlying21))) ∧ ((type_of% Tryd.underlying26) ∧ ((type_of% Tryd.underlying32) ∧ (type_of% Tryd.underlying33)))))) :=
  ⟨⟨⟨⟨tyc3, ⟨zmb3, tyc4⟩⟩, ⟨zmb4, ⟨tyc9, zmb9⟩⟩⟩, ⟨⟨tyc21, ⟨zmb21, tyc26⟩⟩, ⟨elt26, ⟨mkz26, apT26⟩⟩⟩⟩, ⟨⟨⟨elk26, ⟨zmb26, tyc32⟩⟩, ⟨zmb32, ⟨tyc33, Tryd.underlying3⟩⟩⟩, ⟨⟨Tryd.underlying4, ⟨Tryd.underlying9, Tryd.underlying21⟩⟩, ⟨Tryd.underlying26, ⟨Tryd.underlying32, Tryd.underlying33⟩⟩⟩⟩⟩
set_option maxHeartbeats 2000000 in
theorem unqs_ct (zs : List Int) (hb : By zs) (n0 n1 : Nat) : ACt Tryd.prog 6 [stz zs] [(0, .zs .u8 fsZ 256 n0), (1, .zs .u8 acZ 32 n1)] (fun r F' => r = bv true ∧ F' = [(0, .zs .u8 fsZ 256 n0), (1, .zs .u8 acZ 32 n1)]) := by
  have hs := bstr_size zs
  have cA := awake_ct
  by_cases hl : 1500 < zs.length
  · have k0 : decide ((zs.length : Int) > 1500) = true := decide_eq_true (by omega)
    obtain ⟨FZ, hFZ⟩ : ∃ FZ, FZ = fsZ := ⟨_, rfl⟩
    obtain ⟨AZ, hAZ⟩ : ∃ AZ, AZ = acZ := ⟨_, rfl⟩
    rw [← hFZ, ← hAZ]
    obtain ⟨Z, hZ⟩ : ∃ Z, Z = bstr zs := ⟨_, rfl⟩
    unfold stz
    rw [← hZ] at hs ⊢
    refine ACt.intro Tryd.func6 rfl (by kernel_rfl) (by simp [Tryd.ntmps6]) (fun cx => ?_)
    simp only [argE, Tryd.ntmps6, Tryd.results6]
    first | (have FRx := FR; clear FRx) | (have FR : Sm (¬ ((1 : Nat) = 0)) := Sm.mk Nat.one_ne_zero)
    repeat' first
      | (refine Sm.mk ?_; try simp -dsimp only [ZK, rvc, drawF, headN, pureH, stp, dvc, calleeOf, gcall, pev, eff, newB, okd, og, ogs, ogo, ogp, slv, bltv, opd, litv, strip, one, both, putE, St.put, look, gdOf, gdv, picka, pickv, pickw, binv, bini, bins, binb, binp, binq, isSlT, bina, shp, eqCells, unv, convv, nilv, faddv, addp, idxav, idxp, load1, load1m, loadn, loadnm, loadv, hget, hset, hrep, hdel, slicev, bnd, shift1, lenv, capv, IntKind.bits, extractv, fieldv, indexv, min2v, max2v, mkiv, cellsA, fillA, buildv, stC, oneC, rowMB, intsA, plN, appE, appZ, appC, appNZ, appNC, VwL, srcC, srcZ, srcM, isBoolT, isPtrT, isSliceT, uOk, Value.oneCell', Nat.reducePow, Int.reducePow, Nat.reduceAdd, Nat.reduceMul, Nat.reduceSub, Nat.reduceLT, Nat.reduceLeDiff, Nat.reduceEqDiff, Nat.reduceBEq, Nat.reduceDiv, Nat.reduceMod, ↓reduceIte, reduceCtorEq, Int.reduceToNat, Int.reduceLT, Int.reduceLE, TFTyM, SeqQ, BlkQ, LoopQ, BodyQ, hs, k0, FR.out])
      | (first | refine CallV.fn (cA) (Sm.out ?_) | refine ExF.mk (cA) (Sm.out ?_) | refine ExG.mk (fun _ => cA) (Sm.out ?_) | refine ExG.mkJ (fun _ => cA) (Sm.out ?_) | refine ExG.mkI (Ob.out ?_) (fun _ => cA) (Sm.out ?_))
      | (refine WP.seq fun K hK => ?_)
      | (refine WP.region (rvc_sound _ _ (Sm.out ?_)))
      | (refine WP.drawK rfl mixed (by decide +kernel) (Sm.out ?_))
      | (refine Ob.mk ?_; focus (first | assumption | omega | decide | trivial | (intro hob; simp only [hob, ZF]; done) | (intros; (repeat' refine And.intro ?_ ?_) <;> first | assumption | omega | trivial | decide) | (intros; simp only [ZE] at *; (repeat' refine And.intro ?_ ?_) <;> first | assumption | omega | trivial)))
      | (refine And.intro (Ob.out ?_) ?_)
      | (refine WP.block ?_)
      | (refine WP.cond rfl (fun hc => ?_) (fun hc => ?_) <;> (try simp only [ZC, reduceCtorEq, ZD] at hc) <;> (try (exact absurd hc (by decide))) <;> (try (exfalso; omega)))
      | ((first | refine WP.skip ?_ | refine WP.exit ?_); simp only [SeqQ, BlkQ, LoopQ, BodyQ, ↓reduceIte, Nat.reduceEqDiff, reduceCtorEq, look, true_and])
      | (refine WP.ret (Sm.out ?_))
      | (first | refine ExG.no (Sm.out ?_) | refine Or.inl (ExG.no (Sm.out ?_)) | refine Or.inl (And.intro (fun hg => absurd hg (by decide)) (ExG.no (Sm.out ?_))))
      | (refine Rt.mk ?_; refine And.intro ?_ ?_ <;> (intro hg; first | exact absurd hg (by decide) | refine Sm.out ?_))
      | (refine Nu.mk ?_; first | (fail_if_success (have := nb1)); intro nb1 | (fail_if_success (have := nb2)); intro nb2 | (fail_if_success (have := nb3)); intro nb3 | (fail_if_success (have := nb4)); intro nb4 | intro nbz)
      | (refine Fr.mk ?_; intro hfr; (first | (have hFRb : _ ≤ _ ∧ _ ≤ _ := And.intro hfr.1 hfr.2.1) | (have hFRb : _ ≤ _ := hfr.1) | skip); replace FR := Sm.mk (And.intro hfr FR.out); clear hfr; refine Sm.out ?_)
      | (refine Two.mk ?_ ?_)
      | (refine Cs.mk ?_; intro hcs; first | exact False.elim hcs | (exfalso; omega) | (refine Sm.out ?_))
      | go_step
      | omega
      | (simp only [maxLen_eq]; omega)
    (refine OutQ.drop _ _ (perm2 (by simp only [hget, hdel, ↓reduceIte, if_true, if_false, FR.out, FR.out]; first | done | rfl) (by simp only [hget, hdel, ↓reduceIte, if_true, if_false, FR.out, FR.out]; first | done | rfl)) (by simp only [resv, ZK, look, loadv, loadn, loadnm, load1, load1m, hget, ↓reduceIte, Nat.reduceEqDiff, Nat.reduceAdd, Nat.reduceMul, Nat.reduceLeDiff, Nat.reduceLT, reduceCtorEq, TFTyM, FR.out, FR.out]) ⟨(by simp only [resv, resA, ZK, look, loadv, loadn, loadnm, load1, load1m, hget, ↓reduceIte, Nat.reduceEqDiff, Nat.reduceAdd, Nat.reduceMul, Nat.reduceLeDiff, Nat.reduceLT, reduceCtorEq, TFTyM, FR.out, FR.out]; first | done | rfl), rfl⟩)
  have k0 : decide ((zs.length : Int) > 1500) = false := decide_eq_false (by omega)
  have c1 := unq_ct zs hb (by omega) n0 n1
  have c2 := ruq_ct zs hb (by omega)
  obtain ⟨U, hU⟩ : ∃ U, U = (unqA zs).1 := ⟨_, rfl⟩
  obtain ⟨e, he⟩ : ∃ e, e = (unqA zs).2 := ⟨_, rfl⟩
  rw [← hU, ← he] at c1 c2
  obtain ⟨FZ, hFZ⟩ : ∃ FZ, FZ = fsZ := ⟨_, rfl⟩
  obtain ⟨AZ, hAZ⟩ : ∃ AZ, AZ = acZ := ⟨_, rfl⟩
  rw [← hFZ, ← hAZ] at c1 ⊢
  unfold stz at c1 c2 ⊢
  obtain ⟨Z, hZ⟩ : ∃ Z, Z = bstr zs := ⟨_, rfl⟩
  rw [← hZ] at hs c1 c2 ⊢
  obtain ⟨Y, hY⟩ : ∃ Y, Y = bstr U := ⟨_, rfl⟩
  rw [← hY] at c1 c2
  clear hU he hY hZ hFZ hAZ
  have y1 : ∀ x : List UInt8, (x == x) = true := fun x => beq_self_eq_true x
  have y2 : ∀ x : Int, (x == x) = true := fun x => beq_self_eq_true x
  refine ACt.intro Tryd.func6 rfl (by kernel_rfl) (by simp [Tryd.ntmps6]) (fun cx => ?_)
  simp only [argE, Tryd.ntmps6, Tryd.results6]
  first | (have FRx := FR; clear FRx) | (have FR : Sm (¬ ((1 : Nat) = 0)) := Sm.mk Nat.one_ne_zero)
  repeat' first
    | (refine Sm.mk ?_; try simp -dsimp only [ZK, rvc, drawF, headN, pureH, stp, dvc, calleeOf, gcall, pev, eff, newB, okd, og, ogs, ogo, ogp, slv, bltv, opd, litv, strip, one, both, putE, St.put, look, gdOf, gdv, picka, pickv, pickw, binv, bini, bins, binb, binp, binq, isSlT, bina, shp, eqCells, unv, convv, nilv, faddv, addp, idxav, idxp, load1, load1m, loadn, loadnm, loadv, hget, hset, hrep, hdel, slicev, bnd, shift1, lenv, capv, IntKind.bits, extractv, fieldv, indexv, min2v, max2v, mkiv, cellsA, fillA, buildv, stC, oneC, rowMB, intsA, plN, appE, appZ, appC, appNZ, appNC, VwL, srcC, srcZ, srcM, isBoolT, isPtrT, isSliceT, uOk, Value.oneCell', Nat.reducePow, Int.reducePow, Nat.reduceAdd, Nat.reduceMul, Nat.reduceSub, Nat.reduceLT, Nat.reduceLeDiff, Nat.reduceEqDiff, Nat.reduceBEq, Nat.reduceDiv, Nat.reduceMod, ↓reduceIte, reduceCtorEq, Int.reduceToNat, Int.reduceLT, Int.reduceLE, TFTyM, SeqQ, BlkQ, LoopQ, BodyQ, hs, k0, y1, y2, FR.out])
    | (first | refine CallV.fn (cA) (Sm.out ?_) | refine ExF.mk (cA) (Sm.out ?_) | refine ExG.mk (fun _ => cA) (Sm.out ?_) | refine ExG.mkJ (fun _ => cA) (Sm.out ?_) | refine ExG.mkI (Ob.out ?_) (fun _ => cA) (Sm.out ?_))
    | (refine CallV.updM (c1) (perm2 (by simp only [hget, hdel, ↓reduceIte, FR.out, hs, k0, y1, y2]; first | done | rfl) (by simp only [hget, hdel, ↓reduceIte, FR.out, hs, k0, y1, y2]; first | done | rfl)) (Sm.out ?_))
    | ((first | refine ExF.up ?_ (c1) (Sm.out ?_) | refine ExG.up ?_ (fun _ => c1) (Sm.out ?_) | refine ExG.upJ ?_ (fun _ => c1) (Sm.out ?_) | refine ExG.upI ?_ (fun _ => c1) (Ob.out ?_) (Sm.out ?_)); focus (exact ⟨_, (perm2 (by simp only [hget, hdel, ↓reduceIte, FR.out, hs, k0, y1, y2]; first | done | rfl) (by simp only [hget, hdel, ↓reduceIte, FR.out, hs, k0, y1, y2]; first | done | rfl))⟩))
    | (first | refine CallV.fn (c2) (Sm.out ?_) | refine ExF.mk (c2) (Sm.out ?_) | refine ExG.mk (fun _ => c2) (Sm.out ?_) | refine ExG.mkJ (fun _ => c2) (Sm.out ?_) | refine ExG.mkI (Ob.out ?_) (fun _ => c2) (Sm.out ?_))
    | (refine WP.seq fun K hK => ?_)
    | (refine WP.region (rvc_sound _ _ (Sm.out ?_)))
    | (refine WP.drawK rfl mixed (by decide +kernel) (Sm.out ?_))
    | (refine Ob.mk ?_; focus (first | assumption | omega | decide | trivial | (intro hob; simp only [hob, ZF]; done) | (intros; (repeat' refine And.intro ?_ ?_) <;> first | assumption | omega | trivial | decide) | (intros; simp only [ZE] at *; (repeat' refine And.intro ?_ ?_) <;> first | assumption | omega | trivial)))
    | (refine And.intro (Ob.out ?_) ?_)
    | (refine WP.block ?_)
    | (refine WP.cond rfl (fun hc => ?_) (fun hc => ?_) <;> (try simp only [ZC, reduceCtorEq, ZD] at hc) <;> (try (exact absurd hc (by decide))) <;> (try (exfalso; omega)))
    | ((first | refine WP.skip ?_ | refine WP.exit ?_); simp only [SeqQ, BlkQ, LoopQ, BodyQ, ↓reduceIte, Nat.reduceEqDiff, reduceCtorEq, look, true_and])
    | (refine WP.ret (Sm.out ?_))
    | (first | refine ExG.no (Sm.out ?_) | refine Or.inl (ExG.no (Sm.out ?_)) | refine Or.inl (And.intro (fun hg => absurd hg (by decide)) (ExG.no (Sm.out ?_))))
    | (refine Rt.mk ?_; refine And.intro ?_ ?_ <;> (intro hg; first | exact absurd hg (by decide) | refine Sm.out ?_))
    | (refine Nu.mk ?_; first | (fail_if_success (have := nb1)); intro nb1 | (fail_if_success (have := nb2)); intro nb2 | (fail_if_success (have := nb3)); intro nb3 | (fail_if_success (have := nb4)); intro nb4 | intro nbz)
    | (refine Fr.mk ?_; intro hfr; (first | (have hFRb : _ ≤ _ ∧ _ ≤ _ := And.intro hfr.1 hfr.2.1) | (have hFRb : _ ≤ _ := hfr.1) | skip); replace FR := Sm.mk (And.intro hfr FR.out); clear hfr; refine Sm.out ?_)
    | (refine Two.mk ?_ ?_)
    | (refine Cs.mk ?_; intro hcs; first | exact False.elim hcs | (exfalso; omega) | (refine Sm.out ?_))
    | go_step
    | omega
    | (simp only [maxLen_eq]; omega)
  (refine OutQ.drop _ _ (perm2 (by simp only [hget, hdel, ↓reduceIte, if_true, if_false, FR.out, FR.out]; first | done | rfl) (by simp only [hget, hdel, ↓reduceIte, if_true, if_false, FR.out, FR.out]; first | done | rfl)) (by simp only [resv, ZK, look, loadv, loadn, loadnm, load1, load1m, hget, ↓reduceIte, Nat.reduceEqDiff, Nat.reduceAdd, Nat.reduceMul, Nat.reduceLeDiff, Nat.reduceLT, reduceCtorEq, TFTyM, FR.out, FR.out]) ⟨(by simp only [resv, resA, ZK, look, loadv, loadn, loadnm, load1, load1m, hget, ↓reduceIte, Nat.reduceEqDiff, Nat.reduceAdd, Nat.reduceMul, Nat.reduceLeDiff, Nat.reduceLT, reduceCtorEq, TFTyM, FR.out, FR.out]; first | done | rfl), rfl⟩)
theorem unquotes_law (s : ByteArray) (n0 n1 : Nat) : ACt Tryd.prog 6 [.lit (.string s)] [(0, .zs .u8 fsZ 256 n0), (1, .zs .u8 acZ 32 n1)] (fun r F' => r = bv true ∧ F' = [(0, .zs .u8 fsZ 256 n0), (1, .zs .u8 acZ 32 n1)]) := by
  obtain ⟨e, hb⟩ := s_bstr s
  rw [e]
  exact unqs_ct _ hb n0 n1
end Go.Proofs.YtjdjpgjjnajjhaaDoor
