/-
  The walks and the laws that the statement leans on, part 8.
-/
import Derived.Test.YtndpkahhmgnhpaaDoorZ7
namespace Go.Proofs.YtndpkahhmgnhpaaDoor
open Go
set_option linter.unusedVariables false
set_option linter.unusedSimpArgs false
theorem TFStE : ((((((type_of% tyc0) ∧ (type_of% tyc3)) ∧ ((type_of% zmb3) ∧ (type_of% tyc4))) ∧ (((type_of% zmb4) ∧ (type_of% tyc5)) ∧ ((type_of% zmb5) ∧ (type_of% tyc9)))) ∧ ((((type_of% zmb9) ∧ (type_of% tyc23)) ∧ ((type_of% foff23_0) ∧ (type_of% fpart23_0))) ∧ (((type_of% foff23_1) ∧ (type_of% fpart23_1)) ∧ ((type_of% foff23_2) ∧ ((type_of% fpart23_2) ∧ (type_of% fe23)))))) ∧ (((((type_of% zmb23) ∧ (type_of% bldT23)) ∧ ((type_of% tyc26) ∧ (type_of% zmb26))) ∧ (((type_of% tyc35) ∧ (type_of% elt35)) ∧ ((type_of% mkz35) ∧ ((type_of% apT35) ∧ (type_of% elk35))))) ∧ ((((type_of% zmb35) ∧ (type_of% Tryd.underlying0)) ∧ ((type_of% Tryd.underlying3) ∧ (type_of% Tryd.underlying4))) ∧ (((type_of% Tryd.underlying5) ∧ (type_of% Tryd.underlying9)) ∧ ((type_of% Tryd.underlying23) ∧ ((type_of% Tryd.underlying26) ∧ (type_of% Tryd.underlying35))))))) :=
  ⟨⟨⟨⟨⟨tyc0, tyc3⟩, ⟨zmb3, tyc4⟩⟩, ⟨⟨zmb4, tyc5⟩, ⟨zmb5, tyc9⟩⟩⟩, ⟨⟨⟨zmb9, tyc23⟩, ⟨foff23_0, fpart23_0⟩⟩, ⟨⟨foff23_1, fpart23_1⟩, ⟨foff23_2, ⟨fpart23_2, fe23⟩⟩⟩⟩⟩, ⟨⟨⟨⟨zmb23, bldT23⟩, ⟨tyc26, zmb26⟩⟩, ⟨⟨tyc35, elt35⟩, ⟨mkz35, ⟨apT35, elk35⟩⟩⟩⟩, ⟨⟨⟨zmb35, Tryd.underlying0⟩, ⟨Tryd.underlying3, Tryd.underlying4⟩⟩, ⟨⟨Tryd.underlying5, Tryd.underlying9⟩, ⟨Tryd.underlying23, ⟨Tryd.underlying26, Tryd.underlying35⟩⟩⟩⟩⟩⟩
set_option maxHeartbeats 8000000 in
theorem readR_ct (zs : List Int) (hb : By zs) (hl : zs.length ≤ 100) : ACt Tryd.prog 7 [stz zs] [] (Fn (rdA zs)) := by
  refine ACt.intro Tryd.func7 rfl (by kernel_rfl) (by simp [Tryd.ntmps7]) (fun cx => ?_)
  simp only [argE, Tryd.ntmps7, Tryd.results7]
  have hs := bstr_size zs
  obtain ⟨B, hB⟩ : ∃ B, B = bstr zs := ⟨_, rfl⟩
  unfold stz
  rw [← hB] at hs ⊢
  by_cases h10 : zs.length = 10
  case neg =>
    have hrd := rd_bad (zs := zs) fun h => h10 h.1
    have kd : ((zs.length : Int) == 10) = false := beq_eq_false_iff_ne.2 (by omega)
    have ke : ((zs.length : Int) != 10) = true := by simp only [bne, kd]; rfl
    first | (have FRx := FR; clear FRx) | (have FR : Sm (¬ ((1 : Nat) = 0)) := Sm.mk Nat.one_ne_zero)
    repeat' first
      | (refine Sm.mk ?_; try simp -dsimp only [ZK, rvc, drawF, headN, pureH, stp, dvc, calleeOf, gcall, pev, eff, newB, okd, og, ogs, ogo, ogp, slv, bltv, opd, litv, strip, one, both, putE, St.put, look, gdOf, gdv, picka, pickv, pickw, binv, bini, bins, binb, binp, binq, isSlT, bina, shp, eqCells, unv, convv, nilv, faddv, addp, idxav, idxp, load1, load1m, loadn, loadnm, loadv, hget, hset, hrep, hdel, slicev, bnd, shift1, lenv, capv, IntKind.bits, extractv, fieldv, indexv, min2v, max2v, mkiv, cellsA, fillA, buildv, stC, oneC, rowMB, intsA, plN, appE, appZ, appC, appNZ, appNC, VwL, srcC, srcZ, srcM, isBoolT, isPtrT, isSliceT, uOk, Value.oneCell', Nat.reducePow, Int.reducePow, Nat.reduceAdd, Nat.reduceMul, Nat.reduceSub, Nat.reduceLT, Nat.reduceLeDiff, Nat.reduceEqDiff, Nat.reduceBEq, Nat.reduceDiv, Nat.reduceMod, ↓reduceIte, reduceCtorEq, Int.reduceToNat, Int.reduceLT, Int.reduceLE, TFStE, SeqQ, BlkQ, LoopQ, BodyQ, hs, kd, ke, FR.out])
      | (refine WP.seq fun K hK => ?_)
      | (refine WP.region (rvc_sound _ _ (Sm.out ?_)))
      | (refine WP.drawP (ia := 10) (is := 11) (k := 12) mixed (by decide +kernel) (by decide +kernel) (Sm.out ?_))
      | (refine WP.drawK rfl mixed (by decide +kernel) (Sm.out ?_))
      | (refine Ob.mk ?_; focus (first | assumption | omega | decide | trivial | (intro hob; simp only [hob, ZF]; done) | (intros; (repeat' refine And.intro ?_ ?_) <;> first | assumption | omega | trivial | decide) | (intros; simp only [ZE] at *; (repeat' refine And.intro ?_ ?_) <;> first | assumption | omega | trivial)))
      | (refine And.intro (Ob.out ?_) ?_)
      | (refine WP.block ?_)
      | (refine WP.cond rfl (fun hc => ?_) (fun hc => ?_) <;> (try simp only [ZC, reduceCtorEq, ZD] at hc) <;> (try (exact absurd hc (by decide))) <;> (try (exfalso; omega)))
      | ((first | refine WP.skip ?_ | refine WP.exit ?_); simp only [SeqQ, BlkQ, LoopQ, BodyQ, ↓reduceIte, Nat.reduceEqDiff, reduceCtorEq, look, true_and])
      | (refine WP.ret (Sm.out ?_))
      | (first | refine ExG.no (Sm.out ?_) | refine Or.inl (ExG.no (Sm.out ?_)) | refine Or.inl (And.intro (fun hg => absurd hg (by decide)) (ExG.no (Sm.out ?_))))
      | (refine Rt.mk ?_; refine And.intro ?_ ?_ <;> (intro hg; first | exact absurd hg (by decide) | refine Sm.out ?_))
      | (refine Nu.mk ?_; first | (fail_if_success (have := nb1)); intro nb1 | (fail_if_success (have := nb2)); intro nb2 | (fail_if_success (have := nb3)); intro nb3 | (fail_if_success (have := nb4)); intro nb4 | (fail_if_success (have := nb5)); intro nb5 | (fail_if_success (have := nb6)); intro nb6 | intro nbz)
      | (refine Fr.mk ?_; intro hfr; (first | (have hFRb : _ ≤ _ ∧ _ ≤ _ := And.intro hfr.1 hfr.2.1) | (have hFRb : _ ≤ _ := hfr.1) | skip); replace FR := Sm.mk (And.intro hfr FR.out); clear hfr; refine Sm.out ?_)
      | (refine Two.mk ?_ ?_)
      | (refine Cs.mk ?_; intro hcs; first | exact False.elim hcs | (exfalso; omega) | (refine Sm.out ?_))
      | go_step
      | omega
      | (simp only [maxLen_eq]; omega)
    (refine OutQ.all ?_ ?_; (focus (simp only [resv, ZK, look, loadv, loadn, loadnm, load1, load1m, hget, ↓reduceIte, Nat.reduceEqDiff, Nat.reduceAdd, Nat.reduceMul, Nat.reduceLeDiff, Nat.reduceLT, reduceCtorEq, TFStE, hrd, FR.out])); (try simp only [resv, resA, Fn, ZK, look, loadv, loadn, loadnm, load1, load1m, hget, ↓reduceIte, Nat.reduceEqDiff, Nat.reduceAdd, Nat.reduceMul, Nat.reduceLeDiff, Nat.reduceLT, reduceCtorEq, TFStE, hrd, FR.out]); (try simp [resA, Fn, look, hrd, FR.out]))
  rw [h10] at hs
  first | (have FRx := FR; clear FRx) | (have FR : Sm (¬ ((1 : Nat) = 0)) := Sm.mk Nat.one_ne_zero)
  repeat' first
    | (refine Sm.mk ?_; try simp -dsimp only [ZK, rvc, drawF, headN, pureH, stp, dvc, calleeOf, gcall, pev, eff, newB, okd, og, ogs, ogo, ogp, slv, bltv, opd, litv, strip, one, both, putE, St.put, look, gdOf, gdv, picka, pickv, pickw, binv, bini, bins, binb, binp, binq, isSlT, bina, shp, eqCells, unv, convv, nilv, faddv, addp, idxav, idxp, load1, load1m, loadn, loadnm, loadv, hget, hset, hrep, hdel, slicev, bnd, shift1, lenv, capv, IntKind.bits, extractv, fieldv, indexv, min2v, max2v, mkiv, cellsA, fillA, buildv, stC, oneC, rowMB, intsA, plN, appE, appZ, appC, appNZ, appNC, VwL, srcC, srcZ, srcM, isBoolT, isPtrT, isSliceT, uOk, Value.oneCell', Nat.reducePow, Int.reducePow, Nat.reduceAdd, Nat.reduceMul, Nat.reduceSub, Nat.reduceLT, Nat.reduceLeDiff, Nat.reduceEqDiff, Nat.reduceBEq, Nat.reduceDiv, Nat.reduceMod, ↓reduceIte, reduceCtorEq, Int.reduceToNat, Int.reduceLT, Int.reduceLE, TFStE, SeqQ, BlkQ, LoopQ, BodyQ, hs, FR.out])
    | (refine WP.seq fun K hK => ?_)
    | (refine WP.region (rvc_sound _ _ (Sm.out ?_)))
    | (refine WP.drawP (ia := 10) (is := 11) (k := 12) mixed (by decide +kernel) (by decide +kernel) (Sm.out ?_))
    | (refine WP.drawK rfl mixed (by decide +kernel) (Sm.out ?_))
    | (refine Ob.mk ?_; focus (first | assumption | omega | decide | trivial | (intro hob; simp only [hob, ZF]; done) | (intros; (repeat' refine And.intro ?_ ?_) <;> first | assumption | omega | trivial | decide) | (intros; simp only [ZE] at *; (repeat' refine And.intro ?_ ?_) <;> first | assumption | omega | trivial)))
    | (refine And.intro (Ob.out ?_) ?_)
    | (refine WP.block ?_)
    | (refine WP.cond rfl (fun hc => ?_) (fun hc => ?_) <;> (try simp only [ZC, reduceCtorEq, ZD] at hc) <;> (try (exact absurd hc (by decide))) <;> (try (exfalso; omega)))
    | ((first | refine WP.skip ?_ | refine WP.exit ?_); simp only [SeqQ, BlkQ, LoopQ, BodyQ, ↓reduceIte, Nat.reduceEqDiff, reduceCtorEq, look, true_and])
    | (refine WP.ret (Sm.out ?_))
    | (first | refine ExG.no (Sm.out ?_) | refine Or.inl (ExG.no (Sm.out ?_)) | refine Or.inl (And.intro (fun hg => absurd hg (by decide)) (ExG.no (Sm.out ?_))))
    | (refine Rt.mk ?_; refine And.intro ?_ ?_ <;> (intro hg; first | exact absurd hg (by decide) | refine Sm.out ?_))
    | (refine Nu.mk ?_; first | (fail_if_success (have := nb1)); intro nb1 | (fail_if_success (have := nb2)); intro nb2 | (fail_if_success (have := nb3)); intro nb3 | (fail_if_success (have := nb4)); intro nb4 | (fail_if_success (have := nb5)); intro nb5 | (fail_if_success (have := nb6)); intro nb6 | intro nbz)
    | (refine Fr.mk ?_; intro hfr; (first | (have hFRb : _ ≤ _ ∧ _ ≤ _ := And.intro hfr.1 hfr.2.1) | (have hFRb : _ ≤ _ := hfr.1) | skip); replace FR := Sm.mk (And.intro hfr FR.out); clear hfr; refine Sm.out ?_)
    | (refine Two.mk ?_ ?_)
    | (refine Cs.mk ?_; intro hcs; first | exact False.elim hcs | (exfalso; omega) | (refine Sm.out ?_))
    | go_step
    | omega
    | (simp only [maxLen_eq]; omega)
  refine WP.loop (Γ := PW) (fun g => ⟨[(6, iv .i64 ((offp g.p + g.w : Nat) : Int)), (5, iv .i64 (g.p : Int)), (4, ms nb2 0 3 3), (2, pt nb1 0), (3, iv .i64 0), (0, .lit (.string B))], [(nb2, .zs .i64 (aA zs g.p g.w) 3 3), (nb1, .cells [iv .i64 0, iv .i64 0, iv .i64 0] 3 23)]⟩)
    (PWok zs) (fun g => 10 - (offp g.p + g.w)) ⟨0, 0⟩ ⟨.inl ⟨rfl, Nat.zero_le _⟩, by simp [offp], fun j hj => by simp [offp] at hj⟩ (Sub.pick (by simp [pickB, hget, hdel, FR.out, offp, aA0, valR0]) (by simp [look, offp, aA0, valR0])) ?_
  intro ⟨p, w⟩ ⟨hpw, hlen, hok⟩
  simp only at hpw hlen hok ⊢
  rcases hpw with ⟨rfl, hw⟩ | ⟨rfl, hw⟩ | ⟨rfl, hw⟩
  · have q1 : IntKind.i64.wrap 1 = 1 := by decide
    have q2 : IntKind.i64.wrap 2 = 2 := by decide
    simp only [aA0]
    obtain ⟨i, hi⟩ : ∃ i, i = offp 0 + w := ⟨_, rfl⟩
    have hi2 : i = 0 + w := hi
    rw [← hi] at hlen hok ⊢
    have hv : 0 ≤ valR zs 0 w ∧ valR zs 0 w < (10 : Int) ^ w := valR_bd fun j hj => by have := okc_dig (hok (0 + j) (by omega)) (by omega) (by omega); simpa using this
    have hv2 : valR zs 0 w < 10000 := by have h1 := pow4 (w := w) (by omega); omega
    by_cases hlt : i < 10
    · have hat := bstr_at hb (show i < zs.length by omega)
      have hbi := hb i (show i < zs.length by omega)
      rw [← hB] at hat
      obtain ⟨c, hc0⟩ : ∃ c, c = zs.getD i 0 := ⟨_, rfl⟩
      rw [← hc0] at hat hbi
      have kl : decide ((i : Int) < 10) = true := decide_eq_true (by omega)
      have t1 : ((i : Nat) : Int).toNat = i := by omega
      have e1 : IntKind.i64.wrap ((i : Int) + 1) = ((i + 1 : Nat) : Int) := by rw [wrap_i64 (by omega) (by omega)]; omega
      by_cases hA : w = 4
      · have k4 : ((i : Int) == 4) = true := beq_iff_eq.2 (by omega)
        have k7 : ((i : Int) == 7) = false := beq_eq_false_iff_ne.2 (by omega)
        by_cases hd : c = 45
        · have kd : (c == 45) = true := beq_iff_eq.2 hd
          have ke : (c != 45) = false := by simp only [bne, kd]; rfl
          have ie : offp 1 + 0 = i + 1 := by show 5 + 0 = i + 1; omega
          first | (have FRx := FR; clear FRx) | (have FR : Sm (¬ ((1 : Nat) = 0)) := Sm.mk Nat.one_ne_zero)
          repeat' first
            | (refine Sm.mk ?_; try simp -dsimp only [ZK, rvc, drawF, headN, pureH, stp, dvc, calleeOf, gcall, pev, eff, newB, okd, og, ogs, ogo, ogp, slv, bltv, opd, litv, strip, one, both, putE, St.put, look, gdOf, gdv, picka, pickv, pickw, binv, bini, bins, binb, binp, binq, isSlT, bina, shp, eqCells, unv, convv, nilv, faddv, addp, idxav, idxp, load1, load1m, loadn, loadnm, loadv, hget, hset, hrep, hdel, slicev, bnd, shift1, lenv, capv, IntKind.bits, extractv, fieldv, indexv, min2v, max2v, mkiv, cellsA, fillA, buildv, stC, oneC, rowMB, intsA, plN, appE, appZ, appC, appNZ, appNC, VwL, srcC, srcZ, srcM, isBoolT, isPtrT, isSliceT, uOk, Value.oneCell', Nat.reducePow, Int.reducePow, Nat.reduceAdd, Nat.reduceMul, Nat.reduceSub, Nat.reduceLT, Nat.reduceLeDiff, Nat.reduceEqDiff, Nat.reduceBEq, Nat.reduceDiv, Nat.reduceMod, ↓reduceIte, reduceCtorEq, Int.reduceToNat, Int.reduceLT, Int.reduceLE, TFStE, SeqQ, BlkQ, LoopQ, BodyQ, kl, t1, e1, k4, k7, kd, ke, hat, hs, FR.out])
            | (refine WP.seq fun K hK => ?_)
            | (refine WP.region (rvc_sound _ _ (Sm.out ?_)))
            | (refine WP.drawP (ia := 10) (is := 11) (k := 12) mixed (by decide +kernel) (by decide +kernel) (Sm.out ?_))
            | (refine WP.drawK rfl mixed (by decide +kernel) (Sm.out ?_))
            | (refine Ob.mk ?_; focus (first | assumption | omega | decide | trivial | (intro hob; simp only [hob, ZF]; done) | (intros; (repeat' refine And.intro ?_ ?_) <;> first | assumption | omega | trivial | decide) | (intros; simp only [ZE] at *; (repeat' refine And.intro ?_ ?_) <;> first | assumption | omega | trivial)))
            | (refine And.intro (Ob.out ?_) ?_)
            | (refine WP.block ?_)
            | (refine WP.cond rfl (fun hc => ?_) (fun hc => ?_) <;> (try simp only [ZC, reduceCtorEq, ZD] at hc) <;> (try (exact absurd hc (by decide))) <;> (try (exfalso; omega)))
            | ((first | refine WP.skip ?_ | refine WP.exit ?_); simp only [SeqQ, BlkQ, LoopQ, BodyQ, ↓reduceIte, Nat.reduceEqDiff, reduceCtorEq, look, true_and])
            | (refine WP.ret (Sm.out ?_))
            | (first | refine ExG.no (Sm.out ?_) | refine Or.inl (ExG.no (Sm.out ?_)) | refine Or.inl (And.intro (fun hg => absurd hg (by decide)) (ExG.no (Sm.out ?_))))
            | (refine Rt.mk ?_; refine And.intro ?_ ?_ <;> (intro hg; first | exact absurd hg (by decide) | refine Sm.out ?_))
            | (refine Nu.mk ?_; first | (fail_if_success (have := nb1)); intro nb1 | (fail_if_success (have := nb2)); intro nb2 | (fail_if_success (have := nb3)); intro nb3 | (fail_if_success (have := nb4)); intro nb4 | (fail_if_success (have := nb5)); intro nb5 | (fail_if_success (have := nb6)); intro nb6 | intro nbz)
            | (refine Fr.mk ?_; intro hfr; (first | (have hFRb : _ ≤ _ ∧ _ ≤ _ := And.intro hfr.1 hfr.2.1) | (have hFRb : _ ≤ _ := hfr.1) | skip); replace FR := Sm.mk (And.intro hfr FR.out); clear hfr; refine Sm.out ?_)
            | (refine Two.mk ?_ ?_)
            | (refine Cs.mk ?_; intro hcs; first | exact False.elim hcs | (exfalso; omega) | (refine Sm.out ?_))
            | go_step
            | omega
            | (simp only [maxLen_eq]; omega)
          refine ⟨⟨1, 0⟩, ⟨.inr (.inl ⟨rfl, Nat.zero_le _⟩), by simp only [ie]; omega, fun j hj => ?_⟩, by simp only [ie]; omega, (Sub.pick (by simp [pickB, hget, hdel, FR.out, ie, aA1, valR0, hA, q1, q2]) (by simp [look, ie, aA1, valR0, hA, q1, q2]))⟩
          simp only [ie] at hj
          by_cases hji : j = i
          · subst hji; exact okc_mkd (by omega) (by omega)
          · exact hok j (by omega)
        · have hrd := rd_bad (zs := zs) fun h => hd (by rw [hc0]; exact okc_dash (h.2 i hlt) (by omega))
          have kd : (c == 45) = false := beq_eq_false_iff_ne.2 hd
          have ke : (c != 45) = true := by simp only [bne, kd]; rfl
          first | (have FRx := FR; clear FRx) | (have FR : Sm (¬ ((1 : Nat) = 0)) := Sm.mk Nat.one_ne_zero)
          repeat' first
            | (refine Sm.mk ?_; try simp -dsimp only [ZK, rvc, drawF, headN, pureH, stp, dvc, calleeOf, gcall, pev, eff, newB, okd, og, ogs, ogo, ogp, slv, bltv, opd, litv, strip, one, both, putE, St.put, look, gdOf, gdv, picka, pickv, pickw, binv, bini, bins, binb, binp, binq, isSlT, bina, shp, eqCells, unv, convv, nilv, faddv, addp, idxav, idxp, load1, load1m, loadn, loadnm, loadv, hget, hset, hrep, hdel, slicev, bnd, shift1, lenv, capv, IntKind.bits, extractv, fieldv, indexv, min2v, max2v, mkiv, cellsA, fillA, buildv, stC, oneC, rowMB, intsA, plN, appE, appZ, appC, appNZ, appNC, VwL, srcC, srcZ, srcM, isBoolT, isPtrT, isSliceT, uOk, Value.oneCell', Nat.reducePow, Int.reducePow, Nat.reduceAdd, Nat.reduceMul, Nat.reduceSub, Nat.reduceLT, Nat.reduceLeDiff, Nat.reduceEqDiff, Nat.reduceBEq, Nat.reduceDiv, Nat.reduceMod, ↓reduceIte, reduceCtorEq, Int.reduceToNat, Int.reduceLT, Int.reduceLE, TFStE, SeqQ, BlkQ, LoopQ, BodyQ, kl, t1, e1, k4, k7, kd, ke, hat, hs, FR.out])
            | (refine WP.seq fun K hK => ?_)
            | (refine WP.region (rvc_sound _ _ (Sm.out ?_)))
            | (refine WP.drawP (ia := 10) (is := 11) (k := 12) mixed (by decide +kernel) (by decide +kernel) (Sm.out ?_))
            | (refine WP.drawK rfl mixed (by decide +kernel) (Sm.out ?_))
            | (refine Ob.mk ?_; focus (first | assumption | omega | decide | trivial | (intro hob; simp only [hob, ZF]; done) | (intros; (repeat' refine And.intro ?_ ?_) <;> first | assumption | omega | trivial | decide) | (intros; simp only [ZE] at *; (repeat' refine And.intro ?_ ?_) <;> first | assumption | omega | trivial)))
            | (refine And.intro (Ob.out ?_) ?_)
            | (refine WP.block ?_)
            | (refine WP.cond rfl (fun hc => ?_) (fun hc => ?_) <;> (try simp only [ZC, reduceCtorEq, ZD] at hc) <;> (try (exact absurd hc (by decide))) <;> (try (exfalso; omega)))
            | ((first | refine WP.skip ?_ | refine WP.exit ?_); simp only [SeqQ, BlkQ, LoopQ, BodyQ, ↓reduceIte, Nat.reduceEqDiff, reduceCtorEq, look, true_and])
            | (refine WP.ret (Sm.out ?_))
            | (first | refine ExG.no (Sm.out ?_) | refine Or.inl (ExG.no (Sm.out ?_)) | refine Or.inl (And.intro (fun hg => absurd hg (by decide)) (ExG.no (Sm.out ?_))))
            | (refine Rt.mk ?_; refine And.intro ?_ ?_ <;> (intro hg; first | exact absurd hg (by decide) | refine Sm.out ?_))
            | (refine Nu.mk ?_; first | (fail_if_success (have := nb1)); intro nb1 | (fail_if_success (have := nb2)); intro nb2 | (fail_if_success (have := nb3)); intro nb3 | (fail_if_success (have := nb4)); intro nb4 | (fail_if_success (have := nb5)); intro nb5 | (fail_if_success (have := nb6)); intro nb6 | intro nbz)
            | (refine Fr.mk ?_; intro hfr; (first | (have hFRb : _ ≤ _ ∧ _ ≤ _ := And.intro hfr.1 hfr.2.1) | (have hFRb : _ ≤ _ := hfr.1) | skip); replace FR := Sm.mk (And.intro hfr FR.out); clear hfr; refine Sm.out ?_)
            | (refine Two.mk ?_ ?_)
            | (refine Cs.mk ?_; intro hcs; first | exact False.elim hcs | (exfalso; omega) | (refine Sm.out ?_))
            | go_step
            | omega
            | (simp only [maxLen_eq]; omega)
          (refine OutQ.all ?_ ?_; (focus (simp only [resv, ZK, look, loadv, loadn, loadnm, load1, load1m, hget, ↓reduceIte, Nat.reduceEqDiff, Nat.reduceAdd, Nat.reduceMul, Nat.reduceLeDiff, Nat.reduceLT, reduceCtorEq, TFStE, hrd, FR.out])); (try simp only [resv, resA, Fn, ZK, look, loadv, loadn, loadnm, load1, load1m, hget, ↓reduceIte, Nat.reduceEqDiff, Nat.reduceAdd, Nat.reduceMul, Nat.reduceLeDiff, Nat.reduceLT, reduceCtorEq, TFStE, hrd, FR.out]); (try simp [resA, Fn, look, hrd, FR.out]))
      have k4 : ((i : Int) == 4) = false := beq_eq_false_iff_ne.2 (by omega)
      have k7 : ((i : Int) == 7) = false := beq_eq_false_iff_ne.2 (by omega)
      by_cases hD : 48 ≤ c ∧ c ≤ 57
      · have kA : decide (c < 48) = false := decide_eq_false (by omega)
        have kB : decide (c > 57) = false := decide_eq_false (by omega)
        have ie : offp 0 + (w + 1) = i + 1 := by show 0 + (w + 1) = i + 1; omega
        have s1 : IntKind.i64.wrap (10 * valR zs 0 w) = 10 * valR zs 0 w := wrap_i64 (by omega) (by omega)
        have s2 : IntKind.i64.wrap c = c := wrap_i64 (by omega) (by omega)
        have s3 : IntKind.i64.wrap (10 * valR zs 0 w + c) = 10 * valR zs 0 w + c := wrap_i64 (by omega) (by omega)
        have s4 : IntKind.i64.wrap (10 * valR zs 0 w + c - 48) = valR zs 0 (w + 1) := by rw [wrap_i64 (by omega) (by omega), valR_succ, ← hi2, ← hc0]; omega
        first | (have FRx := FR; clear FRx) | (have FR : Sm (¬ ((1 : Nat) = 0)) := Sm.mk Nat.one_ne_zero)
        repeat' first
          | (refine Sm.mk ?_; try simp -dsimp only [ZK, rvc, drawF, headN, pureH, stp, dvc, calleeOf, gcall, pev, eff, newB, okd, og, ogs, ogo, ogp, slv, bltv, opd, litv, strip, one, both, putE, St.put, look, gdOf, gdv, picka, pickv, pickw, binv, bini, bins, binb, binp, binq, isSlT, bina, shp, eqCells, unv, convv, nilv, faddv, addp, idxav, idxp, load1, load1m, loadn, loadnm, loadv, hget, hset, hrep, hdel, slicev, bnd, shift1, lenv, capv, IntKind.bits, extractv, fieldv, indexv, min2v, max2v, mkiv, cellsA, fillA, buildv, stC, oneC, rowMB, intsA, plN, appE, appZ, appC, appNZ, appNC, VwL, srcC, srcZ, srcM, isBoolT, isPtrT, isSliceT, uOk, Value.oneCell', Nat.reducePow, Int.reducePow, Nat.reduceAdd, Nat.reduceMul, Nat.reduceSub, Nat.reduceLT, Nat.reduceLeDiff, Nat.reduceEqDiff, Nat.reduceBEq, Nat.reduceDiv, Nat.reduceMod, ↓reduceIte, reduceCtorEq, Int.reduceToNat, Int.reduceLT, Int.reduceLE, TFStE, SeqQ, BlkQ, LoopQ, BodyQ, kl, t1, e1, k4, k7, kA, kB, hat, hs, s1, s2, s3, s4, FR.out])
          | (refine WP.seq fun K hK => ?_)
          | (refine WP.region (rvc_sound _ _ (Sm.out ?_)))
          | (refine WP.drawP (ia := 10) (is := 11) (k := 12) mixed (by decide +kernel) (by decide +kernel) (Sm.out ?_))
          | (refine WP.drawK rfl mixed (by decide +kernel) (Sm.out ?_))
          | (refine Ob.mk ?_; focus (first | assumption | omega | decide | trivial | (intro hob; simp only [hob, ZF]; done) | (intros; (repeat' refine And.intro ?_ ?_) <;> first | assumption | omega | trivial | decide) | (intros; simp only [ZE] at *; (repeat' refine And.intro ?_ ?_) <;> first | assumption | omega | trivial)))
          | (refine And.intro (Ob.out ?_) ?_)
          | (refine WP.block ?_)
          | (refine WP.cond rfl (fun hc => ?_) (fun hc => ?_) <;> (try simp only [ZC, reduceCtorEq, ZD] at hc) <;> (try (exact absurd hc (by decide))) <;> (try (exfalso; omega)))
          | ((first | refine WP.skip ?_ | refine WP.exit ?_); simp only [SeqQ, BlkQ, LoopQ, BodyQ, ↓reduceIte, Nat.reduceEqDiff, reduceCtorEq, look, true_and])
          | (refine WP.ret (Sm.out ?_))
          | (first | refine ExG.no (Sm.out ?_) | refine Or.inl (ExG.no (Sm.out ?_)) | refine Or.inl (And.intro (fun hg => absurd hg (by decide)) (ExG.no (Sm.out ?_))))
          | (refine Rt.mk ?_; refine And.intro ?_ ?_ <;> (intro hg; first | exact absurd hg (by decide) | refine Sm.out ?_))
          | (refine Nu.mk ?_; first | (fail_if_success (have := nb1)); intro nb1 | (fail_if_success (have := nb2)); intro nb2 | (fail_if_success (have := nb3)); intro nb3 | (fail_if_success (have := nb4)); intro nb4 | (fail_if_success (have := nb5)); intro nb5 | (fail_if_success (have := nb6)); intro nb6 | intro nbz)
          | (refine Fr.mk ?_; intro hfr; (first | (have hFRb : _ ≤ _ ∧ _ ≤ _ := And.intro hfr.1 hfr.2.1) | (have hFRb : _ ≤ _ := hfr.1) | skip); replace FR := Sm.mk (And.intro hfr FR.out); clear hfr; refine Sm.out ?_)
          | (refine Two.mk ?_ ?_)
          | (refine Cs.mk ?_; intro hcs; first | exact False.elim hcs | (exfalso; omega) | (refine Sm.out ?_))
          | go_step
          | omega
          | (simp only [maxLen_eq]; omega)
        refine ⟨⟨0, w + 1⟩, ⟨.inl ⟨rfl, by simp only; omega⟩, by simp only [ie]; omega, fun j hj => ?_⟩, by simp only [ie]; omega, (Sub.pick (by simp [pickB, hget, hdel, FR.out, ie, aA0]) (by simp [look, ie, aA0]))⟩
        simp only [ie] at hj
        by_cases hji : j = i
        · subst hji; exact okc_mk (by omega) (by omega)
        · exact hok j (by omega)
      have hrd := rd_bad (zs := zs) fun h => hD (by rw [hc0]; exact okc_dig (h.2 i hlt) (by omega) (by omega))
      obtain ⟨b1, b2, kA, kB, hbs⟩ : ∃ b1 b2 : Bool, decide (c < 48) = b1 ∧ decide (c > 57) = b2 ∧ (b1 = true ∨ (b1 = false ∧ b2 = true)) := by
        refine ⟨_, _, rfl, rfl, ?_⟩
        by_cases q3 : c < 48
        · exact .inl (decide_eq_true q3)
        · exact .inr ⟨decide_eq_false q3, decide_eq_true (by omega)⟩
      rcases hbs with rfl | ⟨rfl, rfl⟩
      all_goals (
          first | (have FRx := FR; clear FRx) | (have FR : Sm (¬ ((1 : Nat) = 0)) := Sm.mk Nat.one_ne_zero)
          repeat' first
            | (refine Sm.mk ?_; try simp -dsimp only [ZK, rvc, drawF, headN, pureH, stp, dvc, calleeOf, gcall, pev, eff, newB, okd, og, ogs, ogo, ogp, slv, bltv, opd, litv, strip, one, both, putE, St.put, look, gdOf, gdv, picka, pickv, pickw, binv, bini, bins, binb, binp, binq, isSlT, bina, shp, eqCells, unv, convv, nilv, faddv, addp, idxav, idxp, load1, load1m, loadn, loadnm, loadv, hget, hset, hrep, hdel, slicev, bnd, shift1, lenv, capv, IntKind.bits, extractv, fieldv, indexv, min2v, max2v, mkiv, cellsA, fillA, buildv, stC, oneC, rowMB, intsA, plN, appE, appZ, appC, appNZ, appNC, VwL, srcC, srcZ, srcM, isBoolT, isPtrT, isSliceT, uOk, Value.oneCell', Nat.reducePow, Int.reducePow, Nat.reduceAdd, Nat.reduceMul, Nat.reduceSub, Nat.reduceLT, Nat.reduceLeDiff, Nat.reduceEqDiff, Nat.reduceBEq, Nat.reduceDiv, Nat.reduceMod, ↓reduceIte, reduceCtorEq, Int.reduceToNat, Int.reduceLT, Int.reduceLE, TFStE, SeqQ, BlkQ, LoopQ, BodyQ, kl, t1, e1, k4, k7, kA, kB, hat, hs, FR.out])
            | (refine WP.seq fun K hK => ?_)
            | (refine WP.region (rvc_sound _ _ (Sm.out ?_)))
            | (refine WP.drawP (ia := 10) (is := 11) (k := 12) mixed (by decide +kernel) (by decide +kernel) (Sm.out ?_))
            | (refine WP.drawK rfl mixed (by decide +kernel) (Sm.out ?_))
            | (refine Ob.mk ?_; focus (first | assumption | omega | decide | trivial | (intro hob; simp only [hob, ZF]; done) | (intros; (repeat' refine And.intro ?_ ?_) <;> first | assumption | omega | trivial | decide) | (intros; simp only [ZE] at *; (repeat' refine And.intro ?_ ?_) <;> first | assumption | omega | trivial)))
            | (refine And.intro (Ob.out ?_) ?_)
            | (refine WP.block ?_)
            | (refine WP.cond rfl (fun hc => ?_) (fun hc => ?_) <;> (try simp only [ZC, reduceCtorEq, ZD] at hc) <;> (try (exact absurd hc (by decide))) <;> (try (exfalso; omega)))
            | ((first | refine WP.skip ?_ | refine WP.exit ?_); simp only [SeqQ, BlkQ, LoopQ, BodyQ, ↓reduceIte, Nat.reduceEqDiff, reduceCtorEq, look, true_and])
            | (refine WP.ret (Sm.out ?_))
            | (first | refine ExG.no (Sm.out ?_) | refine Or.inl (ExG.no (Sm.out ?_)) | refine Or.inl (And.intro (fun hg => absurd hg (by decide)) (ExG.no (Sm.out ?_))))
            | (refine Rt.mk ?_; refine And.intro ?_ ?_ <;> (intro hg; first | exact absurd hg (by decide) | refine Sm.out ?_))
            | (refine Nu.mk ?_; first | (fail_if_success (have := nb1)); intro nb1 | (fail_if_success (have := nb2)); intro nb2 | (fail_if_success (have := nb3)); intro nb3 | (fail_if_success (have := nb4)); intro nb4 | (fail_if_success (have := nb5)); intro nb5 | (fail_if_success (have := nb6)); intro nb6 | intro nbz)
            | (refine Fr.mk ?_; intro hfr; (first | (have hFRb : _ ≤ _ ∧ _ ≤ _ := And.intro hfr.1 hfr.2.1) | (have hFRb : _ ≤ _ := hfr.1) | skip); replace FR := Sm.mk (And.intro hfr FR.out); clear hfr; refine Sm.out ?_)
            | (refine Two.mk ?_ ?_)
            | (refine Cs.mk ?_; intro hcs; first | exact False.elim hcs | (exfalso; omega) | (refine Sm.out ?_))
            | go_step
            | omega
            | (simp only [maxLen_eq]; omega))
      all_goals (refine OutQ.all ?_ ?_; (focus (simp only [resv, ZK, look, loadv, loadn, loadnm, load1, load1m, hget, ↓reduceIte, Nat.reduceEqDiff, Nat.reduceAdd, Nat.reduceMul, Nat.reduceLeDiff, Nat.reduceLT, reduceCtorEq, TFStE, hrd, FR.out])); (try simp only [resv, resA, Fn, ZK, look, loadv, loadn, loadnm, load1, load1m, hget, ↓reduceIte, Nat.reduceEqDiff, Nat.reduceAdd, Nat.reduceMul, Nat.reduceLeDiff, Nat.reduceLT, reduceCtorEq, TFStE, hrd, FR.out]); (try simp [resA, Fn, look, hrd, FR.out]))
    · omega
  · have q1 : IntKind.i64.wrap 1 = 1 := by decide
    have q2 : IntKind.i64.wrap 2 = 2 := by decide
    simp only [aA1]
    obtain ⟨i, hi⟩ : ∃ i, i = offp 1 + w := ⟨_, rfl⟩
    have hi2 : i = 5 + w := hi
    rw [← hi] at hlen hok ⊢
    have hv : 0 ≤ valR zs 5 w ∧ valR zs 5 w < (10 : Int) ^ w := valR_bd fun j hj => by have := okc_dig (hok (5 + j) (by omega)) (by omega) (by omega); simpa using this
    have hv2 : valR zs 5 w < 10000 := by have h1 := pow4 (w := w) (by omega); omega
    by_cases hlt : i < 10
    · have hat := bstr_at hb (show i < zs.length by omega)
      have hbi := hb i (show i < zs.length by omega)
      rw [← hB] at hat
      obtain ⟨c, hc0⟩ : ∃ c, c = zs.getD i 0 := ⟨_, rfl⟩
      rw [← hc0] at hat hbi
      have kl : decide ((i : Int) < 10) = true := decide_eq_true (by omega)
      have t1 : ((i : Nat) : Int).toNat = i := by omega
      have e1 : IntKind.i64.wrap ((i : Int) + 1) = ((i + 1 : Nat) : Int) := by rw [wrap_i64 (by omega) (by omega)]; omega
      by_cases hA : w = 2
      · have k4 : ((i : Int) == 4) = false := beq_eq_false_iff_ne.2 (by omega)
        have k7 : ((i : Int) == 7) = true := beq_iff_eq.2 (by omega)
        by_cases hd : c = 45
        · have kd : (c == 45) = true := beq_iff_eq.2 hd
          have ke : (c != 45) = false := by simp only [bne, kd]; rfl
          have ie : offp 2 + 0 = i + 1 := by show 8 + 0 = i + 1; omega
          first | (have FRx := FR; clear FRx) | (have FR : Sm (¬ ((1 : Nat) = 0)) := Sm.mk Nat.one_ne_zero)
          repeat' first
            | (refine Sm.mk ?_; try simp -dsimp only [ZK, rvc, drawF, headN, pureH, stp, dvc, calleeOf, gcall, pev, eff, newB, okd, og, ogs, ogo, ogp, slv, bltv, opd, litv, strip, one, both, putE, St.put, look, gdOf, gdv, picka, pickv, pickw, binv, bini, bins, binb, binp, binq, isSlT, bina, shp, eqCells, unv, convv, nilv, faddv, addp, idxav, idxp, load1, load1m, loadn, loadnm, loadv, hget, hset, hrep, hdel, slicev, bnd, shift1, lenv, capv, IntKind.bits, extractv, fieldv, indexv, min2v, max2v, mkiv, cellsA, fillA, buildv, stC, oneC, rowMB, intsA, plN, appE, appZ, appC, appNZ, appNC, VwL, srcC, srcZ, srcM, isBoolT, isPtrT, isSliceT, uOk, Value.oneCell', Nat.reducePow, Int.reducePow, Nat.reduceAdd, Nat.reduceMul, Nat.reduceSub, Nat.reduceLT, Nat.reduceLeDiff, Nat.reduceEqDiff, Nat.reduceBEq, Nat.reduceDiv, Nat.reduceMod, ↓reduceIte, reduceCtorEq, Int.reduceToNat, Int.reduceLT, Int.reduceLE, TFStE, SeqQ, BlkQ, LoopQ, BodyQ, kl, t1, e1, k4, k7, kd, ke, hat, hs, FR.out])
            | (refine WP.seq fun K hK => ?_)
            | (refine WP.region (rvc_sound _ _ (Sm.out ?_)))
            | (refine WP.drawP (ia := 10) (is := 11) (k := 12) mixed (by decide +kernel) (by decide +kernel) (Sm.out ?_))
            | (refine WP.drawK rfl mixed (by decide +kernel) (Sm.out ?_))
            | (refine Ob.mk ?_; focus (first | assumption | omega | decide | trivial | (intro hob; simp only [hob, ZF]; done) | (intros; (repeat' refine And.intro ?_ ?_) <;> first | assumption | omega | trivial | decide) | (intros; simp only [ZE] at *; (repeat' refine And.intro ?_ ?_) <;> first | assumption | omega | trivial)))
            | (refine And.intro (Ob.out ?_) ?_)
            | (refine WP.block ?_)
            | (refine WP.cond rfl (fun hc => ?_) (fun hc => ?_) <;> (try simp only [ZC, reduceCtorEq, ZD] at hc) <;> (try (exact absurd hc (by decide))) <;> (try (exfalso; omega)))
            | ((first | refine WP.skip ?_ | refine WP.exit ?_); simp only [SeqQ, BlkQ, LoopQ, BodyQ, ↓reduceIte, Nat.reduceEqDiff, reduceCtorEq, look, true_and])
            | (refine WP.ret (Sm.out ?_))
            | (first | refine ExG.no (Sm.out ?_) | refine Or.inl (ExG.no (Sm.out ?_)) | refine Or.inl (And.intro (fun hg => absurd hg (by decide)) (ExG.no (Sm.out ?_))))
            | (refine Rt.mk ?_; refine And.intro ?_ ?_ <;> (intro hg; first | exact absurd hg (by decide) | refine Sm.out ?_))
            | (refine Nu.mk ?_; first | (fail_if_success (have := nb1)); intro nb1 | (fail_if_success (have := nb2)); intro nb2 | (fail_if_success (have := nb3)); intro nb3 | (fail_if_success (have := nb4)); intro nb4 | (fail_if_success (have := nb5)); intro nb5 | (fail_if_success (have := nb6)); intro nb6 | intro nbz)
            | (refine Fr.mk ?_; intro hfr; (first | (have hFRb : _ ≤ _ ∧ _ ≤ _ := And.intro hfr.1 hfr.2.1) | (have hFRb : _ ≤ _ := hfr.1) | skip); replace FR := Sm.mk (And.intro hfr FR.out); clear hfr; refine Sm.out ?_)
            | (refine Two.mk ?_ ?_)
            | (refine Cs.mk ?_; intro hcs; first | exact False.elim hcs | (exfalso; omega) | (refine Sm.out ?_))
            | go_step
            | omega
            | (simp only [maxLen_eq]; omega)
          refine ⟨⟨2, 0⟩, ⟨.inr (.inr ⟨rfl, Nat.zero_le _⟩), by simp only [ie]; omega, fun j hj => ?_⟩, by simp only [ie]; omega, (Sub.pick (by simp [pickB, hget, hdel, FR.out, ie, aA2, valR0, hA, q1, q2]) (by simp [look, ie, aA2, valR0, hA, q1, q2]))⟩
          simp only [ie] at hj
          by_cases hji : j = i
          · subst hji; exact okc_mkd (by omega) (by omega)
          · exact hok j (by omega)
        · have hrd := rd_bad (zs := zs) fun h => hd (by rw [hc0]; exact okc_dash (h.2 i hlt) (by omega))
          have kd : (c == 45) = false := beq_eq_false_iff_ne.2 hd
          have ke : (c != 45) = true := by simp only [bne, kd]; rfl
          first | (have FRx := FR; clear FRx) | (have FR : Sm (¬ ((1 : Nat) = 0)) := Sm.mk Nat.one_ne_zero)
          repeat' first
            | (refine Sm.mk ?_; try simp -dsimp only [ZK, rvc, drawF, headN, pureH, stp, dvc, calleeOf, gcall, pev, eff, newB, okd, og, ogs, ogo, ogp, slv, bltv, opd, litv, strip, one, both, putE, St.put, look, gdOf, gdv, picka, pickv, pickw, binv, bini, bins, binb, binp, binq, isSlT, bina, shp, eqCells, unv, convv, nilv, faddv, addp, idxav, idxp, load1, load1m, loadn, loadnm, loadv, hget, hset, hrep, hdel, slicev, bnd, shift1, lenv, capv, IntKind.bits, extractv, fieldv, indexv, min2v, max2v, mkiv, cellsA, fillA, buildv, stC, oneC, rowMB, intsA, plN, appE, appZ, appC, appNZ, appNC, VwL, srcC, srcZ, srcM, isBoolT, isPtrT, isSliceT, uOk, Value.oneCell', Nat.reducePow, Int.reducePow, Nat.reduceAdd, Nat.reduceMul, Nat.reduceSub, Nat.reduceLT, Nat.reduceLeDiff, Nat.reduceEqDiff, Nat.reduceBEq, Nat.reduceDiv, Nat.reduceMod, ↓reduceIte, reduceCtorEq, Int.reduceToNat, Int.reduceLT, Int.reduceLE, TFStE, SeqQ, BlkQ, LoopQ, BodyQ, kl, t1, e1, k4, k7, kd, ke, hat, hs, FR.out])
            | (refine WP.seq fun K hK => ?_)
            | (refine WP.region (rvc_sound _ _ (Sm.out ?_)))
            | (refine WP.drawP (ia := 10) (is := 11) (k := 12) mixed (by decide +kernel) (by decide +kernel) (Sm.out ?_))
            | (refine WP.drawK rfl mixed (by decide +kernel) (Sm.out ?_))
            | (refine Ob.mk ?_; focus (first | assumption | omega | decide | trivial | (intro hob; simp only [hob, ZF]; done) | (intros; (repeat' refine And.intro ?_ ?_) <;> first | assumption | omega | trivial | decide) | (intros; simp only [ZE] at *; (repeat' refine And.intro ?_ ?_) <;> first | assumption | omega | trivial)))
            | (refine And.intro (Ob.out ?_) ?_)
            | (refine WP.block ?_)
            | (refine WP.cond rfl (fun hc => ?_) (fun hc => ?_) <;> (try simp only [ZC, reduceCtorEq, ZD] at hc) <;> (try (exact absurd hc (by decide))) <;> (try (exfalso; omega)))
            | ((first | refine WP.skip ?_ | refine WP.exit ?_); simp only [SeqQ, BlkQ, LoopQ, BodyQ, ↓reduceIte, Nat.reduceEqDiff, reduceCtorEq, look, true_and])
            | (refine WP.ret (Sm.out ?_))
            | (first | refine ExG.no (Sm.out ?_) | refine Or.inl (ExG.no (Sm.out ?_)) | refine Or.inl (And.intro (fun hg => absurd hg (by decide)) (ExG.no (Sm.out ?_))))
            | (refine Rt.mk ?_; refine And.intro ?_ ?_ <;> (intro hg; first | exact absurd hg (by decide) | refine Sm.out ?_))
            | (refine Nu.mk ?_; first | (fail_if_success (have := nb1)); intro nb1 | (fail_if_success (have := nb2)); intro nb2 | (fail_if_success (have := nb3)); intro nb3 | (fail_if_success (have := nb4)); intro nb4 | (fail_if_success (have := nb5)); intro nb5 | (fail_if_success (have := nb6)); intro nb6 | intro nbz)
            | (refine Fr.mk ?_; intro hfr; (first | (have hFRb : _ ≤ _ ∧ _ ≤ _ := And.intro hfr.1 hfr.2.1) | (have hFRb : _ ≤ _ := hfr.1) | skip); replace FR := Sm.mk (And.intro hfr FR.out); clear hfr; refine Sm.out ?_)
            | (refine Two.mk ?_ ?_)
            | (refine Cs.mk ?_; intro hcs; first | exact False.elim hcs | (exfalso; omega) | (refine Sm.out ?_))
            | go_step
            | omega
            | (simp only [maxLen_eq]; omega)
          (refine OutQ.all ?_ ?_; (focus (simp only [resv, ZK, look, loadv, loadn, loadnm, load1, load1m, hget, ↓reduceIte, Nat.reduceEqDiff, Nat.reduceAdd, Nat.reduceMul, Nat.reduceLeDiff, Nat.reduceLT, reduceCtorEq, TFStE, hrd, FR.out])); (try simp only [resv, resA, Fn, ZK, look, loadv, loadn, loadnm, load1, load1m, hget, ↓reduceIte, Nat.reduceEqDiff, Nat.reduceAdd, Nat.reduceMul, Nat.reduceLeDiff, Nat.reduceLT, reduceCtorEq, TFStE, hrd, FR.out]); (try simp [resA, Fn, look, hrd, FR.out]))
      have k4 : ((i : Int) == 4) = false := beq_eq_false_iff_ne.2 (by omega)
      have k7 : ((i : Int) == 7) = false := beq_eq_false_iff_ne.2 (by omega)
      by_cases hD : 48 ≤ c ∧ c ≤ 57
      · have kA : decide (c < 48) = false := decide_eq_false (by omega)
        have kB : decide (c > 57) = false := decide_eq_false (by omega)
        have ie : offp 1 + (w + 1) = i + 1 := by show 5 + (w + 1) = i + 1; omega
        have s1 : IntKind.i64.wrap (10 * valR zs 5 w) = 10 * valR zs 5 w := wrap_i64 (by omega) (by omega)
        have s2 : IntKind.i64.wrap c = c := wrap_i64 (by omega) (by omega)
        have s3 : IntKind.i64.wrap (10 * valR zs 5 w + c) = 10 * valR zs 5 w + c := wrap_i64 (by omega) (by omega)
        have s4 : IntKind.i64.wrap (10 * valR zs 5 w + c - 48) = valR zs 5 (w + 1) := by rw [wrap_i64 (by omega) (by omega), valR_succ, ← hi2, ← hc0]; omega
        first | (have FRx := FR; clear FRx) | (have FR : Sm (¬ ((1 : Nat) = 0)) := Sm.mk Nat.one_ne_zero)
        repeat' first
          | (refine Sm.mk ?_; try simp -dsimp only [ZK, rvc, drawF, headN, pureH, stp, dvc, calleeOf, gcall, pev, eff, newB, okd, og, ogs, ogo, ogp, slv, bltv, opd, litv, strip, one, both, putE, St.put, look, gdOf, gdv, picka, pickv, pickw, binv, bini, bins, binb, binp, binq, isSlT, bina, shp, eqCells, unv, convv, nilv, faddv, addp, idxav, idxp, load1, load1m, loadn, loadnm, loadv, hget, hset, hrep, hdel, slicev, bnd, shift1, lenv, capv, IntKind.bits, extractv, fieldv, indexv, min2v, max2v, mkiv, cellsA, fillA, buildv, stC, oneC, rowMB, intsA, plN, appE, appZ, appC, appNZ, appNC, VwL, srcC, srcZ, srcM, isBoolT, isPtrT, isSliceT, uOk, Value.oneCell', Nat.reducePow, Int.reducePow, Nat.reduceAdd, Nat.reduceMul, Nat.reduceSub, Nat.reduceLT, Nat.reduceLeDiff, Nat.reduceEqDiff, Nat.reduceBEq, Nat.reduceDiv, Nat.reduceMod, ↓reduceIte, reduceCtorEq, Int.reduceToNat, Int.reduceLT, Int.reduceLE, TFStE, SeqQ, BlkQ, LoopQ, BodyQ, kl, t1, e1, k4, k7, kA, kB, hat, hs, s1, s2, s3, s4, FR.out])
          | (refine WP.seq fun K hK => ?_)
          | (refine WP.region (rvc_sound _ _ (Sm.out ?_)))
          | (refine WP.drawP (ia := 10) (is := 11) (k := 12) mixed (by decide +kernel) (by decide +kernel) (Sm.out ?_))
          | (refine WP.drawK rfl mixed (by decide +kernel) (Sm.out ?_))
          | (refine Ob.mk ?_; focus (first | assumption | omega | decide | trivial | (intro hob; simp only [hob, ZF]; done) | (intros; (repeat' refine And.intro ?_ ?_) <;> first | assumption | omega | trivial | decide) | (intros; simp only [ZE] at *; (repeat' refine And.intro ?_ ?_) <;> first | assumption | omega | trivial)))
          | (refine And.intro (Ob.out ?_) ?_)
          | (refine WP.block ?_)
          | (refine WP.cond rfl (fun hc => ?_) (fun hc => ?_) <;> (try simp only [ZC, reduceCtorEq, ZD] at hc) <;> (try (exact absurd hc (by decide))) <;> (try (exfalso; omega)))
          | ((first | refine WP.skip ?_ | refine WP.exit ?_); simp only [SeqQ, BlkQ, LoopQ, BodyQ, ↓reduceIte, Nat.reduceEqDiff, reduceCtorEq, look, true_and])
          | (refine WP.ret (Sm.out ?_))
          | (first | refine ExG.no (Sm.out ?_) | refine Or.inl (ExG.no (Sm.out ?_)) | refine Or.inl (And.intro (fun hg => absurd hg (by decide)) (ExG.no (Sm.out ?_))))
          | (refine Rt.mk ?_; refine And.intro ?_ ?_ <;> (intro hg; first | exact absurd hg (by decide) | refine Sm.out ?_))
          | (refine Nu.mk ?_; first | (fail_if_success (have := nb1)); intro nb1 | (fail_if_success (have := nb2)); intro nb2 | (fail_if_success (have := nb3)); intro nb3 | (fail_if_success (have := nb4)); intro nb4 | (fail_if_success (have := nb5)); intro nb5 | (fail_if_success (have := nb6)); intro nb6 | intro nbz)
          | (refine Fr.mk ?_; intro hfr; (first | (have hFRb : _ ≤ _ ∧ _ ≤ _ := And.intro hfr.1 hfr.2.1) | (have hFRb : _ ≤ _ := hfr.1) | skip); replace FR := Sm.mk (And.intro hfr FR.out); clear hfr; refine Sm.out ?_)
          | (refine Two.mk ?_ ?_)
          | (refine Cs.mk ?_; intro hcs; first | exact False.elim hcs | (exfalso; omega) | (refine Sm.out ?_))
          | go_step
          | omega
          | (simp only [maxLen_eq]; omega)
        refine ⟨⟨1, w + 1⟩, ⟨.inr (.inl ⟨rfl, by simp only; omega⟩), by simp only [ie]; omega, fun j hj => ?_⟩, by simp only [ie]; omega, (Sub.pick (by simp [pickB, hget, hdel, FR.out, ie, aA1]) (by simp [look, ie, aA1]))⟩
        simp only [ie] at hj
        by_cases hji : j = i
        · subst hji; exact okc_mk (by omega) (by omega)
        · exact hok j (by omega)
      have hrd := rd_bad (zs := zs) fun h => hD (by rw [hc0]; exact okc_dig (h.2 i hlt) (by omega) (by omega))
      obtain ⟨b1, b2, kA, kB, hbs⟩ : ∃ b1 b2 : Bool, decide (c < 48) = b1 ∧ decide (c > 57) = b2 ∧ (b1 = true ∨ (b1 = false ∧ b2 = true)) := by
        refine ⟨_, _, rfl, rfl, ?_⟩
        by_cases q3 : c < 48
        · exact .inl (decide_eq_true q3)
        · exact .inr ⟨decide_eq_false q3, decide_eq_true (by omega)⟩
      rcases hbs with rfl | ⟨rfl, rfl⟩
      all_goals (
          first | (have FRx := FR; clear FRx) | (have FR : Sm (¬ ((1 : Nat) = 0)) := Sm.mk Nat.one_ne_zero)
          repeat' first
            | (refine Sm.mk ?_; try simp -dsimp only [ZK, rvc, drawF, headN, pureH, stp, dvc, calleeOf, gcall, pev, eff, newB, okd, og, ogs, ogo, ogp, slv, bltv, opd, litv, strip, one, both, putE, St.put, look, gdOf, gdv, picka, pickv, pickw, binv, bini, bins, binb, binp, binq, isSlT, bina, shp, eqCells, unv, convv, nilv, faddv, addp, idxav, idxp, load1, load1m, loadn, loadnm, loadv, hget, hset, hrep, hdel, slicev, bnd, shift1, lenv, capv, IntKind.bits, extractv, fieldv, indexv, min2v, max2v, mkiv, cellsA, fillA, buildv, stC, oneC, rowMB, intsA, plN, appE, appZ, appC, appNZ, appNC, VwL, srcC, srcZ, srcM, isBoolT, isPtrT, isSliceT, uOk, Value.oneCell', Nat.reducePow, Int.reducePow, Nat.reduceAdd, Nat.reduceMul, Nat.reduceSub, Nat.reduceLT, Nat.reduceLeDiff, Nat.reduceEqDiff, Nat.reduceBEq, Nat.reduceDiv, Nat.reduceMod, ↓reduceIte, reduceCtorEq, Int.reduceToNat, Int.reduceLT, Int.reduceLE, TFStE, SeqQ, BlkQ, LoopQ, BodyQ, kl, t1, e1, k4, k7, kA, kB, hat, hs, FR.out])
            | (refine WP.seq fun K hK => ?_)
            | (refine WP.region (rvc_sound _ _ (Sm.out ?_)))
            | (refine WP.drawP (ia := 10) (is := 11) (k := 12) mixed (by decide +kernel) (by decide +kernel) (Sm.out ?_))
            | (refine WP.drawK rfl mixed (by decide +kernel) (Sm.out ?_))
            | (refine Ob.mk ?_; focus (first | assumption | omega | decide | trivial | (intro hob; simp only [hob, ZF]; done) | (intros; (repeat' refine And.intro ?_ ?_) <;> first | assumption | omega | trivial | decide) | (intros; simp only [ZE] at *; (repeat' refine And.intro ?_ ?_) <;> first | assumption | omega | trivial)))
            | (refine And.intro (Ob.out ?_) ?_)
            | (refine WP.block ?_)
            | (refine WP.cond rfl (fun hc => ?_) (fun hc => ?_) <;> (try simp only [ZC, reduceCtorEq, ZD] at hc) <;> (try (exact absurd hc (by decide))) <;> (try (exfalso; omega)))
            | ((first | refine WP.skip ?_ | refine WP.exit ?_); simp only [SeqQ, BlkQ, LoopQ, BodyQ, ↓reduceIte, Nat.reduceEqDiff, reduceCtorEq, look, true_and])
            | (refine WP.ret (Sm.out ?_))
            | (first | refine ExG.no (Sm.out ?_) | refine Or.inl (ExG.no (Sm.out ?_)) | refine Or.inl (And.intro (fun hg => absurd hg (by decide)) (ExG.no (Sm.out ?_))))
            | (refine Rt.mk ?_; refine And.intro ?_ ?_ <;> (intro hg; first | exact absurd hg (by decide) | refine Sm.out ?_))
            | (refine Nu.mk ?_; first | (fail_if_success (have := nb1)); intro nb1 | (fail_if_success (have := nb2)); intro nb2 | (fail_if_success (have := nb3)); intro nb3 | (fail_if_success (have := nb4)); intro nb4 | (fail_if_success (have := nb5)); intro nb5 | (fail_if_success (have := nb6)); intro nb6 | intro nbz)
            | (refine Fr.mk ?_; intro hfr; (first | (have hFRb : _ ≤ _ ∧ _ ≤ _ := And.intro hfr.1 hfr.2.1) | (have hFRb : _ ≤ _ := hfr.1) | skip); replace FR := Sm.mk (And.intro hfr FR.out); clear hfr; refine Sm.out ?_)
            | (refine Two.mk ?_ ?_)
            | (refine Cs.mk ?_; intro hcs; first | exact False.elim hcs | (exfalso; omega) | (refine Sm.out ?_))
            | go_step
            | omega
            | (simp only [maxLen_eq]; omega))
      all_goals (refine OutQ.all ?_ ?_; (focus (simp only [resv, ZK, look, loadv, loadn, loadnm, load1, load1m, hget, ↓reduceIte, Nat.reduceEqDiff, Nat.reduceAdd, Nat.reduceMul, Nat.reduceLeDiff, Nat.reduceLT, reduceCtorEq, TFStE, hrd, FR.out])); (try simp only [resv, resA, Fn, ZK, look, loadv, loadn, loadnm, load1, load1m, hget, ↓reduceIte, Nat.reduceEqDiff, Nat.reduceAdd, Nat.reduceMul, Nat.reduceLeDiff, Nat.reduceLT, reduceCtorEq, TFStE, hrd, FR.out]); (try simp [resA, Fn, look, hrd, FR.out]))
    · omega
  · have q1 : IntKind.i64.wrap 1 = 1 := by decide
    have q2 : IntKind.i64.wrap 2 = 2 := by decide
    simp only [aA2]
    obtain ⟨i, hi⟩ : ∃ i, i = offp 2 + w := ⟨_, rfl⟩
    have hi2 : i = 8 + w := hi
    rw [← hi] at hlen hok ⊢
    have hv : 0 ≤ valR zs 8 w ∧ valR zs 8 w < (10 : Int) ^ w := valR_bd fun j hj => by have := okc_dig (hok (8 + j) (by omega)) (by omega) (by omega); simpa using this
    have hv2 : valR zs 8 w < 10000 := by have h1 := pow4 (w := w) (by omega); omega
    by_cases hlt : i < 10
    · have hat := bstr_at hb (show i < zs.length by omega)
      have hbi := hb i (show i < zs.length by omega)
      rw [← hB] at hat
      obtain ⟨c, hc0⟩ : ∃ c, c = zs.getD i 0 := ⟨_, rfl⟩
      rw [← hc0] at hat hbi
      have kl : decide ((i : Int) < 10) = true := decide_eq_true (by omega)
      have t1 : ((i : Nat) : Int).toNat = i := by omega
      have e1 : IntKind.i64.wrap ((i : Int) + 1) = ((i + 1 : Nat) : Int) := by rw [wrap_i64 (by omega) (by omega)]; omega
      by_cases hA : False
      · exact hA.elim
      have k4 : ((i : Int) == 4) = false := beq_eq_false_iff_ne.2 (by omega)
      have k7 : ((i : Int) == 7) = false := beq_eq_false_iff_ne.2 (by omega)
      by_cases hD : 48 ≤ c ∧ c ≤ 57
      · have kA : decide (c < 48) = false := decide_eq_false (by omega)
        have kB : decide (c > 57) = false := decide_eq_false (by omega)
        have ie : offp 2 + (w + 1) = i + 1 := by show 8 + (w + 1) = i + 1; omega
        have s1 : IntKind.i64.wrap (10 * valR zs 8 w) = 10 * valR zs 8 w := wrap_i64 (by omega) (by omega)
        have s2 : IntKind.i64.wrap c = c := wrap_i64 (by omega) (by omega)
        have s3 : IntKind.i64.wrap (10 * valR zs 8 w + c) = 10 * valR zs 8 w + c := wrap_i64 (by omega) (by omega)
        have s4 : IntKind.i64.wrap (10 * valR zs 8 w + c - 48) = valR zs 8 (w + 1) := by rw [wrap_i64 (by omega) (by omega), valR_succ, ← hi2, ← hc0]; omega
        first | (have FRx := FR; clear FRx) | (have FR : Sm (¬ ((1 : Nat) = 0)) := Sm.mk Nat.one_ne_zero)
        repeat' first
          | (refine Sm.mk ?_; try simp -dsimp only [ZK, rvc, drawF, headN, pureH, stp, dvc, calleeOf, gcall, pev, eff, newB, okd, og, ogs, ogo, ogp, slv, bltv, opd, litv, strip, one, both, putE, St.put, look, gdOf, gdv, picka, pickv, pickw, binv, bini, bins, binb, binp, binq, isSlT, bina, shp, eqCells, unv, convv, nilv, faddv, addp, idxav, idxp, load1, load1m, loadn, loadnm, loadv, hget, hset, hrep, hdel, slicev, bnd, shift1, lenv, capv, IntKind.bits, extractv, fieldv, indexv, min2v, max2v, mkiv, cellsA, fillA, buildv, stC, oneC, rowMB, intsA, plN, appE, appZ, appC, appNZ, appNC, VwL, srcC, srcZ, srcM, isBoolT, isPtrT, isSliceT, uOk, Value.oneCell', Nat.reducePow, Int.reducePow, Nat.reduceAdd, Nat.reduceMul, Nat.reduceSub, Nat.reduceLT, Nat.reduceLeDiff, Nat.reduceEqDiff, Nat.reduceBEq, Nat.reduceDiv, Nat.reduceMod, ↓reduceIte, reduceCtorEq, Int.reduceToNat, Int.reduceLT, Int.reduceLE, TFStE, SeqQ, BlkQ, LoopQ, BodyQ, kl, t1, e1, k4, k7, kA, kB, hat, hs, s1, s2, s3, s4, FR.out])
          | (refine WP.seq fun K hK => ?_)
          | (refine WP.region (rvc_sound _ _ (Sm.out ?_)))
          | (refine WP.drawP (ia := 10) (is := 11) (k := 12) mixed (by decide +kernel) (by decide +kernel) (Sm.out ?_))
          | (refine WP.drawK rfl mixed (by decide +kernel) (Sm.out ?_))
          | (refine Ob.mk ?_; focus (first | assumption | omega | decide | trivial | (intro hob; simp only [hob, ZF]; done) | (intros; (repeat' refine And.intro ?_ ?_) <;> first | assumption | omega | trivial | decide) | (intros; simp only [ZE] at *; (repeat' refine And.intro ?_ ?_) <;> first | assumption | omega | trivial)))
          | (refine And.intro (Ob.out ?_) ?_)
          | (refine WP.block ?_)
          | (refine WP.cond rfl (fun hc => ?_) (fun hc => ?_) <;> (try simp only [ZC, reduceCtorEq, ZD] at hc) <;> (try (exact absurd hc (by decide))) <;> (try (exfalso; omega)))
          | ((first | refine WP.skip ?_ | refine WP.exit ?_); simp only [SeqQ, BlkQ, LoopQ, BodyQ, ↓reduceIte, Nat.reduceEqDiff, reduceCtorEq, look, true_and])
          | (refine WP.ret (Sm.out ?_))
          | (first | refine ExG.no (Sm.out ?_) | refine Or.inl (ExG.no (Sm.out ?_)) | refine Or.inl (And.intro (fun hg => absurd hg (by decide)) (ExG.no (Sm.out ?_))))
          | (refine Rt.mk ?_; refine And.intro ?_ ?_ <;> (intro hg; first | exact absurd hg (by decide) | refine Sm.out ?_))
          | (refine Nu.mk ?_; first | (fail_if_success (have := nb1)); intro nb1 | (fail_if_success (have := nb2)); intro nb2 | (fail_if_success (have := nb3)); intro nb3 | (fail_if_success (have := nb4)); intro nb4 | (fail_if_success (have := nb5)); intro nb5 | (fail_if_success (have := nb6)); intro nb6 | intro nbz)
          | (refine Fr.mk ?_; intro hfr; (first | (have hFRb : _ ≤ _ ∧ _ ≤ _ := And.intro hfr.1 hfr.2.1) | (have hFRb : _ ≤ _ := hfr.1) | skip); replace FR := Sm.mk (And.intro hfr FR.out); clear hfr; refine Sm.out ?_)
          | (refine Two.mk ?_ ?_)
          | (refine Cs.mk ?_; intro hcs; first | exact False.elim hcs | (exfalso; omega) | (refine Sm.out ?_))
          | go_step
          | omega
          | (simp only [maxLen_eq]; omega)
        refine ⟨⟨2, w + 1⟩, ⟨.inr (.inr ⟨rfl, by simp only; omega⟩), by simp only [ie]; omega, fun j hj => ?_⟩, by simp only [ie]; omega, (Sub.pick (by simp [pickB, hget, hdel, FR.out, ie, aA2]) (by simp [look, ie, aA2]))⟩
        simp only [ie] at hj
        by_cases hji : j = i
        · subst hji; exact okc_mk (by omega) (by omega)
        · exact hok j (by omega)
      have hrd := rd_bad (zs := zs) fun h => hD (by rw [hc0]; exact okc_dig (h.2 i hlt) (by omega) (by omega))
      obtain ⟨b1, b2, kA, kB, hbs⟩ : ∃ b1 b2 : Bool, decide (c < 48) = b1 ∧ decide (c > 57) = b2 ∧ (b1 = true ∨ (b1 = false ∧ b2 = true)) := by
        refine ⟨_, _, rfl, rfl, ?_⟩
        by_cases q3 : c < 48
        · exact .inl (decide_eq_true q3)
        · exact .inr ⟨decide_eq_false q3, decide_eq_true (by omega)⟩
      rcases hbs with rfl | ⟨rfl, rfl⟩
      all_goals (
          first | (have FRx := FR; clear FRx) | (have FR : Sm (¬ ((1 : Nat) = 0)) := Sm.mk Nat.one_ne_zero)
          repeat' first
            | (refine Sm.mk ?_; try simp -dsimp only [ZK, rvc, drawF, headN, pureH, stp, dvc, calleeOf, gcall, pev, eff, newB, okd, og, ogs, ogo, ogp, slv, bltv, opd, litv, strip, one, both, putE, St.put, look, gdOf, gdv, picka, pickv, pickw, binv, bini, bins, binb, binp, binq, isSlT, bina, shp, eqCells, unv, convv, nilv, faddv, addp, idxav, idxp, load1, load1m, loadn, loadnm, loadv, hget, hset, hrep, hdel, slicev, bnd, shift1, lenv, capv, IntKind.bits, extractv, fieldv, indexv, min2v, max2v, mkiv, cellsA, fillA, buildv, stC, oneC, rowMB, intsA, plN, appE, appZ, appC, appNZ, appNC, VwL, srcC, srcZ, srcM, isBoolT, isPtrT, isSliceT, uOk, Value.oneCell', Nat.reducePow, Int.reducePow, Nat.reduceAdd, Nat.reduceMul, Nat.reduceSub, Nat.reduceLT, Nat.reduceLeDiff, Nat.reduceEqDiff, Nat.reduceBEq, Nat.reduceDiv, Nat.reduceMod, ↓reduceIte, reduceCtorEq, Int.reduceToNat, Int.reduceLT, Int.reduceLE, TFStE, SeqQ, BlkQ, LoopQ, BodyQ, kl, t1, e1, k4, k7, kA, kB, hat, hs, FR.out])
            | (refine WP.seq fun K hK => ?_)
            | (refine WP.region (rvc_sound _ _ (Sm.out ?_)))
            | (refine WP.drawP (ia := 10) (is := 11) (k := 12) mixed (by decide +kernel) (by decide +kernel) (Sm.out ?_))
            | (refine WP.drawK rfl mixed (by decide +kernel) (Sm.out ?_))
            | (refine Ob.mk ?_; focus (first | assumption | omega | decide | trivial | (intro hob; simp only [hob, ZF]; done) | (intros; (repeat' refine And.intro ?_ ?_) <;> first | assumption | omega | trivial | decide) | (intros; simp only [ZE] at *; (repeat' refine And.intro ?_ ?_) <;> first | assumption | omega | trivial)))
            | (refine And.intro (Ob.out ?_) ?_)
            | (refine WP.block ?_)
            | (refine WP.cond rfl (fun hc => ?_) (fun hc => ?_) <;> (try simp only [ZC, reduceCtorEq, ZD] at hc) <;> (try (exact absurd hc (by decide))) <;> (try (exfalso; omega)))
            | ((first | refine WP.skip ?_ | refine WP.exit ?_); simp only [SeqQ, BlkQ, LoopQ, BodyQ, ↓reduceIte, Nat.reduceEqDiff, reduceCtorEq, look, true_and])
            | (refine WP.ret (Sm.out ?_))
            | (first | refine ExG.no (Sm.out ?_) | refine Or.inl (ExG.no (Sm.out ?_)) | refine Or.inl (And.intro (fun hg => absurd hg (by decide)) (ExG.no (Sm.out ?_))))
            | (refine Rt.mk ?_; refine And.intro ?_ ?_ <;> (intro hg; first | exact absurd hg (by decide) | refine Sm.out ?_))
            | (refine Nu.mk ?_; first | (fail_if_success (have := nb1)); intro nb1 | (fail_if_success (have := nb2)); intro nb2 | (fail_if_success (have := nb3)); intro nb3 | (fail_if_success (have := nb4)); intro nb4 | (fail_if_success (have := nb5)); intro nb5 | (fail_if_success (have := nb6)); intro nb6 | intro nbz)
            | (refine Fr.mk ?_; intro hfr; (first | (have hFRb : _ ≤ _ ∧ _ ≤ _ := And.intro hfr.1 hfr.2.1) | (have hFRb : _ ≤ _ := hfr.1) | skip); replace FR := Sm.mk (And.intro hfr FR.out); clear hfr; refine Sm.out ?_)
            | (refine Two.mk ?_ ?_)
            | (refine Cs.mk ?_; intro hcs; first | exact False.elim hcs | (exfalso; omega) | (refine Sm.out ?_))
            | go_step
            | omega
            | (simp only [maxLen_eq]; omega))
      all_goals (refine OutQ.all ?_ ?_; (focus (simp only [resv, ZK, look, loadv, loadn, loadnm, load1, load1m, hget, ↓reduceIte, Nat.reduceEqDiff, Nat.reduceAdd, Nat.reduceMul, Nat.reduceLeDiff, Nat.reduceLT, reduceCtorEq, TFStE, hrd, FR.out])); (try simp only [resv, resA, Fn, ZK, look, loadv, loadn, loadnm, load1, load1m, hget, ↓reduceIte, Nat.reduceEqDiff, Nat.reduceAdd, Nat.reduceMul, Nat.reduceLeDiff, Nat.reduceLT, reduceCtorEq, TFStE, hrd, FR.out]); (try simp [resA, Fn, look, hrd, FR.out]))
    · have kl : decide ((i : Int) < 10) = false := decide_eq_false (by omega)
      have hsh : dshp zs := ⟨by omega, fun j hj => hok j (by omega)⟩
      obtain rfl : w = 2 := by omega
      have cR := rightR_ct (yL zs) (mL zs) (dL zs)
      cases hr : rightI (yL zs) (mL zs) (dL zs)
      · have hrd := rd_wrong hsh hr
        rw [hr] at cR
        unfold yL mL dL at cR
        first | (have FRx := FR; clear FRx) | (have FR : Sm (¬ ((1 : Nat) = 0)) := Sm.mk Nat.one_ne_zero)
        repeat' first
          | (refine Sm.mk ?_; try simp -dsimp only [ZK, rvc, drawF, headN, pureH, stp, dvc, calleeOf, gcall, pev, eff, newB, okd, og, ogs, ogo, ogp, slv, bltv, opd, litv, strip, one, both, putE, St.put, look, gdOf, gdv, picka, pickv, pickw, binv, bini, bins, binb, binp, binq, isSlT, bina, shp, eqCells, unv, convv, nilv, faddv, addp, idxav, idxp, load1, load1m, loadn, loadnm, loadv, hget, hset, hrep, hdel, slicev, bnd, shift1, lenv, capv, IntKind.bits, extractv, fieldv, indexv, min2v, max2v, mkiv, cellsA, fillA, buildv, stC, oneC, rowMB, intsA, plN, appE, appZ, appC, appNZ, appNC, VwL, srcC, srcZ, srcM, isBoolT, isPtrT, isSliceT, uOk, Value.oneCell', Nat.reducePow, Int.reducePow, Nat.reduceAdd, Nat.reduceMul, Nat.reduceSub, Nat.reduceLT, Nat.reduceLeDiff, Nat.reduceEqDiff, Nat.reduceBEq, Nat.reduceDiv, Nat.reduceMod, ↓reduceIte, reduceCtorEq, Int.reduceToNat, Int.reduceLT, Int.reduceLE, TFStE, SeqQ, BlkQ, LoopQ, BodyQ, kl, FR.out])
          | (first | refine CallV.fn (cR) (Sm.out ?_) | refine ExF.mk (cR) (Sm.out ?_) | refine ExG.mk (fun _ => cR) (Sm.out ?_) | refine ExG.mkJ (fun _ => cR) (Sm.out ?_) | refine ExG.mkI (Ob.out ?_) (fun _ => cR) (Sm.out ?_))
          | (refine WP.seq fun K hK => ?_)
          | (refine WP.region (rvc_sound _ _ (Sm.out ?_)))
          | (refine WP.drawP (ia := 10) (is := 11) (k := 12) mixed (by decide +kernel) (by decide +kernel) (Sm.out ?_))
          | (refine WP.drawK rfl mixed (by decide +kernel) (Sm.out ?_))
          | (refine Ob.mk ?_; focus (first | assumption | omega | decide | trivial | (intro hob; simp only [hob, ZF]; done) | (intros; (repeat' refine And.intro ?_ ?_) <;> first | assumption | omega | trivial | decide) | (intros; simp only [ZE] at *; (repeat' refine And.intro ?_ ?_) <;> first | assumption | omega | trivial)))
          | (refine And.intro (Ob.out ?_) ?_)
          | (refine WP.block ?_)
          | (refine WP.cond rfl (fun hc => ?_) (fun hc => ?_) <;> (try simp only [ZC, reduceCtorEq, ZD] at hc) <;> (try (exact absurd hc (by decide))) <;> (try (exfalso; omega)))
          | ((first | refine WP.skip ?_ | refine WP.exit ?_); simp only [SeqQ, BlkQ, LoopQ, BodyQ, ↓reduceIte, Nat.reduceEqDiff, reduceCtorEq, look, true_and])
          | (refine WP.ret (Sm.out ?_))
          | (first | refine ExG.no (Sm.out ?_) | refine Or.inl (ExG.no (Sm.out ?_)) | refine Or.inl (And.intro (fun hg => absurd hg (by decide)) (ExG.no (Sm.out ?_))))
          | (refine Rt.mk ?_; refine And.intro ?_ ?_ <;> (intro hg; first | exact absurd hg (by decide) | refine Sm.out ?_))
          | (refine Nu.mk ?_; first | (fail_if_success (have := nb1)); intro nb1 | (fail_if_success (have := nb2)); intro nb2 | (fail_if_success (have := nb3)); intro nb3 | (fail_if_success (have := nb4)); intro nb4 | (fail_if_success (have := nb5)); intro nb5 | (fail_if_success (have := nb6)); intro nb6 | intro nbz)
          | (refine Fr.mk ?_; intro hfr; (first | (have hFRb : _ ≤ _ ∧ _ ≤ _ := And.intro hfr.1 hfr.2.1) | (have hFRb : _ ≤ _ := hfr.1) | skip); replace FR := Sm.mk (And.intro hfr FR.out); clear hfr; refine Sm.out ?_)
          | (refine Two.mk ?_ ?_)
          | (refine Cs.mk ?_; intro hcs; first | exact False.elim hcs | (exfalso; omega) | (refine Sm.out ?_))
          | go_step
          | omega
          | (simp only [maxLen_eq]; omega)
        (refine OutQ.all ?_ ?_; (focus (simp only [resv, ZK, look, loadv, loadn, loadnm, load1, load1m, hget, ↓reduceIte, Nat.reduceEqDiff, Nat.reduceAdd, Nat.reduceMul, Nat.reduceLeDiff, Nat.reduceLT, reduceCtorEq, TFStE, hrd, FR.out])); (try simp only [resv, resA, Fn, ZK, look, loadv, loadn, loadnm, load1, load1m, hget, ↓reduceIte, Nat.reduceEqDiff, Nat.reduceAdd, Nat.reduceMul, Nat.reduceLeDiff, Nat.reduceLT, reduceCtorEq, TFStE, hrd, FR.out]); (try simp [resA, Fn, look, hrd, FR.out]))
      · have hrd := rd_shp hsh hr
        rw [hr] at cR
        unfold yL mL dL at cR hrd
        first | (have FRx := FR; clear FRx) | (have FR : Sm (¬ ((1 : Nat) = 0)) := Sm.mk Nat.one_ne_zero)
        repeat' first
          | (refine Sm.mk ?_; try simp -dsimp only [ZK, rvc, drawF, headN, pureH, stp, dvc, calleeOf, gcall, pev, eff, newB, okd, og, ogs, ogo, ogp, slv, bltv, opd, litv, strip, one, both, putE, St.put, look, gdOf, gdv, picka, pickv, pickw, binv, bini, bins, binb, binp, binq, isSlT, bina, shp, eqCells, unv, convv, nilv, faddv, addp, idxav, idxp, load1, load1m, loadn, loadnm, loadv, hget, hset, hrep, hdel, slicev, bnd, shift1, lenv, capv, IntKind.bits, extractv, fieldv, indexv, min2v, max2v, mkiv, cellsA, fillA, buildv, stC, oneC, rowMB, intsA, plN, appE, appZ, appC, appNZ, appNC, VwL, srcC, srcZ, srcM, isBoolT, isPtrT, isSliceT, uOk, Value.oneCell', Nat.reducePow, Int.reducePow, Nat.reduceAdd, Nat.reduceMul, Nat.reduceSub, Nat.reduceLT, Nat.reduceLeDiff, Nat.reduceEqDiff, Nat.reduceBEq, Nat.reduceDiv, Nat.reduceMod, ↓reduceIte, reduceCtorEq, Int.reduceToNat, Int.reduceLT, Int.reduceLE, TFStE, SeqQ, BlkQ, LoopQ, BodyQ, kl, FR.out])
          | (first | refine CallV.fn (cR) (Sm.out ?_) | refine ExF.mk (cR) (Sm.out ?_) | refine ExG.mk (fun _ => cR) (Sm.out ?_) | refine ExG.mkJ (fun _ => cR) (Sm.out ?_) | refine ExG.mkI (Ob.out ?_) (fun _ => cR) (Sm.out ?_))
          | (refine WP.seq fun K hK => ?_)
          | (refine WP.region (rvc_sound _ _ (Sm.out ?_)))
          | (refine WP.drawP (ia := 10) (is := 11) (k := 12) mixed (by decide +kernel) (by decide +kernel) (Sm.out ?_))
          | (refine WP.drawK rfl mixed (by decide +kernel) (Sm.out ?_))
          | (refine Ob.mk ?_; focus (first | assumption | omega | decide | trivial | (intro hob; simp only [hob, ZF]; done) | (intros; (repeat' refine And.intro ?_ ?_) <;> first | assumption | omega | trivial | decide) | (intros; simp only [ZE] at *; (repeat' refine And.intro ?_ ?_) <;> first | assumption | omega | trivial)))
          | (refine And.intro (Ob.out ?_) ?_)
          | (refine WP.block ?_)
          | (refine WP.cond rfl (fun hc => ?_) (fun hc => ?_) <;> (try simp only [ZC, reduceCtorEq, ZD] at hc) <;> (try (exact absurd hc (by decide))) <;> (try (exfalso; omega)))
          | ((first | refine WP.skip ?_ | refine WP.exit ?_); simp only [SeqQ, BlkQ, LoopQ, BodyQ, ↓reduceIte, Nat.reduceEqDiff, reduceCtorEq, look, true_and])
          | (refine WP.ret (Sm.out ?_))
          | (first | refine ExG.no (Sm.out ?_) | refine Or.inl (ExG.no (Sm.out ?_)) | refine Or.inl (And.intro (fun hg => absurd hg (by decide)) (ExG.no (Sm.out ?_))))
          | (refine Rt.mk ?_; refine And.intro ?_ ?_ <;> (intro hg; first | exact absurd hg (by decide) | refine Sm.out ?_))
          | (refine Nu.mk ?_; first | (fail_if_success (have := nb1)); intro nb1 | (fail_if_success (have := nb2)); intro nb2 | (fail_if_success (have := nb3)); intro nb3 | (fail_if_success (have := nb4)); intro nb4 | (fail_if_success (have := nb5)); intro nb5 | (fail_if_success (have := nb6)); intro nb6 | intro nbz)
          | (refine Fr.mk ?_; intro hfr; (first | (have hFRb : _ ≤ _ ∧ _ ≤ _ := And.intro hfr.1 hfr.2.1) | (have hFRb : _ ≤ _ := hfr.1) | skip); replace FR := Sm.mk (And.intro hfr FR.out); clear hfr; refine Sm.out ?_)
          | (refine Two.mk ?_ ?_)
          | (refine Cs.mk ?_; intro hcs; first | exact False.elim hcs | (exfalso; omega) | (refine Sm.out ?_))
          | go_step
          | omega
          | (simp only [maxLen_eq]; omega)
        (refine OutQ.all ?_ ?_; (focus (simp only [resv, ZK, look, loadv, loadn, loadnm, load1, load1m, hget, ↓reduceIte, Nat.reduceEqDiff, Nat.reduceAdd, Nat.reduceMul, Nat.reduceLeDiff, Nat.reduceLT, reduceCtorEq, TFStE, hrd, FR.out])); (try simp only [resv, resA, Fn, ZK, look, loadv, loadn, loadnm, load1, load1m, hget, ↓reduceIte, Nat.reduceEqDiff, Nat.reduceAdd, Nat.reduceMul, Nat.reduceLeDiff, Nat.reduceLT, reduceCtorEq, TFStE, hrd, FR.out]); (try simp [resA, Fn, look, hrd, FR.out]))
end Go.Proofs.YtndpkahhmgnhpaaDoor
namespace Go.Proofs.YtndpkahhmgnhpaaDoor
open Go
set_option linter.unusedVariables false
set_option linter.unusedSimpArgs false
theorem TFStF : (((((type_of% tyc0) ∧ ((type_of% tyc2) ∧ (type_of% zmb2))) ∧ (((type_of% tyc3) ∧ (type_of% zmb3)) ∧ ((type_of% tyc4) ∧ (type_of% zmb4)))) ∧ ((((type_of% tyc9) ∧ (type_of% zmb9)) ∧ ((type_of% tyc23) ∧ (type_of% foff23_0))) ∧ (((type_of% fpart23_0) ∧ (type_of% foff23_1)) ∧ ((type_of% fpart23_1) ∧ (type_of% foff23_2))))) ∧ ((((type_of% fpart23_2) ∧ ((type_of% fe23) ∧ (type_of% zmb23))) ∧ (((type_of% bldT23) ∧ (type_of% tyc26)) ∧ ((type_of% zmb26) ∧ (type_of% tyc27)))) ∧ ((((type_of% Tryd.underlying0) ∧ (type_of% Tryd.underlying2)) ∧ ((type_of% Tryd.underlying3) ∧ (type_of% Tryd.underlying4))) ∧ (((type_of% Tryd.underlying9) ∧ (type_of% Tryd.underlying23)) ∧ ((type_of% Tryd.underlying26) ∧ (type_of% Tryd.underlying27)))))) :=
  ⟨⟨⟨⟨tyc0, ⟨tyc2, zmb2⟩⟩, ⟨⟨tyc3, zmb3⟩, ⟨tyc4, zmb4⟩⟩⟩, ⟨⟨⟨tyc9, zmb9⟩, ⟨tyc23, foff23_0⟩⟩, ⟨⟨fpart23_0, foff23_1⟩, ⟨fpart23_1, foff23_2⟩⟩⟩⟩, ⟨⟨⟨fpart23_2, ⟨fe23, zmb23⟩⟩, ⟨⟨bldT23, tyc26⟩, ⟨zmb26, tyc27⟩⟩⟩, ⟨⟨⟨Tryd.underlying0, Tryd.underlying2⟩, ⟨Tryd.underlying3, Tryd.underlying4⟩⟩, ⟨⟨Tryd.underlying9, Tryd.underlying23⟩, ⟨Tryd.underlying26, Tryd.underlying27⟩⟩⟩⟩⟩
theorem awake_ct : ACt Tryd.prog 4 [] [] (Fn (bv true)) := by
  refine ACt.intro Tryd.func4 rfl (by kernel_rfl) (by simp [Tryd.ntmps4]) (fun cx => ?_)
  simp only [argE, Tryd.ntmps4, Tryd.results4]
  have h := at_in (t := 86400) (by decide)
  have h2 := days_ct 2000 2
  have h3 := days_ct 1900 2
  rw [show yI (86400 / 86400 + 719468) = 1970 by decide, show mI (86400 / 86400 + 719468) = 1 by decide, show dI (86400 / 86400 + 719468) = 2 by decide] at h
  rw [show daysI 2000 2 = 29 by decide] at h2
  rw [show daysI 1900 2 = 28 by decide] at h3
  first | (have FRx := FR; clear FRx) | (have FR : Sm (¬ ((1 : Nat) = 0)) := Sm.mk Nat.one_ne_zero)
  repeat' first
    | (refine Sm.mk ?_; try simp -dsimp only [ZK, rvc, drawF, headN, pureH, stp, dvc, calleeOf, gcall, pev, eff, newB, okd, og, ogs, ogo, ogp, slv, bltv, opd, litv, strip, one, both, putE, St.put, look, gdOf, gdv, picka, pickv, pickw, binv, bini, bins, binb, binp, binq, isSlT, bina, shp, eqCells, unv, convv, nilv, faddv, addp, idxav, idxp, load1, load1m, loadn, loadnm, loadv, hget, hset, hrep, hdel, slicev, bnd, shift1, lenv, capv, IntKind.bits, extractv, fieldv, indexv, min2v, max2v, mkiv, cellsA, fillA, buildv, stC, oneC, rowMB, intsA, plN, appE, appZ, appC, appNZ, appNC, VwL, srcC, srcZ, srcM, isBoolT, isPtrT, isSliceT, uOk, Value.oneCell', Nat.reducePow, Int.reducePow, Nat.reduceAdd, Nat.reduceMul, Nat.reduceSub, Nat.reduceLT, Nat.reduceLeDiff, Nat.reduceEqDiff, Nat.reduceBEq, Nat.reduceDiv, Nat.reduceMod, ↓reduceIte, reduceCtorEq, Int.reduceToNat, Int.reduceLT, Int.reduceLE, TFStF, SeqQ, BlkQ, LoopQ, BodyQ, FR.out])
    | (first | refine CallV.fn (h) (Sm.out ?_) | refine ExF.mk (h) (Sm.out ?_) | refine ExG.mk (fun _ => h) (Sm.out ?_) | refine ExG.mkJ (fun _ => h) (Sm.out ?_) | refine ExG.mkI (Ob.out ?_) (fun _ => h) (Sm.out ?_))
    | (first | refine CallV.fn (h2) (Sm.out ?_) | refine ExF.mk (h2) (Sm.out ?_) | refine ExG.mk (fun _ => h2) (Sm.out ?_) | refine ExG.mkJ (fun _ => h2) (Sm.out ?_) | refine ExG.mkI (Ob.out ?_) (fun _ => h2) (Sm.out ?_))
    | (first | refine CallV.fn (h3) (Sm.out ?_) | refine ExF.mk (h3) (Sm.out ?_) | refine ExG.mk (fun _ => h3) (Sm.out ?_) | refine ExG.mkJ (fun _ => h3) (Sm.out ?_) | refine ExG.mkI (Ob.out ?_) (fun _ => h3) (Sm.out ?_))
    | (refine WP.seq fun K hK => ?_)
    | (refine WP.region (rvc_sound _ _ (Sm.out ?_)))
    | (refine WP.drawK rfl mixed (by decide +kernel) (Sm.out ?_))
    | (refine Ob.mk ?_; focus (first | assumption | omega | decide | trivial | (intro hob; simp only [hob, ZF]; done) | (intros; (repeat' refine And.intro ?_ ?_) <;> first | assumption | omega | trivial | decide) | (intros; simp only [ZE] at *; (repeat' refine And.intro ?_ ?_) <;> first | assumption | omega | trivial)))
    | (refine And.intro (Ob.out ?_) ?_)
    | (refine WP.block ?_)
    | (refine WP.cond rfl (fun hc => ?_) (fun hc => ?_) <;> (try simp only [ZC, reduceCtorEq, ZD] at hc) <;> (try (exact absurd hc (by decide))) <;> (try (exfalso; omega)))
    | ((first | refine WP.skip ?_ | refine WP.exit ?_); simp only [SeqQ, BlkQ, LoopQ, BodyQ, ↓reduceIte, Nat.reduceEqDiff, reduceCtorEq, look, true_and])
    | (refine WP.ret (Sm.out ?_))
    | (first | refine ExG.no (Sm.out ?_) | refine Or.inl (ExG.no (Sm.out ?_)) | refine Or.inl (And.intro (fun hg => absurd hg (by decide)) (ExG.no (Sm.out ?_))))
    | (refine Rt.mk ?_; refine And.intro ?_ ?_ <;> (intro hg; first | exact absurd hg (by decide) | refine Sm.out ?_))
    | (refine Nu.mk ?_; first | (fail_if_success (have := nb1)); intro nb1 | (fail_if_success (have := nb2)); intro nb2 | (fail_if_success (have := nb3)); intro nb3 | (fail_if_success (have := nb4)); intro nb4 | (fail_if_success (have := nb5)); intro nb5 | (fail_if_success (have := nb6)); intro nb6 | (fail_if_success (have := nb7)); intro nb7 | (fail_if_success (have := nb8)); intro nb8 | intro nbz)
    | (refine Fr.mk ?_; intro hfr; (first | (have hFRb : _ ≤ _ ∧ _ ≤ _ := And.intro hfr.1 hfr.2.1) | (have hFRb : _ ≤ _ := hfr.1) | skip); replace FR := Sm.mk (And.intro hfr FR.out); clear hfr; refine Sm.out ?_)
    | (refine Two.mk ?_ ?_)
    | (refine Cs.mk ?_; intro hcs; first | exact False.elim hcs | (exfalso; omega) | (refine Sm.out ?_))
    | go_step
    | omega
    | (simp only [maxLen_eq]; omega)
  (refine OutQ.all ?_ ?_; (focus (simp only [resv, ZK, look, loadv, loadn, loadnm, load1, load1m, hget, ↓reduceIte, Nat.reduceEqDiff, Nat.reduceAdd, Nat.reduceMul, Nat.reduceLeDiff, Nat.reduceLT, reduceCtorEq, TFStF, FR.out])); (try simp only [resv, resA, Fn, ZK, look, loadv, loadn, loadnm, load1, load1m, hget, ↓reduceIte, Nat.reduceEqDiff, Nat.reduceAdd, Nat.reduceMul, Nat.reduceLeDiff, Nat.reduceLT, reduceCtorEq, TFStF, FR.out]); (try simp [resA, Fn, look, FR.out]))
theorem prtL_len (y m d : Nat) : (prtL y m d).length = 10 := rfl
theorem prtL_shp {y m d : Nat} (hy : y ≤ 9999) (hm : m ≤ 99) (hd : d ≤ 99) : dshp (prtL y m d) := by
  refine ⟨rfl, fun j hj => ?_⟩
  rcases (by omega : j = 0 ∨ j = 1 ∨ j = 2 ∨ j = 3 ∨ j = 4 ∨ j = 5 ∨ j = 6 ∨ j = 7 ∨ j = 8 ∨ j = 9) with rfl | rfl | rfl | rfl | rfl | rfl | rfl | rfl | rfl | rfl <;>
    simp [okc, prtL, dg4, dg2] <;> omega
theorem prtL_by {y m d : Nat} (hy : y ≤ 9999) (hm : m ≤ 99) (hd : d ≤ 99) : By (prtL y m d) := fun j hj => by
  have h := (prtL_shp hy hm hd).2 j (by rw [prtL_len] at hj; exact hj)
  unfold okc at h
  split at h <;> omega
theorem prtL_y {y m d : Nat} (hy : y ≤ 9999) : yL (prtL y m d) = (y : Int) := by
  simp [yL, valR, prtL, dg4, dg2]
  omega
theorem prtL_m {y m d : Nat} (hm : m ≤ 99) : mL (prtL y m d) = (m : Int) := by
  simp [mL, valR, prtL, dg4, dg2]
  omega
theorem prtL_d {y m d : Nat} (hd : d ≤ 99) : dL (prtL y m d) = (d : Int) := by
  simp [dL, valR, prtL, dg4, dg2]
  omega
theorem prt_rd {zs : List Int} (h : dshp zs) : prtL (yL zs).toNat (mL zs).toNat (dL zs).toNat = zs := by
  obtain ⟨hl, ho⟩ := h
  match zs, hl with
  | [a, b, c, d, e, f, g, i, j, k], _ =>
    have h0 := okc_dig (ho 0 (by decide)) (by decide) (by decide)
    have h1 := okc_dig (ho 1 (by decide)) (by decide) (by decide)
    have h2 := okc_dig (ho 2 (by decide)) (by decide) (by decide)
    have h3 := okc_dig (ho 3 (by decide)) (by decide) (by decide)
    have h4 := okc_dash (ho 4 (by decide)) (by decide)
    have h5 := okc_dig (ho 5 (by decide)) (by decide) (by decide)
    have h6 := okc_dig (ho 6 (by decide)) (by decide) (by decide)
    have h7 := okc_dash (ho 7 (by decide)) (by decide)
    have h8 := okc_dig (ho 8 (by decide)) (by decide) (by decide)
    have h9 := okc_dig (ho 9 (by decide)) (by decide) (by decide)
    simp at h0 h1 h2 h3 h4 h5 h6 h7 h8 h9
    obtain ⟨Y, hY⟩ : ∃ Y, Y = (yL [a, b, c, d, e, f, g, i, j, k]).toNat := ⟨_, rfl⟩
    obtain ⟨M, hM⟩ : ∃ M, M = (mL [a, b, c, d, e, f, g, i, j, k]).toNat := ⟨_, rfl⟩
    obtain ⟨D, hD⟩ : ∃ D, D = (dL [a, b, c, d, e, f, g, i, j, k]).toNat := ⟨_, rfl⟩
    rw [← hY, ← hM, ← hD]
    simp [yL, valR] at hY
    simp [mL, valR] at hM
    simp [dL, valR] at hD
    simp only [prtL, dg4, dg2, List.cons_append, List.nil_append, List.cons.injEq, and_true]
    refine ⟨?_, ?_, ?_, ?_, ?_, ?_, ?_, ?_, ?_, ?_⟩ <;> omega
/-- what is read of a printed date -/
theorem rd_prt (y m d : Int) : By (prtI y m d) ∧ (prtI y m d).length ≤ 100 ∧ rdA (prtI y m d) = if rightI y m d = true then .tup [.agg [iv .i64 y, iv .i64 m, iv .i64 d], iv .i64 0] else bad 5 := by
  by_cases h : rightI y m d = true
  · obtain ⟨Y, M, D, rfl, rfl, rfl, h1, h2, h3⟩ := right_nat h
    have hp : prtI (Y : Int) (M : Int) (D : Int) = prtL Y M D := by unfold prtI; rw [if_pos h]; rfl
    rw [hp, if_pos h]
    refine ⟨prtL_by (by omega) (by omega) (by omega), by rw [prtL_len]; decide, ?_⟩
    have ey := prtL_y (y := Y) (m := M) (d := D) (by omega)
    have em := prtL_m (y := Y) (m := M) (d := D) (by omega)
    have ed := prtL_d (y := Y) (m := M) (d := D) (by omega)
    have := rd_shp (prtL_shp (y := Y) (m := M) (d := D) (by omega) (by omega) (by omega)) (by rw [ey, em, ed]; exact h)
    rw [ey, em, ed] at this
    exact this
  · have hp : prtI y m d = [63] := by unfold prtI; rw [if_neg h]
    rw [hp, if_neg h]
    refine ⟨fun i hi => ?_, by decide, rd_bad fun h => by have := h.1; simp at this⟩
    have : i = 0 := by simp at hi; omega
    subst this; decide
/-- what is read of a text -/
theorem rd_text (zs : List Int) : (∃ Y M D : Int, rdA zs = .tup [.agg [iv .i64 Y, iv .i64 M, iv .i64 D], iv .i64 0] ∧ prtI Y M D = zs) ∨ ∃ c : Int, c ≠ 0 ∧ rdA zs = bad c := by
  by_cases h : dshp zs
  · cases hr : rightI (yL zs) (mL zs) (dL zs)
    · exact .inr ⟨8, by decide, rd_wrong h hr⟩
    · refine .inl ⟨_, _, _, rd_shp h hr, ?_⟩
      unfold prtI; rw [if_pos hr]; exact prt_rd h
  · exact .inr ⟨5, by decide, rd_bad h⟩
set_option maxRecDepth 8000 in
set_option maxHeartbeats 4000000 in
theorem prints_ct (n0 : Nat) (y m d : Int) (zs : List Int) (hb : By zs) : ACt Tryd.prog 3 [.agg [iv .i64 y, iv .i64 m, iv .i64 d], stz zs] (GG n0) (fun r F' => r = bv true ∧ F' = GG n0) := by
  have p1 := print_ct n0 y m d
  obtain ⟨ib, il, ir⟩ := rd_prt y m d
  have r1 := read_ct (prtI y m d) ib il
  rw [ir] at r1
  have p3 := printR_ct y m d
  have c9 := rightR_ct y m d
  obtain ⟨P, hP⟩ : ∃ P, P = bstr (prtI y m d) := ⟨_, rfl⟩
  unfold stz at p1 r1 p3 ⊢
  rw [← hP] at p1 r1 p3
  refine ACt.intro Tryd.func3 rfl (by kernel_rfl) (by simp [Tryd.ntmps3]) (fun cx => ?_)
  simp only [argE, Tryd.ntmps3, Tryd.results3, GG, p10] at p1 ⊢
  have hs := bstr_size zs
  by_cases hl : 100 < zs.length
  · have k0 : decide ((zs.length : Int) > 100) = true := by simp; omega
    first | (have FRx := FR; clear FRx) | (have FR : Sm (¬ ((1 : Nat) = 0)) := Sm.mk Nat.one_ne_zero)
    repeat' first
      | (refine Sm.mk ?_; try simp -dsimp only [ZK, rvc, drawF, headN, pureH, stp, dvc, calleeOf, gcall, pev, eff, newB, okd, og, ogs, ogo, ogp, slv, bltv, opd, litv, strip, one, both, putE, St.put, look, gdOf, gdv, picka, pickv, pickw, binv, bini, bins, binb, binp, binq, isSlT, bina, shp, eqCells, unv, convv, nilv, faddv, addp, idxav, idxp, load1, load1m, loadn, loadnm, loadv, hget, hset, hrep, hdel, slicev, bnd, shift1, lenv, capv, IntKind.bits, extractv, fieldv, indexv, min2v, max2v, mkiv, cellsA, fillA, buildv, stC, oneC, rowMB, intsA, plN, appE, appZ, appC, appNZ, appNC, VwL, srcC, srcZ, srcM, isBoolT, isPtrT, isSliceT, uOk, Value.oneCell', Nat.reducePow, Int.reducePow, Nat.reduceAdd, Nat.reduceMul, Nat.reduceSub, Nat.reduceLT, Nat.reduceLeDiff, Nat.reduceEqDiff, Nat.reduceBEq, Nat.reduceDiv, Nat.reduceMod, ↓reduceIte, reduceCtorEq, Int.reduceToNat, Int.reduceLT, Int.reduceLE, TFStF, SeqQ, BlkQ, LoopQ, BodyQ, hs, k0, FR.out])
      | (first | refine CallV.fn (awake_ct) (Sm.out ?_) | refine ExF.mk (awake_ct) (Sm.out ?_) | refine ExG.mk (fun _ => awake_ct) (Sm.out ?_) | refine ExG.mkJ (fun _ => awake_ct) (Sm.out ?_) | refine ExG.mkI (Ob.out ?_) (fun _ => awake_ct) (Sm.out ?_))
      | (refine WP.seq fun K hK => ?_)
      | (refine WP.region (rvc_sound _ _ (Sm.out ?_)))
      | (refine WP.drawK rfl mixed (by decide +kernel) (Sm.out ?_))
      | (refine Ob.mk ?_; focus (first | assumption | omega | decide | trivial | (intro hob; simp only [hob, ZF]; done) | (intros; (repeat' refine And.intro ?_ ?_) <;> first | assumption | omega | trivial | decide) | (intros; simp only [ZE] at *; (repeat' refine And.intro ?_ ?_) <;> first | assumption | omega | trivial)))
      | (refine And.intro (Ob.out ?_) ?_)
      | (refine WP.block ?_)
      | (refine WP.cond rfl (fun hc => ?_) (fun hc => ?_) <;> (try simp only [ZC, reduceCtorEq, ZD] at hc) <;> (try (exact absurd hc (by decide))) <;> (try (exfalso; omega)))
      | ((first | refine WP.skip ?_ | refine WP.exit ?_); simp only [SeqQ, BlkQ, LoopQ, BodyQ, ↓reduceIte, Nat.reduceEqDiff, reduceCtorEq, look, true_and])
      | (refine WP.ret (Sm.out ?_))
      | (first | refine ExG.no (Sm.out ?_) | refine Or.inl (ExG.no (Sm.out ?_)) | refine Or.inl (And.intro (fun hg => absurd hg (by decide)) (ExG.no (Sm.out ?_))))
      | (refine Rt.mk ?_; refine And.intro ?_ ?_ <;> (intro hg; first | exact absurd hg (by decide) | refine Sm.out ?_))
      | (refine Nu.mk ?_; first | (fail_if_success (have := nb1)); intro nb1 | (fail_if_success (have := nb2)); intro nb2 | (fail_if_success (have := nb3)); intro nb3 | (fail_if_success (have := nb4)); intro nb4 | (fail_if_success (have := nb5)); intro nb5 | (fail_if_success (have := nb6)); intro nb6 | (fail_if_success (have := nb7)); intro nb7 | (fail_if_success (have := nb8)); intro nb8 | intro nbz)
      | (refine Fr.mk ?_; intro hfr; (first | (have hFRb : _ ≤ _ ∧ _ ≤ _ := And.intro hfr.1 hfr.2.1) | (have hFRb : _ ≤ _ := hfr.1) | skip); replace FR := Sm.mk (And.intro hfr FR.out); clear hfr; refine Sm.out ?_)
      | (refine Two.mk ?_ ?_)
      | (refine Cs.mk ?_; intro hcs; first | exact False.elim hcs | (exfalso; omega) | (refine Sm.out ?_))
      | go_step
      | omega
      | (simp only [maxLen_eq]; omega)
    (refine OutQ.upd (by simp only [resv, ZK, look, loadv, loadn, loadnm, load1, load1m, hget, ↓reduceIte, Nat.reduceEqDiff, Nat.reduceAdd, Nat.reduceMul, Nat.reduceLeDiff, Nat.reduceLT, reduceCtorEq, TFStF, FR.out]) (by simp only [resv, resA, ZK, look, loadv, loadn, loadnm, load1, load1m, hget, ↓reduceIte, Nat.reduceEqDiff, Nat.reduceAdd, Nat.reduceMul, Nat.reduceLeDiff, Nat.reduceLT, reduceCtorEq, TFStF, FR.out]; first | done | rfl) (by simp only [hget, ↓reduceIte, if_true, if_false, FR.out]; first | done | rfl) ?_ <;> first | exact rfl | (simp only [ZK, look, loadv, loadn, loadnm, load1, load1m, hget, ↓reduceIte, Nat.reduceEqDiff, Nat.reduceAdd, Nat.reduceMul, Nat.reduceLeDiff, Nat.reduceLT, reduceCtorEq, TFStF, FR.out]; done) | skip)
  have k0 : decide ((zs.length : Int) > 100) = false := by simp; omega
  have r2 := read_ct zs hb (by omega)
  have r3 := readR_ct zs hb (by omega)
  have y1 : ∀ x : List UInt8, (x == x) = true := fun x => beq_self_eq_true x
  have y2 : ∀ x : Int, (x == x) = true := fun x => beq_self_eq_true x
  obtain ⟨S, hS⟩ : ∃ S, S = bstr zs := ⟨_, rfl⟩
  have hw : (∃ Y M D : Int, rdA zs = .tup [.agg [iv .i64 Y, iv .i64 M, iv .i64 D], iv .i64 0] ∧ bstr (prtI Y M D) = S) ∨ ∃ c : Int, c ≠ 0 ∧ rdA zs = bad c := by
    rcases rd_text zs with ⟨Y, M, D, e1, e2⟩ | h
    · exact .inl ⟨Y, M, D, e1, by rw [e2, hS]⟩
    · exact .inr h
  unfold stz at r2 r3
  rw [← hS] at r2 r3 hs ⊢
  cases hr : rightI y m d
  · rw [hr] at r1 c9
    rw [if_neg Bool.false_ne_true] at r1
    rcases hw with ⟨Y, M, D, e1, e2⟩ | ⟨c, hc0, e1⟩
    · rw [e1] at r2 r3
      have p2 := print_ct n0 Y M D
      unfold stz at p2
      rw [e2] at p2
      simp only [GG, p10] at p2
      first | (have FRx := FR; clear FRx) | (have FR : Sm (¬ ((1 : Nat) = 0)) := Sm.mk Nat.one_ne_zero)
      repeat' first
        | (refine Sm.mk ?_; try simp -dsimp only [ZK, rvc, drawF, headN, pureH, stp, dvc, calleeOf, gcall, pev, eff, newB, okd, og, ogs, ogo, ogp, slv, bltv, opd, litv, strip, one, both, putE, St.put, look, gdOf, gdv, picka, pickv, pickw, binv, bini, bins, binb, binp, binq, isSlT, bina, shp, eqCells, unv, convv, nilv, faddv, addp, idxav, idxp, load1, load1m, loadn, loadnm, loadv, hget, hset, hrep, hdel, slicev, bnd, shift1, lenv, capv, IntKind.bits, extractv, fieldv, indexv, min2v, max2v, mkiv, cellsA, fillA, buildv, stC, oneC, rowMB, intsA, plN, appE, appZ, appC, appNZ, appNC, VwL, srcC, srcZ, srcM, isBoolT, isPtrT, isSliceT, uOk, Value.oneCell', Nat.reducePow, Int.reducePow, Nat.reduceAdd, Nat.reduceMul, Nat.reduceSub, Nat.reduceLT, Nat.reduceLeDiff, Nat.reduceEqDiff, Nat.reduceBEq, Nat.reduceDiv, Nat.reduceMod, ↓reduceIte, reduceCtorEq, Int.reduceToNat, Int.reduceLT, Int.reduceLE, TFStF, SeqQ, BlkQ, LoopQ, BodyQ, k0, hs, y1, y2, FR.out])
        | (first | refine CallV.fn (awake_ct) (Sm.out ?_) | refine ExF.mk (awake_ct) (Sm.out ?_) | refine ExG.mk (fun _ => awake_ct) (Sm.out ?_) | refine ExG.mkJ (fun _ => awake_ct) (Sm.out ?_) | refine ExG.mkI (Ob.out ?_) (fun _ => awake_ct) (Sm.out ?_))
        | (refine CallV.updM (p1) (perm1 (by simp only [hget, hdel, ↓reduceIte, FR.out, k0, hs, y1, y2]; first | done | rfl)) (Sm.out ?_))
        | ((first | refine ExF.up ?_ (p1) (Sm.out ?_) | refine ExG.up ?_ (fun _ => p1) (Sm.out ?_) | refine ExG.upJ ?_ (fun _ => p1) (Sm.out ?_) | refine ExG.upI ?_ (fun _ => p1) (Ob.out ?_) (Sm.out ?_)); focus (exact ⟨_, (perm1 (by simp only [hget, hdel, ↓reduceIte, FR.out, k0, hs, y1, y2]; first | done | rfl))⟩))
        | (first | refine CallV.fn (r1) (Sm.out ?_) | refine ExF.mk (r1) (Sm.out ?_) | refine ExG.mk (fun _ => r1) (Sm.out ?_) | refine ExG.mkJ (fun _ => r1) (Sm.out ?_) | refine ExG.mkI (Ob.out ?_) (fun _ => r1) (Sm.out ?_))
        | (first | refine CallV.fn (r2) (Sm.out ?_) | refine ExF.mk (r2) (Sm.out ?_) | refine ExG.mk (fun _ => r2) (Sm.out ?_) | refine ExG.mkJ (fun _ => r2) (Sm.out ?_) | refine ExG.mkI (Ob.out ?_) (fun _ => r2) (Sm.out ?_))
        | (first | refine CallV.fn (r3) (Sm.out ?_) | refine ExF.mk (r3) (Sm.out ?_) | refine ExG.mk (fun _ => r3) (Sm.out ?_) | refine ExG.mkJ (fun _ => r3) (Sm.out ?_) | refine ExG.mkI (Ob.out ?_) (fun _ => r3) (Sm.out ?_))
        | (first | refine CallV.fn (p3) (Sm.out ?_) | refine ExF.mk (p3) (Sm.out ?_) | refine ExG.mk (fun _ => p3) (Sm.out ?_) | refine ExG.mkJ (fun _ => p3) (Sm.out ?_) | refine ExG.mkI (Ob.out ?_) (fun _ => p3) (Sm.out ?_))
        | (first | refine CallV.fn (c9) (Sm.out ?_) | refine ExF.mk (c9) (Sm.out ?_) | refine ExG.mk (fun _ => c9) (Sm.out ?_) | refine ExG.mkJ (fun _ => c9) (Sm.out ?_) | refine ExG.mkI (Ob.out ?_) (fun _ => c9) (Sm.out ?_))
        | (refine CallV.updM (p2) (perm1 (by simp only [hget, hdel, ↓reduceIte, FR.out, k0, hs, y1, y2]; first | done | rfl)) (Sm.out ?_))
        | ((first | refine ExF.up ?_ (p2) (Sm.out ?_) | refine ExG.up ?_ (fun _ => p2) (Sm.out ?_) | refine ExG.upJ ?_ (fun _ => p2) (Sm.out ?_) | refine ExG.upI ?_ (fun _ => p2) (Ob.out ?_) (Sm.out ?_)); focus (exact ⟨_, (perm1 (by simp only [hget, hdel, ↓reduceIte, FR.out, k0, hs, y1, y2]; first | done | rfl))⟩))
        | (refine WP.seq fun K hK => ?_)
        | (refine WP.region (rvc_sound _ _ (Sm.out ?_)))
        | (refine WP.drawK rfl mixed (by decide +kernel) (Sm.out ?_))
        | (refine Ob.mk ?_; focus (first | assumption | omega | decide | trivial | (intro hob; simp only [hob, ZF]; done) | (intros; (repeat' refine And.intro ?_ ?_) <;> first | assumption | omega | trivial | decide) | (intros; simp only [ZE] at *; (repeat' refine And.intro ?_ ?_) <;> first | assumption | omega | trivial)))
        | (refine And.intro (Ob.out ?_) ?_)
        | (refine WP.block ?_)
        | (refine WP.cond rfl (fun hc => ?_) (fun hc => ?_) <;> (try simp only [ZC, reduceCtorEq, ZD] at hc) <;> (try (exact absurd hc (by decide))) <;> (try (exfalso; omega)))
        | ((first | refine WP.skip ?_ | refine WP.exit ?_); simp only [SeqQ, BlkQ, LoopQ, BodyQ, ↓reduceIte, Nat.reduceEqDiff, reduceCtorEq, look, true_and])
        | (refine WP.ret (Sm.out ?_))
        | (first | refine ExG.no (Sm.out ?_) | refine Or.inl (ExG.no (Sm.out ?_)) | refine Or.inl (And.intro (fun hg => absurd hg (by decide)) (ExG.no (Sm.out ?_))))
        | (refine Rt.mk ?_; refine And.intro ?_ ?_ <;> (intro hg; first | exact absurd hg (by decide) | refine Sm.out ?_))
        | (refine Nu.mk ?_; first | (fail_if_success (have := nb1)); intro nb1 | (fail_if_success (have := nb2)); intro nb2 | (fail_if_success (have := nb3)); intro nb3 | (fail_if_success (have := nb4)); intro nb4 | (fail_if_success (have := nb5)); intro nb5 | (fail_if_success (have := nb6)); intro nb6 | (fail_if_success (have := nb7)); intro nb7 | (fail_if_success (have := nb8)); intro nb8 | intro nbz)
        | (refine Fr.mk ?_; intro hfr; (first | (have hFRb : _ ≤ _ ∧ _ ≤ _ := And.intro hfr.1 hfr.2.1) | (have hFRb : _ ≤ _ := hfr.1) | skip); replace FR := Sm.mk (And.intro hfr FR.out); clear hfr; refine Sm.out ?_)
        | (refine Two.mk ?_ ?_)
        | (refine Cs.mk ?_; intro hcs; first | exact False.elim hcs | (exfalso; omega) | (refine Sm.out ?_))
        | go_step
        | omega
        | (simp only [maxLen_eq]; omega)
      (refine OutQ.upd (by simp only [resv, ZK, look, loadv, loadn, loadnm, load1, load1m, hget, ↓reduceIte, Nat.reduceEqDiff, Nat.reduceAdd, Nat.reduceMul, Nat.reduceLeDiff, Nat.reduceLT, reduceCtorEq, TFStF, FR.out]) (by simp only [resv, resA, ZK, look, loadv, loadn, loadnm, load1, load1m, hget, ↓reduceIte, Nat.reduceEqDiff, Nat.reduceAdd, Nat.reduceMul, Nat.reduceLeDiff, Nat.reduceLT, reduceCtorEq, TFStF, FR.out]; first | done | rfl) (by simp only [hget, ↓reduceIte, if_true, if_false, FR.out]; first | done | rfl) ?_ <;> first | exact rfl | (simp only [ZK, look, loadv, loadn, loadnm, load1, load1m, hget, ↓reduceIte, Nat.reduceEqDiff, Nat.reduceAdd, Nat.reduceMul, Nat.reduceLeDiff, Nat.reduceLT, reduceCtorEq, TFStF, FR.out]; done) | skip)
    · rw [e1] at r2 r3
      have k1 : (c == 0) = false := by simpa using hc0
      have k2 : (c != 0) = true := by simpa using hc0
      first | (have FRx := FR; clear FRx) | (have FR : Sm (¬ ((1 : Nat) = 0)) := Sm.mk Nat.one_ne_zero)
      repeat' first
        | (refine Sm.mk ?_; try simp -dsimp only [ZK, rvc, drawF, headN, pureH, stp, dvc, calleeOf, gcall, pev, eff, newB, okd, og, ogs, ogo, ogp, slv, bltv, opd, litv, strip, one, both, putE, St.put, look, gdOf, gdv, picka, pickv, pickw, binv, bini, bins, binb, binp, binq, isSlT, bina, shp, eqCells, unv, convv, nilv, faddv, addp, idxav, idxp, load1, load1m, loadn, loadnm, loadv, hget, hset, hrep, hdel, slicev, bnd, shift1, lenv, capv, IntKind.bits, extractv, fieldv, indexv, min2v, max2v, mkiv, cellsA, fillA, buildv, stC, oneC, rowMB, intsA, plN, appE, appZ, appC, appNZ, appNC, VwL, srcC, srcZ, srcM, isBoolT, isPtrT, isSliceT, uOk, Value.oneCell', Nat.reducePow, Int.reducePow, Nat.reduceAdd, Nat.reduceMul, Nat.reduceSub, Nat.reduceLT, Nat.reduceLeDiff, Nat.reduceEqDiff, Nat.reduceBEq, Nat.reduceDiv, Nat.reduceMod, ↓reduceIte, reduceCtorEq, Int.reduceToNat, Int.reduceLT, Int.reduceLE, TFStF, SeqQ, BlkQ, LoopQ, BodyQ, k0, hs, y1, y2, k1, k2, FR.out])
        | (first | refine CallV.fn (awake_ct) (Sm.out ?_) | refine ExF.mk (awake_ct) (Sm.out ?_) | refine ExG.mk (fun _ => awake_ct) (Sm.out ?_) | refine ExG.mkJ (fun _ => awake_ct) (Sm.out ?_) | refine ExG.mkI (Ob.out ?_) (fun _ => awake_ct) (Sm.out ?_))
        | (refine CallV.updM (p1) (perm1 (by simp only [hget, hdel, ↓reduceIte, FR.out, k0, hs, y1, y2, k1, k2]; first | done | rfl)) (Sm.out ?_))
        | ((first | refine ExF.up ?_ (p1) (Sm.out ?_) | refine ExG.up ?_ (fun _ => p1) (Sm.out ?_) | refine ExG.upJ ?_ (fun _ => p1) (Sm.out ?_) | refine ExG.upI ?_ (fun _ => p1) (Ob.out ?_) (Sm.out ?_)); focus (exact ⟨_, (perm1 (by simp only [hget, hdel, ↓reduceIte, FR.out, k0, hs, y1, y2, k1, k2]; first | done | rfl))⟩))
        | (first | refine CallV.fn (r1) (Sm.out ?_) | refine ExF.mk (r1) (Sm.out ?_) | refine ExG.mk (fun _ => r1) (Sm.out ?_) | refine ExG.mkJ (fun _ => r1) (Sm.out ?_) | refine ExG.mkI (Ob.out ?_) (fun _ => r1) (Sm.out ?_))
        | (first | refine CallV.fn (r2) (Sm.out ?_) | refine ExF.mk (r2) (Sm.out ?_) | refine ExG.mk (fun _ => r2) (Sm.out ?_) | refine ExG.mkJ (fun _ => r2) (Sm.out ?_) | refine ExG.mkI (Ob.out ?_) (fun _ => r2) (Sm.out ?_))
        | (first | refine CallV.fn (r3) (Sm.out ?_) | refine ExF.mk (r3) (Sm.out ?_) | refine ExG.mk (fun _ => r3) (Sm.out ?_) | refine ExG.mkJ (fun _ => r3) (Sm.out ?_) | refine ExG.mkI (Ob.out ?_) (fun _ => r3) (Sm.out ?_))
        | (first | refine CallV.fn (p3) (Sm.out ?_) | refine ExF.mk (p3) (Sm.out ?_) | refine ExG.mk (fun _ => p3) (Sm.out ?_) | refine ExG.mkJ (fun _ => p3) (Sm.out ?_) | refine ExG.mkI (Ob.out ?_) (fun _ => p3) (Sm.out ?_))
        | (first | refine CallV.fn (c9) (Sm.out ?_) | refine ExF.mk (c9) (Sm.out ?_) | refine ExG.mk (fun _ => c9) (Sm.out ?_) | refine ExG.mkJ (fun _ => c9) (Sm.out ?_) | refine ExG.mkI (Ob.out ?_) (fun _ => c9) (Sm.out ?_))
        | (refine WP.seq fun K hK => ?_)
        | (refine WP.region (rvc_sound _ _ (Sm.out ?_)))
        | (refine WP.drawK rfl mixed (by decide +kernel) (Sm.out ?_))
        | (refine Ob.mk ?_; focus (first | assumption | omega | decide | trivial | (intro hob; simp only [hob, ZF]; done) | (intros; (repeat' refine And.intro ?_ ?_) <;> first | assumption | omega | trivial | decide) | (intros; simp only [ZE] at *; (repeat' refine And.intro ?_ ?_) <;> first | assumption | omega | trivial)))
        | (refine And.intro (Ob.out ?_) ?_)
        | (refine WP.block ?_)
        | (refine WP.cond rfl (fun hc => ?_) (fun hc => ?_) <;> (try simp only [ZC, reduceCtorEq, ZD] at hc) <;> (try (exact absurd hc (by decide))) <;> (try (exfalso; omega)))
        | ((first | refine WP.skip ?_ | refine WP.exit ?_); simp only [SeqQ, BlkQ, LoopQ, BodyQ, ↓reduceIte, Nat.reduceEqDiff, reduceCtorEq, look, true_and])
        | (refine WP.ret (Sm.out ?_))
        | (first | refine ExG.no (Sm.out ?_) | refine Or.inl (ExG.no (Sm.out ?_)) | refine Or.inl (And.intro (fun hg => absurd hg (by decide)) (ExG.no (Sm.out ?_))))
        | (refine Rt.mk ?_; refine And.intro ?_ ?_ <;> (intro hg; first | exact absurd hg (by decide) | refine Sm.out ?_))
        | (refine Nu.mk ?_; first | (fail_if_success (have := nb1)); intro nb1 | (fail_if_success (have := nb2)); intro nb2 | (fail_if_success (have := nb3)); intro nb3 | (fail_if_success (have := nb4)); intro nb4 | (fail_if_success (have := nb5)); intro nb5 | (fail_if_success (have := nb6)); intro nb6 | (fail_if_success (have := nb7)); intro nb7 | (fail_if_success (have := nb8)); intro nb8 | intro nbz)
        | (refine Fr.mk ?_; intro hfr; (first | (have hFRb : _ ≤ _ ∧ _ ≤ _ := And.intro hfr.1 hfr.2.1) | (have hFRb : _ ≤ _ := hfr.1) | skip); replace FR := Sm.mk (And.intro hfr FR.out); clear hfr; refine Sm.out ?_)
        | (refine Two.mk ?_ ?_)
        | (refine Cs.mk ?_; intro hcs; first | exact False.elim hcs | (exfalso; omega) | (refine Sm.out ?_))
        | go_step
        | omega
        | (simp only [maxLen_eq]; omega)
      (refine OutQ.upd (by simp only [resv, ZK, look, loadv, loadn, loadnm, load1, load1m, hget, ↓reduceIte, Nat.reduceEqDiff, Nat.reduceAdd, Nat.reduceMul, Nat.reduceLeDiff, Nat.reduceLT, reduceCtorEq, TFStF, FR.out]) (by simp only [resv, resA, ZK, look, loadv, loadn, loadnm, load1, load1m, hget, ↓reduceIte, Nat.reduceEqDiff, Nat.reduceAdd, Nat.reduceMul, Nat.reduceLeDiff, Nat.reduceLT, reduceCtorEq, TFStF, FR.out]; first | done | rfl) (by simp only [hget, ↓reduceIte, if_true, if_false, FR.out]; first | done | rfl) ?_ <;> first | exact rfl | (simp only [ZK, look, loadv, loadn, loadnm, load1, load1m, hget, ↓reduceIte, Nat.reduceEqDiff, Nat.reduceAdd, Nat.reduceMul, Nat.reduceLeDiff, Nat.reduceLT, reduceCtorEq, TFStF, FR.out]; done) | skip)
  · rw [hr] at r1 c9
    rw [if_pos rfl] at r1
    rcases hw with ⟨Y, M, D, e1, e2⟩ | ⟨c, hc0, e1⟩
    · rw [e1] at r2 r3
      have p2 := print_ct n0 Y M D
      unfold stz at p2
      rw [e2] at p2
      simp only [GG, p10] at p2
      first | (have FRx := FR; clear FRx) | (have FR : Sm (¬ ((1 : Nat) = 0)) := Sm.mk Nat.one_ne_zero)
      repeat' first
        | (refine Sm.mk ?_; try simp -dsimp only [ZK, rvc, drawF, headN, pureH, stp, dvc, calleeOf, gcall, pev, eff, newB, okd, og, ogs, ogo, ogp, slv, bltv, opd, litv, strip, one, both, putE, St.put, look, gdOf, gdv, picka, pickv, pickw, binv, bini, bins, binb, binp, binq, isSlT, bina, shp, eqCells, unv, convv, nilv, faddv, addp, idxav, idxp, load1, load1m, loadn, loadnm, loadv, hget, hset, hrep, hdel, slicev, bnd, shift1, lenv, capv, IntKind.bits, extractv, fieldv, indexv, min2v, max2v, mkiv, cellsA, fillA, buildv, stC, oneC, rowMB, intsA, plN, appE, appZ, appC, appNZ, appNC, VwL, srcC, srcZ, srcM, isBoolT, isPtrT, isSliceT, uOk, Value.oneCell', Nat.reducePow, Int.reducePow, Nat.reduceAdd, Nat.reduceMul, Nat.reduceSub, Nat.reduceLT, Nat.reduceLeDiff, Nat.reduceEqDiff, Nat.reduceBEq, Nat.reduceDiv, Nat.reduceMod, ↓reduceIte, reduceCtorEq, Int.reduceToNat, Int.reduceLT, Int.reduceLE, TFStF, SeqQ, BlkQ, LoopQ, BodyQ, k0, hs, y1, y2, FR.out])
        | (first | refine CallV.fn (awake_ct) (Sm.out ?_) | refine ExF.mk (awake_ct) (Sm.out ?_) | refine ExG.mk (fun _ => awake_ct) (Sm.out ?_) | refine ExG.mkJ (fun _ => awake_ct) (Sm.out ?_) | refine ExG.mkI (Ob.out ?_) (fun _ => awake_ct) (Sm.out ?_))
        | (refine CallV.updM (p1) (perm1 (by simp only [hget, hdel, ↓reduceIte, FR.out, k0, hs, y1, y2]; first | done | rfl)) (Sm.out ?_))
        | ((first | refine ExF.up ?_ (p1) (Sm.out ?_) | refine ExG.up ?_ (fun _ => p1) (Sm.out ?_) | refine ExG.upJ ?_ (fun _ => p1) (Sm.out ?_) | refine ExG.upI ?_ (fun _ => p1) (Ob.out ?_) (Sm.out ?_)); focus (exact ⟨_, (perm1 (by simp only [hget, hdel, ↓reduceIte, FR.out, k0, hs, y1, y2]; first | done | rfl))⟩))
        | (first | refine CallV.fn (r1) (Sm.out ?_) | refine ExF.mk (r1) (Sm.out ?_) | refine ExG.mk (fun _ => r1) (Sm.out ?_) | refine ExG.mkJ (fun _ => r1) (Sm.out ?_) | refine ExG.mkI (Ob.out ?_) (fun _ => r1) (Sm.out ?_))
        | (first | refine CallV.fn (r2) (Sm.out ?_) | refine ExF.mk (r2) (Sm.out ?_) | refine ExG.mk (fun _ => r2) (Sm.out ?_) | refine ExG.mkJ (fun _ => r2) (Sm.out ?_) | refine ExG.mkI (Ob.out ?_) (fun _ => r2) (Sm.out ?_))
        | (first | refine CallV.fn (r3) (Sm.out ?_) | refine ExF.mk (r3) (Sm.out ?_) | refine ExG.mk (fun _ => r3) (Sm.out ?_) | refine ExG.mkJ (fun _ => r3) (Sm.out ?_) | refine ExG.mkI (Ob.out ?_) (fun _ => r3) (Sm.out ?_))
        | (first | refine CallV.fn (p3) (Sm.out ?_) | refine ExF.mk (p3) (Sm.out ?_) | refine ExG.mk (fun _ => p3) (Sm.out ?_) | refine ExG.mkJ (fun _ => p3) (Sm.out ?_) | refine ExG.mkI (Ob.out ?_) (fun _ => p3) (Sm.out ?_))
        | (first | refine CallV.fn (c9) (Sm.out ?_) | refine ExF.mk (c9) (Sm.out ?_) | refine ExG.mk (fun _ => c9) (Sm.out ?_) | refine ExG.mkJ (fun _ => c9) (Sm.out ?_) | refine ExG.mkI (Ob.out ?_) (fun _ => c9) (Sm.out ?_))
        | (refine CallV.updM (p2) (perm1 (by simp only [hget, hdel, ↓reduceIte, FR.out, k0, hs, y1, y2]; first | done | rfl)) (Sm.out ?_))
        | ((first | refine ExF.up ?_ (p2) (Sm.out ?_) | refine ExG.up ?_ (fun _ => p2) (Sm.out ?_) | refine ExG.upJ ?_ (fun _ => p2) (Sm.out ?_) | refine ExG.upI ?_ (fun _ => p2) (Ob.out ?_) (Sm.out ?_)); focus (exact ⟨_, (perm1 (by simp only [hget, hdel, ↓reduceIte, FR.out, k0, hs, y1, y2]; first | done | rfl))⟩))
        | (refine WP.seq fun K hK => ?_)
        | (refine WP.region (rvc_sound _ _ (Sm.out ?_)))
        | (refine WP.drawK rfl mixed (by decide +kernel) (Sm.out ?_))
        | (refine Ob.mk ?_; focus (first | assumption | omega | decide | trivial | (intro hob; simp only [hob, ZF]; done) | (intros; (repeat' refine And.intro ?_ ?_) <;> first | assumption | omega | trivial | decide) | (intros; simp only [ZE] at *; (repeat' refine And.intro ?_ ?_) <;> first | assumption | omega | trivial)))
        | (refine And.intro (Ob.out ?_) ?_)
        | (refine WP.block ?_)
        | (refine WP.cond rfl (fun hc => ?_) (fun hc => ?_) <;> (try simp only [ZC, reduceCtorEq, ZD] at hc) <;> (try (exact absurd hc (by decide))) <;> (try (exfalso; omega)))
        | ((first | refine WP.skip ?_ | refine WP.exit ?_); simp only [SeqQ, BlkQ, LoopQ, BodyQ, ↓reduceIte, Nat.reduceEqDiff, reduceCtorEq, look, true_and])
        | (refine WP.ret (Sm.out ?_))
        | (first | refine ExG.no (Sm.out ?_) | refine Or.inl (ExG.no (Sm.out ?_)) | refine Or.inl (And.intro (fun hg => absurd hg (by decide)) (ExG.no (Sm.out ?_))))
        | (refine Rt.mk ?_; refine And.intro ?_ ?_ <;> (intro hg; first | exact absurd hg (by decide) | refine Sm.out ?_))
        | (refine Nu.mk ?_; first | (fail_if_success (have := nb1)); intro nb1 | (fail_if_success (have := nb2)); intro nb2 | (fail_if_success (have := nb3)); intro nb3 | (fail_if_success (have := nb4)); intro nb4 | (fail_if_success (have := nb5)); intro nb5 | (fail_if_success (have := nb6)); intro nb6 | (fail_if_success (have := nb7)); intro nb7 | (fail_if_success (have := nb8)); intro nb8 | intro nbz)
        | (refine Fr.mk ?_; intro hfr; (first | (have hFRb : _ ≤ _ ∧ _ ≤ _ := And.intro hfr.1 hfr.2.1) | (have hFRb : _ ≤ _ := hfr.1) | skip); replace FR := Sm.mk (And.intro hfr FR.out); clear hfr; refine Sm.out ?_)
        | (refine Two.mk ?_ ?_)
        | (refine Cs.mk ?_; intro hcs; first | exact False.elim hcs | (exfalso; omega) | (refine Sm.out ?_))
        | go_step
        | omega
        | (simp only [maxLen_eq]; omega)
      (refine OutQ.upd (by simp only [resv, ZK, look, loadv, loadn, loadnm, load1, load1m, hget, ↓reduceIte, Nat.reduceEqDiff, Nat.reduceAdd, Nat.reduceMul, Nat.reduceLeDiff, Nat.reduceLT, reduceCtorEq, TFStF, FR.out]) (by simp only [resv, resA, ZK, look, loadv, loadn, loadnm, load1, load1m, hget, ↓reduceIte, Nat.reduceEqDiff, Nat.reduceAdd, Nat.reduceMul, Nat.reduceLeDiff, Nat.reduceLT, reduceCtorEq, TFStF, FR.out]; first | done | rfl) (by simp only [hget, ↓reduceIte, if_true, if_false, FR.out]; first | done | rfl) ?_ <;> first | exact rfl | (simp only [ZK, look, loadv, loadn, loadnm, load1, load1m, hget, ↓reduceIte, Nat.reduceEqDiff, Nat.reduceAdd, Nat.reduceMul, Nat.reduceLeDiff, Nat.reduceLT, reduceCtorEq, TFStF, FR.out]; done) | skip)
    · rw [e1] at r2 r3
      have k1 : (c == 0) = false := by simpa using hc0
      have k2 : (c != 0) = true := by simpa using hc0
      first | (have FRx := FR; clear FRx) | (have FR : Sm (¬ ((1 : Nat) = 0)) := Sm.mk Nat.one_ne_zero)
      repeat' first
        | (refine Sm.mk ?_; try simp -dsimp only [ZK, rvc, drawF, headN, pureH, stp, dvc, calleeOf, gcall, pev, eff, newB, okd, og, ogs, ogo, ogp, slv, bltv, opd, litv, strip, one, both, putE, St.put, look, gdOf, gdv, picka, pickv, pickw, binv, bini, bins, binb, binp, binq, isSlT, bina, shp, eqCells, unv, convv, nilv, faddv, addp, idxav, idxp, load1, load1m, loadn, loadnm, loadv, hget, hset, hrep, hdel, slicev, bnd, shift1, lenv, capv, IntKind.bits, extractv, fieldv, indexv, min2v, max2v, mkiv, cellsA, fillA, buildv, stC, oneC, rowMB, intsA, plN, appE, appZ, appC, appNZ, appNC, VwL, srcC, srcZ, srcM, isBoolT, isPtrT, isSliceT, uOk, Value.oneCell', Nat.reducePow, Int.reducePow, Nat.reduceAdd, Nat.reduceMul, Nat.reduceSub, Nat.reduceLT, Nat.reduceLeDiff, Nat.reduceEqDiff, Nat.reduceBEq, Nat.reduceDiv, Nat.reduceMod, ↓reduceIte, reduceCtorEq, Int.reduceToNat, Int.reduceLT, Int.reduceLE, TFStF, SeqQ, BlkQ, LoopQ, BodyQ, k0, hs, y1, y2, k1, k2, FR.out])
        | (first | refine CallV.fn (awake_ct) (Sm.out ?_) | refine ExF.mk (awake_ct) (Sm.out ?_) | refine ExG.mk (fun _ => awake_ct) (Sm.out ?_) | refine ExG.mkJ (fun _ => awake_ct) (Sm.out ?_) | refine ExG.mkI (Ob.out ?_) (fun _ => awake_ct) (Sm.out ?_))
        | (refine CallV.updM (p1) (perm1 (by simp only [hget, hdel, ↓reduceIte, FR.out, k0, hs, y1, y2, k1, k2]; first | done | rfl)) (Sm.out ?_))
        | ((first | refine ExF.up ?_ (p1) (Sm.out ?_) | refine ExG.up ?_ (fun _ => p1) (Sm.out ?_) | refine ExG.upJ ?_ (fun _ => p1) (Sm.out ?_) | refine ExG.upI ?_ (fun _ => p1) (Ob.out ?_) (Sm.out ?_)); focus (exact ⟨_, (perm1 (by simp only [hget, hdel, ↓reduceIte, FR.out, k0, hs, y1, y2, k1, k2]; first | done | rfl))⟩))
        | (first | refine CallV.fn (r1) (Sm.out ?_) | refine ExF.mk (r1) (Sm.out ?_) | refine ExG.mk (fun _ => r1) (Sm.out ?_) | refine ExG.mkJ (fun _ => r1) (Sm.out ?_) | refine ExG.mkI (Ob.out ?_) (fun _ => r1) (Sm.out ?_))
        | (first | refine CallV.fn (r2) (Sm.out ?_) | refine ExF.mk (r2) (Sm.out ?_) | refine ExG.mk (fun _ => r2) (Sm.out ?_) | refine ExG.mkJ (fun _ => r2) (Sm.out ?_) | refine ExG.mkI (Ob.out ?_) (fun _ => r2) (Sm.out ?_))
        | (first | refine CallV.fn (r3) (Sm.out ?_) | refine ExF.mk (r3) (Sm.out ?_) | refine ExG.mk (fun _ => r3) (Sm.out ?_) | refine ExG.mkJ (fun _ => r3) (Sm.out ?_) | refine ExG.mkI (Ob.out ?_) (fun _ => r3) (Sm.out ?_))
        | (first | refine CallV.fn (p3) (Sm.out ?_) | refine ExF.mk (p3) (Sm.out ?_) | refine ExG.mk (fun _ => p3) (Sm.out ?_) | refine ExG.mkJ (fun _ => p3) (Sm.out ?_) | refine ExG.mkI (Ob.out ?_) (fun _ => p3) (Sm.out ?_))
        | (first | refine CallV.fn (c9) (Sm.out ?_) | refine ExF.mk (c9) (Sm.out ?_) | refine ExG.mk (fun _ => c9) (Sm.out ?_) | refine ExG.mkJ (fun _ => c9) (Sm.out ?_) | refine ExG.mkI (Ob.out ?_) (fun _ => c9) (Sm.out ?_))
        | (refine WP.seq fun K hK => ?_)
        | (refine WP.region (rvc_sound _ _ (Sm.out ?_)))
        | (refine WP.drawK rfl mixed (by decide +kernel) (Sm.out ?_))
        | (refine Ob.mk ?_; focus (first | assumption | omega | decide | trivial | (intro hob; simp only [hob, ZF]; done) | (intros; (repeat' refine And.intro ?_ ?_) <;> first | assumption | omega | trivial | decide) | (intros; simp only [ZE] at *; (repeat' refine And.intro ?_ ?_) <;> first | assumption | omega | trivial)))
        | (refine And.intro (Ob.out ?_) ?_)
        | (refine WP.block ?_)
        | (refine WP.cond rfl (fun hc => ?_) (fun hc => ?_) <;> (try simp only [ZC, reduceCtorEq, ZD] at hc) <;> (try (exact absurd hc (by decide))) <;> (try (exfalso; omega)))
        | ((first | refine WP.skip ?_ | refine WP.exit ?_); simp only [SeqQ, BlkQ, LoopQ, BodyQ, ↓reduceIte, Nat.reduceEqDiff, reduceCtorEq, look, true_and])
        | (refine WP.ret (Sm.out ?_))
        | (first | refine ExG.no (Sm.out ?_) | refine Or.inl (ExG.no (Sm.out ?_)) | refine Or.inl (And.intro (fun hg => absurd hg (by decide)) (ExG.no (Sm.out ?_))))
        | (refine Rt.mk ?_; refine And.intro ?_ ?_ <;> (intro hg; first | exact absurd hg (by decide) | refine Sm.out ?_))
        | (refine Nu.mk ?_; first | (fail_if_success (have := nb1)); intro nb1 | (fail_if_success (have := nb2)); intro nb2 | (fail_if_success (have := nb3)); intro nb3 | (fail_if_success (have := nb4)); intro nb4 | (fail_if_success (have := nb5)); intro nb5 | (fail_if_success (have := nb6)); intro nb6 | (fail_if_success (have := nb7)); intro nb7 | (fail_if_success (have := nb8)); intro nb8 | intro nbz)
        | (refine Fr.mk ?_; intro hfr; (first | (have hFRb : _ ≤ _ ∧ _ ≤ _ := And.intro hfr.1 hfr.2.1) | (have hFRb : _ ≤ _ := hfr.1) | skip); replace FR := Sm.mk (And.intro hfr FR.out); clear hfr; refine Sm.out ?_)
        | (refine Two.mk ?_ ?_)
        | (refine Cs.mk ?_; intro hcs; first | exact False.elim hcs | (exfalso; omega) | (refine Sm.out ?_))
        | go_step
        | omega
        | (simp only [maxLen_eq]; omega)
      (refine OutQ.upd (by simp only [resv, ZK, look, loadv, loadn, loadnm, load1, load1m, hget, ↓reduceIte, Nat.reduceEqDiff, Nat.reduceAdd, Nat.reduceMul, Nat.reduceLeDiff, Nat.reduceLT, reduceCtorEq, TFStF, FR.out]) (by simp only [resv, resA, ZK, look, loadv, loadn, loadnm, load1, load1m, hget, ↓reduceIte, Nat.reduceEqDiff, Nat.reduceAdd, Nat.reduceMul, Nat.reduceLeDiff, Nat.reduceLT, reduceCtorEq, TFStF, FR.out]; first | done | rfl) (by simp only [hget, ↓reduceIte, if_true, if_false, FR.out]; first | done | rfl) ?_ <;> first | exact rfl | (simp only [ZK, look, loadv, loadn, loadnm, load1, load1m, hget, ↓reduceIte, Nat.reduceEqDiff, Nat.reduceAdd, Nat.reduceMul, Nat.reduceLeDiff, Nat.reduceLT, reduceCtorEq, TFStF, FR.out]; done) | skip)
theorem prints_law (y m d : Int) (s : ByteArray) (n0 : Nat) : ACt Tryd.prog 3 [.agg [iv .i64 y, iv .i64 m, iv .i64 d], .lit (.string s)] (GG n0) (fun r F' => r = bv true ∧ F' = GG n0) := by
  have e : s = bstr (ub s.data.toList) := by
    apply ByteArray.ext
    apply Array.ext'
    simp only [bstr, ub, List.map_map]
    have e2 : s.data.toList.map ((fun n : Int => UInt8.ofNat n.toNat) ∘ fun b : UInt8 => (b.toNat : Int)) = s.data.toList.map id := List.map_congr_left fun b _ => by simp
    rw [e2, List.map_id]
  have hb : By (ub s.data.toList) := fun i hi => by
    rw [ub_getD]
    have := ((s.data.toList).getD i 0).toNat_lt
    omega
  rw [e]
  exact prints_ct n0 y m d (ub s.data.toList) hb
end Go.Proofs.YtndpkahhmgnhpaaDoor
