/-
  The walks and the laws that the statement leans on, part 8.
-/
import Derived.Test.YtbnkmhlnoaebcaaZ7
namespace Go.Proofs.Ytbnkmhlnoaebcaa
open Go
set_option linter.unusedVariables false
set_option linter.unusedSimpArgs false
theorem TFRgK : ((((((type_of% tyc0) ∧ ((type_of% tyc2) ∧ (type_of% zmb2))) ∧ ((type_of% tyc4) ∧ ((type_of% zmb4) ∧ (type_of% tyc23)))) ∧ (((type_of% zmb23) ∧ ((type_of% tyc35) ∧ (type_of% zmb35))) ∧ (((type_of% tyc36) ∧ (type_of% elt36)) ∧ ((type_of% mkz36) ∧ (type_of% mkc36))))) ∧ ((((type_of% apT36) ∧ ((type_of% elk36) ∧ (type_of% zmb36))) ∧ (((type_of% tyc38) ∧ (type_of% foff38_0)) ∧ ((type_of% fpart38_0) ∧ (type_of% foff38_1)))) ∧ (((type_of% fpart38_1) ∧ ((type_of% foff38_2) ∧ (type_of% fpart38_2))) ∧ (((type_of% foff38_3) ∧ (type_of% fpart38_3)) ∧ ((type_of% zmb38) ∧ (type_of% bldT38)))))) ∧ (((((type_of% tyc41) ∧ ((type_of% zmb41) ∧ (type_of% tyc43))) ∧ ((type_of% foff43_0) ∧ ((type_of% fpart43_0) ∧ (type_of% foff43_1)))) ∧ (((type_of% fpart43_1) ∧ ((type_of% fe43) ∧ (type_of% zmb43))) ∧ (((type_of% bldT43) ∧ (type_of% tyc70)) ∧ ((type_of% foff70_0) ∧ (type_of% fpart70_0))))) ∧ ((((type_of% foff70_1) ∧ ((type_of% fpart70_1) ∧ (type_of% zmb70))) ∧ (((type_of% bldT70) ∧ (type_of% Try.underlying0)) ∧ ((type_of% Try.underlying2) ∧ (type_of% Try.underlying4)))) ∧ (((type_of% Try.underlying23) ∧ ((type_of% Try.underlying35) ∧ (type_of% Try.underlying36))) ∧ (((type_of% Try.underlying38) ∧ (type_of% Try.underlying41)) ∧ ((type_of% Try.underlying43) ∧ (type_of% Try.underlying70))))))) :=
  ⟨⟨⟨⟨⟨tyc0, ⟨tyc2, zmb2⟩⟩, ⟨tyc4, ⟨zmb4, tyc23⟩⟩⟩, ⟨⟨zmb23, ⟨tyc35, zmb35⟩⟩, ⟨⟨tyc36, elt36⟩, ⟨mkz36, mkc36⟩⟩⟩⟩, ⟨⟨⟨apT36, ⟨elk36, zmb36⟩⟩, ⟨⟨tyc38, foff38_0⟩, ⟨fpart38_0, foff38_1⟩⟩⟩, ⟨⟨fpart38_1, ⟨foff38_2, fpart38_2⟩⟩, ⟨⟨foff38_3, fpart38_3⟩, ⟨zmb38, bldT38⟩⟩⟩⟩⟩, ⟨⟨⟨⟨tyc41, ⟨zmb41, tyc43⟩⟩, ⟨foff43_0, ⟨fpart43_0, foff43_1⟩⟩⟩, ⟨⟨fpart43_1, ⟨fe43, zmb43⟩⟩, ⟨⟨bldT43, tyc70⟩, ⟨foff70_0, fpart70_0⟩⟩⟩⟩, ⟨⟨⟨foff70_1, ⟨fpart70_1, zmb70⟩⟩, ⟨⟨bldT70, Try.underlying0⟩, ⟨Try.underlying2, Try.underlying4⟩⟩⟩, ⟨⟨Try.underlying23, ⟨Try.underlying35, Try.underlying36⟩⟩, ⟨⟨Try.underlying38, Try.underlying41⟩, ⟨Try.underlying43, Try.underlying70⟩⟩⟩⟩⟩⟩
/-- what the document says of an addition -/
def codeB (at_ : Int) (g t now w k st : Nat) : Int :=
  if t < g then 16 else if ¬ (0 ≤ at_ ∧ at_ ≤ 253402300799) then 8 else if (now : Int) < at_ then 14 else if ¬ (now / w < at_.toNat / w + k) then 13 else if 9223372036854775807 < st + t then 17 else 0
abbrev winP (now w k : Nat) : Nat → Bool := fun a => decide (now / w < a / w + k)
set_option maxRecDepth 8000 in
set_option maxHeartbeats 2000000 in
theorem refAdd_bad (mb W G k w now g t : Nat) (E : List Ev) (o : Option (Nat × Nat)) (at_ : Int) (hg : goP W G) (h : GoOk W G k w) (hn : now ≤ 253402300799) (hE : ∀ e ∈ E, e.at_ ≤ 253402300799) (hl : E.length ≤ 1000) (ho : evOk E o) (hmb : ∀ p ∈ evB E o, p.1 ≠ mb)
    (hG : sG (winP now w k) E < 18446744073709551616) (hT : sT (winP now w k) E < 18446744073709551616) (ht : t < 18446744073709551616) (hc0 : codeB at_ g t now w k (sT (winP now w k) E) ≠ 0) :
    ACt Try.prog 34 [pt mb 0, iv .i64 at_, cnt g t] ((mb, mM W G now (evL E o)) :: evB E o) (fun r F' => r = iv .i64 (codeB at_ g t now w k (sT (winP now w k) E)) ∧ F' = (mb, mM W G now (evL E o)) :: evB E o) := by
  have cS : ACt Try.prog 18 [pt mb 0] ((mb, mM W G now (evL E o)) :: evB E o) (fun r F' => r = cnt (sG (winP now w k) E) (sT (winP now w k) E) ∧ F' = (mb, mM W G now (evL E o)) :: evB E o) :=
    look_m (rs := []) (refSum_ct W G k w now E hg h hn hE hl hG hT) rfl ho hmb
  obtain ⟨A, hA⟩ : ∃ A, A = sG (winP now w k) E := ⟨_, rfl⟩
  obtain ⟨B, hB⟩ : ∃ B, B = sT (winP now w k) E := ⟨_, rfl⟩
  rw [← hA, ← hB] at cS
  rw [← hB] at hc0 ⊢
  obtain ⟨LV, hLV⟩ : ∃ LV, LV = evL E o := ⟨_, rfl⟩
  obtain ⟨EB, hEB⟩ : ∃ EB, EB = evB E o := ⟨_, rfl⟩
  rw [← hLV, ← hEB] at cS ⊢
  refine ACt.intro Try.func34 rfl (by kernel_rfl) (by simp [Try.ntmps34]) (fun cx => ?_)
  simp only [argE, Try.ntmps34, Try.results34]
  obtain ⟨cd, hcd⟩ : ∃ cd, cd = codeB at_ g t now w k B := ⟨_, rfl⟩
  have hcd' := hcd
  rw [← hcd] at hc0
  unfold codeB at hcd
  have c1 := Tick_ct at_
  have pm : ∀ (b : Nat) (m : MB) (m' : MB), ((b, m) :: (mb, m') :: EB).Perm (((mb, m') :: EB) ++ [(b, m)]) := fun b m m' => List.perm_append_comm (l₁ := [(b, m)]) (l₂ := (mb, m') :: EB)
  by_cases h1 : t < g
  · rw [if_pos h1] at hcd
    have d1 : decide ((g : Int) > (t : Int)) = true := by simp; omega
    rw [← hcd', hcd]
    first | (have FRx := FR; clear FRx) | (have FR : ¬ ((1 : Nat) = 0) := Nat.one_ne_zero)
    repeat' first
      | (refine Sm.mk ?_; try simp -dsimp only [ZK, rvc, drawF, headN, pureH, stp, dvc, calleeOf, gcall, pev, eff, newB, okd, og, ogs, ogo, ogp, slv, bltv, opd, litv, strip, one, both, putE, St.put, look, gdOf, gdv, picka, pickv, pickw, binv, bini, bins, binb, binp, bina, shp, eqCells, unv, convv, nilv, faddv, addp, idxav, idxp, load1, load1m, loadn, loadnm, loadv, hget, hset, hrep, hdel, slicev, bnd, shift1, lenv, IntKind.bits, extractv, fieldv, indexv, min2v, max2v, mkiv, cellsA, fillA, buildv, stC, oneC, rowMB, intsA, plN, appE, appZ, appC, appNZ, appNC, VwL, srcC, srcZ, srcM, isBoolT, isPtrT, isSliceT, uOk, Value.oneCell', Nat.reducePow, Int.reducePow, Nat.reduceAdd, Nat.reduceMul, Nat.reduceSub, Nat.reduceLT, Nat.reduceLeDiff, Nat.reduceEqDiff, Nat.reduceBEq, Nat.reduceDiv, Nat.reduceMod, ↓reduceIte, reduceCtorEq, Int.reduceToNat, Int.reduceLT, Int.reduceLE, drawMF, mkS, TFRgK, SeqQ, BlkQ, LoopQ, BodyQ, d1, FR])
      | (refine WP.seq fun K hK => ?_)
      | (refine WP.region (rvc_sound _ _ (Sm.out ?_)))
      | (refine WP.drawMk (ia := 8) (k := 9) mixed (by decide +kernel) (by decide +kernel) (by decide +kernel) (by decide +kernel) (Sm.out ?_))
      | (refine WP.drawK rfl mixed (by decide +kernel) (Sm.out ?_))
      | (refine Ob.mk ?_; focus (first | assumption | omega | decide | trivial | (intro hob; simp only [hob, ZF]; done) | (intros; (repeat' refine And.intro ?_ ?_) <;> first | assumption | omega | trivial | decide) | (intros; simp only [ZE] at *; (repeat' refine And.intro ?_ ?_) <;> first | assumption | omega | trivial)))
      | (refine And.intro (Ob.out ?_) ?_)
      | (refine WP.block ?_)
      | (refine WP.cond rfl (fun hc => ?_) (fun hc => ?_) <;> (try simp only [ZC, reduceCtorEq, ZD] at hc) <;> (try (exact absurd hc (by decide))) <;> (try (exfalso; omega)))
      | ((first | refine WP.skip ?_ | refine WP.exit ?_); simp only [SeqQ, BlkQ, LoopQ, BodyQ, ↓reduceIte, Nat.reduceEqDiff, reduceCtorEq, look, true_and])
      | (refine WP.ret (Sm.out ?_))
      | (first | refine ExG.no (Sm.out ?_) | refine Or.inl (ExG.no (Sm.out ?_)) | refine Or.inl (And.intro (fun hg => absurd hg (by decide)) (ExG.no (Sm.out ?_))))
      | (refine Rt.mk ?_; refine And.intro ?_ ?_ <;> (intro hg; first | exact absurd hg (by decide) | refine Sm.out ?_))
      | (refine Nu.mk ?_; first | (fail_if_success (have := nb1)); intro nb1 | (fail_if_success (have := nb2)); intro nb2 | (fail_if_success (have := nb3)); intro nb3 | intro nbz)
      | (refine Fr.mk ?_; intro hfr; replace FR := And.intro hfr FR; clear hfr; refine Sm.out ?_)
      | (refine Two.mk ?_ ?_)
      | (refine Cs.mk ?_; intro hcs; first | exact False.elim hcs | (exfalso; omega) | (refine Sm.out ?_))
      | go_step
      | omega
      | (simp only [maxLen_eq]; omega)
    (refine OutQ.drop _ _ (pm _ _ _) (by simp only [resv, ZK, look, loadv, loadn, loadnm, load1, load1m, hget, ↓reduceIte, Nat.reduceEqDiff, Nat.reduceAdd, Nat.reduceMul, Nat.reduceLeDiff, Nat.reduceLT, reduceCtorEq, TFRgK, FR]) ⟨(by simp only [resv, resA, ZK, look, loadv, loadn, loadnm, load1, load1m, hget, ↓reduceIte, Nat.reduceEqDiff, Nat.reduceAdd, Nat.reduceMul, Nat.reduceLeDiff, Nat.reduceLT, reduceCtorEq, TFRgK, FR]; first | done | rfl), rfl⟩)
  rw [if_neg h1] at hcd
  have d1 : decide ((g : Int) > (t : Int)) = false := by simp; omega
  by_cases h2 : 0 ≤ at_ ∧ at_ ≤ 253402300799
  case neg =>
    rw [if_pos h2] at hcd
    rw [show (decide (at_ ≥ 0) && decide (at_ ≤ 253402300799)) = false by simp; omega] at c1
    rw [← hcd', hcd]
    first | (have FRx := FR; clear FRx) | (have FR : ¬ ((1 : Nat) = 0) := Nat.one_ne_zero)
    repeat' first
      | (refine Sm.mk ?_; try simp -dsimp only [ZK, rvc, drawF, headN, pureH, stp, dvc, calleeOf, gcall, pev, eff, newB, okd, og, ogs, ogo, ogp, slv, bltv, opd, litv, strip, one, both, putE, St.put, look, gdOf, gdv, picka, pickv, pickw, binv, bini, bins, binb, binp, bina, shp, eqCells, unv, convv, nilv, faddv, addp, idxav, idxp, load1, load1m, loadn, loadnm, loadv, hget, hset, hrep, hdel, slicev, bnd, shift1, lenv, IntKind.bits, extractv, fieldv, indexv, min2v, max2v, mkiv, cellsA, fillA, buildv, stC, oneC, rowMB, intsA, plN, appE, appZ, appC, appNZ, appNC, VwL, srcC, srcZ, srcM, isBoolT, isPtrT, isSliceT, uOk, Value.oneCell', Nat.reducePow, Int.reducePow, Nat.reduceAdd, Nat.reduceMul, Nat.reduceSub, Nat.reduceLT, Nat.reduceLeDiff, Nat.reduceEqDiff, Nat.reduceBEq, Nat.reduceDiv, Nat.reduceMod, ↓reduceIte, reduceCtorEq, Int.reduceToNat, Int.reduceLT, Int.reduceLE, drawMF, mkS, TFRgK, SeqQ, BlkQ, LoopQ, BodyQ, d1, FR])
      | (first | refine CallV.fn (c1) (Sm.out ?_) | refine ExF.mk (c1) (Sm.out ?_) | refine ExG.mk (fun _ => c1) (Sm.out ?_) | refine ExG.mkJ (fun _ => c1) (Sm.out ?_) | refine ExG.mkI (Ob.out ?_) (fun _ => c1) (Sm.out ?_))
      | (refine WP.seq fun K hK => ?_)
      | (refine WP.region (rvc_sound _ _ (Sm.out ?_)))
      | (refine WP.drawMk (ia := 8) (k := 9) mixed (by decide +kernel) (by decide +kernel) (by decide +kernel) (by decide +kernel) (Sm.out ?_))
      | (refine WP.drawK rfl mixed (by decide +kernel) (Sm.out ?_))
      | (refine Ob.mk ?_; focus (first | assumption | omega | decide | trivial | (intro hob; simp only [hob, ZF]; done) | (intros; (repeat' refine And.intro ?_ ?_) <;> first | assumption | omega | trivial | decide) | (intros; simp only [ZE] at *; (repeat' refine And.intro ?_ ?_) <;> first | assumption | omega | trivial)))
      | (refine And.intro (Ob.out ?_) ?_)
      | (refine WP.block ?_)
      | (refine WP.cond rfl (fun hc => ?_) (fun hc => ?_) <;> (try simp only [ZC, reduceCtorEq, ZD] at hc) <;> (try (exact absurd hc (by decide))) <;> (try (exfalso; omega)))
      | ((first | refine WP.skip ?_ | refine WP.exit ?_); simp only [SeqQ, BlkQ, LoopQ, BodyQ, ↓reduceIte, Nat.reduceEqDiff, reduceCtorEq, look, true_and])
      | (refine WP.ret (Sm.out ?_))
      | (first | refine ExG.no (Sm.out ?_) | refine Or.inl (ExG.no (Sm.out ?_)) | refine Or.inl (And.intro (fun hg => absurd hg (by decide)) (ExG.no (Sm.out ?_))))
      | (refine Rt.mk ?_; refine And.intro ?_ ?_ <;> (intro hg; first | exact absurd hg (by decide) | refine Sm.out ?_))
      | (refine Nu.mk ?_; first | (fail_if_success (have := nb1)); intro nb1 | (fail_if_success (have := nb2)); intro nb2 | (fail_if_success (have := nb3)); intro nb3 | intro nbz)
      | (refine Fr.mk ?_; intro hfr; replace FR := And.intro hfr FR; clear hfr; refine Sm.out ?_)
      | (refine Two.mk ?_ ?_)
      | (refine Cs.mk ?_; intro hcs; first | exact False.elim hcs | (exfalso; omega) | (refine Sm.out ?_))
      | go_step
      | omega
      | (simp only [maxLen_eq]; omega)
    (refine OutQ.drop _ _ (pm _ _ _) (by simp only [resv, ZK, look, loadv, loadn, loadnm, load1, load1m, hget, ↓reduceIte, Nat.reduceEqDiff, Nat.reduceAdd, Nat.reduceMul, Nat.reduceLeDiff, Nat.reduceLT, reduceCtorEq, TFRgK, FR]) ⟨(by simp only [resv, resA, ZK, look, loadv, loadn, loadnm, load1, load1m, hget, ↓reduceIte, Nat.reduceEqDiff, Nat.reduceAdd, Nat.reduceMul, Nat.reduceLeDiff, Nat.reduceLT, reduceCtorEq, TFRgK, FR]; first | done | rfl), rfl⟩)
  rw [if_neg (by simpa using h2)] at hcd
  rw [show (decide (at_ ≥ 0) && decide (at_ ≤ 253402300799)) = true by simp; omega] at c1
  by_cases h3 : (now : Int) < at_
  · rw [if_pos h3] at hcd
    have d2 : decide (at_ > (now : Int)) = true := by simp; omega
    rw [← hcd', hcd]
    first | (have FRx := FR; clear FRx) | (have FR : ¬ ((1 : Nat) = 0) := Nat.one_ne_zero)
    repeat' first
      | (refine Sm.mk ?_; try simp -dsimp only [ZK, rvc, drawF, headN, pureH, stp, dvc, calleeOf, gcall, pev, eff, newB, okd, og, ogs, ogo, ogp, slv, bltv, opd, litv, strip, one, both, putE, St.put, look, gdOf, gdv, picka, pickv, pickw, binv, bini, bins, binb, binp, bina, shp, eqCells, unv, convv, nilv, faddv, addp, idxav, idxp, load1, load1m, loadn, loadnm, loadv, hget, hset, hrep, hdel, slicev, bnd, shift1, lenv, IntKind.bits, extractv, fieldv, indexv, min2v, max2v, mkiv, cellsA, fillA, buildv, stC, oneC, rowMB, intsA, plN, appE, appZ, appC, appNZ, appNC, VwL, srcC, srcZ, srcM, isBoolT, isPtrT, isSliceT, uOk, Value.oneCell', Nat.reducePow, Int.reducePow, Nat.reduceAdd, Nat.reduceMul, Nat.reduceSub, Nat.reduceLT, Nat.reduceLeDiff, Nat.reduceEqDiff, Nat.reduceBEq, Nat.reduceDiv, Nat.reduceMod, ↓reduceIte, reduceCtorEq, Int.reduceToNat, Int.reduceLT, Int.reduceLE, drawMF, mkS, TFRgK, SeqQ, BlkQ, LoopQ, BodyQ, d1, d2, FR])
      | (first | refine CallV.fn (c1) (Sm.out ?_) | refine ExF.mk (c1) (Sm.out ?_) | refine ExG.mk (fun _ => c1) (Sm.out ?_) | refine ExG.mkJ (fun _ => c1) (Sm.out ?_) | refine ExG.mkI (Ob.out ?_) (fun _ => c1) (Sm.out ?_))
      | (refine WP.seq fun K hK => ?_)
      | (refine WP.region (rvc_sound _ _ (Sm.out ?_)))
      | (refine WP.drawMk (ia := 8) (k := 9) mixed (by decide +kernel) (by decide +kernel) (by decide +kernel) (by decide +kernel) (Sm.out ?_))
      | (refine WP.drawK rfl mixed (by decide +kernel) (Sm.out ?_))
      | (refine Ob.mk ?_; focus (first | assumption | omega | decide | trivial | (intro hob; simp only [hob, ZF]; done) | (intros; (repeat' refine And.intro ?_ ?_) <;> first | assumption | omega | trivial | decide) | (intros; simp only [ZE] at *; (repeat' refine And.intro ?_ ?_) <;> first | assumption | omega | trivial)))
      | (refine And.intro (Ob.out ?_) ?_)
      | (refine WP.block ?_)
      | (refine WP.cond rfl (fun hc => ?_) (fun hc => ?_) <;> (try simp only [ZC, reduceCtorEq, ZD] at hc) <;> (try (exact absurd hc (by decide))) <;> (try (exfalso; omega)))
      | ((first | refine WP.skip ?_ | refine WP.exit ?_); simp only [SeqQ, BlkQ, LoopQ, BodyQ, ↓reduceIte, Nat.reduceEqDiff, reduceCtorEq, look, true_and])
      | (refine WP.ret (Sm.out ?_))
      | (first | refine ExG.no (Sm.out ?_) | refine Or.inl (ExG.no (Sm.out ?_)) | refine Or.inl (And.intro (fun hg => absurd hg (by decide)) (ExG.no (Sm.out ?_))))
      | (refine Rt.mk ?_; refine And.intro ?_ ?_ <;> (intro hg; first | exact absurd hg (by decide) | refine Sm.out ?_))
      | (refine Nu.mk ?_; first | (fail_if_success (have := nb1)); intro nb1 | (fail_if_success (have := nb2)); intro nb2 | (fail_if_success (have := nb3)); intro nb3 | intro nbz)
      | (refine Fr.mk ?_; intro hfr; replace FR := And.intro hfr FR; clear hfr; refine Sm.out ?_)
      | (refine Two.mk ?_ ?_)
      | (refine Cs.mk ?_; intro hcs; first | exact False.elim hcs | (exfalso; omega) | (refine Sm.out ?_))
      | go_step
      | omega
      | (simp only [maxLen_eq]; omega)
    (refine OutQ.drop _ _ (pm _ _ _) (by simp only [resv, ZK, look, loadv, loadn, loadnm, load1, load1m, hget, ↓reduceIte, Nat.reduceEqDiff, Nat.reduceAdd, Nat.reduceMul, Nat.reduceLeDiff, Nat.reduceLT, reduceCtorEq, TFRgK, FR]) ⟨(by simp only [resv, resA, ZK, look, loadv, loadn, loadnm, load1, load1m, hget, ↓reduceIte, Nat.reduceEqDiff, Nat.reduceAdd, Nat.reduceMul, Nat.reduceLeDiff, Nat.reduceLT, reduceCtorEq, TFRgK, FR]; first | done | rfl), rfl⟩)
  rw [if_neg h3] at hcd
  have d2 : decide (at_ > (now : Int)) = false := by simp; omega
  obtain ⟨m, rfl⟩ := Int.eq_ofNat_of_zero_le h2.1
  rw [Int.toNat_natCast] at hcd
  have c2 := Within_ct W G k w now m hg h hn (by omega)
  by_cases h4 : now / w < m / w + k
  case neg =>
    rw [if_pos h4] at hcd
    rw [decide_eq_false h4] at c2
    rw [← hcd', hcd]
    first | (have FRx := FR; clear FRx) | (have FR : ¬ ((1 : Nat) = 0) := Nat.one_ne_zero)
    repeat' first
      | (refine Sm.mk ?_; try simp -dsimp only [ZK, rvc, drawF, headN, pureH, stp, dvc, calleeOf, gcall, pev, eff, newB, okd, og, ogs, ogo, ogp, slv, bltv, opd, litv, strip, one, both, putE, St.put, look, gdOf, gdv, picka, pickv, pickw, binv, bini, bins, binb, binp, bina, shp, eqCells, unv, convv, nilv, faddv, addp, idxav, idxp, load1, load1m, loadn, loadnm, loadv, hget, hset, hrep, hdel, slicev, bnd, shift1, lenv, IntKind.bits, extractv, fieldv, indexv, min2v, max2v, mkiv, cellsA, fillA, buildv, stC, oneC, rowMB, intsA, plN, appE, appZ, appC, appNZ, appNC, VwL, srcC, srcZ, srcM, isBoolT, isPtrT, isSliceT, uOk, Value.oneCell', Nat.reducePow, Int.reducePow, Nat.reduceAdd, Nat.reduceMul, Nat.reduceSub, Nat.reduceLT, Nat.reduceLeDiff, Nat.reduceEqDiff, Nat.reduceBEq, Nat.reduceDiv, Nat.reduceMod, ↓reduceIte, reduceCtorEq, Int.reduceToNat, Int.reduceLT, Int.reduceLE, drawMF, mkS, TFRgK, SeqQ, BlkQ, LoopQ, BodyQ, d1, d2, FR])
      | (first | refine CallV.fn (c1) (Sm.out ?_) | refine ExF.mk (c1) (Sm.out ?_) | refine ExG.mk (fun _ => c1) (Sm.out ?_) | refine ExG.mkJ (fun _ => c1) (Sm.out ?_) | refine ExG.mkI (Ob.out ?_) (fun _ => c1) (Sm.out ?_))
      | (first | refine CallV.fn (c2) (Sm.out ?_) | refine ExF.mk (c2) (Sm.out ?_) | refine ExG.mk (fun _ => c2) (Sm.out ?_) | refine ExG.mkJ (fun _ => c2) (Sm.out ?_) | refine ExG.mkI (Ob.out ?_) (fun _ => c2) (Sm.out ?_))
      | (refine WP.seq fun K hK => ?_)
      | (refine WP.region (rvc_sound _ _ (Sm.out ?_)))
      | (refine WP.drawMk (ia := 8) (k := 9) mixed (by decide +kernel) (by decide +kernel) (by decide +kernel) (by decide +kernel) (Sm.out ?_))
      | (refine WP.drawK rfl mixed (by decide +kernel) (Sm.out ?_))
      | (refine Ob.mk ?_; focus (first | assumption | omega | decide | trivial | (intro hob; simp only [hob, ZF]; done) | (intros; (repeat' refine And.intro ?_ ?_) <;> first | assumption | omega | trivial | decide) | (intros; simp only [ZE] at *; (repeat' refine And.intro ?_ ?_) <;> first | assumption | omega | trivial)))
      | (refine And.intro (Ob.out ?_) ?_)
      | (refine WP.block ?_)
      | (refine WP.cond rfl (fun hc => ?_) (fun hc => ?_) <;> (try simp only [ZC, reduceCtorEq, ZD] at hc) <;> (try (exact absurd hc (by decide))) <;> (try (exfalso; omega)))
      | ((first | refine WP.skip ?_ | refine WP.exit ?_); simp only [SeqQ, BlkQ, LoopQ, BodyQ, ↓reduceIte, Nat.reduceEqDiff, reduceCtorEq, look, true_and])
      | (refine WP.ret (Sm.out ?_))
      | (first | refine ExG.no (Sm.out ?_) | refine Or.inl (ExG.no (Sm.out ?_)) | refine Or.inl (And.intro (fun hg => absurd hg (by decide)) (ExG.no (Sm.out ?_))))
      | (refine Rt.mk ?_; refine And.intro ?_ ?_ <;> (intro hg; first | exact absurd hg (by decide) | refine Sm.out ?_))
      | (refine Nu.mk ?_; first | (fail_if_success (have := nb1)); intro nb1 | (fail_if_success (have := nb2)); intro nb2 | (fail_if_success (have := nb3)); intro nb3 | intro nbz)
      | (refine Fr.mk ?_; intro hfr; replace FR := And.intro hfr FR; clear hfr; refine Sm.out ?_)
      | (refine Two.mk ?_ ?_)
      | (refine Cs.mk ?_; intro hcs; first | exact False.elim hcs | (exfalso; omega) | (refine Sm.out ?_))
      | go_step
      | omega
      | (simp only [maxLen_eq]; omega)
    (refine OutQ.drop _ _ (pm _ _ _) (by simp only [resv, ZK, look, loadv, loadn, loadnm, load1, load1m, hget, ↓reduceIte, Nat.reduceEqDiff, Nat.reduceAdd, Nat.reduceMul, Nat.reduceLeDiff, Nat.reduceLT, reduceCtorEq, TFRgK, FR]) ⟨(by simp only [resv, resA, ZK, look, loadv, loadn, loadnm, load1, load1m, hget, ↓reduceIte, Nat.reduceEqDiff, Nat.reduceAdd, Nat.reduceMul, Nat.reduceLeDiff, Nat.reduceLT, reduceCtorEq, TFRgK, FR]; first | done | rfl), rfl⟩)
  rw [if_neg (by simpa using h4)] at hcd
  rw [decide_eq_true h4] at c2
  have c3 := Over_ct A B g t ht
  by_cases h5 : 9223372036854775807 < B + t
  · rw [if_pos h5] at hcd
    rw [decide_eq_true h5] at c3
    rw [← hcd', hcd]
    first | (have FRx := FR; clear FRx) | (have FR : ¬ ((1 : Nat) = 0) := Nat.one_ne_zero)
    repeat' first
      | (refine Sm.mk ?_; try simp -dsimp only [ZK, rvc, drawF, headN, pureH, stp, dvc, calleeOf, gcall, pev, eff, newB, okd, og, ogs, ogo, ogp, slv, bltv, opd, litv, strip, one, both, putE, St.put, look, gdOf, gdv, picka, pickv, pickw, binv, bini, bins, binb, binp, bina, shp, eqCells, unv, convv, nilv, faddv, addp, idxav, idxp, load1, load1m, loadn, loadnm, loadv, hget, hset, hrep, hdel, slicev, bnd, shift1, lenv, IntKind.bits, extractv, fieldv, indexv, min2v, max2v, mkiv, cellsA, fillA, buildv, stC, oneC, rowMB, intsA, plN, appE, appZ, appC, appNZ, appNC, VwL, srcC, srcZ, srcM, isBoolT, isPtrT, isSliceT, uOk, Value.oneCell', Nat.reducePow, Int.reducePow, Nat.reduceAdd, Nat.reduceMul, Nat.reduceSub, Nat.reduceLT, Nat.reduceLeDiff, Nat.reduceEqDiff, Nat.reduceBEq, Nat.reduceDiv, Nat.reduceMod, ↓reduceIte, reduceCtorEq, Int.reduceToNat, Int.reduceLT, Int.reduceLE, drawMF, mkS, TFRgK, SeqQ, BlkQ, LoopQ, BodyQ, d1, d2, FR])
      | (first | refine CallV.fn (c1) (Sm.out ?_) | refine ExF.mk (c1) (Sm.out ?_) | refine ExG.mk (fun _ => c1) (Sm.out ?_) | refine ExG.mkJ (fun _ => c1) (Sm.out ?_) | refine ExG.mkI (Ob.out ?_) (fun _ => c1) (Sm.out ?_))
      | (first | refine CallV.fn (c2) (Sm.out ?_) | refine ExF.mk (c2) (Sm.out ?_) | refine ExG.mk (fun _ => c2) (Sm.out ?_) | refine ExG.mkJ (fun _ => c2) (Sm.out ?_) | refine ExG.mkI (Ob.out ?_) (fun _ => c2) (Sm.out ?_))
      | (first | refine CallV.fn (c3) (Sm.out ?_) | refine ExF.mk (c3) (Sm.out ?_) | refine ExG.mk (fun _ => c3) (Sm.out ?_) | refine ExG.mkJ (fun _ => c3) (Sm.out ?_) | refine ExG.mkI (Ob.out ?_) (fun _ => c3) (Sm.out ?_))
      | (refine CallV.updM (cS) (pm _ _ _) (Sm.out ?_))
      | ((first | refine ExF.up ?_ (cS) (Sm.out ?_) | refine ExG.up ?_ (fun _ => cS) (Sm.out ?_) | refine ExG.upJ ?_ (fun _ => cS) (Sm.out ?_) | refine ExG.upI ?_ (fun _ => cS) (Ob.out ?_) (Sm.out ?_)); focus (exact ⟨_, (pm _ _ _)⟩))
      | (refine WP.seq fun K hK => ?_)
      | (refine WP.region (rvc_sound _ _ (Sm.out ?_)))
      | (refine WP.drawMk (ia := 8) (k := 9) mixed (by decide +kernel) (by decide +kernel) (by decide +kernel) (by decide +kernel) (Sm.out ?_))
      | (refine WP.drawK rfl mixed (by decide +kernel) (Sm.out ?_))
      | (refine Ob.mk ?_; focus (first | assumption | omega | decide | trivial | (intro hob; simp only [hob, ZF]; done) | (intros; (repeat' refine And.intro ?_ ?_) <;> first | assumption | omega | trivial | decide) | (intros; simp only [ZE] at *; (repeat' refine And.intro ?_ ?_) <;> first | assumption | omega | trivial)))
      | (refine And.intro (Ob.out ?_) ?_)
      | (refine WP.block ?_)
      | (refine WP.cond rfl (fun hc => ?_) (fun hc => ?_) <;> (try simp only [ZC, reduceCtorEq, ZD] at hc) <;> (try (exact absurd hc (by decide))) <;> (try (exfalso; omega)))
      | ((first | refine WP.skip ?_ | refine WP.exit ?_); simp only [SeqQ, BlkQ, LoopQ, BodyQ, ↓reduceIte, Nat.reduceEqDiff, reduceCtorEq, look, true_and])
      | (refine WP.ret (Sm.out ?_))
      | (first | refine ExG.no (Sm.out ?_) | refine Or.inl (ExG.no (Sm.out ?_)) | refine Or.inl (And.intro (fun hg => absurd hg (by decide)) (ExG.no (Sm.out ?_))))
      | (refine Rt.mk ?_; refine And.intro ?_ ?_ <;> (intro hg; first | exact absurd hg (by decide) | refine Sm.out ?_))
      | (refine Nu.mk ?_; first | (fail_if_success (have := nb1)); intro nb1 | (fail_if_success (have := nb2)); intro nb2 | (fail_if_success (have := nb3)); intro nb3 | intro nbz)
      | (refine Fr.mk ?_; intro hfr; replace FR := And.intro hfr FR; clear hfr; refine Sm.out ?_)
      | (refine Two.mk ?_ ?_)
      | (refine Cs.mk ?_; intro hcs; first | exact False.elim hcs | (exfalso; omega) | (refine Sm.out ?_))
      | go_step
      | omega
      | (simp only [maxLen_eq]; omega)
    (refine OutQ.drop _ _ (pm _ _ _) (by simp only [resv, ZK, look, loadv, loadn, loadnm, load1, load1m, hget, ↓reduceIte, Nat.reduceEqDiff, Nat.reduceAdd, Nat.reduceMul, Nat.reduceLeDiff, Nat.reduceLT, reduceCtorEq, TFRgK, FR]) ⟨(by simp only [resv, resA, ZK, look, loadv, loadn, loadnm, load1, load1m, hget, ↓reduceIte, Nat.reduceEqDiff, Nat.reduceAdd, Nat.reduceMul, Nat.reduceLeDiff, Nat.reduceLT, reduceCtorEq, TFRgK, FR]; first | done | rfl), rfl⟩)
  · rw [if_neg h5] at hcd
    exact absurd hcd hc0
end Go.Proofs.Ytbnkmhlnoaebcaa
namespace Go.Proofs.Ytbnkmhlnoaebcaa
open Go
set_option linter.unusedVariables false
set_option linter.unusedSimpArgs false
theorem TFRgL : ((((((type_of% tyc0) ∧ ((type_of% tyc2) ∧ (type_of% zmb2))) ∧ ((type_of% tyc4) ∧ ((type_of% zmb4) ∧ (type_of% tyc23)))) ∧ (((type_of% zmb23) ∧ ((type_of% tyc35) ∧ (type_of% zmb35))) ∧ (((type_of% tyc36) ∧ (type_of% elt36)) ∧ ((type_of% mkz36) ∧ (type_of% mkc36))))) ∧ ((((type_of% apT36) ∧ ((type_of% elk36) ∧ (type_of% zmb36))) ∧ (((type_of% tyc38) ∧ (type_of% foff38_0)) ∧ ((type_of% fpart38_0) ∧ (type_of% foff38_1)))) ∧ (((type_of% fpart38_1) ∧ ((type_of% foff38_2) ∧ (type_of% fpart38_2))) ∧ (((type_of% foff38_3) ∧ (type_of% fpart38_3)) ∧ ((type_of% zmb38) ∧ (type_of% bldT38)))))) ∧ (((((type_of% tyc41) ∧ ((type_of% zmb41) ∧ (type_of% tyc43))) ∧ ((type_of% foff43_0) ∧ ((type_of% fpart43_0) ∧ (type_of% foff43_1)))) ∧ (((type_of% fpart43_1) ∧ ((type_of% fe43) ∧ (type_of% zmb43))) ∧ (((type_of% bldT43) ∧ (type_of% tyc70)) ∧ ((type_of% foff70_0) ∧ (type_of% fpart70_0))))) ∧ ((((type_of% foff70_1) ∧ ((type_of% fpart70_1) ∧ (type_of% zmb70))) ∧ (((type_of% bldT70) ∧ (type_of% Try.underlying0)) ∧ ((type_of% Try.underlying2) ∧ (type_of% Try.underlying4)))) ∧ (((type_of% Try.underlying23) ∧ ((type_of% Try.underlying35) ∧ (type_of% Try.underlying36))) ∧ (((type_of% Try.underlying38) ∧ (type_of% Try.underlying41)) ∧ ((type_of% Try.underlying43) ∧ (type_of% Try.underlying70))))))) :=
  ⟨⟨⟨⟨⟨tyc0, ⟨tyc2, zmb2⟩⟩, ⟨tyc4, ⟨zmb4, tyc23⟩⟩⟩, ⟨⟨zmb23, ⟨tyc35, zmb35⟩⟩, ⟨⟨tyc36, elt36⟩, ⟨mkz36, mkc36⟩⟩⟩⟩, ⟨⟨⟨apT36, ⟨elk36, zmb36⟩⟩, ⟨⟨tyc38, foff38_0⟩, ⟨fpart38_0, foff38_1⟩⟩⟩, ⟨⟨fpart38_1, ⟨foff38_2, fpart38_2⟩⟩, ⟨⟨foff38_3, fpart38_3⟩, ⟨zmb38, bldT38⟩⟩⟩⟩⟩, ⟨⟨⟨⟨tyc41, ⟨zmb41, tyc43⟩⟩, ⟨foff43_0, ⟨fpart43_0, foff43_1⟩⟩⟩, ⟨⟨fpart43_1, ⟨fe43, zmb43⟩⟩, ⟨⟨bldT43, tyc70⟩, ⟨foff70_0, fpart70_0⟩⟩⟩⟩, ⟨⟨⟨foff70_1, ⟨fpart70_1, zmb70⟩⟩, ⟨⟨bldT70, Try.underlying0⟩, ⟨Try.underlying2, Try.underlying4⟩⟩⟩, ⟨⟨Try.underlying23, ⟨Try.underlying35, Try.underlying36⟩⟩, ⟨⟨Try.underlying38, Try.underlying41⟩, ⟨Try.underlying43, Try.underlying70⟩⟩⟩⟩⟩⟩
abbrev Gm (n : Nat) : Type := {p : Nat × Nat // n ≤ p.2 ∧ p.2 ≤ 9223372036854775807}
set_option maxRecDepth 8000 in
set_option maxHeartbeats 2000000 in
theorem refAdd_ok (mb W G k w now g t m : Nat) (E : List Ev) (o : Option (Nat × Nat)) (hg : goP W G) (h : GoOk W G k w) (hn : now ≤ 253402300799) (hE : ∀ e ∈ E, e.at_ ≤ 253402300799) (hl : E.length ≤ 1000) (ho : evOk E o) (hmb : ∀ p ∈ evB E o, p.1 ≠ mb)
    (hG : sG (winP now w k) E < 18446744073709551616) (hT : sT (winP now w k) E < 18446744073709551616) (ht : t < 18446744073709551616) (hc0 : codeB m g t now w k (sT (winP now w k) E) = 0) :
    ACt Try.prog 34 [pt mb 0, iv .i64 (m : Int), cnt g t] ((mb, mM W G now (evL E o)) :: evB E o)
      (fun r F' => ∃ q : Gm (E.length + 1), r = iv .i64 0 ∧ F' = [(mb, mM W G now (ms q.1.1 0 (E.length + 1) q.1.2)), (q.1.1, .cells (evC (E ++ [⟨m, g, t⟩])) (q.1.2 * 3) 70)]) := by
  have cS : ACt Try.prog 18 [pt mb 0] ((mb, mM W G now (evL E o)) :: evB E o) (fun r F' => r = cnt (sG (winP now w k) E) (sT (winP now w k) E) ∧ F' = (mb, mM W G now (evL E o)) :: evB E o) :=
    look_m (rs := []) (refSum_ct W G k w now E hg h hn hE hl hG hT) rfl ho hmb
  obtain ⟨A, hA⟩ : ∃ A, A = sG (winP now w k) E := ⟨_, rfl⟩
  obtain ⟨B, hB⟩ : ∃ B, B = sT (winP now w k) E := ⟨_, rfl⟩
  rw [← hA, ← hB] at cS
  rw [← hB] at hc0
  clear hA hB hG hT
  unfold codeB at hc0
  have h1 : ¬ t < g := by intro h; rw [if_pos h] at hc0; cases hc0
  rw [if_neg h1] at hc0
  have h2 : 0 ≤ (m : Int) ∧ (m : Int) ≤ 253402300799 := by
    apply Classical.byContradiction; intro h; rw [if_pos h] at hc0; cases hc0
  rw [if_neg (by simpa using h2)] at hc0
  have h3 : ¬ (now : Int) < m := by intro h; rw [if_pos h] at hc0; cases hc0
  rw [if_neg h3, Int.toNat_natCast] at hc0
  have h4 : now / w < m / w + k := by
    apply Classical.byContradiction; intro h; rw [if_pos h] at hc0; cases hc0
  rw [if_neg (by simpa using h4)] at hc0
  have h5 : ¬ 9223372036854775807 < B + t := by intro h; rw [if_pos h] at hc0; cases hc0
  clear hc0
  have c1 := Tick_ct m
  rw [show (decide ((m : Int) ≥ 0) && decide ((m : Int) ≤ 253402300799)) = true by simp; omega] at c1
  have c2 := Within_ct W G k w now m hg h hn (by omega)
  rw [decide_eq_true h4] at c2
  have c3 := Over_ct A B g t ht
  rw [decide_eq_false h5] at c3
  have d1 : decide ((g : Int) > (t : Int)) = false := by simp; omega
  have d2 : decide ((m : Int) > (now : Int)) = false := by simp; omega
  clear h4
  have hCl := evC_len E
  obtain ⟨C2, hC2⟩ : ∃ C2, C2 = evC (E ++ [⟨m, g, t⟩]) := ⟨_, rfl⟩
  have s1 : evC E ++ [iv .i64 m, nu g, nu t] = C2 := by rw [hC2, evC_app]; rfl
  rw [← hC2]
  obtain ⟨C, hC⟩ : ∃ C, C = evC E := ⟨_, rfl⟩
  cases o with
  | none =>
    have hE0 : E = [] := ho
    have cS2 : ACt Try.prog 18 [pt mb 0] [(mb, mM W G now nilS)] (fun r F' => r = cnt A B ∧ F' = [(mb, mM W G now nilS)]) := cS
    have hlen : E.length = 0 := by rw [hE0]; rfl
    have s2 : [iv .i64 m, nu g, nu t] = C2 := by rw [← s1, hE0]; rfl
    rw [hlen]
    show ACt Try.prog 34 [pt mb 0, iv .i64 (m : Int), cnt g t] [(mb, mM W G now nilS)] _
    refine ACt.intro Try.func34 rfl (by kernel_rfl) (by simp [Try.ntmps34]) (fun cx => ?_)
    simp only [argE, Try.ntmps34, Try.results34]
    first | (have FRx := FR; clear FRx) | (have FR : ¬ ((1 : Nat) = 0) := Nat.one_ne_zero)
    repeat' first
      | (refine Sm.mk ?_; try simp -dsimp only [ZK, rvc, drawF, headN, pureH, stp, dvc, calleeOf, gcall, pev, eff, newB, okd, og, ogs, ogo, ogp, slv, bltv, opd, litv, strip, one, both, putE, St.put, look, gdOf, gdv, picka, pickv, pickw, binv, bini, bins, binb, binp, bina, shp, eqCells, unv, convv, nilv, faddv, addp, idxav, idxp, load1, load1m, loadn, loadnm, loadv, hget, hset, hrep, hdel, slicev, bnd, shift1, lenv, IntKind.bits, extractv, fieldv, indexv, min2v, max2v, mkiv, cellsA, fillA, buildv, stC, oneC, rowMB, intsA, plN, appE, appZ, appC, appNZ, appNC, VwL, srcC, srcZ, srcM, isBoolT, isPtrT, isSliceT, uOk, Value.oneCell', Nat.reducePow, Int.reducePow, Nat.reduceAdd, Nat.reduceMul, Nat.reduceSub, Nat.reduceLT, Nat.reduceLeDiff, Nat.reduceEqDiff, Nat.reduceBEq, Nat.reduceDiv, Nat.reduceMod, ↓reduceIte, reduceCtorEq, Int.reduceToNat, Int.reduceLT, Int.reduceLE, drawMF, mkS, TFRgL, SeqQ, BlkQ, LoopQ, BodyQ, d1, d2, FR])
      | (first | refine CallV.fn (c1) (Sm.out ?_) | refine ExF.mk (c1) (Sm.out ?_) | refine ExG.mk (fun _ => c1) (Sm.out ?_) | refine ExG.mkJ (fun _ => c1) (Sm.out ?_) | refine ExG.mkI (Ob.out ?_) (fun _ => c1) (Sm.out ?_))
      | (first | refine CallV.fn (c2) (Sm.out ?_) | refine ExF.mk (c2) (Sm.out ?_) | refine ExG.mk (fun _ => c2) (Sm.out ?_) | refine ExG.mkJ (fun _ => c2) (Sm.out ?_) | refine ExG.mkI (Ob.out ?_) (fun _ => c2) (Sm.out ?_))
      | (first | refine CallV.fn (c3) (Sm.out ?_) | refine ExF.mk (c3) (Sm.out ?_) | refine ExG.mk (fun _ => c3) (Sm.out ?_) | refine ExG.mkJ (fun _ => c3) (Sm.out ?_) | refine ExG.mkI (Ob.out ?_) (fun _ => c3) (Sm.out ?_))
      | (refine CallV.updM (cS2) (perm1 (by simp only [hget, hdel, ↓reduceIte, FR, d1, d2]; first | done | rfl)) (Sm.out ?_))
      | ((first | refine ExF.up ?_ (cS2) (Sm.out ?_) | refine ExG.up ?_ (fun _ => cS2) (Sm.out ?_) | refine ExG.upJ ?_ (fun _ => cS2) (Sm.out ?_) | refine ExG.upI ?_ (fun _ => cS2) (Ob.out ?_) (Sm.out ?_)); focus (exact ⟨_, (perm1 (by simp only [hget, hdel, ↓reduceIte, FR, d1, d2]; first | done | rfl))⟩))
      | (refine WP.seq fun K hK => ?_)
      | (refine WP.region (rvc_sound _ _ (Sm.out ?_)))
      | (refine WP.drawMk (ia := 8) (k := 9) mixed (by decide +kernel) (by decide +kernel) (by decide +kernel) (by decide +kernel) (Sm.out ?_))
      | (refine WP.drawK rfl mixed (by decide +kernel) (Sm.out ?_))
      | (refine Ob.mk ?_; focus (first | assumption | omega | decide | trivial | (intro hob; simp only [hob, ZF]; done) | (intros; (repeat' refine And.intro ?_ ?_) <;> first | assumption | omega | trivial | decide) | (intros; simp only [ZE] at *; (repeat' refine And.intro ?_ ?_) <;> first | assumption | omega | trivial)))
      | (refine And.intro (Ob.out ?_) ?_)
      | (refine WP.block ?_)
      | (refine WP.cond rfl (fun hc => ?_) (fun hc => ?_) <;> (try simp only [ZC, reduceCtorEq, ZD] at hc) <;> (try (exact absurd hc (by decide))) <;> (try (exfalso; omega)))
      | ((first | refine WP.skip ?_ | refine WP.exit ?_); simp only [SeqQ, BlkQ, LoopQ, BodyQ, ↓reduceIte, Nat.reduceEqDiff, reduceCtorEq, look, true_and])
      | (refine WP.ret (Sm.out ?_))
      | (first | refine ExG.no (Sm.out ?_) | refine Or.inl (ExG.no (Sm.out ?_)) | refine Or.inl (And.intro (fun hg => absurd hg (by decide)) (ExG.no (Sm.out ?_))))
      | (refine Rt.mk ?_; refine And.intro ?_ ?_ <;> (intro hg; first | exact absurd hg (by decide) | refine Sm.out ?_))
      | (refine Nu.mk ?_; first | (fail_if_success (have := nb1)); intro nb1 | (fail_if_success (have := nb2)); intro nb2 | (fail_if_success (have := nb3)); intro nb3 | (fail_if_success (have := nb4)); intro nb4 | intro nbz)
      | (refine Fr.mk ?_; intro hfr; replace FR := And.intro hfr FR; clear hfr; refine Sm.out ?_)
      | (refine Two.mk ?_ ?_)
      | (refine Cs.mk ?_; intro hcs; first | exact False.elim hcs | (exfalso; omega) | (refine Sm.out ?_))
      | go_step
      | omega
      | (simp only [maxLen_eq]; omega)
    all_goals (refine OutQ.drop _ _ (perm2 (by simp only [hget, hdel, ↓reduceIte, if_true, if_false, FR, s2]; first | done | rfl) (by simp only [hget, hdel, ↓reduceIte, if_true, if_false, FR, s2]; first | done | rfl)) (by simp only [resv, ZK, look, loadv, loadn, loadnm, load1, load1m, hget, ↓reduceIte, Nat.reduceEqDiff, Nat.reduceAdd, Nat.reduceMul, Nat.reduceLeDiff, Nat.reduceLT, reduceCtorEq, TFRgL, FR, s2]) ⟨⟨(nb3, nb4), by simp only; omega⟩, (by simp only [resv, resA, ZK, look, loadv, loadn, loadnm, load1, load1m, hget, ↓reduceIte, Nat.reduceEqDiff, Nat.reduceAdd, Nat.reduceMul, Nat.reduceLeDiff, Nat.reduceLT, reduceCtorEq, TFRgL, FR, s2]; first | done | rfl), rfl⟩)
  | some p =>
    obtain ⟨b, cap⟩ := p
    have hbm : b ≠ mb := hmb (b, .cells (evC E) (cap * 3) 70) (by simp [evB])
    have hbm2 : mb ≠ b := Ne.symm hbm
    obtain ⟨ho1, ho2⟩ := ho
    have cS2 : ACt Try.prog 18 [pt mb 0] [(mb, mM W G now (ms b 0 E.length cap)), (b, .cells C (cap * 3) 70)] (fun r F' => r = cnt A B ∧ F' = [(mb, mM W G now (ms b 0 E.length cap)), (b, .cells C (cap * 3) 70)]) := by rw [hC]; exact cS
    rw [← hC] at s1 hCl
    show ACt Try.prog 34 [pt mb 0, iv .i64 (m : Int), cnt g t] [(mb, mM W G now (ms b 0 E.length cap)), (b, .cells (evC E) (cap * 3) 70)] _
    rw [← hC]
    refine ACt.intro Try.func34 rfl (by kernel_rfl) (by simp [Try.ntmps34]) (fun cx => ?_)
    simp only [argE, Try.ntmps34, Try.results34]
    first | (have FRx := FR; clear FRx) | (have FR : ¬ ((1 : Nat) = 0) := Nat.one_ne_zero)
    repeat' first
      | (refine Sm.mk ?_; try simp -dsimp only [ZK, rvc, drawF, headN, pureH, stp, dvc, calleeOf, gcall, pev, eff, newB, okd, og, ogs, ogo, ogp, slv, bltv, opd, litv, strip, one, both, putE, St.put, look, gdOf, gdv, picka, pickv, pickw, binv, bini, bins, binb, binp, bina, shp, eqCells, unv, convv, nilv, faddv, addp, idxav, idxp, load1, load1m, loadn, loadnm, loadv, hget, hset, hrep, hdel, slicev, bnd, shift1, lenv, IntKind.bits, extractv, fieldv, indexv, min2v, max2v, mkiv, cellsA, fillA, buildv, stC, oneC, rowMB, intsA, plN, appE, appZ, appC, appNZ, appNC, VwL, srcC, srcZ, srcM, isBoolT, isPtrT, isSliceT, uOk, Value.oneCell', Nat.reducePow, Int.reducePow, Nat.reduceAdd, Nat.reduceMul, Nat.reduceSub, Nat.reduceLT, Nat.reduceLeDiff, Nat.reduceEqDiff, Nat.reduceBEq, Nat.reduceDiv, Nat.reduceMod, ↓reduceIte, reduceCtorEq, Int.reduceToNat, Int.reduceLT, Int.reduceLE, drawMF, mkS, TFRgL, SeqQ, BlkQ, LoopQ, BodyQ, d1, d2, hbm, hbm2, hCl, s1, FR])
      | (first | refine CallV.fn (c1) (Sm.out ?_) | refine ExF.mk (c1) (Sm.out ?_) | refine ExG.mk (fun _ => c1) (Sm.out ?_) | refine ExG.mkJ (fun _ => c1) (Sm.out ?_) | refine ExG.mkI (Ob.out ?_) (fun _ => c1) (Sm.out ?_))
      | (first | refine CallV.fn (c2) (Sm.out ?_) | refine ExF.mk (c2) (Sm.out ?_) | refine ExG.mk (fun _ => c2) (Sm.out ?_) | refine ExG.mkJ (fun _ => c2) (Sm.out ?_) | refine ExG.mkI (Ob.out ?_) (fun _ => c2) (Sm.out ?_))
      | (first | refine CallV.fn (c3) (Sm.out ?_) | refine ExF.mk (c3) (Sm.out ?_) | refine ExG.mk (fun _ => c3) (Sm.out ?_) | refine ExG.mkJ (fun _ => c3) (Sm.out ?_) | refine ExG.mkI (Ob.out ?_) (fun _ => c3) (Sm.out ?_))
      | (refine CallV.updM (cS2) (perm2 (by simp only [hget, hdel, ↓reduceIte, FR, d1, d2, hbm, hbm2, hCl, s1]; first | done | rfl) (by simp only [hget, hdel, ↓reduceIte, FR, d1, d2, hbm, hbm2, hCl, s1]; first | done | rfl)) (Sm.out ?_))
      | ((first | refine ExF.up ?_ (cS2) (Sm.out ?_) | refine ExG.up ?_ (fun _ => cS2) (Sm.out ?_) | refine ExG.upJ ?_ (fun _ => cS2) (Sm.out ?_) | refine ExG.upI ?_ (fun _ => cS2) (Ob.out ?_) (Sm.out ?_)); focus (exact ⟨_, (perm2 (by simp only [hget, hdel, ↓reduceIte, FR, d1, d2, hbm, hbm2, hCl, s1]; first | done | rfl) (by simp only [hget, hdel, ↓reduceIte, FR, d1, d2, hbm, hbm2, hCl, s1]; first | done | rfl))⟩))
      | (refine WP.seq fun K hK => ?_)
      | (refine WP.region (rvc_sound _ _ (Sm.out ?_)))
      | (refine WP.drawMk (ia := 8) (k := 9) mixed (by decide +kernel) (by decide +kernel) (by decide +kernel) (by decide +kernel) (Sm.out ?_))
      | (refine WP.drawK rfl mixed (by decide +kernel) (Sm.out ?_))
      | (refine Ob.mk ?_; focus (first | assumption | omega | decide | trivial | (intro hob; simp only [hob, ZF]; done) | (intros; (repeat' refine And.intro ?_ ?_) <;> first | assumption | omega | trivial | decide) | (intros; simp only [ZE] at *; (repeat' refine And.intro ?_ ?_) <;> first | assumption | omega | trivial)))
      | (refine And.intro (Ob.out ?_) ?_)
      | (refine WP.block ?_)
      | (refine WP.cond rfl (fun hc => ?_) (fun hc => ?_) <;> (try simp only [ZC, reduceCtorEq, ZD] at hc) <;> (try (exact absurd hc (by decide))) <;> (try (exfalso; omega)))
      | ((first | refine WP.skip ?_ | refine WP.exit ?_); simp only [SeqQ, BlkQ, LoopQ, BodyQ, ↓reduceIte, Nat.reduceEqDiff, reduceCtorEq, look, true_and])
      | (refine WP.ret (Sm.out ?_))
      | (first | refine ExG.no (Sm.out ?_) | refine Or.inl (ExG.no (Sm.out ?_)) | refine Or.inl (And.intro (fun hg => absurd hg (by decide)) (ExG.no (Sm.out ?_))))
      | (refine Rt.mk ?_; refine And.intro ?_ ?_ <;> (intro hg; first | exact absurd hg (by decide) | refine Sm.out ?_))
      | (refine Nu.mk ?_; first | (fail_if_success (have := nb1)); intro nb1 | (fail_if_success (have := nb2)); intro nb2 | (fail_if_success (have := nb3)); intro nb3 | (fail_if_success (have := nb4)); intro nb4 | intro nbz)
      | (refine Fr.mk ?_; intro hfr; replace FR := And.intro hfr FR; clear hfr; refine Sm.out ?_)
      | (refine Two.mk ?_ ?_)
      | (refine Cs.mk ?_; intro hcs; first | exact False.elim hcs | (exfalso; omega) | (refine Sm.out ?_))
      | go_step
      | omega
      | (simp only [maxLen_eq]; omega)
    all_goals (refine OutQ.drop _ _ (perm2 (by simp only [hget, hdel, ↓reduceIte, if_true, if_false, FR, hbm, hbm2]; first | done | rfl) (by simp only [hget, hdel, ↓reduceIte, if_true, if_false, FR, hbm, hbm2]; first | done | rfl)) (by simp only [resv, ZK, look, loadv, loadn, loadnm, load1, load1m, hget, ↓reduceIte, Nat.reduceEqDiff, Nat.reduceAdd, Nat.reduceMul, Nat.reduceLeDiff, Nat.reduceLT, reduceCtorEq, TFRgL, FR, hbm, hbm2]) ⟨⟨(nb3, nb4), by simp only; omega⟩, (by simp only [resv, resA, ZK, look, loadv, loadn, loadnm, load1, load1m, hget, ↓reduceIte, Nat.reduceEqDiff, Nat.reduceAdd, Nat.reduceMul, Nat.reduceLeDiff, Nat.reduceLT, reduceCtorEq, TFRgL, FR, hbm, hbm2]; first | done | rfl), rfl⟩)
end Go.Proofs.Ytbnkmhlnoaebcaa
namespace Go.Proofs.Ytbnkmhlnoaebcaa
open Go
set_option linter.unusedVariables false
set_option linter.unusedSimpArgs false
/-- an event that lies in the window that ends at ne, at the j-th place -/
def slP (ne w k j : Nat) : Nat → Bool := fun a => decide (ne < a / w + k) && decide (a / w % k = j)
def slG (ne w k : Nat) (E : List Ev) : Nat → Nat := fun j => sG (slP ne w k j) E
def slT (ne w k : Nat) (E : List Ev) : Nat → Nat := fun j => sT (slP ne w k j) E
theorem sG_congr {p q : Nat → Bool} : ∀ {E : List Ev}, (∀ e ∈ E, p e.at_ = q e.at_) → sG p E = sG q E
  | [], _ => rfl
  | e :: r, h => by rw [sG, sG, h e (List.mem_cons_self ..), sG_congr fun x hx => h x (List.mem_cons_of_mem _ hx)]
theorem sT_congr {p q : Nat → Bool} : ∀ {E : List Ev}, (∀ e ∈ E, p e.at_ = q e.at_) → sT p E = sT q E
  | [], _ => rfl
  | e :: r, h => by rw [sT, sT, h e (List.mem_cons_self ..), sT_congr fun x hx => h x (List.mem_cons_of_mem _ hx)]
theorem sG_le_sT {p : Nat → Bool} : ∀ {E : List Ev}, (∀ e ∈ E, e.g ≤ e.t) → sG p E ≤ sT p E
  | [], _ => Nat.le_refl _
  | e :: r, h => by
    have h1 := h e (List.mem_cons_self ..)
    have h2 := sG_le_sT (p := p) fun x hx => h x (List.mem_cons_of_mem _ hx)
    rw [sG, sT]; split <;> omega
theorem sT_none {p : Nat → Bool} : ∀ {E : List Ev}, (∀ e ∈ E, p e.at_ = false) → sT p E = 0
  | [], _ => rfl
  | e :: r, h => by rw [sT, h e (List.mem_cons_self ..), sT_none fun x hx => h x (List.mem_cons_of_mem _ hx)]; rfl
theorem sG_none {p : Nat → Bool} : ∀ {E : List Ev}, (∀ e ∈ E, p e.at_ = false) → sG p E = 0
  | [], _ => rfl
  | e :: r, h => by rw [sG, h e (List.mem_cons_self ..), sG_none fun x hx => h x (List.mem_cons_of_mem _ hx)]; rfl
theorem sumN_ite (x c : Nat) : ∀ k, sumN (fun j => if c = j then x else 0) k = if c < k then x else 0
  | 0 => rfl
  | k + 1 => by
    rw [sumN, sumN_ite x c k]
    by_cases h1 : c < k
    · rw [if_pos h1, if_neg (show ¬ c = k by omega), if_pos (by omega)]; omega
    · rw [if_neg h1]
      by_cases h2 : c = k
      · rw [if_pos h2, if_pos (by omega)]; omega
      · rw [if_neg h2, if_neg (by omega)]
/-- All places together are the window. -/
theorem slG_sum (ne w k : Nat) (hk : 1 ≤ k) : ∀ E : List Ev, sumN (slG ne w k E) k = sG (fun a => decide (ne < a / w + k)) E
  | [] => by
    show sumN (fun _ => 0) k = 0
    have := sumN_ite 0 0 k
    simp only [ite_self] at this
    exact this
  | e :: r => by
    have ih := slG_sum ne w k hk r
    have e1 : slG ne w k (e :: r) = fun j => (if slP ne w k j e.at_ then e.g else 0) + slG ne w k r j := rfl
    rw [e1, sumN_add, ih, sG]
    congr 1
    by_cases hw : ne < e.at_ / w + k
    · have e2 : (fun j => if slP ne w k j e.at_ then e.g else 0) = fun j => if e.at_ / w % k = j then e.g else 0 := by
        funext j; unfold slP; simp [hw]
      rw [e2, sumN_ite, if_pos (Nat.mod_lt _ (by omega)), if_pos (by simpa using hw)]
    · have e2 : (fun j => if slP ne w k j e.at_ then e.g else 0) = fun _ => 0 := by
        funext j; unfold slP; simp [hw]
      have := sumN_ite 0 0 k
      simp only [ite_self] at this
      rw [e2, this, if_neg (by simpa using hw)]
theorem slT_sum (ne w k : Nat) (hk : 1 ≤ k) : ∀ E : List Ev, sumN (slT ne w k E) k = sT (fun a => decide (ne < a / w + k)) E
  | [] => by
    show sumN (fun _ => 0) k = 0
    have := sumN_ite 0 0 k
    simp only [ite_self] at this
    exact this
  | e :: r => by
    have ih := slT_sum ne w k hk r
    have e1 : slT ne w k (e :: r) = fun j => (if slP ne w k j e.at_ then e.t else 0) + slT ne w k r j := rfl
    rw [e1, sumN_add, ih, sT]
    congr 1
    by_cases hw : ne < e.at_ / w + k
    · have e2 : (fun j => if slP ne w k j e.at_ then e.t else 0) = fun j => if e.at_ / w % k = j then e.t else 0 := by
        funext j; unfold slP; simp [hw]
      rw [e2, sumN_ite, if_pos (Nat.mod_lt _ (by omega)), if_pos (by simpa using hw)]
    · have e2 : (fun j => if slP ne w k j e.at_ then e.t else 0) = fun _ => 0 := by
        funext j; unfold slP; simp [hw]
      have := sumN_ite 0 0 k
      simp only [ite_self] at this
      rw [e2, this, if_neg (by simpa using hw)]
/-! ### On the way -/
open Classical in
theorem clrN_at (k : Nat) (G : Nat → Nat) (a : Nat) : ∀ (c j : Nat), clrN k G a c j = if ∃ n, a ≤ n ∧ n < a + c ∧ n % k = j then 0 else G j
  | 0, j => by rw [if_neg (by rintro ⟨n, h1, h2, _⟩; omega)]; rfl
  | c + 1, j => by
    rw [clrN]
    unfold upd
    rw [clrN_at k G a c j]
    by_cases h1 : j = (a + c) % k
    · rw [if_pos h1, if_pos ⟨a + c, by omega, by omega, h1.symm⟩]
    · rw [if_neg h1]
      by_cases h2 : ∃ n, a ≤ n ∧ n < a + c ∧ n % k = j
      · obtain ⟨n, g1, g2, g3⟩ := h2
        rw [if_pos ⟨n, g1, g2, g3⟩, if_pos ⟨n, g1, by omega, g3⟩]
      · rw [if_neg h2, if_neg]
        rintro ⟨n, g1, g2, g3⟩
        by_cases hn : n = a + c
        · subst hn; exact h1 g3.symm
        · exact h2 ⟨n, g1, by omega, g3⟩
/-- A number of a class in k numbers on end. -/
theorem class_in {k q lo : Nat} (hk : 1 ≤ k) : ∃ n, lo ≤ n ∧ n < lo + k ∧ n % k = q % k := by
  refine ⟨lo + (q + k - lo % k) % k, by omega, ?_, ?_⟩
  · have := Nat.mod_lt (q + k - lo % k) (show k > 0 by omega); omega
  · have hl := Nat.mod_lt lo (show k > 0 by omega)
    have h1 := Nat.div_add_mod lo k
    rw [Nat.add_mod, Nat.mod_mod, ← Nat.add_mod]
    have : lo + (q + k - lo % k) = q + k * (lo / k + 1) := by rw [Nat.mul_add]; omega
    rw [this, Nat.add_mul_mod_self_left]
theorem moved {ne tt k q j : Nat} (hk : 1 ≤ k) (hq : q ≤ ne) (hne : ne ≤ tt) (hj : q % k = j) :
    (ne < q + k ∧ ¬ ∃ n, max (ne + 1) (tt + 1 - k) ≤ n ∧ n < max (ne + 1) (tt + 1 - k) + (tt + 1 - max (ne + 1) (tt + 1 - k)) ∧ n % k = j) ↔ tt < q + k := by
  constructor
  · rintro ⟨h1, h2⟩
    apply Classical.byContradiction; intro h3
    apply h2
    by_cases hs : ne + 1 ≤ tt + 1 - k
    · obtain ⟨n, g1, g2, g3⟩ := class_in (k := k) (q := q) (lo := tt + 1 - k) hk
      exact ⟨n, by omega, by omega, by rw [g3, hj]⟩
    · exact ⟨q + k, by omega, by omega, by rw [Nat.add_mod_right, hj]⟩
  · intro h1
    refine ⟨by omega, ?_⟩
    rintro ⟨n, g1, g2, g3⟩
    have hnq : n % k = q % k := by rw [g3, hj]
    have hlt : q < n := by omega
    have hd1 := Nat.div_add_mod n k
    have hd2 := Nat.div_add_mod q k
    have : q / k < n / k := by
      apply Classical.byContradiction; intro hn
      have := Nat.mul_le_mul_left k (show n / k ≤ q / k by omega)
      omega
    have := Nat.mul_le_mul_left k (show q / k + 1 ≤ n / k by omega)
    rw [Nat.mul_add] at this
    omega
theorem move_slG {ne tt w k : Nat} {E : List Ev} (hk : 1 ≤ k) (hne : ne ≤ tt) (hE : ∀ e ∈ E, e.at_ / w ≤ ne) :
    clrN k (slG ne w k E) (max (ne + 1) (tt + 1 - k)) (tt + 1 - max (ne + 1) (tt + 1 - k)) = slG tt w k E := by
  funext j
  rw [clrN_at]
  by_cases hc : ∃ n, max (ne + 1) (tt + 1 - k) ≤ n ∧ n < max (ne + 1) (tt + 1 - k) + (tt + 1 - max (ne + 1) (tt + 1 - k)) ∧ n % k = j
  · rw [if_pos hc]
    refine (sG_none fun e he => ?_).symm
    unfold slP
    by_cases hj : e.at_ / w % k = j
    · have : ¬ tt < e.at_ / w + k := fun h => ((moved hk (hE e he) hne hj).2 h).2 hc
      simp; omega
    · simp [hj]
  · rw [if_neg hc]
    refine sG_congr fun e he => ?_
    unfold slP
    by_cases hj : e.at_ / w % k = j
    · have := moved hk (hE e he) hne hj
      simp only [hc, not_false_eq_true, and_true] at this
      simp only [hj, decide_true, Bool.and_true, decide_eq_decide]
      exact this
    · simp [hj]
theorem move_slT {ne tt w k : Nat} {E : List Ev} (hk : 1 ≤ k) (hne : ne ≤ tt) (hE : ∀ e ∈ E, e.at_ / w ≤ ne) :
    clrN k (slT ne w k E) (max (ne + 1) (tt + 1 - k)) (tt + 1 - max (ne + 1) (tt + 1 - k)) = slT tt w k E := by
  funext j
  rw [clrN_at]
  by_cases hc : ∃ n, max (ne + 1) (tt + 1 - k) ≤ n ∧ n < max (ne + 1) (tt + 1 - k) + (tt + 1 - max (ne + 1) (tt + 1 - k)) ∧ n % k = j
  · rw [if_pos hc]
    refine (sT_none fun e he => ?_).symm
    unfold slP
    by_cases hj : e.at_ / w % k = j
    · have : ¬ tt < e.at_ / w + k := fun h => ((moved hk (hE e he) hne hj).2 h).2 hc
      simp; omega
    · simp [hj]
  · rw [if_neg hc]
    refine sT_congr fun e he => ?_
    unfold slP
    by_cases hj : e.at_ / w % k = j
    · have := moved hk (hE e he) hne hj
      simp only [hc, not_false_eq_true, and_true] at this
      simp only [hj, decide_true, Bool.and_true, decide_eq_decide]
      exact this
    · simp [hj]
/-! ### One more -/
theorem add_slG {ne w k m g t : Nat} {E : List Ev} (hw : ne < m / w + k) : slG ne w k (E ++ [⟨m, g, t⟩]) = upd (slG ne w k E) (m / w % k) (slG ne w k E (m / w % k) + g) := by
  funext j
  unfold upd slG
  rw [sG_app]
  simp only [sG, Nat.add_zero]
  by_cases hj : j = m / w % k
  · subst hj; simp [slP, hw]
  · rw [if_neg hj]; simp [slP, Ne.symm hj]
theorem add_slT {ne w k m g t : Nat} {E : List Ev} (hw : ne < m / w + k) : slT ne w k (E ++ [⟨m, g, t⟩]) = upd (slT ne w k E) (m / w % k) (slT ne w k E (m / w % k) + t) := by
  funext j
  unfold upd slT
  rw [sT_app]
  simp only [sT, Nat.add_zero]
  by_cases hj : j = m / w % k
  · subst hj; simp [slP, hw]
  · rw [if_neg hj]; simp [slP, Ne.symm hj]
/-! ### The rows -/
theorem pB_slP {ne w k i : Nat} {E : List Ev} (hk : 1 ≤ k) (hi : i < k) (hE : ∀ e ∈ E, e.at_ / w ≤ ne) (hge : k ≤ ne + 1 + i) : ∀ e ∈ E, pB ((ne : Int) - k + 1 + i) w e.at_ = slP ne w k ((ne + 1 + i - k) % k) e.at_ := by
  intro e he
  have hq := hE e he
  unfold pB slP
  generalize e.at_ / w = q at hq
  rw [Bool.eq_iff_iff]
  simp only [Bool.and_eq_true, decide_eq_true_eq]
  constructor
  · rintro ⟨_, h2⟩
    have : q = ne + 1 + i - k := by omega
    exact ⟨by omega, by rw [this]⟩
  · rintro ⟨h1, h2⟩
    refine ⟨by omega, ?_⟩
    have h3 : q = ne + 1 + i - k := by
      apply Classical.byContradiction; intro hn
      have d1 := Nat.div_add_mod q k
      have d2 := Nat.div_add_mod (ne + 1 + i - k) k
      rcases Nat.lt_or_gt_of_ne hn with h | h
      · have : q / k < (ne + 1 + i - k) / k := by
          apply Classical.byContradiction; intro hx
          have := Nat.mul_le_mul_left k (show (ne + 1 + i - k) / k ≤ q / k by omega)
          omega
        have := Nat.mul_le_mul_left k (show q / k + 1 ≤ (ne + 1 + i - k) / k by omega)
        rw [Nat.mul_add] at this
        omega
      · have : (ne + 1 + i - k) / k < q / k := by
          apply Classical.byContradiction; intro hx
          have := Nat.mul_le_mul_left k (show q / k ≤ (ne + 1 + i - k) / k by omega)
          omega
        have := Nat.mul_le_mul_left k (show (ne + 1 + i - k) / k + 1 ≤ q / k by omega)
        rw [Nat.mul_add] at this
        omega
    omega
theorem rowG {ne w k : Nat} {E : List Ev} (hk : 1 ≤ k) (hE : ∀ e ∈ E, e.at_ / w ≤ ne) : ∀ i, i < k → bkA (slG ne w k E) k ne i = sG (pB ((ne : Int) - k + 1 + i) w) E := by
  intro i hi
  unfold bkA
  by_cases hge : k ≤ ne + 1 + i
  · rw [if_pos hge]
    exact (sG_congr (pB_slP hk hi hE hge)).symm
  · rw [if_neg hge]
    refine (sG_none fun e he => ?_).symm
    unfold pB
    simp; omega
theorem rowT {ne w k : Nat} {E : List Ev} (hk : 1 ≤ k) (hE : ∀ e ∈ E, e.at_ / w ≤ ne) : ∀ i, i < k → bkA (slT ne w k E) k ne i = sT (pB ((ne : Int) - k + 1 + i) w) E := by
  intro i hi
  unfold bkA
  by_cases hge : k ≤ ne + 1 + i
  · rw [if_pos hge]
    exact (sT_congr (pB_slP hk hi hE hge)).symm
  · rw [if_neg hge]
    refine (sT_none fun e he => ?_).symm
    unfold pB
    simp; omega
end Go.Proofs.Ytbnkmhlnoaebcaa
namespace Go.Proofs.Ytbnkmhlnoaebcaa
open Go
set_option linter.unusedVariables false
set_option linter.unusedSimpArgs false
theorem TFRgO : (((((((type_of% tyc0) ∧ (type_of% tyc2)) ∧ ((type_of% zmb2) ∧ (type_of% tyc3))) ∧ (((type_of% zmb3) ∧ (type_of% tyc4)) ∧ ((type_of% zmb4) ∧ (type_of% tyc23)))) ∧ ((((type_of% zmb23) ∧ (type_of% tyc26)) ∧ ((type_of% mth26_30) ∧ (type_of% mth26_39))) ∧ (((type_of% mth26_38) ∧ (type_of% con26)) ∧ ((type_of% zmb26) ∧ ((type_of% tyc35) ∧ (type_of% zmb35)))))) ∧ (((((type_of% tyc36) ∧ (type_of% elt36)) ∧ ((type_of% mkz36) ∧ (type_of% mkc36))) ∧ (((type_of% apT36) ∧ (type_of% elk36)) ∧ ((type_of% zmb36) ∧ ((type_of% tyc38) ∧ (type_of% foff38_0))))) ∧ ((((type_of% fpart38_0) ∧ (type_of% foff38_1)) ∧ ((type_of% fpart38_1) ∧ (type_of% foff38_2))) ∧ (((type_of% fpart38_2) ∧ (type_of% foff38_3)) ∧ ((type_of% fpart38_3) ∧ ((type_of% zmb38) ∧ (type_of% bldT38))))))) ∧ ((((((type_of% tyc43) ∧ (type_of% foff43_0)) ∧ ((type_of% fpart43_0) ∧ (type_of% foff43_1))) ∧ (((type_of% fpart43_1) ∧ (type_of% fe43)) ∧ ((type_of% zmb43) ∧ ((type_of% bldT43) ∧ (type_of% tyc45))))) ∧ ((((type_of% foff45_0) ∧ (type_of% fpart45_0)) ∧ ((type_of% foff45_1) ∧ (type_of% fpart45_1))) ∧ (((type_of% foff45_2) ∧ (type_of% fpart45_2)) ∧ ((type_of% zmb45) ∧ ((type_of% bldT45) ∧ (type_of% tyc70)))))) ∧ (((((type_of% foff70_0) ∧ (type_of% fpart70_0)) ∧ ((type_of% foff70_1) ∧ (type_of% fpart70_1))) ∧ (((type_of% zmb70) ∧ (type_of% bldT70)) ∧ ((type_of% Try.underlying0) ∧ ((type_of% Try.underlying2) ∧ (type_of% Try.underlying3))))) ∧ ((((type_of% Try.underlying4) ∧ (type_of% Try.underlying23)) ∧ ((type_of% Try.underlying26) ∧ (type_of% Try.underlying35))) ∧ (((type_of% Try.underlying36) ∧ (type_of% Try.underlying38)) ∧ ((type_of% Try.underlying43) ∧ ((type_of% Try.underlying45) ∧ (type_of% Try.underlying70)))))))) :=
  ⟨⟨⟨⟨⟨⟨tyc0, tyc2⟩, ⟨zmb2, tyc3⟩⟩, ⟨⟨zmb3, tyc4⟩, ⟨zmb4, tyc23⟩⟩⟩, ⟨⟨⟨zmb23, tyc26⟩, ⟨mth26_30, mth26_39⟩⟩, ⟨⟨mth26_38, con26⟩, ⟨zmb26, ⟨tyc35, zmb35⟩⟩⟩⟩⟩, ⟨⟨⟨⟨tyc36, elt36⟩, ⟨mkz36, mkc36⟩⟩, ⟨⟨apT36, elk36⟩, ⟨zmb36, ⟨tyc38, foff38_0⟩⟩⟩⟩, ⟨⟨⟨fpart38_0, foff38_1⟩, ⟨fpart38_1, foff38_2⟩⟩, ⟨⟨fpart38_2, foff38_3⟩, ⟨fpart38_3, ⟨zmb38, bldT38⟩⟩⟩⟩⟩⟩, ⟨⟨⟨⟨⟨tyc43, foff43_0⟩, ⟨fpart43_0, foff43_1⟩⟩, ⟨⟨fpart43_1, fe43⟩, ⟨zmb43, ⟨bldT43, tyc45⟩⟩⟩⟩, ⟨⟨⟨foff45_0, fpart45_0⟩, ⟨foff45_1, fpart45_1⟩⟩, ⟨⟨foff45_2, fpart45_2⟩, ⟨zmb45, ⟨bldT45, tyc70⟩⟩⟩⟩⟩, ⟨⟨⟨⟨foff70_0, fpart70_0⟩, ⟨foff70_1, fpart70_1⟩⟩, ⟨⟨zmb70, bldT70⟩, ⟨Try.underlying0, ⟨Try.underlying2, Try.underlying3⟩⟩⟩⟩, ⟨⟨⟨Try.underlying4, Try.underlying23⟩, ⟨Try.underlying26, Try.underlying35⟩⟩, ⟨⟨Try.underlying36, Try.underlying38⟩, ⟨Try.underlying43, ⟨Try.underlying45, Try.underlying70⟩⟩⟩⟩⟩⟩⟩
theorem pmv {α : Type} (x y z v : α) (T : List α) : (z :: x :: y :: v :: T).Perm (([x, y, z] ++ T) ++ [v]) :=
  (List.Perm.swap x z _).trans (.cons x ((List.Perm.swap y z _).trans (.cons y (.cons z (List.perm_append_comm (l₁ := [v]))))))
theorem pmw {α : Type} (x y z v : α) (T : List α) : (x :: y :: v :: z :: T).Perm ((z :: T) ++ [x, y, v]) :=
  List.perm_append_comm (l₁ := [x, y, v])
theorem pmx {α : Type} (x y z v : α) (T : List α) : (z :: (T ++ [x, y, v])).Perm (([x, y, z] ++ T) ++ [v]) := by
  have h : (z :: (T ++ [x, y, v])).Perm (x :: y :: v :: z :: T) := (pmw x y z v T).symm
  refine h.trans (.cons x (.cons y ?_))
  exact (List.Perm.swap z v _).trans (.cons z (List.perm_append_comm (l₁ := [v])))
theorem pmu {α : Type} (x y z v : α) (T : List α) : (v :: x :: y :: z :: T).Perm (([x, y, z] ++ T) ++ [v]) :=
  List.perm_append_comm (l₁ := [v])
abbrev actA (kind n : Int) (gd tt : Nat) : AV := .agg [iv .i64 kind, iv .i64 n, nu gd, nu tt]
set_option maxRecDepth 8000 in
set_option maxHeartbeats 2000000 in
theorem does_move (rb lb mb gd tt : Nat) (n c : Int) (R1 R2 L1 L2 M1 M2 : MB) (T : Hp) (hne : (rb ≠ lb ∧ lb ≠ rb) ∧ (rb ≠ mb ∧ mb ≠ rb) ∧ lb ≠ mb ∧ mb ≠ lb)
    (cA : ACt Try.prog 20 [pt rb 0, iv .i64 n] [(rb, R1), (lb, L1)] (fun r F' => r = iv .i64 c ∧ F' = [(rb, R2), (lb, L2)]))
    (cB : ACt Try.prog 33 [pt mb 0, iv .i64 n] [(mb, M1)] (fun r F' => r = iv .i64 c ∧ F' = [(mb, M2)])) :
    ACt Try.prog 16 [pt rb 0, pt mb 0, actA 1 n gd tt] ([(rb, R1), (lb, L1), (mb, M1)] ++ T) (fun r F' => r = bv true ∧ F' = [(rb, R2), (lb, L2), (mb, M2)] ++ T) := by
  refine ACt.intro Try.func16 rfl (by kernel_rfl) (by simp [Try.ntmps16]) (fun cx => ?_)
  simp only [argE, Try.ntmps16, Try.results16, List.cons_append, List.nil_append]
  have z1 : ((1 : Int) == 1) = true := by decide
  have z2 : (c == c) = true := by simp
  first | (have FRx := FR; clear FRx) | (have FR : ¬ ((1 : Nat) = 0) := Nat.one_ne_zero)
  repeat' first
    | (refine Sm.mk ?_; try simp -dsimp only [ZK, rvc, drawF, headN, pureH, stp, dvc, calleeOf, gcall, pev, eff, newB, okd, og, ogs, ogo, ogp, slv, bltv, opd, litv, strip, one, both, putE, St.put, look, gdOf, gdv, picka, pickv, pickw, binv, bini, bins, binb, binp, bina, shp, eqCells, unv, convv, nilv, faddv, addp, idxav, idxp, load1, load1m, loadn, loadnm, loadv, hget, hset, hrep, hdel, slicev, bnd, shift1, lenv, IntKind.bits, extractv, fieldv, indexv, min2v, max2v, mkiv, cellsA, fillA, buildv, stC, oneC, rowMB, intsA, plN, appE, appZ, appC, appNZ, appNC, VwL, srcC, srcZ, srcM, isBoolT, isPtrT, isSliceT, uOk, Value.oneCell', Nat.reducePow, Int.reducePow, Nat.reduceAdd, Nat.reduceMul, Nat.reduceSub, Nat.reduceLT, Nat.reduceLeDiff, Nat.reduceEqDiff, Nat.reduceBEq, Nat.reduceDiv, Nat.reduceMod, ↓reduceIte, reduceCtorEq, Int.reduceToNat, Int.reduceLT, Int.reduceLE, drawCF, xvc, xst, splitH, calleeV, putE, hdel, TFRgO, SeqQ, BlkQ, LoopQ, BodyQ, z1, z2, hne, FR])
    | (refine CallV.updM (cA) (perm2 (by simp only [hget, hdel, ↓reduceIte, FR, z1, z2, hne]; first | done | rfl) (by simp only [hget, hdel, ↓reduceIte, FR, z1, z2, hne]; first | done | rfl)) (Sm.out ?_))
    | (refine ExW.mk (perm2 (by simp only [hget, hdel, ↓reduceIte, FR, z1, z2, hne]; first | done | rfl) (by simp only [hget, hdel, ↓reduceIte, FR, z1, z2, hne]; first | done | rfl)) (cA) rfl (Sm.out ?_))
    | (refine CallV.updM (cB) (perm1 (by simp only [hget, hdel, ↓reduceIte, FR, z1, z2, hne]; first | done | rfl)) (Sm.out ?_))
    | (refine ExW.mk (perm1 (by simp only [hget, hdel, ↓reduceIte, FR, z1, z2, hne]; first | done | rfl)) (cB) rfl (Sm.out ?_))
    | (refine WP.seq fun K hK => ?_)
    | (refine WP.region (rvc_sound _ _ (Sm.out ?_)))
    | (refine WP.drawC (c := 7) (ws := [3]) (ls := []) (bs := [rb, lb]) mixed (by decide +kernel) (by decide +kernel) (by decide +kernel) (Sm.out ?_))
    | (refine WP.drawC (c := 11) (ws := [5]) (ls := []) (bs := [rb, lb]) mixed (by decide +kernel) (by decide +kernel) (by decide +kernel) (Sm.out ?_))
    | (refine WP.drawK rfl mixed (by decide +kernel) (Sm.out ?_))
    | (refine Ob.mk ?_; focus (first | assumption | omega | decide | trivial | (intro hob; simp only [hob, ZF]; done) | (intros; (repeat' refine And.intro ?_ ?_) <;> first | assumption | omega | trivial | decide) | (intros; simp only [ZE] at *; (repeat' refine And.intro ?_ ?_) <;> first | assumption | omega | trivial)))
    | (refine And.intro (Ob.out ?_) ?_)
    | (refine WP.block ?_)
    | (refine WP.cond rfl (fun hc => ?_) (fun hc => ?_) <;> (try simp only [ZC, reduceCtorEq, ZD] at hc) <;> (try (exact absurd hc (by decide))) <;> (try (exfalso; omega)))
    | ((first | refine WP.skip ?_ | refine WP.exit ?_); simp only [SeqQ, BlkQ, LoopQ, BodyQ, ↓reduceIte, Nat.reduceEqDiff, reduceCtorEq, look, true_and])
    | (refine WP.ret (Sm.out ?_))
    | (first | refine ExG.no (Sm.out ?_) | refine Or.inl (ExG.no (Sm.out ?_)) | refine Or.inl (And.intro (fun hg => absurd hg (by decide)) (ExG.no (Sm.out ?_))))
    | (refine Rt.mk ?_; refine And.intro ?_ ?_ <;> (intro hg; first | exact absurd hg (by decide) | refine Sm.out ?_))
    | (refine Nu.mk ?_; first | (fail_if_success (have := nb1)); intro nb1 | (fail_if_success (have := nb2)); intro nb2 | (fail_if_success (have := nb3)); intro nb3 | intro nbz)
    | (refine Fr.mk ?_; intro hfr; replace FR := And.intro hfr FR; clear hfr; refine Sm.out ?_)
    | (refine Two.mk ?_ ?_)
    | (refine Cs.mk ?_; intro hcs; first | exact False.elim hcs | (exfalso; omega) | (refine Sm.out ?_))
    | go_step
    | omega
    | (simp only [maxLen_eq]; omega)
  (refine OutQ.drop _ _ (pmv _ _ _ _ _) (by simp only [resv, ZK, look, loadv, loadn, loadnm, load1, load1m, hget, ↓reduceIte, Nat.reduceEqDiff, Nat.reduceAdd, Nat.reduceMul, Nat.reduceLeDiff, Nat.reduceLT, reduceCtorEq, TFRgO, FR]) ⟨(by simp only [resv, resA, ZK, look, loadv, loadn, loadnm, load1, load1m, hget, ↓reduceIte, Nat.reduceEqDiff, Nat.reduceAdd, Nat.reduceMul, Nat.reduceLeDiff, Nat.reduceLT, reduceCtorEq, TFRgO, FR]; first | done | rfl), rfl⟩)
set_option maxRecDepth 8000 in
set_option maxHeartbeats 2000000 in
theorem does_adds (rb lb mb gd tt : Nat) (n c : Int) (R1 R2 L1 L2 M1 M2 : MB) (T T2 : Hp) (hne : (rb ≠ lb ∧ lb ≠ rb) ∧ (rb ≠ mb ∧ mb ≠ rb) ∧ lb ≠ mb ∧ mb ≠ lb)
    (cA : ACt Try.prog 21 [pt rb 0, iv .i64 n, cnt gd tt] [(rb, R1), (lb, L1)] (fun r F' => r = iv .i64 c ∧ F' = [(rb, R2), (lb, L2)]))
    (cB : ACt Try.prog 34 [pt mb 0, iv .i64 n, cnt gd tt] ((mb, M1) :: T) (fun r F' => r = iv .i64 c ∧ F' = (mb, M2) :: T)) :
    ACt Try.prog 16 [pt rb 0, pt mb 0, actA 2 n gd tt] ([(rb, R1), (lb, L1), (mb, M1)] ++ T) (fun r F' => r = bv true ∧ F' = [(rb, R2), (lb, L2), (mb, M2)] ++ T) := by
  refine ACt.intro Try.func16 rfl (by kernel_rfl) (by simp [Try.ntmps16]) (fun cx => ?_)
  simp only [argE, Try.ntmps16, Try.results16, List.cons_append, List.nil_append]
  have z1 : ((2 : Int) == 1) = false := by decide
  have z3 : ((2 : Int) == 2) = true := by decide
  have z2 : (c == c) = true := by simp
  first | (have FRx := FR; clear FRx) | (have FR : ¬ ((1 : Nat) = 0) := Nat.one_ne_zero)
  repeat' first
    | (refine Sm.mk ?_; try simp -dsimp only [ZK, rvc, drawF, headN, pureH, stp, dvc, calleeOf, gcall, pev, eff, newB, okd, og, ogs, ogo, ogp, slv, bltv, opd, litv, strip, one, both, putE, St.put, look, gdOf, gdv, picka, pickv, pickw, binv, bini, bins, binb, binp, bina, shp, eqCells, unv, convv, nilv, faddv, addp, idxav, idxp, load1, load1m, loadn, loadnm, loadv, hget, hset, hrep, hdel, slicev, bnd, shift1, lenv, IntKind.bits, extractv, fieldv, indexv, min2v, max2v, mkiv, cellsA, fillA, buildv, stC, oneC, rowMB, intsA, plN, appE, appZ, appC, appNZ, appNC, VwL, srcC, srcZ, srcM, isBoolT, isPtrT, isSliceT, uOk, Value.oneCell', Nat.reducePow, Int.reducePow, Nat.reduceAdd, Nat.reduceMul, Nat.reduceSub, Nat.reduceLT, Nat.reduceLeDiff, Nat.reduceEqDiff, Nat.reduceBEq, Nat.reduceDiv, Nat.reduceMod, ↓reduceIte, reduceCtorEq, Int.reduceToNat, Int.reduceLT, Int.reduceLE, drawCF, xvc, xst, splitH, calleeV, putE, hdel, TFRgO, SeqQ, BlkQ, LoopQ, BodyQ, z1, z2, z3, hne, FR])
    | (refine CallV.updM (cA) (perm2 (by simp only [hget, hdel, ↓reduceIte, FR, z1, z2, z3, hne]; first | done | rfl) (by simp only [hget, hdel, ↓reduceIte, FR, z1, z2, z3, hne]; first | done | rfl)) (Sm.out ?_))
    | (refine ExW.mk (perm2 (by simp only [hget, hdel, ↓reduceIte, FR, z1, z2, z3, hne]; first | done | rfl) (by simp only [hget, hdel, ↓reduceIte, FR, z1, z2, z3, hne]; first | done | rfl)) (cA) rfl (Sm.out ?_))
    | (refine CallV.updM (cB) (pmw _ _ _ _ _) (Sm.out ?_))
    | (refine ExW.mk (pmw _ _ _ _ _) (cB) rfl (Sm.out ?_))
    | (refine WP.seq fun K hK => ?_)
    | (refine WP.region (rvc_sound _ _ (Sm.out ?_)))
    | (refine WP.drawC (c := 7) (ws := [3]) (ls := []) (bs := [rb, lb]) mixed (by decide +kernel) (by decide +kernel) (by decide +kernel) (Sm.out ?_))
    | (refine WP.drawC (c := 11) (ws := [5]) (ls := []) (bs := [rb, lb]) mixed (by decide +kernel) (by decide +kernel) (by decide +kernel) (Sm.out ?_))
    | (refine WP.drawK rfl mixed (by decide +kernel) (Sm.out ?_))
    | (refine Ob.mk ?_; focus (first | assumption | omega | decide | trivial | (intro hob; simp only [hob, ZF]; done) | (intros; (repeat' refine And.intro ?_ ?_) <;> first | assumption | omega | trivial | decide) | (intros; simp only [ZE] at *; (repeat' refine And.intro ?_ ?_) <;> first | assumption | omega | trivial)))
    | (refine And.intro (Ob.out ?_) ?_)
    | (refine WP.block ?_)
    | (refine WP.cond rfl (fun hc => ?_) (fun hc => ?_) <;> (try simp only [ZC, reduceCtorEq, ZD] at hc) <;> (try (exact absurd hc (by decide))) <;> (try (exfalso; omega)))
    | ((first | refine WP.skip ?_ | refine WP.exit ?_); simp only [SeqQ, BlkQ, LoopQ, BodyQ, ↓reduceIte, Nat.reduceEqDiff, reduceCtorEq, look, true_and])
    | (refine WP.ret (Sm.out ?_))
    | (first | refine ExG.no (Sm.out ?_) | refine Or.inl (ExG.no (Sm.out ?_)) | refine Or.inl (And.intro (fun hg => absurd hg (by decide)) (ExG.no (Sm.out ?_))))
    | (refine Rt.mk ?_; refine And.intro ?_ ?_ <;> (intro hg; first | exact absurd hg (by decide) | refine Sm.out ?_))
    | (refine Nu.mk ?_; first | (fail_if_success (have := nb1)); intro nb1 | (fail_if_success (have := nb2)); intro nb2 | (fail_if_success (have := nb3)); intro nb3 | intro nbz)
    | (refine Fr.mk ?_; intro hfr; replace FR := And.intro hfr FR; clear hfr; refine Sm.out ?_)
    | (refine Two.mk ?_ ?_)
    | (refine Cs.mk ?_; intro hcs; first | exact False.elim hcs | (exfalso; omega) | (refine Sm.out ?_))
    | go_step
    | omega
    | (simp only [maxLen_eq]; omega)
  (refine OutQ.drop _ _ (pmx _ _ _ _ _) (by simp only [resv, ZK, look, loadv, loadn, loadnm, load1, load1m, hget, ↓reduceIte, Nat.reduceEqDiff, Nat.reduceAdd, Nat.reduceMul, Nat.reduceLeDiff, Nat.reduceLT, reduceCtorEq, TFRgO, FR]) ⟨(by simp only [resv, resA, ZK, look, loadv, loadn, loadnm, load1, load1m, hget, ↓reduceIte, Nat.reduceEqDiff, Nat.reduceAdd, Nat.reduceMul, Nat.reduceLeDiff, Nat.reduceLT, reduceCtorEq, TFRgO, FR]; first | done | rfl), rfl⟩)
set_option maxRecDepth 8000 in
set_option maxHeartbeats 2000000 in
theorem does_addx {Γ : Type} (rb lb mb gd tt : Nat) (n c : Int) (R1 R2 L1 L2 M1 : MB) (M2 : Γ → MB) (T : Hp) (T2 : Γ → Hp) (hne : (rb ≠ lb ∧ lb ≠ rb) ∧ (rb ≠ mb ∧ mb ≠ rb) ∧ lb ≠ mb ∧ mb ≠ lb)
    (cA : ACt Try.prog 21 [pt rb 0, iv .i64 n, cnt gd tt] [(rb, R1), (lb, L1)] (fun r F' => r = iv .i64 c ∧ F' = [(rb, R2), (lb, L2)]))
    (cB : ACt Try.prog 34 [pt mb 0, iv .i64 n, cnt gd tt] ((mb, M1) :: T) (fun r F' => ∃ q : Γ, r = iv .i64 c ∧ F' = (mb, M2 q) :: T2 q)) :
    ACt Try.prog 16 [pt rb 0, pt mb 0, actA 2 n gd tt] ([(rb, R1), (lb, L1), (mb, M1)] ++ T) (fun r F' => ∃ q : Γ, r = bv true ∧ F' = [(rb, R2), (lb, L2), (mb, M2 q)] ++ T2 q) := by
  refine ACt.intro Try.func16 rfl (by kernel_rfl) (by simp [Try.ntmps16]) (fun cx => ?_)
  simp only [argE, Try.ntmps16, Try.results16, List.cons_append, List.nil_append]
  have z1 : ((2 : Int) == 1) = false := by decide
  have z3 : ((2 : Int) == 2) = true := by decide
  have z2 : (c == c) = true := by simp
  first | (have FRx := FR; clear FRx) | (have FR : ¬ ((1 : Nat) = 0) := Nat.one_ne_zero)
  repeat' first
    | (refine Sm.mk ?_; try simp -dsimp only [ZK, rvc, drawF, headN, pureH, stp, dvc, calleeOf, gcall, pev, eff, newB, okd, og, ogs, ogo, ogp, slv, bltv, opd, litv, strip, one, both, putE, St.put, look, gdOf, gdv, picka, pickv, pickw, binv, bini, bins, binb, binp, bina, shp, eqCells, unv, convv, nilv, faddv, addp, idxav, idxp, load1, load1m, loadn, loadnm, loadv, hget, hset, hrep, hdel, slicev, bnd, shift1, lenv, IntKind.bits, extractv, fieldv, indexv, min2v, max2v, mkiv, cellsA, fillA, buildv, stC, oneC, rowMB, intsA, plN, appE, appZ, appC, appNZ, appNC, VwL, srcC, srcZ, srcM, isBoolT, isPtrT, isSliceT, uOk, Value.oneCell', Nat.reducePow, Int.reducePow, Nat.reduceAdd, Nat.reduceMul, Nat.reduceSub, Nat.reduceLT, Nat.reduceLeDiff, Nat.reduceEqDiff, Nat.reduceBEq, Nat.reduceDiv, Nat.reduceMod, ↓reduceIte, reduceCtorEq, Int.reduceToNat, Int.reduceLT, Int.reduceLE, drawCF, xvc, xst, splitH, calleeV, putE, hdel, TFRgO, SeqQ, BlkQ, LoopQ, BodyQ, z1, z2, z3, hne, FR])
    | (refine CallV.updM (cA) (perm2 (by simp only [hget, hdel, ↓reduceIte, FR, z1, z2, z3, hne]; first | done | rfl) (by simp only [hget, hdel, ↓reduceIte, FR, z1, z2, z3, hne]; first | done | rfl)) (Sm.out ?_))
    | (refine ExW.mk (perm2 (by simp only [hget, hdel, ↓reduceIte, FR, z1, z2, z3, hne]; first | done | rfl) (by simp only [hget, hdel, ↓reduceIte, FR, z1, z2, z3, hne]; first | done | rfl)) (cA) rfl (Sm.out ?_))
    | (refine CallV.exM (cB) (pmw _ _ _ _ _) (fun g => Sm.out ?_))
    | (refine WP.seq fun K hK => ?_)
    | (refine WP.region (rvc_sound _ _ (Sm.out ?_)))
    | (refine WP.drawC (c := 7) (ws := [3]) (ls := []) (bs := [rb, lb]) mixed (by decide +kernel) (by decide +kernel) (by decide +kernel) (Sm.out ?_))
    | (refine WP.drawC (c := 11) (ws := [5]) (ls := []) (bs := [rb, lb]) mixed (by decide +kernel) (by decide +kernel) (by decide +kernel) (Sm.out ?_))
    | (refine WP.drawK rfl mixed (by decide +kernel) (Sm.out ?_))
    | (refine Ob.mk ?_; focus (first | assumption | omega | decide | trivial | (intro hob; simp only [hob, ZF]; done) | (intros; (repeat' refine And.intro ?_ ?_) <;> first | assumption | omega | trivial | decide) | (intros; simp only [ZE] at *; (repeat' refine And.intro ?_ ?_) <;> first | assumption | omega | trivial)))
    | (refine And.intro (Ob.out ?_) ?_)
    | (refine WP.block ?_)
    | (refine WP.cond rfl (fun hc => ?_) (fun hc => ?_) <;> (try simp only [ZC, reduceCtorEq, ZD] at hc) <;> (try (exact absurd hc (by decide))) <;> (try (exfalso; omega)))
    | ((first | refine WP.skip ?_ | refine WP.exit ?_); simp only [SeqQ, BlkQ, LoopQ, BodyQ, ↓reduceIte, Nat.reduceEqDiff, reduceCtorEq, look, true_and])
    | (refine WP.ret (Sm.out ?_))
    | (first | refine ExG.no (Sm.out ?_) | refine Or.inl (ExG.no (Sm.out ?_)) | refine Or.inl (And.intro (fun hg => absurd hg (by decide)) (ExG.no (Sm.out ?_))))
    | (refine Rt.mk ?_; refine And.intro ?_ ?_ <;> (intro hg; first | exact absurd hg (by decide) | refine Sm.out ?_))
    | (refine Nu.mk ?_; first | (fail_if_success (have := nb1)); intro nb1 | (fail_if_success (have := nb2)); intro nb2 | (fail_if_success (have := nb3)); intro nb3 | intro nbz)
    | (refine Fr.mk ?_; intro hfr; replace FR := And.intro hfr FR; clear hfr; refine Sm.out ?_)
    | (refine Two.mk ?_ ?_)
    | (refine Cs.mk ?_; intro hcs; first | exact False.elim hcs | (exfalso; omega) | (refine Sm.out ?_))
    | go_step
    | omega
    | (simp only [maxLen_eq]; omega)
  (refine OutQ.drop _ _ (pmx _ _ _ _ _) (by simp only [resv, ZK, look, loadv, loadn, loadnm, load1, load1m, hget, ↓reduceIte, Nat.reduceEqDiff, Nat.reduceAdd, Nat.reduceMul, Nat.reduceLeDiff, Nat.reduceLT, reduceCtorEq, TFRgO, FR]) ⟨g, (by simp only [resv, resA, ZK, look, loadv, loadn, loadnm, load1, load1m, hget, ↓reduceIte, Nat.reduceEqDiff, Nat.reduceAdd, Nat.reduceMul, Nat.reduceLeDiff, Nat.reduceLT, reduceCtorEq, TFRgO, FR]; first | done | rfl), rfl⟩)
set_option maxRecDepth 8000 in
set_option maxHeartbeats 2000000 in
theorem does_reset (rb lb mb gd tt : Nat) (n : Int) (R1 R2 L1 L2 : MB) (W G now : Nat) (l : AV) (T : Hp) (hne : (rb ≠ lb ∧ lb ≠ rb) ∧ (rb ≠ mb ∧ mb ≠ rb) ∧ lb ≠ mb ∧ mb ≠ lb)
    (cA : ACt Try.prog 19 [pt rb 0] [(rb, R1), (lb, L1)] (fun r F' => r = .tup [] ∧ F' = [(rb, R2), (lb, L2)])) :
    ACt Try.prog 16 [pt rb 0, pt mb 0, actA 3 n gd tt] ([(rb, R1), (lb, L1), (mb, mM W G now l)] ++ T) (fun r F' => r = bv true ∧ F' = [(rb, R2), (lb, L2), (mb, mM W G now nilS)]) := by
  refine ACt.intro Try.func16 rfl (by kernel_rfl) (by simp [Try.ntmps16]) (fun cx => ?_)
  simp only [argE, Try.ntmps16, Try.results16, List.cons_append, List.nil_append]
  have z1 : ((3 : Int) == 1) = false := by decide
  have z2 : ((3 : Int) == 2) = false := by decide
  have z3 : ((3 : Int) == 3) = true := by decide
  first | (have FRx := FR; clear FRx) | (have FR : ¬ ((1 : Nat) = 0) := Nat.one_ne_zero)
  repeat' first
    | (refine Sm.mk ?_; try simp -dsimp only [ZK, rvc, drawF, headN, pureH, stp, dvc, calleeOf, gcall, pev, eff, newB, okd, og, ogs, ogo, ogp, slv, bltv, opd, litv, strip, one, both, putE, St.put, look, gdOf, gdv, picka, pickv, pickw, binv, bini, bins, binb, binp, bina, shp, eqCells, unv, convv, nilv, faddv, addp, idxav, idxp, load1, load1m, loadn, loadnm, loadv, hget, hset, hrep, hdel, slicev, bnd, shift1, lenv, IntKind.bits, extractv, fieldv, indexv, min2v, max2v, mkiv, cellsA, fillA, buildv, stC, oneC, rowMB, intsA, plN, appE, appZ, appC, appNZ, appNC, VwL, srcC, srcZ, srcM, isBoolT, isPtrT, isSliceT, uOk, Value.oneCell', Nat.reducePow, Int.reducePow, Nat.reduceAdd, Nat.reduceMul, Nat.reduceSub, Nat.reduceLT, Nat.reduceLeDiff, Nat.reduceEqDiff, Nat.reduceBEq, Nat.reduceDiv, Nat.reduceMod, ↓reduceIte, reduceCtorEq, Int.reduceToNat, Int.reduceLT, Int.reduceLE, drawCF, xvc, xst, splitH, calleeV, putE, hdel, TFRgO, SeqQ, BlkQ, LoopQ, BodyQ, z1, z2, z3, hne, FR])
    | (refine CallV.updM (cA) (perm2 (by simp only [hget, hdel, ↓reduceIte, FR, z1, z2, z3, hne]; first | done | rfl) (by simp only [hget, hdel, ↓reduceIte, FR, z1, z2, z3, hne]; first | done | rfl)) (Sm.out ?_))
    | (refine ExW.mk (perm2 (by simp only [hget, hdel, ↓reduceIte, FR, z1, z2, z3, hne]; first | done | rfl) (by simp only [hget, hdel, ↓reduceIte, FR, z1, z2, z3, hne]; first | done | rfl)) (cA) rfl (Sm.out ?_))
    | (refine WP.seq fun K hK => ?_)
    | (refine WP.region (rvc_sound _ _ (Sm.out ?_)))
    | (refine WP.drawC (c := 7) (ws := [3]) (ls := []) (bs := [rb, lb]) mixed (by decide +kernel) (by decide +kernel) (by decide +kernel) (Sm.out ?_))
    | (refine WP.drawC (c := 11) (ws := [5]) (ls := []) (bs := [rb, lb]) mixed (by decide +kernel) (by decide +kernel) (by decide +kernel) (Sm.out ?_))
    | (refine WP.drawK rfl mixed (by decide +kernel) (Sm.out ?_))
    | (refine Ob.mk ?_; focus (first | assumption | omega | decide | trivial | (intro hob; simp only [hob, ZF]; done) | (intros; (repeat' refine And.intro ?_ ?_) <;> first | assumption | omega | trivial | decide) | (intros; simp only [ZE] at *; (repeat' refine And.intro ?_ ?_) <;> first | assumption | omega | trivial)))
    | (refine And.intro (Ob.out ?_) ?_)
    | (refine WP.block ?_)
    | (refine WP.cond rfl (fun hc => ?_) (fun hc => ?_) <;> (try simp only [ZC, reduceCtorEq, ZD] at hc) <;> (try (exact absurd hc (by decide))) <;> (try (exfalso; omega)))
    | ((first | refine WP.skip ?_ | refine WP.exit ?_); simp only [SeqQ, BlkQ, LoopQ, BodyQ, ↓reduceIte, Nat.reduceEqDiff, reduceCtorEq, look, true_and])
    | (refine WP.ret (Sm.out ?_))
    | (first | refine ExG.no (Sm.out ?_) | refine Or.inl (ExG.no (Sm.out ?_)) | refine Or.inl (And.intro (fun hg => absurd hg (by decide)) (ExG.no (Sm.out ?_))))
    | (refine Rt.mk ?_; refine And.intro ?_ ?_ <;> (intro hg; first | exact absurd hg (by decide) | refine Sm.out ?_))
    | (refine Nu.mk ?_; first | (fail_if_success (have := nb1)); intro nb1 | (fail_if_success (have := nb2)); intro nb2 | (fail_if_success (have := nb3)); intro nb3 | intro nbz)
    | (refine Fr.mk ?_; intro hfr; replace FR := And.intro hfr FR; clear hfr; refine Sm.out ?_)
    | (refine Two.mk ?_ ?_)
    | (refine Cs.mk ?_; intro hcs; first | exact False.elim hcs | (exfalso; omega) | (refine Sm.out ?_))
    | go_step
    | omega
    | (simp only [maxLen_eq]; omega)
  (refine OutQ.drop _ _ (perm3 (by simp only [hget, hdel, ↓reduceIte, if_true, if_false, FR, hne]; first | done | rfl) (by simp only [hget, hdel, ↓reduceIte, if_true, if_false, FR, hne]; first | done | rfl) (by simp only [hget, hdel, ↓reduceIte, if_true, if_false, FR, hne]; first | done | rfl)) (by simp only [resv, ZK, look, loadv, loadn, loadnm, load1, load1m, hget, ↓reduceIte, Nat.reduceEqDiff, Nat.reduceAdd, Nat.reduceMul, Nat.reduceLeDiff, Nat.reduceLT, reduceCtorEq, TFRgO, FR, hne]) ⟨(by simp only [resv, resA, ZK, look, loadv, loadn, loadnm, load1, load1m, hget, ↓reduceIte, Nat.reduceEqDiff, Nat.reduceAdd, Nat.reduceMul, Nat.reduceLeDiff, Nat.reduceLT, reduceCtorEq, TFRgO, FR, hne]; first | done | rfl), rfl⟩)
set_option maxRecDepth 8000 in
set_option maxHeartbeats 2000000 in
theorem does_none (rb lb mb gd tt : Nat) (k n : Int) (R L M : MB) (T : Hp) (hk : k ≠ 1 ∧ k ≠ 2 ∧ k ≠ 3) :
    ACt Try.prog 16 [pt rb 0, pt mb 0, actA k n gd tt] ([(rb, R), (lb, L), (mb, M)] ++ T) (fun r F' => r = bv true ∧ F' = [(rb, R), (lb, L), (mb, M)] ++ T) := by
  refine ACt.intro Try.func16 rfl (by kernel_rfl) (by simp [Try.ntmps16]) (fun cx => ?_)
  simp only [argE, Try.ntmps16, Try.results16, List.cons_append, List.nil_append]
  have z1 : (k == 1) = false := by simp; exact hk.1
  have z2 : (k == 2) = false := by simp; exact hk.2.1
  have z3 : (k == 3) = false := by simp; exact hk.2.2
  first | (have FRx := FR; clear FRx) | (have FR : ¬ ((1 : Nat) = 0) := Nat.one_ne_zero)
  repeat' first
    | (refine Sm.mk ?_; try simp -dsimp only [ZK, rvc, drawF, headN, pureH, stp, dvc, calleeOf, gcall, pev, eff, newB, okd, og, ogs, ogo, ogp, slv, bltv, opd, litv, strip, one, both, putE, St.put, look, gdOf, gdv, picka, pickv, pickw, binv, bini, bins, binb, binp, bina, shp, eqCells, unv, convv, nilv, faddv, addp, idxav, idxp, load1, load1m, loadn, loadnm, loadv, hget, hset, hrep, hdel, slicev, bnd, shift1, lenv, IntKind.bits, extractv, fieldv, indexv, min2v, max2v, mkiv, cellsA, fillA, buildv, stC, oneC, rowMB, intsA, plN, appE, appZ, appC, appNZ, appNC, VwL, srcC, srcZ, srcM, isBoolT, isPtrT, isSliceT, uOk, Value.oneCell', Nat.reducePow, Int.reducePow, Nat.reduceAdd, Nat.reduceMul, Nat.reduceSub, Nat.reduceLT, Nat.reduceLeDiff, Nat.reduceEqDiff, Nat.reduceBEq, Nat.reduceDiv, Nat.reduceMod, ↓reduceIte, reduceCtorEq, Int.reduceToNat, Int.reduceLT, Int.reduceLE, drawCF, xvc, xst, splitH, calleeV, putE, hdel, TFRgO, SeqQ, BlkQ, LoopQ, BodyQ, z1, z2, z3, FR])
    | (refine WP.seq fun K hK => ?_)
    | (refine WP.region (rvc_sound _ _ (Sm.out ?_)))
    | (refine WP.drawC (c := 7) (ws := [3]) (ls := []) (bs := [rb, lb]) mixed (by decide +kernel) (by decide +kernel) (by decide +kernel) (Sm.out ?_))
    | (refine WP.drawC (c := 11) (ws := [5]) (ls := []) (bs := [rb, lb]) mixed (by decide +kernel) (by decide +kernel) (by decide +kernel) (Sm.out ?_))
    | (refine WP.drawK rfl mixed (by decide +kernel) (Sm.out ?_))
    | (refine Ob.mk ?_; focus (first | assumption | omega | decide | trivial | (intro hob; simp only [hob, ZF]; done) | (intros; (repeat' refine And.intro ?_ ?_) <;> first | assumption | omega | trivial | decide) | (intros; simp only [ZE] at *; (repeat' refine And.intro ?_ ?_) <;> first | assumption | omega | trivial)))
    | (refine And.intro (Ob.out ?_) ?_)
    | (refine WP.block ?_)
    | (refine WP.cond rfl (fun hc => ?_) (fun hc => ?_) <;> (try simp only [ZC, reduceCtorEq, ZD] at hc) <;> (try (exact absurd hc (by decide))) <;> (try (exfalso; omega)))
    | ((first | refine WP.skip ?_ | refine WP.exit ?_); simp only [SeqQ, BlkQ, LoopQ, BodyQ, ↓reduceIte, Nat.reduceEqDiff, reduceCtorEq, look, true_and])
    | (refine WP.ret (Sm.out ?_))
    | (first | refine ExG.no (Sm.out ?_) | refine Or.inl (ExG.no (Sm.out ?_)) | refine Or.inl (And.intro (fun hg => absurd hg (by decide)) (ExG.no (Sm.out ?_))))
    | (refine Rt.mk ?_; refine And.intro ?_ ?_ <;> (intro hg; first | exact absurd hg (by decide) | refine Sm.out ?_))
    | (refine Nu.mk ?_; first | (fail_if_success (have := nb1)); intro nb1 | (fail_if_success (have := nb2)); intro nb2 | (fail_if_success (have := nb3)); intro nb3 | intro nbz)
    | (refine Fr.mk ?_; intro hfr; replace FR := And.intro hfr FR; clear hfr; refine Sm.out ?_)
    | (refine Two.mk ?_ ?_)
    | (refine Cs.mk ?_; intro hcs; first | exact False.elim hcs | (exfalso; omega) | (refine Sm.out ?_))
    | go_step
    | omega
    | (simp only [maxLen_eq]; omega)
  (refine OutQ.drop _ _ (pmu _ _ _ _ _) (by simp only [resv, ZK, look, loadv, loadn, loadnm, load1, load1m, hget, ↓reduceIte, Nat.reduceEqDiff, Nat.reduceAdd, Nat.reduceMul, Nat.reduceLeDiff, Nat.reduceLT, reduceCtorEq, TFRgO, FR]) ⟨(by simp only [resv, resA, ZK, look, loadv, loadn, loadnm, load1, load1m, hget, ↓reduceIte, Nat.reduceEqDiff, Nat.reduceAdd, Nat.reduceMul, Nat.reduceLeDiff, Nat.reduceLT, reduceCtorEq, TFRgO, FR]; first | done | rfl), rfl⟩)
end Go.Proofs.Ytbnkmhlnoaebcaa
namespace Go.Proofs.Ytbnkmhlnoaebcaa
open Go
set_option linter.unusedVariables false
set_option linter.unusedSimpArgs false
structure RS where
  E : List Ev
  now : Nat
  o : Option (Nat × Nat)
structure Inv (w k n : Nat) (s : RS) : Prop where
  now : s.now ≤ 253402300799
  at_ : ∀ e ∈ s.E, e.at_ ≤ s.now
  gt : ∀ e ∈ s.E, e.g ≤ e.t
  len : s.E.length ≤ n
  sum : sT (winP s.now w k) s.E ≤ 9223372036854775807
  ok : evOk s.E s.o
abbrev R1 (lb w k : Nat) (E : List Ev) (now : Nat) : MB := rbM lb w k (now / w) now (sG (winP now w k) E) (sT (winP now w k) E)
abbrev L1 (w k : Nat) (E : List Ev) (now : Nat) : MB := lbM k (slG (now / w) w k E) (slT (now / w) w k E)
def blk (rb lb mb W G w k : Nat) (s : RS) : Hp := [(rb, R1 lb w k s.E s.now), (lb, L1 w k s.E s.now), (mb, mM W G s.now (evL s.E s.o))] ++ evB s.E s.o
theorem sT_mono {p q : Nat → Bool} : ∀ {E : List Ev}, (∀ e ∈ E, p e.at_ = true → q e.at_ = true) → sT p E ≤ sT q E
  | [], _ => Nat.le_refl _
  | e :: r, h => by
    have h1 := h e (List.mem_cons_self ..)
    have h2 := sT_mono (p := p) (q := q) fun x hx => h x (List.mem_cons_of_mem _ hx)
    rw [sT, sT]
    by_cases hp : p e.at_ = true
    · rw [if_pos hp, if_pos (h1 hp)]; omega
    · rw [if_neg hp]; omega
theorem Move_step (rb lb : Nat) {w k n : Nat} {s : RS} (n' : Nat) (hne : rb ≠ lb ∧ lb ≠ rb) (hw : 1 ≤ w) (hk1 : 1 ≤ k) (hk2 : k ≤ 60) (h : Inv w k n s) (hn : n' ≤ 253402300799) (hl : s.now ≤ n') :
    ACt Try.prog 20 [pt rb 0, iv .i64 (n' : Int)] [(rb, R1 lb w k s.E s.now), (lb, L1 w k s.E s.now)] (fun r F' => r = iv .i64 0 ∧ F' = [(rb, R1 lb w k s.E n'), (lb, L1 w k s.E n')]) := by
  have h0 := h.now
  have hq : s.now / w ≤ s.now := Nat.div_le_self _ _
  have hs := h.sum
  have hg : sG (winP s.now w k) s.E ≤ sT (winP s.now w k) s.E := sG_le_sT h.gt
  have c := Move_ok rb lb w k (s.now / w) s.now (slG (s.now / w) w k s.E) (slT (s.now / w) w k s.E) n' (n' / w) _ hne hn hl hw hk1 hk2 (by omega) rfl rfl
    (by rw [slG_sum _ _ _ hk1]; exact Nat.lt_of_le_of_lt (Nat.le_trans hg hs) (by omega)) (by rw [slT_sum _ _ _ hk1]; exact Nat.lt_of_le_of_lt hs (by omega))
  have hE : ∀ e ∈ s.E, e.at_ / w ≤ s.now / w := fun e he => Nat.div_le_div_right (h.at_ e he)
  rw [move_slG hk1 (Nat.div_le_div_right hl) hE, move_slT hk1 (Nat.div_le_div_right hl) hE, slG_sum _ _ _ hk1, slT_sum _ _ _ hk1, slG_sum _ _ _ hk1, slT_sum _ _ _ hk1] at c
  exact c
theorem codeAB (at_ : Int) (g t now w k st : Nat) : codeA at_ g t w k (now / w) now st = codeB at_ g t now w k st := by
  unfold codeA codeB
  simp only [Nat.not_lt]
theorem Add_step (rb lb : Nat) {w k n : Nat} {s : RS} (m g t : Nat) (hne : rb ≠ lb ∧ lb ≠ rb) (hw : 1 ≤ w) (hk1 : 1 ≤ k) (hk2 : k ≤ 60) (h : Inv w k n s) (hc : codeB m g t s.now w k (sT (winP s.now w k) s.E) = 0) (hwin : s.now / w < m / w + k) :
    ACt Try.prog 21 [pt rb 0, iv .i64 (m : Int), cnt g t] [(rb, R1 lb w k s.E s.now), (lb, L1 w k s.E s.now)] (fun r F' => r = iv .i64 0 ∧ F' = [(rb, R1 lb w k (s.E ++ [⟨m, g, t⟩]) s.now), (lb, L1 w k (s.E ++ [⟨m, g, t⟩]) s.now)]) := by
  have h0 := h.now
  have hq : s.now / w ≤ s.now := Nat.div_le_self _ _
  have hs := h.sum
  have hg : sG (winP s.now w k) s.E ≤ sT (winP s.now w k) s.E := sG_le_sT h.gt
  have hj : m / w % k < k := Nat.mod_lt _ (by omega)
  have hG := sumN_ge (slG (s.now / w) w k s.E) hj
  have hT := sumN_ge (slT (s.now / w) w k s.E) hj
  rw [slG_sum _ _ _ hk1] at hG
  rw [slT_sum _ _ _ hk1] at hT
  have c := Add_ok rb lb w k (s.now / w) s.now (sG (winP s.now w k) s.E) (sT (winP s.now w k) s.E) g t m (m / w % k) (slG (s.now / w) w k s.E) (slT (s.now / w) w k s.E) hne hw hk1 hk2 (by omega) hs hg rfl hG hT (by rw [codeAB]; exact hc)
  rw [← add_slG (g := g) (t := t) hwin, ← add_slT (g := g) (t := t) hwin] at c
  have e1 : sG (winP s.now w k) (s.E ++ [⟨m, g, t⟩]) = sG (winP s.now w k) s.E + g := by
    rw [sG_app]; simp [sG, winP, hwin]
  have e2 : sT (winP s.now w k) (s.E ++ [⟨m, g, t⟩]) = sT (winP s.now w k) s.E + t := by
    rw [sT_app]; simp [sT, winP, hwin]
  rw [← e1, ← e2] at c
  exact c
end Go.Proofs.Ytbnkmhlnoaebcaa
namespace Go.Proofs.Ytbnkmhlnoaebcaa
open Go
set_option linter.unusedVariables false
set_option linter.unusedSimpArgs false
abbrev IS (w k n : Nat) : Type := {s : RS // Inv w k n s}
theorem Inv.up {w k n : Nat} {s : RS} (h : Inv w k n s) : Inv w k (n + 1) s := ⟨h.now, h.at_, h.gt, by have := h.len; omega, h.sum, h.ok⟩
theorem does_ct (rb lb mb W G k w n : Nat) (kind at_ : Int) (gd tt : Nat) (s : RS) (h : Inv w k n s) (hn : n < 1000) (hg : goP W G) (hgo : GoOk W G k w)
    (hmb : ∀ p ∈ evB s.E s.o, p.1 ≠ mb) (hne : (rb ≠ lb ∧ lb ≠ rb) ∧ (rb ≠ mb ∧ mb ≠ rb) ∧ lb ≠ mb ∧ mb ≠ lb) (ht : tt < 18446744073709551616) :
    ACt Try.prog 16 [pt rb 0, pt mb 0, actA kind at_ gd tt] (blk rb lb mb W G w k s) (fun r F' => ∃ q : IS w k (n + 1), r = bv true ∧ F' = blk rb lb mb W G w k q.1) := by
  have hk1 := hgo.k1
  have hk2 := hgo.k2
  have hw := hgo.w0
  have h0 := h.now
  have hl := h.len
  have hq : s.now / w ≤ s.now := Nat.div_le_self _ _
  have hs := h.sum
  have hgs : sG (winP s.now w k) s.E ≤ sT (winP s.now w k) s.E := sG_le_sT h.gt
  have hE : ∀ e ∈ s.E, e.at_ ≤ 253402300799 := fun e he => Nat.le_trans (h.at_ e he) h0
  by_cases k1 : kind = 1
  · subst k1
    by_cases hr : 0 ≤ at_ ∧ at_ ≤ 253402300799
    · obtain ⟨m, rfl⟩ := Int.eq_ofNat_of_zero_le hr.1
      by_cases hlt : m < s.now
      · refine (does_move rb lb mb gd tt m 13 _ _ _ _ _ _ _ hne (Move_late rb lb w k (s.now / w) s.now _ _ _ _ m (by omega) hlt) (refMove_late mb W G s.now _ m (by omega) hlt)).mono ?_
        rintro r F' ⟨e1, e2⟩
        exact ⟨⟨s, h.up⟩, e1, e2⟩
      · refine (does_move rb lb mb gd tt m 0 _ _ _ _ _ _ _ hne (Move_step rb lb m hne.1 hw hk1 hk2 h (by omega) (by omega)) (refMove_ok mb W G s.now _ m (by omega) (by omega))).mono ?_
        rintro r F' ⟨e1, e2⟩
        refine ⟨⟨⟨s.E, m, s.o⟩, ⟨by simp only; omega, fun e he => Nat.le_trans (h.at_ e he) (by simp only; omega), h.gt, by simp only; omega, Nat.le_trans (sT_mono fun e he hp => ?_) hs, h.ok⟩⟩, e1, e2⟩
        unfold winP at hp ⊢
        have := Nat.div_le_div_right (c := w) (show s.now ≤ m by omega)
        simp only [decide_eq_true_eq] at hp ⊢
        omega
    · refine (does_move rb lb mb gd tt at_ 8 _ _ _ _ _ _ _ hne (Move_range rb lb w k (s.now / w) s.now _ _ _ _ at_ hr) (refMove_bad mb W G s.now _ at_ hr)).mono ?_
      rintro r F' ⟨e1, e2⟩
      exact ⟨⟨s, h.up⟩, e1, e2⟩
  by_cases k2 : kind = 2
  · subst k2
    by_cases hc : codeB at_ gd tt s.now w k (sT (winP s.now w k) s.E) = 0
    · have hc' := hc
      unfold codeB at hc
      have h1 : ¬ tt < gd := by intro h; rw [if_pos h] at hc; cases hc
      rw [if_neg h1] at hc
      have h2 : 0 ≤ at_ ∧ at_ ≤ 253402300799 := by
        apply Classical.byContradiction; intro h; rw [if_pos h] at hc; cases hc
      rw [if_neg (by simpa using h2)] at hc
      have h3 : ¬ (s.now : Int) < at_ := by intro h; rw [if_pos h] at hc; cases hc
      obtain ⟨m, rfl⟩ := Int.eq_ofNat_of_zero_le h2.1
      rw [if_neg h3, Int.toNat_natCast] at hc
      have h4 : s.now / w < m / w + k := by
        apply Classical.byContradiction; intro h; rw [if_pos h] at hc; cases hc
      rw [if_neg (by simpa using h4)] at hc
      have h5 : ¬ 9223372036854775807 < sT (winP s.now w k) s.E + tt := by intro h; rw [if_pos h] at hc; cases hc
      have cA := Add_step rb lb m gd tt hne.1 hw hk1 hk2 h hc' h4
      have cB := refAdd_ok mb W G k w s.now gd tt m s.E s.o hg hgo h0 hE (by omega) h.ok hmb (by omega) (by omega) ht hc'
      refine (does_addx rb lb mb gd tt m 0 _ _ _ _ _ (fun q : Gm (s.E.length + 1) => mM W G s.now (ms q.1.1 0 (s.E.length + 1) q.1.2)) _ (fun q => [(q.1.1, .cells (evC (s.E ++ [⟨m, gd, tt⟩])) (q.1.2 * 3) 70)]) hne cA cB).mono ?_
      rintro r F' ⟨q, e1, e2⟩
      have hlen : (s.E ++ [(⟨m, gd, tt⟩ : Ev)]).length = s.E.length + 1 := by simp
      refine ⟨⟨⟨s.E ++ [⟨m, gd, tt⟩], s.now, some q.1⟩, ⟨h0, ?_, ?_, by simp only [hlen]; omega, ?_, ?_⟩⟩, e1, ?_⟩
      · intro e he
        rcases List.mem_append.1 he with he | he
        · exact h.at_ e he
        · rw [List.mem_singleton.1 he]; simp only; omega
      · intro e he
        rcases List.mem_append.1 he with he | he
        · exact h.gt e he
        · rw [List.mem_singleton.1 he]; simp only; omega
      · simp only
        rw [sT_app]
        have : sT (winP s.now w k) [⟨m, gd, tt⟩] ≤ tt := by unfold sT; split <;> simp [sT]
        omega
      · have := q.2
        show _ ≤ _ ∧ _
        rw [hlen]; exact this
      · rw [e2]
        have e3 : ms q.1.1 0 (s.E ++ [(⟨m, gd, tt⟩ : Ev)]).length q.1.2 = ms q.1.1 0 (s.E.length + 1) q.1.2 := by rw [hlen]
        exact congrArg (fun z => [(rb, R1 lb w k (s.E ++ [⟨m, gd, tt⟩]) s.now), (lb, L1 w k (s.E ++ [⟨m, gd, tt⟩]) s.now), (mb, mM W G s.now z)] ++ [(q.1.1, MB.cells (evC (s.E ++ [⟨m, gd, tt⟩])) (q.1.2 * 3) 70)]) e3.symm
    · have cA := Add_bad rb lb w k (s.now / w) s.now (sG (winP s.now w k) s.E) (sT (winP s.now w k) s.E) gd tt (slG (s.now / w) w k s.E) (slT (s.now / w) w k s.E) at_ hw hk1 hk2 (by omega) hs (by rw [codeAB]; exact hc)
      rw [codeAB] at cA
      have cB := refAdd_bad mb W G k w s.now gd tt s.E s.o at_ hg hgo h0 hE (by omega) h.ok hmb (by omega) (by omega) ht hc
      refine (does_adds rb lb mb gd tt at_ _ _ _ _ _ _ _ _ [] hne cA cB).mono ?_
      rintro r F' ⟨e1, e2⟩
      exact ⟨⟨s, h.up⟩, e1, e2⟩
  by_cases k3 : kind = 3
  · subst k3
    refine (does_reset rb lb mb gd tt at_ _ _ _ _ W G s.now _ _ hne (Reset_ct rb lb w k (s.now / w) s.now _ _ _ _ hne.1 hk1 hk2)).mono ?_
    rintro r F' ⟨e1, e2⟩
    exact ⟨⟨⟨[], s.now, none⟩, ⟨h0, fun e he => (by cases he), fun e he => (by cases he), by simp, by simp [sT], rfl⟩⟩, e1, e2⟩
  · refine (does_none rb lb mb gd tt kind at_ _ _ _ _ ⟨k1, k2, k3⟩).mono ?_
    rintro r F' ⟨e1, e2⟩
    exact ⟨⟨s, h.up⟩, e1, e2⟩
end Go.Proofs.Ytbnkmhlnoaebcaa
namespace Go.Proofs.Ytbnkmhlnoaebcaa
open Go
set_option linter.unusedVariables false
set_option linter.unusedSimpArgs false
theorem TFRgRA : ((((((type_of% tyc0) ∧ (type_of% tyc2)) ∧ ((type_of% zmb2) ∧ ((type_of% tyc4) ∧ (type_of% zmb4)))) ∧ (((type_of% tyc32) ∧ (type_of% elt32)) ∧ ((type_of% mkz32) ∧ ((type_of% mkc32) ∧ (type_of% apT32))))) ∧ ((((type_of% elk32) ∧ (type_of% zmb32)) ∧ ((type_of% tyc35) ∧ ((type_of% zmb35) ∧ (type_of% tyc38)))) ∧ (((type_of% foff38_0) ∧ (type_of% fpart38_0)) ∧ ((type_of% foff38_1) ∧ ((type_of% fpart38_1) ∧ (type_of% foff38_2)))))) ∧ (((((type_of% fpart38_2) ∧ (type_of% foff38_3)) ∧ ((type_of% fpart38_3) ∧ ((type_of% zmb38) ∧ (type_of% bldT38)))) ∧ (((type_of% tyc43) ∧ (type_of% foff43_0)) ∧ ((type_of% fpart43_0) ∧ ((type_of% foff43_1) ∧ (type_of% fpart43_1))))) ∧ ((((type_of% fe43) ∧ (type_of% zmb43)) ∧ ((type_of% bldT43) ∧ ((type_of% Try.underlying0) ∧ (type_of% Try.underlying2)))) ∧ (((type_of% Try.underlying4) ∧ (type_of% Try.underlying32)) ∧ ((type_of% Try.underlying35) ∧ ((type_of% Try.underlying38) ∧ (type_of% Try.underlying43))))))) :=
  ⟨⟨⟨⟨⟨tyc0, tyc2⟩, ⟨zmb2, ⟨tyc4, zmb4⟩⟩⟩, ⟨⟨tyc32, elt32⟩, ⟨mkz32, ⟨mkc32, apT32⟩⟩⟩⟩, ⟨⟨⟨elk32, zmb32⟩, ⟨tyc35, ⟨zmb35, tyc38⟩⟩⟩, ⟨⟨foff38_0, fpart38_0⟩, ⟨foff38_1, ⟨fpart38_1, foff38_2⟩⟩⟩⟩⟩, ⟨⟨⟨⟨fpart38_2, foff38_3⟩, ⟨fpart38_3, ⟨zmb38, bldT38⟩⟩⟩, ⟨⟨tyc43, foff43_0⟩, ⟨fpart43_0, ⟨foff43_1, fpart43_1⟩⟩⟩⟩, ⟨⟨⟨fe43, zmb43⟩, ⟨bldT43, ⟨Try.underlying0, Try.underlying2⟩⟩⟩, ⟨⟨Try.underlying4, Try.underlying32⟩, ⟨Try.underlying35, ⟨Try.underlying38, Try.underlying43⟩⟩⟩⟩⟩⟩
set_option maxRecDepth 8000 in
set_option maxHeartbeats 2000000 in
theorem refList_n (mb W G k w now ne : Nat) (LV : AV) (fA fB : Nat → Nat) (hg : goP W G) (h : GoOk W G k w) (hne : ne = now / w) (hn : now ≤ 253402300799)
    (cK2 : ∀ i : Nat, i < k → ACt Try.prog 47 [pt mb 0, iv .i64 ((ne : Int) - k + 1 + i)] [(mb, mM W G now LV)] (fun r F' => r = cnt (fA i) (fB i) ∧ F' = [(mb, mM W G now LV)])) :
    ACt Try.prog 32 [pt mb 0] [(mb, mM W G now LV)] (fun r F' => r = .sl k (lC k fA fB) ∧ F' = [(mb, mM W G now LV)]) := by
  refine ACt.intro Try.func32 rfl (by kernel_rfl) (by simp [Try.ntmps32]) (fun cx => ?_)
  simp only [argE, Try.ntmps32, Try.results32]
  have cB := Buckets_ct W G hg
  rw [← h.hk] at cB
  have hk1 := h.k1
  have hk2 := h.k2
  have hw1 := h.w0
  have hW := h.w2
  have n1 : ¬ (k : Int) = 0 := by omega
  have n2 : ¬ (w : Int) = 0 := by omega
  have e1 : (W : Int).tdiv (k : Int) = (w : Int) := by rw [h.hw, Int.tdiv_eq_ediv_of_nonneg (by omega)]; simp
  have hwW : w ≤ W := by rw [h.hw]; exact Nat.div_le_self _ _
  have e2 : IntKind.i64.wrap (w : Int) = (w : Int) := wrap_i64_nat (by omega)
  have hnn : ne ≤ now := by rw [hne]; exact Nat.div_le_self _ _
  have e3 : (now : Int).tdiv (w : Int) = (ne : Int) := by rw [hne, Int.tdiv_eq_ediv_of_nonneg (by omega)]; simp
  have e4 : IntKind.i64.wrap (ne : Int) = (ne : Int) := wrap_i64_nat (by omega)
  clear hne
  first | (have FRx := FR; clear FRx) | (have FR : ¬ ((1 : Nat) = 0) := Nat.one_ne_zero)
  repeat' first
    | (refine Sm.mk ?_; try simp -dsimp only [ZK, rvc, drawF, headN, pureH, stp, dvc, calleeOf, gcall, pev, eff, newB, okd, og, ogs, ogo, ogp, slv, bltv, opd, litv, strip, one, both, putE, St.put, look, gdOf, gdv, picka, pickv, pickw, binv, bini, bins, binb, binp, bina, shp, eqCells, unv, convv, nilv, faddv, addp, idxav, idxp, load1, load1m, loadn, loadnm, loadv, hget, hset, hrep, hdel, slicev, bnd, shift1, lenv, IntKind.bits, extractv, fieldv, indexv, min2v, max2v, mkiv, cellsA, fillA, buildv, stC, oneC, rowMB, intsA, plN, appE, appZ, appC, appNZ, appNC, VwL, srcC, srcZ, srcM, isBoolT, isPtrT, isSliceT, uOk, Value.oneCell', Nat.reducePow, Int.reducePow, Nat.reduceAdd, Nat.reduceMul, Nat.reduceSub, Nat.reduceLT, Nat.reduceLeDiff, Nat.reduceEqDiff, Nat.reduceBEq, Nat.reduceDiv, Nat.reduceMod, ↓reduceIte, reduceCtorEq, Int.reduceToNat, Int.reduceLT, Int.reduceLE, TFRgRA, SeqQ, BlkQ, LoopQ, BodyQ, e1, e2, e3, e4, n1, n2, FR])
    | (first | refine CallV.fn (cB) (Sm.out ?_) | refine ExF.mk (cB) (Sm.out ?_) | refine ExG.mk (fun _ => cB) (Sm.out ?_) | refine ExG.mkJ (fun _ => cB) (Sm.out ?_) | refine ExG.mkI (Ob.out ?_) (fun _ => cB) (Sm.out ?_))
    | (refine WP.seq fun K hK => ?_)
    | (refine WP.region (rvc_sound _ _ (Sm.out ?_)))
    | (refine WP.drawK rfl mixed (by decide +kernel) (Sm.out ?_))
    | (refine Ob.mk ?_; focus (first | assumption | omega | decide | trivial | (intro hob; simp only [hob, ZF]; done) | (intros; (repeat' refine And.intro ?_ ?_) <;> first | assumption | omega | trivial | decide) | (intros; simp only [ZE] at *; (repeat' refine And.intro ?_ ?_) <;> first | assumption | omega | trivial)))
    | (refine And.intro (Ob.out ?_) ?_)
    | (refine WP.block ?_)
    | (refine WP.cond rfl (fun hc => ?_) (fun hc => ?_) <;> (try simp only [ZC, reduceCtorEq, ZD] at hc) <;> (try (exact absurd hc (by decide))) <;> (try (exfalso; omega)))
    | ((first | refine WP.skip ?_ | refine WP.exit ?_); simp only [SeqQ, BlkQ, LoopQ, BodyQ, ↓reduceIte, Nat.reduceEqDiff, reduceCtorEq, look, true_and])
    | (refine WP.ret (Sm.out ?_))
    | (first | refine ExG.no (Sm.out ?_) | refine Or.inl (ExG.no (Sm.out ?_)) | refine Or.inl (And.intro (fun hg => absurd hg (by decide)) (ExG.no (Sm.out ?_))))
    | (refine Rt.mk ?_; refine And.intro ?_ ?_ <;> (intro hg; first | exact absurd hg (by decide) | refine Sm.out ?_))
    | (refine Nu.mk ?_; first | (fail_if_success (have := nb1)); intro nb1 | (fail_if_success (have := nb2)); intro nb2 | (fail_if_success (have := nb3)); intro nb3 | (fail_if_success (have := nb4)); intro nb4 | intro nbz)
    | (refine Fr.mk ?_; intro hfr; replace FR := And.intro hfr FR; clear hfr; refine Sm.out ?_)
    | (refine Two.mk ?_ ?_)
    | (refine Cs.mk ?_; intro hcs; first | exact False.elim hcs | (exfalso; omega) | (refine Sm.out ?_))
    | go_step
    | omega
    | (simp only [maxLen_eq]; omega)
  refine WP.loop (Γ := LG) (fun q => ⟨[(6, iv .i64 q.i), (3, iv .i64 k), (4, iv .i64 ne), (0, pt mb 0), (5, ms q.b 0 q.i q.cap)], [(q.b, .cells (lC q.i fA fB) (q.cap * 2) 43), (mb, mM W G now LV)]⟩)
    (fun q => q.i ≤ k ∧ q.i ≤ q.cap ∧ q.cap ≤ 9223372036854775807) (fun q => k - q.i) ⟨0, nb1, 0⟩ ⟨by simp, by simp, by simp⟩ (Sub.pick (by simp [pickB, hget, hdel, FR, lL, List.map_nil]) (by simp [look, lL, List.map_nil])) ?_
  intro ⟨i, b, cap⟩ ⟨hi, hc1, hc2⟩
  simp only at hi hc1 hc2 ⊢
  (refine WP.nd fun hnd => ?_; simp only [ndF, fresh_cons, fresh_nil, and_true, ne_eq] at hnd; replace FR := And.intro hnd FR; clear hnd)
  have hlc := lC_len fA fB i
  by_cases hlt : i < k
  · have k1 : decide ((i : Int) < (k : Int)) = true := by simp; omega
    have w1 : IntKind.i64.wrap ((i : Int) + 1) = ((i + 1 : Nat) : Int) := by rw [wrap_i64 (by omega) (by omega)]; omega
    have w2 : IntKind.i64.wrap ((ne : Int) - (k : Int)) = (ne : Int) - (k : Int) := wrap_i64 (by omega) (by omega)
    have w3 : IntKind.i64.wrap ((ne : Int) - (k : Int) + 1) = (ne : Int) - (k : Int) + 1 := wrap_i64 (by omega) (by omega)
    have w4 : IntKind.i64.wrap ((ne : Int) - (k : Int) + 1 + (i : Int)) = (ne : Int) - (k : Int) + 1 + (i : Int) := wrap_i64 (by omega) (by omega)
    have c5 := cK2 i hlt
    have s1 : lC i fA fB ++ [nu (fA i), nu (fB i)] = lC (i + 1) fA fB := by
      show _ = (lL i fA fB ++ [(fA i : Int), (fB i : Int)]).map (iv .u64)
      rw [List.map_append]; rfl
    obtain ⟨D, hD⟩ : ∃ D, D = lC i fA fB := ⟨_, rfl⟩
    rw [← hD] at s1 hlc ⊢
    clear cK2
    first | (have FRx := FR; clear FRx) | (have FR : ¬ ((1 : Nat) = 0) := Nat.one_ne_zero)
    repeat' first
      | (refine Sm.mk ?_; try simp -dsimp only [ZK, rvc, drawF, headN, pureH, stp, dvc, calleeOf, gcall, pev, eff, newB, okd, og, ogs, ogo, ogp, slv, bltv, opd, litv, strip, one, both, putE, St.put, look, gdOf, gdv, picka, pickv, pickw, binv, bini, bins, binb, binp, bina, shp, eqCells, unv, convv, nilv, faddv, addp, idxav, idxp, load1, load1m, loadn, loadnm, loadv, hget, hset, hrep, hdel, slicev, bnd, shift1, lenv, IntKind.bits, extractv, fieldv, indexv, min2v, max2v, mkiv, cellsA, fillA, buildv, stC, oneC, rowMB, intsA, plN, appE, appZ, appC, appNZ, appNC, VwL, srcC, srcZ, srcM, isBoolT, isPtrT, isSliceT, uOk, Value.oneCell', Nat.reducePow, Int.reducePow, Nat.reduceAdd, Nat.reduceMul, Nat.reduceSub, Nat.reduceLT, Nat.reduceLeDiff, Nat.reduceEqDiff, Nat.reduceBEq, Nat.reduceDiv, Nat.reduceMod, ↓reduceIte, reduceCtorEq, Int.reduceToNat, Int.reduceLT, Int.reduceLE, TFRgRA, SeqQ, BlkQ, LoopQ, BodyQ, k1, w1, w2, w3, w4, hlc, s1, FR])
      | (refine CallV.updM (c5) (perm1 (by simp only [hget, hdel, ↓reduceIte, FR, k1, w1, w2, w3, w4, hlc, s1]; first | done | rfl)) (Sm.out ?_))
      | ((first | refine ExF.up ?_ (c5) (Sm.out ?_) | refine ExG.up ?_ (fun _ => c5) (Sm.out ?_) | refine ExG.upJ ?_ (fun _ => c5) (Sm.out ?_) | refine ExG.upI ?_ (fun _ => c5) (Ob.out ?_) (Sm.out ?_)); focus (exact ⟨_, (perm1 (by simp only [hget, hdel, ↓reduceIte, FR, k1, w1, w2, w3, w4, hlc, s1]; first | done | rfl))⟩))
      | (refine WP.seq fun K hK => ?_)
      | (refine WP.region (rvc_sound _ _ (Sm.out ?_)))
      | (refine WP.drawK rfl mixed (by decide +kernel) (Sm.out ?_))
      | (refine Ob.mk ?_; focus (first | assumption | omega | decide | trivial | (intro hob; simp only [hob, ZF]; done) | (intros; (repeat' refine And.intro ?_ ?_) <;> first | assumption | omega | trivial | decide) | (intros; simp only [ZE] at *; (repeat' refine And.intro ?_ ?_) <;> first | assumption | omega | trivial)))
      | (refine And.intro (Ob.out ?_) ?_)
      | (refine WP.block ?_)
      | (refine WP.cond rfl (fun hc => ?_) (fun hc => ?_) <;> (try simp only [ZC, reduceCtorEq, ZD] at hc) <;> (try (exact absurd hc (by decide))) <;> (try (exfalso; omega)))
      | ((first | refine WP.skip ?_ | refine WP.exit ?_); simp only [SeqQ, BlkQ, LoopQ, BodyQ, ↓reduceIte, Nat.reduceEqDiff, reduceCtorEq, look, true_and])
      | (refine WP.ret (Sm.out ?_))
      | (first | refine ExG.no (Sm.out ?_) | refine Or.inl (ExG.no (Sm.out ?_)) | refine Or.inl (And.intro (fun hg => absurd hg (by decide)) (ExG.no (Sm.out ?_))))
      | (refine Rt.mk ?_; refine And.intro ?_ ?_ <;> (intro hg; first | exact absurd hg (by decide) | refine Sm.out ?_))
      | (refine Nu.mk ?_; first | (fail_if_success (have := nb1)); intro nb1 | (fail_if_success (have := nb2)); intro nb2 | (fail_if_success (have := nb3)); intro nb3 | (fail_if_success (have := nb4)); intro nb4 | intro nbz)
      | (refine Fr.mk ?_; intro hfr; replace FR := And.intro hfr FR; clear hfr; refine Sm.out ?_)
      | (refine Two.mk ?_ ?_)
      | (refine Cs.mk ?_; intro hcs; first | exact False.elim hcs | (exfalso; omega) | (refine Sm.out ?_))
      | go_step
      | omega
      | (simp only [maxLen_eq]; omega)
    all_goals exact ⟨⟨i + 1, nb3, nb4⟩, ⟨by simp only; omega, by simp only; omega, by simp only; omega⟩, by simp only; omega, (Sub.pick (by simp [pickB, hget, hdel, FR, s1]) (by simp [look, s1]))⟩
  · obtain rfl : i = k := by omega
    have k1 : decide ((i : Int) < (i : Int)) = false := by simp
    obtain ⟨D, hD⟩ : ∃ D, D = lC i fA fB := ⟨_, rfl⟩
    rw [← hD] at hlc ⊢
    have f1 : (i * 2 ≤ D.length) = True := by rw [hlc]; simp
    have f3 : (i ≤ cap ∧ cap ≤ 9223372036854775807) = True := by simp; omega
    have f2 : D.take (i * 2) = D := List.take_of_length_le (by omega)
    first | (have FRx := FR; clear FRx) | (have FR : ¬ ((1 : Nat) = 0) := Nat.one_ne_zero)
    repeat' first
      | (refine Sm.mk ?_; try simp -dsimp only [ZK, rvc, drawF, headN, pureH, stp, dvc, calleeOf, gcall, pev, eff, newB, okd, og, ogs, ogo, ogp, slv, bltv, opd, litv, strip, one, both, putE, St.put, look, gdOf, gdv, picka, pickv, pickw, binv, bini, bins, binb, binp, bina, shp, eqCells, unv, convv, nilv, faddv, addp, idxav, idxp, load1, load1m, loadn, loadnm, loadv, hget, hset, hrep, hdel, slicev, bnd, shift1, lenv, IntKind.bits, extractv, fieldv, indexv, min2v, max2v, mkiv, cellsA, fillA, buildv, stC, oneC, rowMB, intsA, plN, appE, appZ, appC, appNZ, appNC, VwL, srcC, srcZ, srcM, isBoolT, isPtrT, isSliceT, uOk, Value.oneCell', Nat.reducePow, Int.reducePow, Nat.reduceAdd, Nat.reduceMul, Nat.reduceSub, Nat.reduceLT, Nat.reduceLeDiff, Nat.reduceEqDiff, Nat.reduceBEq, Nat.reduceDiv, Nat.reduceMod, ↓reduceIte, reduceCtorEq, Int.reduceToNat, Int.reduceLT, Int.reduceLE, TFRgRA, SeqQ, BlkQ, LoopQ, BodyQ, k1, FR])
      | (refine WP.seq fun K hK => ?_)
      | (refine WP.region (rvc_sound _ _ (Sm.out ?_)))
      | (refine WP.drawK rfl mixed (by decide +kernel) (Sm.out ?_))
      | (refine Ob.mk ?_; focus (first | assumption | omega | decide | trivial | (intro hob; simp only [hob, ZF]; done) | (intros; (repeat' refine And.intro ?_ ?_) <;> first | assumption | omega | trivial | decide) | (intros; simp only [ZE] at *; (repeat' refine And.intro ?_ ?_) <;> first | assumption | omega | trivial)))
      | (refine And.intro (Ob.out ?_) ?_)
      | (refine WP.block ?_)
      | (refine WP.cond rfl (fun hc => ?_) (fun hc => ?_) <;> (try simp only [ZC, reduceCtorEq, ZD] at hc) <;> (try (exact absurd hc (by decide))) <;> (try (exfalso; omega)))
      | ((first | refine WP.skip ?_ | refine WP.exit ?_); simp only [SeqQ, BlkQ, LoopQ, BodyQ, ↓reduceIte, Nat.reduceEqDiff, reduceCtorEq, look, true_and])
      | (refine WP.ret (Sm.out ?_))
      | (first | refine ExG.no (Sm.out ?_) | refine Or.inl (ExG.no (Sm.out ?_)) | refine Or.inl (And.intro (fun hg => absurd hg (by decide)) (ExG.no (Sm.out ?_))))
      | (refine Rt.mk ?_; refine And.intro ?_ ?_ <;> (intro hg; first | exact absurd hg (by decide) | refine Sm.out ?_))
      | (refine Nu.mk ?_; first | (fail_if_success (have := nb1)); intro nb1 | (fail_if_success (have := nb2)); intro nb2 | (fail_if_success (have := nb3)); intro nb3 | (fail_if_success (have := nb4)); intro nb4 | intro nbz)
      | (refine Fr.mk ?_; intro hfr; replace FR := And.intro hfr FR; clear hfr; refine Sm.out ?_)
      | (refine Two.mk ?_ ?_)
      | (refine Cs.mk ?_; intro hcs; first | exact False.elim hcs | (exfalso; omega) | (refine Sm.out ?_))
      | go_step
      | omega
      | (simp only [maxLen_eq]; omega)
    rw [← hD]
    (refine OutQ.wk (Wk.freezeC (b) (2) (by simp only [ZK, rvc, drawF, headN, pureH, stp, dvc, calleeOf, gcall, pev, eff, newB, okd, og, ogs, ogo, ogp, slv, bltv, opd, litv, strip, one, both, putE, St.put, look, gdOf, gdv, picka, pickv, pickw, binv, bini, bins, binb, binp, bina, shp, eqCells, unv, convv, nilv, faddv, addp, idxav, idxp, load1, load1m, loadn, loadnm, loadv, hget, hset, hrep, hdel, slicev, bnd, shift1, lenv, IntKind.bits, extractv, fieldv, indexv, min2v, max2v, mkiv, cellsA, fillA, buildv, stC, oneC, rowMB, intsA, plN, appE, appZ, appC, appNZ, appNC, VwL, srcC, srcZ, srcM, isBoolT, isPtrT, isSliceT, uOk, Value.oneCell', Nat.reducePow, Int.reducePow, Nat.reduceAdd, Nat.reduceMul, Nat.reduceSub, Nat.reduceLT, Nat.reduceLeDiff, Nat.reduceEqDiff, Nat.reduceBEq, Nat.reduceDiv, Nat.reduceMod, ↓reduceIte, reduceCtorEq, Int.reduceToNat, Int.reduceLT, Int.reduceLE, TFRgRA, SeqQ, BlkQ, LoopQ, BodyQ, FR]; first | done | rfl)) ?_; simp only [frzCE, frzC, ZK, rvc, drawF, headN, pureH, stp, dvc, calleeOf, gcall, pev, eff, newB, okd, og, ogs, ogo, ogp, slv, bltv, opd, litv, strip, one, both, putE, St.put, look, gdOf, gdv, picka, pickv, pickw, binv, bini, bins, binb, binp, bina, shp, eqCells, unv, convv, nilv, faddv, addp, idxav, idxp, load1, load1m, loadn, loadnm, loadv, hget, hset, hrep, hdel, slicev, bnd, shift1, lenv, IntKind.bits, extractv, fieldv, indexv, min2v, max2v, mkiv, cellsA, fillA, buildv, stC, oneC, rowMB, intsA, plN, appE, appZ, appC, appNZ, appNC, VwL, srcC, srcZ, srcM, isBoolT, isPtrT, isSliceT, uOk, Value.oneCell', Nat.reducePow, Int.reducePow, Nat.reduceAdd, Nat.reduceMul, Nat.reduceSub, Nat.reduceLT, Nat.reduceLeDiff, Nat.reduceEqDiff, Nat.reduceBEq, Nat.reduceDiv, Nat.reduceMod, ↓reduceIte, reduceCtorEq, Int.reduceToNat, Int.reduceLT, Int.reduceLE, TFRgRA, SeqQ, BlkQ, LoopQ, BodyQ, FR])
    (refine OutQ.drop _ _ (perm1 (by simp only [hget, hdel, ↓reduceIte, if_true, if_false, FR, f1, f2, f3, if_true, and_true]; first | done | rfl)) (by simp only [resv, ZK, look, loadv, loadn, loadnm, load1, load1m, hget, ↓reduceIte, Nat.reduceEqDiff, Nat.reduceAdd, Nat.reduceMul, Nat.reduceLeDiff, Nat.reduceLT, reduceCtorEq, TFRgRA, FR, f1, f2, f3, if_true, and_true]) ⟨(by simp only [resv, resA, ZK, look, loadv, loadn, loadnm, load1, load1m, hget, ↓reduceIte, Nat.reduceEqDiff, Nat.reduceAdd, Nat.reduceMul, Nat.reduceLeDiff, Nat.reduceLT, reduceCtorEq, TFRgRA, FR, f1, f2, f3, if_true, and_true]; first | done | rfl), rfl⟩)
set_option maxRecDepth 8000 in
set_option maxHeartbeats 2000000 in
theorem refList_s (mb b0 W G k w now ne : Nat) (m0 : MB) (LV : AV) (fA fB : Nat → Nat) (hg : goP W G) (h : GoOk W G k w) (hne : ne = now / w) (hn : now ≤ 253402300799) (hb0 : mb ≠ b0 ∧ b0 ≠ mb)
    (cK2 : ∀ i : Nat, i < k → ACt Try.prog 47 [pt mb 0, iv .i64 ((ne : Int) - k + 1 + i)] [(mb, mM W G now LV), (b0, m0)] (fun r F' => r = cnt (fA i) (fB i) ∧ F' = [(mb, mM W G now LV), (b0, m0)])) :
    ACt Try.prog 32 [pt mb 0] [(mb, mM W G now LV), (b0, m0)] (fun r F' => r = .sl k (lC k fA fB) ∧ F' = [(mb, mM W G now LV), (b0, m0)]) := by
  refine ACt.intro Try.func32 rfl (by kernel_rfl) (by simp [Try.ntmps32]) (fun cx => ?_)
  simp only [argE, Try.ntmps32, Try.results32]
  have cB := Buckets_ct W G hg
  rw [← h.hk] at cB
  have hk1 := h.k1
  have hk2 := h.k2
  have hw1 := h.w0
  have hW := h.w2
  have n1 : ¬ (k : Int) = 0 := by omega
  have n2 : ¬ (w : Int) = 0 := by omega
  have e1 : (W : Int).tdiv (k : Int) = (w : Int) := by rw [h.hw, Int.tdiv_eq_ediv_of_nonneg (by omega)]; simp
  have hwW : w ≤ W := by rw [h.hw]; exact Nat.div_le_self _ _
  have e2 : IntKind.i64.wrap (w : Int) = (w : Int) := wrap_i64_nat (by omega)
  have hnn : ne ≤ now := by rw [hne]; exact Nat.div_le_self _ _
  have e3 : (now : Int).tdiv (w : Int) = (ne : Int) := by rw [hne, Int.tdiv_eq_ediv_of_nonneg (by omega)]; simp
  have e4 : IntKind.i64.wrap (ne : Int) = (ne : Int) := wrap_i64_nat (by omega)
  clear hne
  first | (have FRx := FR; clear FRx) | (have FR : ¬ ((1 : Nat) = 0) := Nat.one_ne_zero)
  repeat' first
    | (refine Sm.mk ?_; try simp -dsimp only [ZK, rvc, drawF, headN, pureH, stp, dvc, calleeOf, gcall, pev, eff, newB, okd, og, ogs, ogo, ogp, slv, bltv, opd, litv, strip, one, both, putE, St.put, look, gdOf, gdv, picka, pickv, pickw, binv, bini, bins, binb, binp, bina, shp, eqCells, unv, convv, nilv, faddv, addp, idxav, idxp, load1, load1m, loadn, loadnm, loadv, hget, hset, hrep, hdel, slicev, bnd, shift1, lenv, IntKind.bits, extractv, fieldv, indexv, min2v, max2v, mkiv, cellsA, fillA, buildv, stC, oneC, rowMB, intsA, plN, appE, appZ, appC, appNZ, appNC, VwL, srcC, srcZ, srcM, isBoolT, isPtrT, isSliceT, uOk, Value.oneCell', Nat.reducePow, Int.reducePow, Nat.reduceAdd, Nat.reduceMul, Nat.reduceSub, Nat.reduceLT, Nat.reduceLeDiff, Nat.reduceEqDiff, Nat.reduceBEq, Nat.reduceDiv, Nat.reduceMod, ↓reduceIte, reduceCtorEq, Int.reduceToNat, Int.reduceLT, Int.reduceLE, TFRgRA, SeqQ, BlkQ, LoopQ, BodyQ, e1, e2, e3, e4, n1, n2, hb0, FR])
    | (first | refine CallV.fn (cB) (Sm.out ?_) | refine ExF.mk (cB) (Sm.out ?_) | refine ExG.mk (fun _ => cB) (Sm.out ?_) | refine ExG.mkJ (fun _ => cB) (Sm.out ?_) | refine ExG.mkI (Ob.out ?_) (fun _ => cB) (Sm.out ?_))
    | (refine WP.seq fun K hK => ?_)
    | (refine WP.region (rvc_sound _ _ (Sm.out ?_)))
    | (refine WP.drawK rfl mixed (by decide +kernel) (Sm.out ?_))
    | (refine Ob.mk ?_; focus (first | assumption | omega | decide | trivial | (intro hob; simp only [hob, ZF]; done) | (intros; (repeat' refine And.intro ?_ ?_) <;> first | assumption | omega | trivial | decide) | (intros; simp only [ZE] at *; (repeat' refine And.intro ?_ ?_) <;> first | assumption | omega | trivial)))
    | (refine And.intro (Ob.out ?_) ?_)
    | (refine WP.block ?_)
    | (refine WP.cond rfl (fun hc => ?_) (fun hc => ?_) <;> (try simp only [ZC, reduceCtorEq, ZD] at hc) <;> (try (exact absurd hc (by decide))) <;> (try (exfalso; omega)))
    | ((first | refine WP.skip ?_ | refine WP.exit ?_); simp only [SeqQ, BlkQ, LoopQ, BodyQ, ↓reduceIte, Nat.reduceEqDiff, reduceCtorEq, look, true_and])
    | (refine WP.ret (Sm.out ?_))
    | (first | refine ExG.no (Sm.out ?_) | refine Or.inl (ExG.no (Sm.out ?_)) | refine Or.inl (And.intro (fun hg => absurd hg (by decide)) (ExG.no (Sm.out ?_))))
    | (refine Rt.mk ?_; refine And.intro ?_ ?_ <;> (intro hg; first | exact absurd hg (by decide) | refine Sm.out ?_))
    | (refine Nu.mk ?_; first | (fail_if_success (have := nb1)); intro nb1 | (fail_if_success (have := nb2)); intro nb2 | (fail_if_success (have := nb3)); intro nb3 | (fail_if_success (have := nb4)); intro nb4 | intro nbz)
    | (refine Fr.mk ?_; intro hfr; replace FR := And.intro hfr FR; clear hfr; refine Sm.out ?_)
    | (refine Two.mk ?_ ?_)
    | (refine Cs.mk ?_; intro hcs; first | exact False.elim hcs | (exfalso; omega) | (refine Sm.out ?_))
    | go_step
    | omega
    | (simp only [maxLen_eq]; omega)
  refine WP.loop (Γ := LG) (fun q => ⟨[(6, iv .i64 q.i), (3, iv .i64 k), (4, iv .i64 ne), (0, pt mb 0), (5, ms q.b 0 q.i q.cap)], [(q.b, .cells (lC q.i fA fB) (q.cap * 2) 43), (mb, mM W G now LV), (b0, m0)]⟩)
    (fun q => q.i ≤ k ∧ q.i ≤ q.cap ∧ q.cap ≤ 9223372036854775807) (fun q => k - q.i) ⟨0, nb1, 0⟩ ⟨by simp, by simp, by simp⟩ (Sub.pick (by simp [pickB, hget, hdel, FR, lL, List.map_nil, hb0]) (by simp [look, lL, List.map_nil, hb0])) ?_
  intro ⟨i, b, cap⟩ ⟨hi, hc1, hc2⟩
  simp only at hi hc1 hc2 ⊢
  (refine WP.nd fun hnd => ?_; simp only [ndF, fresh_cons, fresh_nil, and_true, ne_eq] at hnd; replace FR := And.intro hnd FR; clear hnd)
  have hlc := lC_len fA fB i
  by_cases hlt : i < k
  · have k1 : decide ((i : Int) < (k : Int)) = true := by simp; omega
    have w1 : IntKind.i64.wrap ((i : Int) + 1) = ((i + 1 : Nat) : Int) := by rw [wrap_i64 (by omega) (by omega)]; omega
    have w2 : IntKind.i64.wrap ((ne : Int) - (k : Int)) = (ne : Int) - (k : Int) := wrap_i64 (by omega) (by omega)
    have w3 : IntKind.i64.wrap ((ne : Int) - (k : Int) + 1) = (ne : Int) - (k : Int) + 1 := wrap_i64 (by omega) (by omega)
    have w4 : IntKind.i64.wrap ((ne : Int) - (k : Int) + 1 + (i : Int)) = (ne : Int) - (k : Int) + 1 + (i : Int) := wrap_i64 (by omega) (by omega)
    have c5 := cK2 i hlt
    have s1 : lC i fA fB ++ [nu (fA i), nu (fB i)] = lC (i + 1) fA fB := by
      show _ = (lL i fA fB ++ [(fA i : Int), (fB i : Int)]).map (iv .u64)
      rw [List.map_append]; rfl
    obtain ⟨D, hD⟩ : ∃ D, D = lC i fA fB := ⟨_, rfl⟩
    rw [← hD] at s1 hlc ⊢
    clear cK2
    first | (have FRx := FR; clear FRx) | (have FR : ¬ ((1 : Nat) = 0) := Nat.one_ne_zero)
    repeat' first
      | (refine Sm.mk ?_; try simp -dsimp only [ZK, rvc, drawF, headN, pureH, stp, dvc, calleeOf, gcall, pev, eff, newB, okd, og, ogs, ogo, ogp, slv, bltv, opd, litv, strip, one, both, putE, St.put, look, gdOf, gdv, picka, pickv, pickw, binv, bini, bins, binb, binp, bina, shp, eqCells, unv, convv, nilv, faddv, addp, idxav, idxp, load1, load1m, loadn, loadnm, loadv, hget, hset, hrep, hdel, slicev, bnd, shift1, lenv, IntKind.bits, extractv, fieldv, indexv, min2v, max2v, mkiv, cellsA, fillA, buildv, stC, oneC, rowMB, intsA, plN, appE, appZ, appC, appNZ, appNC, VwL, srcC, srcZ, srcM, isBoolT, isPtrT, isSliceT, uOk, Value.oneCell', Nat.reducePow, Int.reducePow, Nat.reduceAdd, Nat.reduceMul, Nat.reduceSub, Nat.reduceLT, Nat.reduceLeDiff, Nat.reduceEqDiff, Nat.reduceBEq, Nat.reduceDiv, Nat.reduceMod, ↓reduceIte, reduceCtorEq, Int.reduceToNat, Int.reduceLT, Int.reduceLE, TFRgRA, SeqQ, BlkQ, LoopQ, BodyQ, k1, w1, w2, w3, w4, hlc, s1, hb0, FR])
      | (refine CallV.updM (c5) (perm2 (by simp only [hget, hdel, ↓reduceIte, FR, k1, w1, w2, w3, w4, hlc, s1, hb0]; first | done | rfl) (by simp only [hget, hdel, ↓reduceIte, FR, k1, w1, w2, w3, w4, hlc, s1, hb0]; first | done | rfl)) (Sm.out ?_))
      | ((first | refine ExF.up ?_ (c5) (Sm.out ?_) | refine ExG.up ?_ (fun _ => c5) (Sm.out ?_) | refine ExG.upJ ?_ (fun _ => c5) (Sm.out ?_) | refine ExG.upI ?_ (fun _ => c5) (Ob.out ?_) (Sm.out ?_)); focus (exact ⟨_, (perm2 (by simp only [hget, hdel, ↓reduceIte, FR, k1, w1, w2, w3, w4, hlc, s1, hb0]; first | done | rfl) (by simp only [hget, hdel, ↓reduceIte, FR, k1, w1, w2, w3, w4, hlc, s1, hb0]; first | done | rfl))⟩))
      | (refine WP.seq fun K hK => ?_)
      | (refine WP.region (rvc_sound _ _ (Sm.out ?_)))
      | (refine WP.drawK rfl mixed (by decide +kernel) (Sm.out ?_))
      | (refine Ob.mk ?_; focus (first | assumption | omega | decide | trivial | (intro hob; simp only [hob, ZF]; done) | (intros; (repeat' refine And.intro ?_ ?_) <;> first | assumption | omega | trivial | decide) | (intros; simp only [ZE] at *; (repeat' refine And.intro ?_ ?_) <;> first | assumption | omega | trivial)))
      | (refine And.intro (Ob.out ?_) ?_)
      | (refine WP.block ?_)
      | (refine WP.cond rfl (fun hc => ?_) (fun hc => ?_) <;> (try simp only [ZC, reduceCtorEq, ZD] at hc) <;> (try (exact absurd hc (by decide))) <;> (try (exfalso; omega)))
      | ((first | refine WP.skip ?_ | refine WP.exit ?_); simp only [SeqQ, BlkQ, LoopQ, BodyQ, ↓reduceIte, Nat.reduceEqDiff, reduceCtorEq, look, true_and])
      | (refine WP.ret (Sm.out ?_))
      | (first | refine ExG.no (Sm.out ?_) | refine Or.inl (ExG.no (Sm.out ?_)) | refine Or.inl (And.intro (fun hg => absurd hg (by decide)) (ExG.no (Sm.out ?_))))
      | (refine Rt.mk ?_; refine And.intro ?_ ?_ <;> (intro hg; first | exact absurd hg (by decide) | refine Sm.out ?_))
      | (refine Nu.mk ?_; first | (fail_if_success (have := nb1)); intro nb1 | (fail_if_success (have := nb2)); intro nb2 | (fail_if_success (have := nb3)); intro nb3 | (fail_if_success (have := nb4)); intro nb4 | intro nbz)
      | (refine Fr.mk ?_; intro hfr; replace FR := And.intro hfr FR; clear hfr; refine Sm.out ?_)
      | (refine Two.mk ?_ ?_)
      | (refine Cs.mk ?_; intro hcs; first | exact False.elim hcs | (exfalso; omega) | (refine Sm.out ?_))
      | go_step
      | omega
      | (simp only [maxLen_eq]; omega)
    all_goals exact ⟨⟨i + 1, nb3, nb4⟩, ⟨by simp only; omega, by simp only; omega, by simp only; omega⟩, by simp only; omega, (Sub.pick (by simp [pickB, hget, hdel, FR, s1, hb0]) (by simp [look, s1, hb0]))⟩
  · obtain rfl : i = k := by omega
    have k1 : decide ((i : Int) < (i : Int)) = false := by simp
    obtain ⟨D, hD⟩ : ∃ D, D = lC i fA fB := ⟨_, rfl⟩
    rw [← hD] at hlc ⊢
    have f1 : (i * 2 ≤ D.length) = True := by rw [hlc]; simp
    have f3 : (i ≤ cap ∧ cap ≤ 9223372036854775807) = True := by simp; omega
    have f2 : D.take (i * 2) = D := List.take_of_length_le (by omega)
    first | (have FRx := FR; clear FRx) | (have FR : ¬ ((1 : Nat) = 0) := Nat.one_ne_zero)
    repeat' first
      | (refine Sm.mk ?_; try simp -dsimp only [ZK, rvc, drawF, headN, pureH, stp, dvc, calleeOf, gcall, pev, eff, newB, okd, og, ogs, ogo, ogp, slv, bltv, opd, litv, strip, one, both, putE, St.put, look, gdOf, gdv, picka, pickv, pickw, binv, bini, bins, binb, binp, bina, shp, eqCells, unv, convv, nilv, faddv, addp, idxav, idxp, load1, load1m, loadn, loadnm, loadv, hget, hset, hrep, hdel, slicev, bnd, shift1, lenv, IntKind.bits, extractv, fieldv, indexv, min2v, max2v, mkiv, cellsA, fillA, buildv, stC, oneC, rowMB, intsA, plN, appE, appZ, appC, appNZ, appNC, VwL, srcC, srcZ, srcM, isBoolT, isPtrT, isSliceT, uOk, Value.oneCell', Nat.reducePow, Int.reducePow, Nat.reduceAdd, Nat.reduceMul, Nat.reduceSub, Nat.reduceLT, Nat.reduceLeDiff, Nat.reduceEqDiff, Nat.reduceBEq, Nat.reduceDiv, Nat.reduceMod, ↓reduceIte, reduceCtorEq, Int.reduceToNat, Int.reduceLT, Int.reduceLE, TFRgRA, SeqQ, BlkQ, LoopQ, BodyQ, k1, FR])
      | (refine WP.seq fun K hK => ?_)
      | (refine WP.region (rvc_sound _ _ (Sm.out ?_)))
      | (refine WP.drawK rfl mixed (by decide +kernel) (Sm.out ?_))
      | (refine Ob.mk ?_; focus (first | assumption | omega | decide | trivial | (intro hob; simp only [hob, ZF]; done) | (intros; (repeat' refine And.intro ?_ ?_) <;> first | assumption | omega | trivial | decide) | (intros; simp only [ZE] at *; (repeat' refine And.intro ?_ ?_) <;> first | assumption | omega | trivial)))
      | (refine And.intro (Ob.out ?_) ?_)
      | (refine WP.block ?_)
      | (refine WP.cond rfl (fun hc => ?_) (fun hc => ?_) <;> (try simp only [ZC, reduceCtorEq, ZD] at hc) <;> (try (exact absurd hc (by decide))) <;> (try (exfalso; omega)))
      | ((first | refine WP.skip ?_ | refine WP.exit ?_); simp only [SeqQ, BlkQ, LoopQ, BodyQ, ↓reduceIte, Nat.reduceEqDiff, reduceCtorEq, look, true_and])
      | (refine WP.ret (Sm.out ?_))
      | (first | refine ExG.no (Sm.out ?_) | refine Or.inl (ExG.no (Sm.out ?_)) | refine Or.inl (And.intro (fun hg => absurd hg (by decide)) (ExG.no (Sm.out ?_))))
      | (refine Rt.mk ?_; refine And.intro ?_ ?_ <;> (intro hg; first | exact absurd hg (by decide) | refine Sm.out ?_))
      | (refine Nu.mk ?_; first | (fail_if_success (have := nb1)); intro nb1 | (fail_if_success (have := nb2)); intro nb2 | (fail_if_success (have := nb3)); intro nb3 | (fail_if_success (have := nb4)); intro nb4 | intro nbz)
      | (refine Fr.mk ?_; intro hfr; replace FR := And.intro hfr FR; clear hfr; refine Sm.out ?_)
      | (refine Two.mk ?_ ?_)
      | (refine Cs.mk ?_; intro hcs; first | exact False.elim hcs | (exfalso; omega) | (refine Sm.out ?_))
      | go_step
      | omega
      | (simp only [maxLen_eq]; omega)
    rw [← hD]
    (refine OutQ.wk (Wk.freezeC (b) (2) (by simp only [ZK, rvc, drawF, headN, pureH, stp, dvc, calleeOf, gcall, pev, eff, newB, okd, og, ogs, ogo, ogp, slv, bltv, opd, litv, strip, one, both, putE, St.put, look, gdOf, gdv, picka, pickv, pickw, binv, bini, bins, binb, binp, bina, shp, eqCells, unv, convv, nilv, faddv, addp, idxav, idxp, load1, load1m, loadn, loadnm, loadv, hget, hset, hrep, hdel, slicev, bnd, shift1, lenv, IntKind.bits, extractv, fieldv, indexv, min2v, max2v, mkiv, cellsA, fillA, buildv, stC, oneC, rowMB, intsA, plN, appE, appZ, appC, appNZ, appNC, VwL, srcC, srcZ, srcM, isBoolT, isPtrT, isSliceT, uOk, Value.oneCell', Nat.reducePow, Int.reducePow, Nat.reduceAdd, Nat.reduceMul, Nat.reduceSub, Nat.reduceLT, Nat.reduceLeDiff, Nat.reduceEqDiff, Nat.reduceBEq, Nat.reduceDiv, Nat.reduceMod, ↓reduceIte, reduceCtorEq, Int.reduceToNat, Int.reduceLT, Int.reduceLE, TFRgRA, SeqQ, BlkQ, LoopQ, BodyQ, hb0, FR]; first | done | rfl)) ?_; simp only [frzCE, frzC, ZK, rvc, drawF, headN, pureH, stp, dvc, calleeOf, gcall, pev, eff, newB, okd, og, ogs, ogo, ogp, slv, bltv, opd, litv, strip, one, both, putE, St.put, look, gdOf, gdv, picka, pickv, pickw, binv, bini, bins, binb, binp, bina, shp, eqCells, unv, convv, nilv, faddv, addp, idxav, idxp, load1, load1m, loadn, loadnm, loadv, hget, hset, hrep, hdel, slicev, bnd, shift1, lenv, IntKind.bits, extractv, fieldv, indexv, min2v, max2v, mkiv, cellsA, fillA, buildv, stC, oneC, rowMB, intsA, plN, appE, appZ, appC, appNZ, appNC, VwL, srcC, srcZ, srcM, isBoolT, isPtrT, isSliceT, uOk, Value.oneCell', Nat.reducePow, Int.reducePow, Nat.reduceAdd, Nat.reduceMul, Nat.reduceSub, Nat.reduceLT, Nat.reduceLeDiff, Nat.reduceEqDiff, Nat.reduceBEq, Nat.reduceDiv, Nat.reduceMod, ↓reduceIte, reduceCtorEq, Int.reduceToNat, Int.reduceLT, Int.reduceLE, TFRgRA, SeqQ, BlkQ, LoopQ, BodyQ, hb0, FR])
    (refine OutQ.drop _ _ (perm2 (by simp only [hget, hdel, ↓reduceIte, if_true, if_false, FR, f1, f2, f3, if_true, and_true, hb0]; first | done | rfl) (by simp only [hget, hdel, ↓reduceIte, if_true, if_false, FR, f1, f2, f3, if_true, and_true, hb0]; first | done | rfl)) (by simp only [resv, ZK, look, loadv, loadn, loadnm, load1, load1m, hget, ↓reduceIte, Nat.reduceEqDiff, Nat.reduceAdd, Nat.reduceMul, Nat.reduceLeDiff, Nat.reduceLT, reduceCtorEq, TFRgRA, FR, f1, f2, f3, if_true, and_true, hb0]) ⟨(by simp only [resv, resA, ZK, look, loadv, loadn, loadnm, load1, load1m, hget, ↓reduceIte, Nat.reduceEqDiff, Nat.reduceAdd, Nat.reduceMul, Nat.reduceLeDiff, Nat.reduceLT, reduceCtorEq, TFRgRA, FR, f1, f2, f3, if_true, and_true, hb0]; first | done | rfl), rfl⟩)
end Go.Proofs.Ytbnkmhlnoaebcaa
