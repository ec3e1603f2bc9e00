/-
  The walks and the laws that the statement leans on, part 10.
-/
import Derived.Test.YtdfkpnkohikcgaaDoorZ9
namespace Go.Proofs.YtdfkpnkohikcgaaDoor
open Go
set_option linter.unusedVariables false
set_option linter.unusedSimpArgs false
theorem TFSpJ : ((((((type_of% tyc0) ∧ (type_of% tyc2)) ∧ ((type_of% zmb2) ∧ ((type_of% tyc3) ∧ (type_of% zmb3)))) ∧ (((type_of% tyc4) ∧ (type_of% zmb4)) ∧ ((type_of% tyc5) ∧ ((type_of% zmb5) ∧ (type_of% tyc9))))) ∧ ((((type_of% zmb9) ∧ (type_of% tyc21)) ∧ ((type_of% zmb21) ∧ ((type_of% tyc24) ∧ (type_of% zmb24)))) ∧ (((type_of% tyc25) ∧ ((type_of% tyc37) ∧ (type_of% foff37_0))) ∧ ((type_of% fpart37_0) ∧ ((type_of% foff37_1) ∧ (type_of% fpart37_1)))))) ∧ (((((type_of% zmb37) ∧ (type_of% bldT37)) ∧ ((type_of% tyc40) ∧ ((type_of% tyc49) ∧ (type_of% elt49)))) ∧ (((type_of% mkz49) ∧ (type_of% apT49)) ∧ ((type_of% elk49) ∧ ((type_of% zmb49) ∧ (type_of% Tryd.underlying0))))) ∧ ((((type_of% Tryd.underlying2) ∧ (type_of% Tryd.underlying3)) ∧ ((type_of% Tryd.underlying4) ∧ ((type_of% Tryd.underlying5) ∧ (type_of% Tryd.underlying9)))) ∧ (((type_of% Tryd.underlying21) ∧ ((type_of% Tryd.underlying24) ∧ (type_of% Tryd.underlying25))) ∧ ((type_of% Tryd.underlying37) ∧ ((type_of% Tryd.underlying40) ∧ (type_of% Tryd.underlying49))))))) :=
  ⟨⟨⟨⟨⟨tyc0, tyc2⟩, ⟨zmb2, ⟨tyc3, zmb3⟩⟩⟩, ⟨⟨tyc4, zmb4⟩, ⟨tyc5, ⟨zmb5, tyc9⟩⟩⟩⟩, ⟨⟨⟨zmb9, tyc21⟩, ⟨zmb21, ⟨tyc24, zmb24⟩⟩⟩, ⟨⟨tyc25, ⟨tyc37, foff37_0⟩⟩, ⟨fpart37_0, ⟨foff37_1, fpart37_1⟩⟩⟩⟩⟩, ⟨⟨⟨⟨zmb37, bldT37⟩, ⟨tyc40, ⟨tyc49, elt49⟩⟩⟩, ⟨⟨mkz49, apT49⟩, ⟨elk49, ⟨zmb49, Tryd.underlying0⟩⟩⟩⟩, ⟨⟨⟨Tryd.underlying2, Tryd.underlying3⟩, ⟨Tryd.underlying4, ⟨Tryd.underlying5, Tryd.underlying9⟩⟩⟩, ⟨⟨Tryd.underlying21, ⟨Tryd.underlying24, Tryd.underlying25⟩⟩, ⟨Tryd.underlying37, ⟨Tryd.underlying40, Tryd.underlying49⟩⟩⟩⟩⟩⟩
/-- the print of a span -/
def prS (n : Int) : List Int := if rightS n = true then (if n = 0 then [48, 115] else prU 5 n.toNat) else [63]
theorem rightS_iff (n : Int) : rightS n = true ↔ 0 ≤ n ∧ n ≤ 253402300799 := by unfold rightS; simp
theorem print_ct (n0 : Nat) (n : Int) : ACt Tryd.prog 8 [iv .i64 n] (GG n0) (fun r F' => r = stz (prS n) ∧ F' = GG n0) := by
  by_cases h : rightS n = true
  · obtain ⟨h1, h2⟩ := (rightS_iff n).1 h
    by_cases h0 : n = 0
    · have e : prS n = [48, 115] := by unfold prS; rw [if_pos h, if_pos h0]
      rw [e]
      have cR := right_ct n
      rw [h] at cR
      have k0 : (n == 0) = true := beq_iff_eq.2 h0
      have e2 : (⟨#[48, 115]⟩ : ByteArray) = bstr [48, 115] := rfl
      refine ACt.intro Tryd.func8 rfl (by kernel_rfl) (by simp [Tryd.ntmps8]) (fun cx => ?_)
      simp only [argE, Tryd.ntmps8, Tryd.results8, GG, p10]
      first | (have FRx := FR; clear FRx) | (have FR : Sm (¬ ((1 : Nat) = 0)) := Sm.mk Nat.one_ne_zero)
      repeat' first
        | (refine Sm.mk ?_; try simp -dsimp only [ZK, rvc, drawF, headN, pureH, stp, dvc, calleeOf, gcall, pev, eff, newB, okd, og, ogs, ogo, ogp, slv, bltv, opd, litv, strip, one, both, putE, St.put, look, gdOf, gdv, picka, pickv, pickw, binv, bini, bins, binb, binp, binq, isSlT, bina, shp, eqCells, unv, convv, nilv, faddv, addp, idxav, idxp, load1, load1m, loadn, loadnm, loadv, hget, hset, hrep, hdel, slicev, bnd, shift1, lenv, capv, IntKind.bits, extractv, fieldv, indexv, min2v, max2v, mkiv, cellsA, fillA, buildv, stC, oneC, rowMB, intsA, plN, appE, appZ, appC, appNZ, appNC, VwL, srcC, srcZ, srcM, isBoolT, isPtrT, isSliceT, uOk, Value.oneCell', Nat.reducePow, Int.reducePow, Nat.reduceAdd, Nat.reduceMul, Nat.reduceSub, Nat.reduceLT, Nat.reduceLeDiff, Nat.reduceEqDiff, Nat.reduceBEq, Nat.reduceDiv, Nat.reduceMod, ↓reduceIte, reduceCtorEq, Int.reduceToNat, Int.reduceLT, Int.reduceLE, TFSpJ, SeqQ, BlkQ, LoopQ, BodyQ, k0, e2, FR.out])
        | (first | refine CallV.fn (cR) (Sm.out ?_) | refine ExF.mk (cR) (Sm.out ?_) | refine ExG.mk (fun _ => cR) (Sm.out ?_) | refine ExG.mkJ (fun _ => cR) (Sm.out ?_) | refine ExG.mkI (Ob.out ?_) (fun _ => cR) (Sm.out ?_))
        | (refine WP.seq fun K hK => ?_)
        | (refine WP.region (rvc_sound _ _ (Sm.out ?_)))
        | (refine WP.drawK rfl mixed (by decide +kernel) (Sm.out ?_))
        | (refine Ob.mk ?_; focus (first | assumption | omega | decide | trivial | (intro hob; simp only [hob, ZF]; done) | (intros; (repeat' refine And.intro ?_ ?_) <;> first | assumption | omega | trivial | decide) | (intros; simp only [ZE] at *; (repeat' refine And.intro ?_ ?_) <;> first | assumption | omega | trivial)))
        | (refine And.intro (Ob.out ?_) ?_)
        | (refine WP.block ?_)
        | (refine WP.cond rfl (fun hc => ?_) (fun hc => ?_) <;> (try simp only [ZC, reduceCtorEq, ZD] at hc) <;> (try (exact absurd hc (by decide))) <;> (try (exfalso; omega)))
        | ((first | refine WP.skip ?_ | refine WP.exit ?_); simp only [SeqQ, BlkQ, LoopQ, BodyQ, ↓reduceIte, Nat.reduceEqDiff, reduceCtorEq, look, true_and])
        | (refine WP.ret (Sm.out ?_))
        | (first | refine ExG.no (Sm.out ?_) | refine Or.inl (ExG.no (Sm.out ?_)) | refine Or.inl (And.intro (fun hg => absurd hg (by decide)) (ExG.no (Sm.out ?_))))
        | (refine Rt.mk ?_; refine And.intro ?_ ?_ <;> (intro hg; first | exact absurd hg (by decide) | refine Sm.out ?_))
        | (refine Nu.mk ?_; first | (fail_if_success (have := nb1)); intro nb1 | (fail_if_success (have := nb2)); intro nb2 | (fail_if_success (have := nb3)); intro nb3 | (fail_if_success (have := nb4)); intro nb4 | intro nbz)
        | (refine Fr.mk ?_; intro hfr; (first | (have hFRb : _ ≤ _ ∧ _ ≤ _ := And.intro hfr.1 hfr.2.1) | (have hFRb : _ ≤ _ := hfr.1) | skip); replace FR := Sm.mk (And.intro hfr FR.out); clear hfr; refine Sm.out ?_)
        | (refine Two.mk ?_ ?_)
        | (refine Cs.mk ?_; intro hcs; first | exact False.elim hcs | (exfalso; omega) | (refine Sm.out ?_))
        | go_step
        | omega
        | (simp only [maxLen_eq]; omega)
      (refine OutQ.upd (by simp only [resv, ZK, look, loadv, loadn, loadnm, load1, load1m, hget, ↓reduceIte, Nat.reduceEqDiff, Nat.reduceAdd, Nat.reduceMul, Nat.reduceLeDiff, Nat.reduceLT, reduceCtorEq, TFSpJ, FR.out]) (by simp only [resv, resA, ZK, look, loadv, loadn, loadnm, load1, load1m, hget, ↓reduceIte, Nat.reduceEqDiff, Nat.reduceAdd, Nat.reduceMul, Nat.reduceLeDiff, Nat.reduceLT, reduceCtorEq, TFSpJ, FR.out]; first | done | rfl) (by simp only [hget, ↓reduceIte, if_true, if_false, FR.out]; first | done | rfl) ?_ <;> first | exact rfl | (simp only [ZK, look, loadv, loadn, loadnm, load1, load1m, hget, ↓reduceIte, Nat.reduceEqDiff, Nat.reduceAdd, Nat.reduceMul, Nat.reduceLeDiff, Nat.reduceLT, reduceCtorEq, TFSpJ, FR.out]; done) | skip)
    · have e : prS n = prU 5 n.toNat := by unfold prS; rw [if_pos h, if_neg h0]
      have := print_go n0 n.toNat (by omega) (by omega)
      rw [show ((n.toNat : Nat) : Int) = n by omega] at this
      rw [e]; exact this
  · have h : rightS n = false := by simpa using h
    have e : prS n = [63] := by unfold prS; rw [h]; rfl
    rw [e]
    have cR := right_ct n
    rw [h] at cR
    have e2 : (⟨#[63]⟩ : ByteArray) = bstr [63] := rfl
    refine ACt.intro Tryd.func8 rfl (by kernel_rfl) (by simp [Tryd.ntmps8]) (fun cx => ?_)
    simp only [argE, Tryd.ntmps8, Tryd.results8, GG, p10]
    first | (have FRx := FR; clear FRx) | (have FR : Sm (¬ ((1 : Nat) = 0)) := Sm.mk Nat.one_ne_zero)
    repeat' first
      | (refine Sm.mk ?_; try simp -dsimp only [ZK, rvc, drawF, headN, pureH, stp, dvc, calleeOf, gcall, pev, eff, newB, okd, og, ogs, ogo, ogp, slv, bltv, opd, litv, strip, one, both, putE, St.put, look, gdOf, gdv, picka, pickv, pickw, binv, bini, bins, binb, binp, binq, isSlT, bina, shp, eqCells, unv, convv, nilv, faddv, addp, idxav, idxp, load1, load1m, loadn, loadnm, loadv, hget, hset, hrep, hdel, slicev, bnd, shift1, lenv, capv, IntKind.bits, extractv, fieldv, indexv, min2v, max2v, mkiv, cellsA, fillA, buildv, stC, oneC, rowMB, intsA, plN, appE, appZ, appC, appNZ, appNC, VwL, srcC, srcZ, srcM, isBoolT, isPtrT, isSliceT, uOk, Value.oneCell', Nat.reducePow, Int.reducePow, Nat.reduceAdd, Nat.reduceMul, Nat.reduceSub, Nat.reduceLT, Nat.reduceLeDiff, Nat.reduceEqDiff, Nat.reduceBEq, Nat.reduceDiv, Nat.reduceMod, ↓reduceIte, reduceCtorEq, Int.reduceToNat, Int.reduceLT, Int.reduceLE, TFSpJ, SeqQ, BlkQ, LoopQ, BodyQ, e2, FR.out])
      | (first | refine CallV.fn (cR) (Sm.out ?_) | refine ExF.mk (cR) (Sm.out ?_) | refine ExG.mk (fun _ => cR) (Sm.out ?_) | refine ExG.mkJ (fun _ => cR) (Sm.out ?_) | refine ExG.mkI (Ob.out ?_) (fun _ => cR) (Sm.out ?_))
      | (refine WP.seq fun K hK => ?_)
      | (refine WP.region (rvc_sound _ _ (Sm.out ?_)))
      | (refine WP.drawK rfl mixed (by decide +kernel) (Sm.out ?_))
      | (refine Ob.mk ?_; focus (first | assumption | omega | decide | trivial | (intro hob; simp only [hob, ZF]; done) | (intros; (repeat' refine And.intro ?_ ?_) <;> first | assumption | omega | trivial | decide) | (intros; simp only [ZE] at *; (repeat' refine And.intro ?_ ?_) <;> first | assumption | omega | trivial)))
      | (refine And.intro (Ob.out ?_) ?_)
      | (refine WP.block ?_)
      | (refine WP.cond rfl (fun hc => ?_) (fun hc => ?_) <;> (try simp only [ZC, reduceCtorEq, ZD] at hc) <;> (try (exact absurd hc (by decide))) <;> (try (exfalso; omega)))
      | ((first | refine WP.skip ?_ | refine WP.exit ?_); simp only [SeqQ, BlkQ, LoopQ, BodyQ, ↓reduceIte, Nat.reduceEqDiff, reduceCtorEq, look, true_and])
      | (refine WP.ret (Sm.out ?_))
      | (first | refine ExG.no (Sm.out ?_) | refine Or.inl (ExG.no (Sm.out ?_)) | refine Or.inl (And.intro (fun hg => absurd hg (by decide)) (ExG.no (Sm.out ?_))))
      | (refine Rt.mk ?_; refine And.intro ?_ ?_ <;> (intro hg; first | exact absurd hg (by decide) | refine Sm.out ?_))
      | (refine Nu.mk ?_; first | (fail_if_success (have := nb1)); intro nb1 | (fail_if_success (have := nb2)); intro nb2 | (fail_if_success (have := nb3)); intro nb3 | (fail_if_success (have := nb4)); intro nb4 | intro nbz)
      | (refine Fr.mk ?_; intro hfr; (first | (have hFRb : _ ≤ _ ∧ _ ≤ _ := And.intro hfr.1 hfr.2.1) | (have hFRb : _ ≤ _ := hfr.1) | skip); replace FR := Sm.mk (And.intro hfr FR.out); clear hfr; refine Sm.out ?_)
      | (refine Two.mk ?_ ?_)
      | (refine Cs.mk ?_; intro hcs; first | exact False.elim hcs | (exfalso; omega) | (refine Sm.out ?_))
      | go_step
      | omega
      | (simp only [maxLen_eq]; omega)
    (refine OutQ.upd (by simp only [resv, ZK, look, loadv, loadn, loadnm, load1, load1m, hget, ↓reduceIte, Nat.reduceEqDiff, Nat.reduceAdd, Nat.reduceMul, Nat.reduceLeDiff, Nat.reduceLT, reduceCtorEq, TFSpJ, FR.out]) (by simp only [resv, resA, ZK, look, loadv, loadn, loadnm, load1, load1m, hget, ↓reduceIte, Nat.reduceEqDiff, Nat.reduceAdd, Nat.reduceMul, Nat.reduceLeDiff, Nat.reduceLT, reduceCtorEq, TFSpJ, FR.out]; first | done | rfl) (by simp only [hget, ↓reduceIte, if_true, if_false, FR.out]; first | done | rfl) ?_ <;> first | exact rfl | (simp only [ZK, look, loadv, loadn, loadnm, load1, load1m, hget, ↓reduceIte, Nat.reduceEqDiff, Nat.reduceAdd, Nat.reduceMul, Nat.reduceLeDiff, Nat.reduceLT, reduceCtorEq, TFSpJ, FR.out]; done) | skip)
theorem prU_by : ∀ r n, By (prU r n) := by
  intro r
  induction r with
  | zero => intro n i hi; exact absurd hi (Nat.not_lt_zero _)
  | succ r ih =>
    intro n
    rw [prU_succ]
    refine By.app ?_ (ih _)
    split
    · intro i hi; exact absurd hi (Nat.not_lt_zero _)
    · have : uch (4 - r) < 128 := (u_all (4 - r) (by omega)).2.2.2.1
      exact (decD_by _ _).app (By.one (by omega))
theorem prU_len : ∀ r n, (prU r n).length ≤ 21 * r := by
  intro r
  induction r with
  | zero => intro n; exact Nat.le_refl _
  | succ r ih =>
    intro n
    rw [prU_succ, List.length_append]
    have := ih (n % uni (4 - r))
    split
    · simp; omega
    · have : (dec (n / uni (4 - r))).length ≤ 20 := decD_len 20 (n / uni (4 - r))
      simp only [List.length_append, List.length_cons, List.length_nil]; omega
theorem prS_by (n : Int) : By (prS n) ∧ (prS n).length ≤ 1000 := by
  unfold prS
  split
  · split
    · exact ⟨(By.one (c := 48) (by decide)).app (By.one (c := 115) (by decide)), by decide⟩
    · exact ⟨prU_by _ _, by have := prU_len 5 n.toNat; omega⟩
  · exact ⟨By.one (by decide), by decide⟩
/-- what is told of a text that must be a print -/
def exS (zs : List Int) : AV := match runR r0 zs with
  | none => sbad 5
  | some r => if zs = [] ∨ r.d = true then sbad 5 else if r.f = true then sbad 8 else if prS r.s = zs then sgood r.s else sbad 5
theorem rd_cases (zs : List Int) : (∃ c : Int, c ≠ 0 ∧ rdS zs = sbad c ∧ exS zs = sbad c) ∨ ∃ s : Int, rdS zs = sgood s ∧ exS zs = if prS s = zs then sgood s else sbad 5 := by
  unfold rdS exS
  cases runR r0 zs with
  | none => exact .inl ⟨5, by decide, rfl, rfl⟩
  | some r =>
    unfold finR
    simp only
    split
    · exact .inl ⟨5, by decide, rfl, rfl⟩
    · split
      · exact .inl ⟨8, by decide, rfl, rfl⟩
      · exact .inr ⟨r.s, rfl, rfl⟩
theorem exact_ct (n0 : Nat) (zs : List Int) (hb : By zs) (hl : zs.length ≤ 1000) : ACt Tryd.prog 10 [stz zs] (GG n0) (fun r F' => r = exS zs ∧ F' = GG n0) := by
  have cR := read_ct zs hb hl
  rcases rd_cases zs with ⟨c, hc, e1, e2⟩ | ⟨s, e1, e2⟩
  · rw [e1] at cR
    rw [e2]
    have k1 : (c == 0) = false := beq_eq_false_iff_ne.2 hc
    have k2 : (c != 0) = true := by simp only [bne, k1]; rfl
    refine ACt.intro Tryd.func10 rfl (by kernel_rfl) (by simp [Tryd.ntmps10]) (fun cx => ?_)
    simp only [argE, Tryd.ntmps10, Tryd.results10, GG, p10]
    first | (have FRx := FR; clear FRx) | (have FR : Sm (¬ ((1 : Nat) = 0)) := Sm.mk Nat.one_ne_zero)
    repeat' first
      | (refine Sm.mk ?_; try simp -dsimp only [ZK, rvc, drawF, headN, pureH, stp, dvc, calleeOf, gcall, pev, eff, newB, okd, og, ogs, ogo, ogp, slv, bltv, opd, litv, strip, one, both, putE, St.put, look, gdOf, gdv, picka, pickv, pickw, binv, bini, bins, binb, binp, binq, isSlT, bina, shp, eqCells, unv, convv, nilv, faddv, addp, idxav, idxp, load1, load1m, loadn, loadnm, loadv, hget, hset, hrep, hdel, slicev, bnd, shift1, lenv, capv, IntKind.bits, extractv, fieldv, indexv, min2v, max2v, mkiv, cellsA, fillA, buildv, stC, oneC, rowMB, intsA, plN, appE, appZ, appC, appNZ, appNC, VwL, srcC, srcZ, srcM, isBoolT, isPtrT, isSliceT, uOk, Value.oneCell', Nat.reducePow, Int.reducePow, Nat.reduceAdd, Nat.reduceMul, Nat.reduceSub, Nat.reduceLT, Nat.reduceLeDiff, Nat.reduceEqDiff, Nat.reduceBEq, Nat.reduceDiv, Nat.reduceMod, ↓reduceIte, reduceCtorEq, Int.reduceToNat, Int.reduceLT, Int.reduceLE, TFSpJ, SeqQ, BlkQ, LoopQ, BodyQ, k1, k2, FR.out])
      | (first | refine CallV.fn (cR) (Sm.out ?_) | refine ExF.mk (cR) (Sm.out ?_) | refine ExG.mk (fun _ => cR) (Sm.out ?_) | refine ExG.mkJ (fun _ => cR) (Sm.out ?_) | refine ExG.mkI (Ob.out ?_) (fun _ => cR) (Sm.out ?_))
      | (refine WP.seq fun K hK => ?_)
      | (refine WP.region (rvc_sound _ _ (Sm.out ?_)))
      | (refine WP.drawK rfl mixed (by decide +kernel) (Sm.out ?_))
      | (refine Ob.mk ?_; focus (first | assumption | omega | decide | trivial | (intro hob; simp only [hob, ZF]; done) | (intros; (repeat' refine And.intro ?_ ?_) <;> first | assumption | omega | trivial | decide) | (intros; simp only [ZE] at *; (repeat' refine And.intro ?_ ?_) <;> first | assumption | omega | trivial)))
      | (refine And.intro (Ob.out ?_) ?_)
      | (refine WP.block ?_)
      | (refine WP.cond rfl (fun hc => ?_) (fun hc => ?_) <;> (try simp only [ZC, reduceCtorEq, ZD] at hc) <;> (try (exact absurd hc (by decide))) <;> (try (exfalso; omega)))
      | ((first | refine WP.skip ?_ | refine WP.exit ?_); simp only [SeqQ, BlkQ, LoopQ, BodyQ, ↓reduceIte, Nat.reduceEqDiff, reduceCtorEq, look, true_and])
      | (refine WP.ret (Sm.out ?_))
      | (first | refine ExG.no (Sm.out ?_) | refine Or.inl (ExG.no (Sm.out ?_)) | refine Or.inl (And.intro (fun hg => absurd hg (by decide)) (ExG.no (Sm.out ?_))))
      | (refine Rt.mk ?_; refine And.intro ?_ ?_ <;> (intro hg; first | exact absurd hg (by decide) | refine Sm.out ?_))
      | (refine Nu.mk ?_; first | (fail_if_success (have := nb1)); intro nb1 | (fail_if_success (have := nb2)); intro nb2 | (fail_if_success (have := nb3)); intro nb3 | (fail_if_success (have := nb4)); intro nb4 | intro nbz)
      | (refine Fr.mk ?_; intro hfr; (first | (have hFRb : _ ≤ _ ∧ _ ≤ _ := And.intro hfr.1 hfr.2.1) | (have hFRb : _ ≤ _ := hfr.1) | skip); replace FR := Sm.mk (And.intro hfr FR.out); clear hfr; refine Sm.out ?_)
      | (refine Two.mk ?_ ?_)
      | (refine Cs.mk ?_; intro hcs; first | exact False.elim hcs | (exfalso; omega) | (refine Sm.out ?_))
      | go_step
      | omega
      | (simp only [maxLen_eq]; omega)
    (refine OutQ.upd (by simp only [resv, ZK, look, loadv, loadn, loadnm, load1, load1m, hget, ↓reduceIte, Nat.reduceEqDiff, Nat.reduceAdd, Nat.reduceMul, Nat.reduceLeDiff, Nat.reduceLT, reduceCtorEq, TFSpJ, FR.out]) (by simp only [resv, resA, ZK, look, loadv, loadn, loadnm, load1, load1m, hget, ↓reduceIte, Nat.reduceEqDiff, Nat.reduceAdd, Nat.reduceMul, Nat.reduceLeDiff, Nat.reduceLT, reduceCtorEq, TFSpJ, FR.out]; first | done | rfl) (by simp only [hget, ↓reduceIte, if_true, if_false, FR.out]; first | done | rfl) ?_ <;> first | exact rfl | (simp only [ZK, look, loadv, loadn, loadnm, load1, load1m, hget, ↓reduceIte, Nat.reduceEqDiff, Nat.reduceAdd, Nat.reduceMul, Nat.reduceLeDiff, Nat.reduceLT, reduceCtorEq, TFSpJ, FR.out]; done) | skip)
  · rw [e1] at cR
    rw [e2]
    have cP := print_ct n0 s
    have hq := str_eq (prS s) zs (prS_by s).1 hb
    obtain ⟨P, hP⟩ : ∃ P, P = bstr (prS s) := ⟨_, rfl⟩
    obtain ⟨Z, hZ⟩ : ∃ Z, Z = bstr zs := ⟨_, rfl⟩
    unfold stz at cR cP ⊢
    rw [← hP] at cP hq
    rw [← hZ] at cR hq ⊢
    by_cases h : prS s = zs
    · rw [if_pos h]
      rw [decide_eq_true h] at hq
      have hq2 : (P.toList != Z.toList) = false := by simp only [bne, hq]; rfl
      refine ACt.intro Tryd.func10 rfl (by kernel_rfl) (by simp [Tryd.ntmps10]) (fun cx => ?_)
      simp only [argE, Tryd.ntmps10, Tryd.results10, GG, p10] at cP ⊢
      first | (have FRx := FR; clear FRx) | (have FR : Sm (¬ ((1 : Nat) = 0)) := Sm.mk Nat.one_ne_zero)
      repeat' first
        | (refine Sm.mk ?_; try simp -dsimp only [ZK, rvc, drawF, headN, pureH, stp, dvc, calleeOf, gcall, pev, eff, newB, okd, og, ogs, ogo, ogp, slv, bltv, opd, litv, strip, one, both, putE, St.put, look, gdOf, gdv, picka, pickv, pickw, binv, bini, bins, binb, binp, binq, isSlT, bina, shp, eqCells, unv, convv, nilv, faddv, addp, idxav, idxp, load1, load1m, loadn, loadnm, loadv, hget, hset, hrep, hdel, slicev, bnd, shift1, lenv, capv, IntKind.bits, extractv, fieldv, indexv, min2v, max2v, mkiv, cellsA, fillA, buildv, stC, oneC, rowMB, intsA, plN, appE, appZ, appC, appNZ, appNC, VwL, srcC, srcZ, srcM, isBoolT, isPtrT, isSliceT, uOk, Value.oneCell', Nat.reducePow, Int.reducePow, Nat.reduceAdd, Nat.reduceMul, Nat.reduceSub, Nat.reduceLT, Nat.reduceLeDiff, Nat.reduceEqDiff, Nat.reduceBEq, Nat.reduceDiv, Nat.reduceMod, ↓reduceIte, reduceCtorEq, Int.reduceToNat, Int.reduceLT, Int.reduceLE, TFSpJ, SeqQ, BlkQ, LoopQ, BodyQ, hq, hq2, FR.out])
        | (first | refine CallV.fn (cR) (Sm.out ?_) | refine ExF.mk (cR) (Sm.out ?_) | refine ExG.mk (fun _ => cR) (Sm.out ?_) | refine ExG.mkJ (fun _ => cR) (Sm.out ?_) | refine ExG.mkI (Ob.out ?_) (fun _ => cR) (Sm.out ?_))
        | (refine CallV.upd (by simp only [hget, ↓reduceIte, FR.out, hq, hq2]; first | done | rfl) (cP) (Sm.out ?_))
        | (refine WP.seq fun K hK => ?_)
        | (refine WP.region (rvc_sound _ _ (Sm.out ?_)))
        | (refine WP.drawK rfl mixed (by decide +kernel) (Sm.out ?_))
        | (refine Ob.mk ?_; focus (first | assumption | omega | decide | trivial | (intro hob; simp only [hob, ZF]; done) | (intros; (repeat' refine And.intro ?_ ?_) <;> first | assumption | omega | trivial | decide) | (intros; simp only [ZE] at *; (repeat' refine And.intro ?_ ?_) <;> first | assumption | omega | trivial)))
        | (refine And.intro (Ob.out ?_) ?_)
        | (refine WP.block ?_)
        | (refine WP.cond rfl (fun hc => ?_) (fun hc => ?_) <;> (try simp only [ZC, reduceCtorEq, ZD] at hc) <;> (try (exact absurd hc (by decide))) <;> (try (exfalso; omega)))
        | ((first | refine WP.skip ?_ | refine WP.exit ?_); simp only [SeqQ, BlkQ, LoopQ, BodyQ, ↓reduceIte, Nat.reduceEqDiff, reduceCtorEq, look, true_and])
        | (refine WP.ret (Sm.out ?_))
        | (first | refine ExG.no (Sm.out ?_) | refine Or.inl (ExG.no (Sm.out ?_)) | refine Or.inl (And.intro (fun hg => absurd hg (by decide)) (ExG.no (Sm.out ?_))))
        | (refine Rt.mk ?_; refine And.intro ?_ ?_ <;> (intro hg; first | exact absurd hg (by decide) | refine Sm.out ?_))
        | (refine Nu.mk ?_; first | (fail_if_success (have := nb1)); intro nb1 | (fail_if_success (have := nb2)); intro nb2 | (fail_if_success (have := nb3)); intro nb3 | (fail_if_success (have := nb4)); intro nb4 | intro nbz)
        | (refine Fr.mk ?_; intro hfr; (first | (have hFRb : _ ≤ _ ∧ _ ≤ _ := And.intro hfr.1 hfr.2.1) | (have hFRb : _ ≤ _ := hfr.1) | skip); replace FR := Sm.mk (And.intro hfr FR.out); clear hfr; refine Sm.out ?_)
        | (refine Two.mk ?_ ?_)
        | (refine Cs.mk ?_; intro hcs; first | exact False.elim hcs | (exfalso; omega) | (refine Sm.out ?_))
        | go_step
        | omega
        | (simp only [maxLen_eq]; omega)
      (refine OutQ.upd (by simp only [resv, ZK, look, loadv, loadn, loadnm, load1, load1m, hget, ↓reduceIte, Nat.reduceEqDiff, Nat.reduceAdd, Nat.reduceMul, Nat.reduceLeDiff, Nat.reduceLT, reduceCtorEq, TFSpJ, FR.out]) (by simp only [resv, resA, ZK, look, loadv, loadn, loadnm, load1, load1m, hget, ↓reduceIte, Nat.reduceEqDiff, Nat.reduceAdd, Nat.reduceMul, Nat.reduceLeDiff, Nat.reduceLT, reduceCtorEq, TFSpJ, FR.out]; first | done | rfl) (by simp only [hget, ↓reduceIte, if_true, if_false, FR.out]; first | done | rfl) ?_ <;> first | exact rfl | (simp only [ZK, look, loadv, loadn, loadnm, load1, load1m, hget, ↓reduceIte, Nat.reduceEqDiff, Nat.reduceAdd, Nat.reduceMul, Nat.reduceLeDiff, Nat.reduceLT, reduceCtorEq, TFSpJ, FR.out]; done) | skip)
    · rw [if_neg h]
      rw [decide_eq_false h] at hq
      have hq2 : (P.toList != Z.toList) = true := by simp only [bne, hq]; rfl
      refine ACt.intro Tryd.func10 rfl (by kernel_rfl) (by simp [Tryd.ntmps10]) (fun cx => ?_)
      simp only [argE, Tryd.ntmps10, Tryd.results10, GG, p10] at cP ⊢
      first | (have FRx := FR; clear FRx) | (have FR : Sm (¬ ((1 : Nat) = 0)) := Sm.mk Nat.one_ne_zero)
      repeat' first
        | (refine Sm.mk ?_; try simp -dsimp only [ZK, rvc, drawF, headN, pureH, stp, dvc, calleeOf, gcall, pev, eff, newB, okd, og, ogs, ogo, ogp, slv, bltv, opd, litv, strip, one, both, putE, St.put, look, gdOf, gdv, picka, pickv, pickw, binv, bini, bins, binb, binp, binq, isSlT, bina, shp, eqCells, unv, convv, nilv, faddv, addp, idxav, idxp, load1, load1m, loadn, loadnm, loadv, hget, hset, hrep, hdel, slicev, bnd, shift1, lenv, capv, IntKind.bits, extractv, fieldv, indexv, min2v, max2v, mkiv, cellsA, fillA, buildv, stC, oneC, rowMB, intsA, plN, appE, appZ, appC, appNZ, appNC, VwL, srcC, srcZ, srcM, isBoolT, isPtrT, isSliceT, uOk, Value.oneCell', Nat.reducePow, Int.reducePow, Nat.reduceAdd, Nat.reduceMul, Nat.reduceSub, Nat.reduceLT, Nat.reduceLeDiff, Nat.reduceEqDiff, Nat.reduceBEq, Nat.reduceDiv, Nat.reduceMod, ↓reduceIte, reduceCtorEq, Int.reduceToNat, Int.reduceLT, Int.reduceLE, TFSpJ, SeqQ, BlkQ, LoopQ, BodyQ, hq, hq2, FR.out])
        | (first | refine CallV.fn (cR) (Sm.out ?_) | refine ExF.mk (cR) (Sm.out ?_) | refine ExG.mk (fun _ => cR) (Sm.out ?_) | refine ExG.mkJ (fun _ => cR) (Sm.out ?_) | refine ExG.mkI (Ob.out ?_) (fun _ => cR) (Sm.out ?_))
        | (refine CallV.upd (by simp only [hget, ↓reduceIte, FR.out, hq, hq2]; first | done | rfl) (cP) (Sm.out ?_))
        | (refine WP.seq fun K hK => ?_)
        | (refine WP.region (rvc_sound _ _ (Sm.out ?_)))
        | (refine WP.drawK rfl mixed (by decide +kernel) (Sm.out ?_))
        | (refine Ob.mk ?_; focus (first | assumption | omega | decide | trivial | (intro hob; simp only [hob, ZF]; done) | (intros; (repeat' refine And.intro ?_ ?_) <;> first | assumption | omega | trivial | decide) | (intros; simp only [ZE] at *; (repeat' refine And.intro ?_ ?_) <;> first | assumption | omega | trivial)))
        | (refine And.intro (Ob.out ?_) ?_)
        | (refine WP.block ?_)
        | (refine WP.cond rfl (fun hc => ?_) (fun hc => ?_) <;> (try simp only [ZC, reduceCtorEq, ZD] at hc) <;> (try (exact absurd hc (by decide))) <;> (try (exfalso; omega)))
        | ((first | refine WP.skip ?_ | refine WP.exit ?_); simp only [SeqQ, BlkQ, LoopQ, BodyQ, ↓reduceIte, Nat.reduceEqDiff, reduceCtorEq, look, true_and])
        | (refine WP.ret (Sm.out ?_))
        | (first | refine ExG.no (Sm.out ?_) | refine Or.inl (ExG.no (Sm.out ?_)) | refine Or.inl (And.intro (fun hg => absurd hg (by decide)) (ExG.no (Sm.out ?_))))
        | (refine Rt.mk ?_; refine And.intro ?_ ?_ <;> (intro hg; first | exact absurd hg (by decide) | refine Sm.out ?_))
        | (refine Nu.mk ?_; first | (fail_if_success (have := nb1)); intro nb1 | (fail_if_success (have := nb2)); intro nb2 | (fail_if_success (have := nb3)); intro nb3 | (fail_if_success (have := nb4)); intro nb4 | intro nbz)
        | (refine Fr.mk ?_; intro hfr; (first | (have hFRb : _ ≤ _ ∧ _ ≤ _ := And.intro hfr.1 hfr.2.1) | (have hFRb : _ ≤ _ := hfr.1) | skip); replace FR := Sm.mk (And.intro hfr FR.out); clear hfr; refine Sm.out ?_)
        | (refine Two.mk ?_ ?_)
        | (refine Cs.mk ?_; intro hcs; first | exact False.elim hcs | (exfalso; omega) | (refine Sm.out ?_))
        | go_step
        | omega
        | (simp only [maxLen_eq]; omega)
      (refine OutQ.upd (by simp only [resv, ZK, look, loadv, loadn, loadnm, load1, load1m, hget, ↓reduceIte, Nat.reduceEqDiff, Nat.reduceAdd, Nat.reduceMul, Nat.reduceLeDiff, Nat.reduceLT, reduceCtorEq, TFSpJ, FR.out]) (by simp only [resv, resA, ZK, look, loadv, loadn, loadnm, load1, load1m, hget, ↓reduceIte, Nat.reduceEqDiff, Nat.reduceAdd, Nat.reduceMul, Nat.reduceLeDiff, Nat.reduceLT, reduceCtorEq, TFSpJ, FR.out]; first | done | rfl) (by simp only [hget, ↓reduceIte, if_true, if_false, FR.out]; first | done | rfl) ?_ <;> first | exact rfl | (simp only [ZK, look, loadv, loadn, loadnm, load1, load1m, hget, ↓reduceIte, Nat.reduceEqDiff, Nat.reduceAdd, Nat.reduceMul, Nat.reduceLeDiff, Nat.reduceLT, reduceCtorEq, TFSpJ, FR.out]; done) | skip)
theorem awake_ct (n0 : Nat) : ACt Tryd.prog 7 [] (GG n0) (fun r F' => r = bv true ∧ F' = GG n0) := by
  have bm : By [57, 48, 109] := by unfold By; decide +kernel
  have c1 := read_ct [57, 48, 109] bm (by decide)
  have c2 := exact_ct n0 [57, 48, 109] bm (by decide)
  have c3 := print_ct n0 90061
  have e1 : rdS [57, 48, 109] = sgood 5400 := by
    have : runR r0 [57, 48, 109] = some ⟨5400, 0, false, 4, false⟩ := by kernel_rfl
    unfold rdS; rw [this]; rfl
  have e2 : exS [57, 48, 109] = sbad 5 := by
    have : runR r0 [57, 48, 109] = some ⟨5400, 0, false, 4, false⟩ := by kernel_rfl
    have h2 : ¬ prS 5400 = [57, 48, 109] := by decide +kernel
    unfold exS; rw [this]; simp only; rw [if_neg (by simp), if_neg (by simp), if_neg h2]
  have e3 : prS 90061 = [49, 100, 49, 104, 49, 109, 49, 115] := by decide +kernel
  rw [e1] at c1
  rw [e2] at c2
  rw [e3] at c3
  have z1 : (⟨#[57, 48, 109]⟩ : ByteArray) = bstr [57, 48, 109] := rfl
  have z2 : (⟨#[49, 100, 49, 104, 49, 109, 49, 115]⟩ : ByteArray) = bstr [49, 100, 49, 104, 49, 109, 49, 115] := rfl
  obtain ⟨Z1, hZ1⟩ : ∃ Z, Z = bstr [57, 48, 109] := ⟨_, rfl⟩
  obtain ⟨Z2, hZ2⟩ : ∃ Z, Z = bstr [49, 100, 49, 104, 49, 109, 49, 115] := ⟨_, rfl⟩
  unfold stz at c1 c2 c3
  rw [← hZ1] at c1 c2 z1
  rw [← hZ2] at c3 z2
  have y1 : ∀ x : List UInt8, (x == x) = true := fun x => beq_self_eq_true x
  refine ACt.intro Tryd.func7 rfl (by kernel_rfl) (by simp [Tryd.ntmps7]) (fun cx => ?_)
  simp only [argE, Tryd.ntmps7, Tryd.results7, GG, p10] at c2 c3 ⊢
  first | (have FRx := FR; clear FRx) | (have FR : Sm (¬ ((1 : Nat) = 0)) := Sm.mk Nat.one_ne_zero)
  repeat' first
    | (refine Sm.mk ?_; try simp -dsimp only [ZK, rvc, drawF, headN, pureH, stp, dvc, calleeOf, gcall, pev, eff, newB, okd, og, ogs, ogo, ogp, slv, bltv, opd, litv, strip, one, both, putE, St.put, look, gdOf, gdv, picka, pickv, pickw, binv, bini, bins, binb, binp, binq, isSlT, bina, shp, eqCells, unv, convv, nilv, faddv, addp, idxav, idxp, load1, load1m, loadn, loadnm, loadv, hget, hset, hrep, hdel, slicev, bnd, shift1, lenv, capv, IntKind.bits, extractv, fieldv, indexv, min2v, max2v, mkiv, cellsA, fillA, buildv, stC, oneC, rowMB, intsA, plN, appE, appZ, appC, appNZ, appNC, VwL, srcC, srcZ, srcM, isBoolT, isPtrT, isSliceT, uOk, Value.oneCell', Nat.reducePow, Int.reducePow, Nat.reduceAdd, Nat.reduceMul, Nat.reduceSub, Nat.reduceLT, Nat.reduceLeDiff, Nat.reduceEqDiff, Nat.reduceBEq, Nat.reduceDiv, Nat.reduceMod, ↓reduceIte, reduceCtorEq, Int.reduceToNat, Int.reduceLT, Int.reduceLE, TFSpJ, SeqQ, BlkQ, LoopQ, BodyQ, z1, z2, y1, FR.out])
    | (first | refine CallV.fn (c1) (Sm.out ?_) | refine ExF.mk (c1) (Sm.out ?_) | refine ExG.mk (fun _ => c1) (Sm.out ?_) | refine ExG.mkJ (fun _ => c1) (Sm.out ?_) | refine ExG.mkI (Ob.out ?_) (fun _ => c1) (Sm.out ?_))
    | (refine CallV.upd (by simp only [hget, ↓reduceIte, FR.out, z1, z2, y1]; first | done | rfl) (c2) (Sm.out ?_))
    | (refine CallV.upd (by simp only [hget, ↓reduceIte, FR.out, z1, z2, y1]; first | done | rfl) (c3) (Sm.out ?_))
    | (refine WP.seq fun K hK => ?_)
    | (refine WP.region (rvc_sound _ _ (Sm.out ?_)))
    | (refine WP.drawK rfl mixed (by decide +kernel) (Sm.out ?_))
    | (refine Ob.mk ?_; focus (first | assumption | omega | decide | trivial | (intro hob; simp only [hob, ZF]; done) | (intros; (repeat' refine And.intro ?_ ?_) <;> first | assumption | omega | trivial | decide) | (intros; simp only [ZE] at *; (repeat' refine And.intro ?_ ?_) <;> first | assumption | omega | trivial)))
    | (refine And.intro (Ob.out ?_) ?_)
    | (refine WP.block ?_)
    | (refine WP.cond rfl (fun hc => ?_) (fun hc => ?_) <;> (try simp only [ZC, reduceCtorEq, ZD] at hc) <;> (try (exact absurd hc (by decide))) <;> (try (exfalso; omega)))
    | ((first | refine WP.skip ?_ | refine WP.exit ?_); simp only [SeqQ, BlkQ, LoopQ, BodyQ, ↓reduceIte, Nat.reduceEqDiff, reduceCtorEq, look, true_and])
    | (refine WP.ret (Sm.out ?_))
    | (first | refine ExG.no (Sm.out ?_) | refine Or.inl (ExG.no (Sm.out ?_)) | refine Or.inl (And.intro (fun hg => absurd hg (by decide)) (ExG.no (Sm.out ?_))))
    | (refine Rt.mk ?_; refine And.intro ?_ ?_ <;> (intro hg; first | exact absurd hg (by decide) | refine Sm.out ?_))
    | (refine Nu.mk ?_; first | (fail_if_success (have := nb1)); intro nb1 | (fail_if_success (have := nb2)); intro nb2 | (fail_if_success (have := nb3)); intro nb3 | (fail_if_success (have := nb4)); intro nb4 | intro nbz)
    | (refine Fr.mk ?_; intro hfr; (first | (have hFRb : _ ≤ _ ∧ _ ≤ _ := And.intro hfr.1 hfr.2.1) | (have hFRb : _ ≤ _ := hfr.1) | skip); replace FR := Sm.mk (And.intro hfr FR.out); clear hfr; refine Sm.out ?_)
    | (refine Two.mk ?_ ?_)
    | (refine Cs.mk ?_; intro hcs; first | exact False.elim hcs | (exfalso; omega) | (refine Sm.out ?_))
    | go_step
    | omega
    | (simp only [maxLen_eq]; omega)
  (refine OutQ.upd (by simp only [resv, ZK, look, loadv, loadn, loadnm, load1, load1m, hget, ↓reduceIte, Nat.reduceEqDiff, Nat.reduceAdd, Nat.reduceMul, Nat.reduceLeDiff, Nat.reduceLT, reduceCtorEq, TFSpJ, FR.out]) (by simp only [resv, resA, ZK, look, loadv, loadn, loadnm, load1, load1m, hget, ↓reduceIte, Nat.reduceEqDiff, Nat.reduceAdd, Nat.reduceMul, Nat.reduceLeDiff, Nat.reduceLT, reduceCtorEq, TFSpJ, FR.out]; first | done | rfl) (by simp only [hget, ↓reduceIte, if_true, if_false, FR.out]; first | done | rfl) ?_ <;> first | exact rfl | (simp only [ZK, look, loadv, loadn, loadnm, load1, load1m, hget, ↓reduceIte, Nat.reduceEqDiff, Nat.reduceAdd, Nat.reduceMul, Nat.reduceLeDiff, Nat.reduceLT, reduceCtorEq, TFSpJ, FR.out]; done) | skip)
theorem runit_ct (c : Int) (hc : 0 ≤ c ∧ c ≤ 255) : ACt Tryd.prog 13 [iv .u8 c] [] (Fn (iv .i64 (unitV c))) := by
  obtain ⟨U, hU⟩ : ∃ U, U = bstr uS := ⟨_, rfl⟩
  have u_str : (⟨#[119, 100, 104, 109, 115]⟩ : ByteArray) = U := by rw [hU]; rfl
  have hus : U.size = 5 := by rw [hU]; rfl
  have a0 : ((U.data.toList.getD 0 0).toNat : Int) = 119 := by rw [hU]; rfl
  have a1 : ((U.data.toList.getD 1 0).toNat : Int) = 100 := by rw [hU]; rfl
  have a2 : ((U.data.toList.getD 2 0).toNat : Int) = 104 := by rw [hU]; rfl
  have a3 : ((U.data.toList.getD 3 0).toNat : Int) = 109 := by rw [hU]; rfl
  have a4 : ((U.data.toList.getD 4 0).toNat : Int) = 115 := by rw [hU]; rfl
  have t0 : (0 : Int).toNat = 0 := rfl
  have t1 : (1 : Int).toNat = 1 := rfl
  have t2 : (2 : Int).toNat = 2 := rfl
  have t3 : (3 : Int).toNat = 3 := rfl
  have t4 : (4 : Int).toNat = 4 := rfl
  have q1 : IntKind.i64.wrap 1 = 1 := by decide
  have q2 : IntKind.i64.wrap 2 = 2 := by decide
  have q3 : IntKind.i64.wrap 3 = 3 := by decide
  have q4 : IntKind.i64.wrap 4 = 4 := by decide
  have q5 : IntKind.i64.wrap 5 = 5 := by decide
  obtain ⟨V, hV⟩ : ∃ V, V = unitV c := ⟨_, rfl⟩
  rw [← hV]
  unfold unitV at hV
  refine ACt.intro Tryd.func13 rfl (by kernel_rfl) (by simp [Tryd.ntmps13]) (fun cx => ?_)
  simp only [argE, Tryd.ntmps13, Tryd.results13]
  first | (have FRx := FR; clear FRx) | (have FR : Sm (¬ ((1 : Nat) = 0)) := Sm.mk Nat.one_ne_zero)
  repeat' first
    | (refine Sm.mk ?_; try simp -dsimp only [ZK, rvc, drawF, headN, pureH, stp, dvc, calleeOf, gcall, pev, eff, newB, okd, og, ogs, ogo, ogp, slv, bltv, opd, litv, strip, one, both, putE, St.put, look, gdOf, gdv, picka, pickv, pickw, binv, bini, bins, binb, binp, binq, isSlT, bina, shp, eqCells, unv, convv, nilv, faddv, addp, idxav, idxp, load1, load1m, loadn, loadnm, loadv, hget, hset, hrep, hdel, slicev, bnd, shift1, lenv, capv, IntKind.bits, extractv, fieldv, indexv, min2v, max2v, mkiv, cellsA, fillA, buildv, stC, oneC, rowMB, intsA, plN, appE, appZ, appC, appNZ, appNC, VwL, srcC, srcZ, srcM, isBoolT, isPtrT, isSliceT, uOk, Value.oneCell', Nat.reducePow, Int.reducePow, Nat.reduceAdd, Nat.reduceMul, Nat.reduceSub, Nat.reduceLT, Nat.reduceLeDiff, Nat.reduceEqDiff, Nat.reduceBEq, Nat.reduceDiv, Nat.reduceMod, ↓reduceIte, reduceCtorEq, Int.reduceToNat, Int.reduceLT, Int.reduceLE, TFSpJ, SeqQ, BlkQ, LoopQ, BodyQ, u_str, FR.out])
    | (refine WP.seq fun K hK => ?_)
    | (refine WP.region (rvc_sound _ _ (Sm.out ?_)))
    | (refine WP.drawK rfl mixed (by decide +kernel) (Sm.out ?_))
    | (refine Ob.mk ?_; focus (first | assumption | omega | decide | trivial | (intro hob; simp only [hob, ZF]; done) | (intros; (repeat' refine And.intro ?_ ?_) <;> first | assumption | omega | trivial | decide) | (intros; simp only [ZE] at *; (repeat' refine And.intro ?_ ?_) <;> first | assumption | omega | trivial)))
    | (refine And.intro (Ob.out ?_) ?_)
    | (refine WP.block ?_)
    | (refine WP.cond rfl (fun hc => ?_) (fun hc => ?_) <;> (try simp only [ZC, reduceCtorEq, ZD] at hc) <;> (try (exact absurd hc (by decide))) <;> (try (exfalso; omega)))
    | ((first | refine WP.skip ?_ | refine WP.exit ?_); simp only [SeqQ, BlkQ, LoopQ, BodyQ, ↓reduceIte, Nat.reduceEqDiff, reduceCtorEq, look, true_and])
    | (refine WP.ret (Sm.out ?_))
    | (first | refine ExG.no (Sm.out ?_) | refine Or.inl (ExG.no (Sm.out ?_)) | refine Or.inl (And.intro (fun hg => absurd hg (by decide)) (ExG.no (Sm.out ?_))))
    | (refine Rt.mk ?_; refine And.intro ?_ ?_ <;> (intro hg; first | exact absurd hg (by decide) | refine Sm.out ?_))
    | (refine Nu.mk ?_; first | (fail_if_success (have := nb1)); intro nb1 | (fail_if_success (have := nb2)); intro nb2 | (fail_if_success (have := nb3)); intro nb3 | (fail_if_success (have := nb4)); intro nb4 | intro nbz)
    | (refine Fr.mk ?_; intro hfr; (first | (have hFRb : _ ≤ _ ∧ _ ≤ _ := And.intro hfr.1 hfr.2.1) | (have hFRb : _ ≤ _ := hfr.1) | skip); replace FR := Sm.mk (And.intro hfr FR.out); clear hfr; refine Sm.out ?_)
    | (refine Two.mk ?_ ?_)
    | (refine Cs.mk ?_; intro hcs; first | exact False.elim hcs | (exfalso; omega) | (refine Sm.out ?_))
    | go_step
    | omega
    | (simp only [maxLen_eq]; omega)
  refine WP.loop (Γ := Nat) (fun i => ⟨[(5, iv .i64 (i : Int)), (4, ms nb1 0 5 5), (3, .lit (.string U)), (0, iv .u8 c)], [(nb1, .zs .i64 [604800, 86400, 3600, 60, 1] 5 2)]⟩)
    (fun i => i ≤ 5 ∧ ∀ j, j < i → uS.getD j 0 ≠ c) (fun i => 5 - i) 0 ⟨Nat.zero_le _, fun j hj => absurd hj (Nat.not_lt_zero _)⟩ (Sub.pick (by simp [pickB, hget, hdel, FR.out]) (by simp [look])) ?_
  intro i ⟨hi, hno⟩
  have FR : Sm (¬ ((1 : Nat) = 0)) := Sm.mk Nat.one_ne_zero
  have hnx : uS.getD i 0 ≠ c → ∀ j, j < i + 1 → uS.getD j 0 ≠ c := fun h j hj => by
    by_cases hji : j = i
    · rw [hji]; exact h
    · exact hno j (by omega)
  rcases (by omega : i = 0 ∨ i = 1 ∨ i = 2 ∨ i = 3 ∨ i = 4 ∨ i = 5) with rfl | rfl | rfl | rfl | rfl | rfl
  · by_cases h : c = 119
    · have k : ((119 : Int) == c) = true := beq_iff_eq.2 h.symm
      have e : V = 604800 := by rw [hV, if_pos h]
      first | (have FRx := FR; clear FRx) | (have FR : Sm (¬ ((1 : Nat) = 0)) := Sm.mk Nat.one_ne_zero)
      repeat' first
        | (refine Sm.mk ?_; try simp -dsimp only [ZK, rvc, drawF, headN, pureH, stp, dvc, calleeOf, gcall, pev, eff, newB, okd, og, ogs, ogo, ogp, slv, bltv, opd, litv, strip, one, both, putE, St.put, look, gdOf, gdv, picka, pickv, pickw, binv, bini, bins, binb, binp, binq, isSlT, bina, shp, eqCells, unv, convv, nilv, faddv, addp, idxav, idxp, load1, load1m, loadn, loadnm, loadv, hget, hset, hrep, hdel, slicev, bnd, shift1, lenv, capv, IntKind.bits, extractv, fieldv, indexv, min2v, max2v, mkiv, cellsA, fillA, buildv, stC, oneC, rowMB, intsA, plN, appE, appZ, appC, appNZ, appNC, VwL, srcC, srcZ, srcM, isBoolT, isPtrT, isSliceT, uOk, Value.oneCell', Nat.reducePow, Int.reducePow, Nat.reduceAdd, Nat.reduceMul, Nat.reduceSub, Nat.reduceLT, Nat.reduceLeDiff, Nat.reduceEqDiff, Nat.reduceBEq, Nat.reduceDiv, Nat.reduceMod, ↓reduceIte, reduceCtorEq, Int.reduceToNat, Int.reduceLT, Int.reduceLE, TFSpJ, SeqQ, BlkQ, LoopQ, BodyQ, a0, t0, k, hus, FR.out])
        | (refine WP.seq fun K hK => ?_)
        | (refine WP.region (rvc_sound _ _ (Sm.out ?_)))
        | (refine WP.drawK rfl mixed (by decide +kernel) (Sm.out ?_))
        | (refine Ob.mk ?_; focus (first | assumption | omega | decide | trivial | (intro hob; simp only [hob, ZF]; done) | (intros; (repeat' refine And.intro ?_ ?_) <;> first | assumption | omega | trivial | decide) | (intros; simp only [ZE] at *; (repeat' refine And.intro ?_ ?_) <;> first | assumption | omega | trivial)))
        | (refine And.intro (Ob.out ?_) ?_)
        | (refine WP.block ?_)
        | (refine WP.cond rfl (fun hc => ?_) (fun hc => ?_) <;> (try simp only [ZC, reduceCtorEq, ZD] at hc) <;> (try (exact absurd hc (by decide))) <;> (try (exfalso; omega)))
        | ((first | refine WP.skip ?_ | refine WP.exit ?_); simp only [SeqQ, BlkQ, LoopQ, BodyQ, ↓reduceIte, Nat.reduceEqDiff, reduceCtorEq, look, true_and])
        | (refine WP.ret (Sm.out ?_))
        | (first | refine ExG.no (Sm.out ?_) | refine Or.inl (ExG.no (Sm.out ?_)) | refine Or.inl (And.intro (fun hg => absurd hg (by decide)) (ExG.no (Sm.out ?_))))
        | (refine Rt.mk ?_; refine And.intro ?_ ?_ <;> (intro hg; first | exact absurd hg (by decide) | refine Sm.out ?_))
        | (refine Nu.mk ?_; first | (fail_if_success (have := nb1)); intro nb1 | (fail_if_success (have := nb2)); intro nb2 | (fail_if_success (have := nb3)); intro nb3 | (fail_if_success (have := nb4)); intro nb4 | intro nbz)
        | (refine Fr.mk ?_; intro hfr; (first | (have hFRb : _ ≤ _ ∧ _ ≤ _ := And.intro hfr.1 hfr.2.1) | (have hFRb : _ ≤ _ := hfr.1) | skip); replace FR := Sm.mk (And.intro hfr FR.out); clear hfr; refine Sm.out ?_)
        | (refine Two.mk ?_ ?_)
        | (refine Cs.mk ?_; intro hcs; first | exact False.elim hcs | (exfalso; omega) | (refine Sm.out ?_))
        | go_step
        | omega
        | (simp only [maxLen_eq]; omega)
      (refine OutQ.all ?_ ?_; (focus (simp only [resv, ZK, look, loadv, loadn, loadnm, load1, load1m, hget, ↓reduceIte, Nat.reduceEqDiff, Nat.reduceAdd, Nat.reduceMul, Nat.reduceLeDiff, Nat.reduceLT, reduceCtorEq, TFSpJ, e])); (try simp only [resv, resA, Fn, ZK, look, loadv, loadn, loadnm, load1, load1m, hget, ↓reduceIte, Nat.reduceEqDiff, Nat.reduceAdd, Nat.reduceMul, Nat.reduceLeDiff, Nat.reduceLT, reduceCtorEq, TFSpJ, e]); (try simp [resA, Fn, look, e]))
    · have k : ((119 : Int) == c) = false := beq_eq_false_iff_ne.2 (fun e => h e.symm)
      first | (have FRx := FR; clear FRx) | (have FR : Sm (¬ ((1 : Nat) = 0)) := Sm.mk Nat.one_ne_zero)
      repeat' first
        | (refine Sm.mk ?_; try simp -dsimp only [ZK, rvc, drawF, headN, pureH, stp, dvc, calleeOf, gcall, pev, eff, newB, okd, og, ogs, ogo, ogp, slv, bltv, opd, litv, strip, one, both, putE, St.put, look, gdOf, gdv, picka, pickv, pickw, binv, bini, bins, binb, binp, binq, isSlT, bina, shp, eqCells, unv, convv, nilv, faddv, addp, idxav, idxp, load1, load1m, loadn, loadnm, loadv, hget, hset, hrep, hdel, slicev, bnd, shift1, lenv, capv, IntKind.bits, extractv, fieldv, indexv, min2v, max2v, mkiv, cellsA, fillA, buildv, stC, oneC, rowMB, intsA, plN, appE, appZ, appC, appNZ, appNC, VwL, srcC, srcZ, srcM, isBoolT, isPtrT, isSliceT, uOk, Value.oneCell', Nat.reducePow, Int.reducePow, Nat.reduceAdd, Nat.reduceMul, Nat.reduceSub, Nat.reduceLT, Nat.reduceLeDiff, Nat.reduceEqDiff, Nat.reduceBEq, Nat.reduceDiv, Nat.reduceMod, ↓reduceIte, reduceCtorEq, Int.reduceToNat, Int.reduceLT, Int.reduceLE, TFSpJ, SeqQ, BlkQ, LoopQ, BodyQ, a0, t0, k, hus, FR.out])
        | (refine WP.seq fun K hK => ?_)
        | (refine WP.region (rvc_sound _ _ (Sm.out ?_)))
        | (refine WP.drawK rfl mixed (by decide +kernel) (Sm.out ?_))
        | (refine Ob.mk ?_; focus (first | assumption | omega | decide | trivial | (intro hob; simp only [hob, ZF]; done) | (intros; (repeat' refine And.intro ?_ ?_) <;> first | assumption | omega | trivial | decide) | (intros; simp only [ZE] at *; (repeat' refine And.intro ?_ ?_) <;> first | assumption | omega | trivial)))
        | (refine And.intro (Ob.out ?_) ?_)
        | (refine WP.block ?_)
        | (refine WP.cond rfl (fun hc => ?_) (fun hc => ?_) <;> (try simp only [ZC, reduceCtorEq, ZD] at hc) <;> (try (exact absurd hc (by decide))) <;> (try (exfalso; omega)))
        | ((first | refine WP.skip ?_ | refine WP.exit ?_); simp only [SeqQ, BlkQ, LoopQ, BodyQ, ↓reduceIte, Nat.reduceEqDiff, reduceCtorEq, look, true_and])
        | (refine WP.ret (Sm.out ?_))
        | (first | refine ExG.no (Sm.out ?_) | refine Or.inl (ExG.no (Sm.out ?_)) | refine Or.inl (And.intro (fun hg => absurd hg (by decide)) (ExG.no (Sm.out ?_))))
        | (refine Rt.mk ?_; refine And.intro ?_ ?_ <;> (intro hg; first | exact absurd hg (by decide) | refine Sm.out ?_))
        | (refine Nu.mk ?_; first | (fail_if_success (have := nb1)); intro nb1 | (fail_if_success (have := nb2)); intro nb2 | (fail_if_success (have := nb3)); intro nb3 | (fail_if_success (have := nb4)); intro nb4 | intro nbz)
        | (refine Fr.mk ?_; intro hfr; (first | (have hFRb : _ ≤ _ ∧ _ ≤ _ := And.intro hfr.1 hfr.2.1) | (have hFRb : _ ≤ _ := hfr.1) | skip); replace FR := Sm.mk (And.intro hfr FR.out); clear hfr; refine Sm.out ?_)
        | (refine Two.mk ?_ ?_)
        | (refine Cs.mk ?_; intro hcs; first | exact False.elim hcs | (exfalso; omega) | (refine Sm.out ?_))
        | go_step
        | omega
        | (simp only [maxLen_eq]; omega)
      refine ⟨1, ⟨by decide, hnx (fun e => h e.symm)⟩, by decide, (Sub.pick (by simp [pickB, hget, hdel, FR.out, q1, q2, q3, q4, q5]) (by simp [look, q1, q2, q3, q4, q5]))⟩
  · have n0 : c ≠ 119 := fun e => hno 0 (by omega) e.symm
    by_cases h : c = 100
    · have k : ((100 : Int) == c) = true := beq_iff_eq.2 h.symm
      have e : V = 86400 := by rw [hV, if_neg n0, if_pos h]
      first | (have FRx := FR; clear FRx) | (have FR : Sm (¬ ((1 : Nat) = 0)) := Sm.mk Nat.one_ne_zero)
      repeat' first
        | (refine Sm.mk ?_; try simp -dsimp only [ZK, rvc, drawF, headN, pureH, stp, dvc, calleeOf, gcall, pev, eff, newB, okd, og, ogs, ogo, ogp, slv, bltv, opd, litv, strip, one, both, putE, St.put, look, gdOf, gdv, picka, pickv, pickw, binv, bini, bins, binb, binp, binq, isSlT, bina, shp, eqCells, unv, convv, nilv, faddv, addp, idxav, idxp, load1, load1m, loadn, loadnm, loadv, hget, hset, hrep, hdel, slicev, bnd, shift1, lenv, capv, IntKind.bits, extractv, fieldv, indexv, min2v, max2v, mkiv, cellsA, fillA, buildv, stC, oneC, rowMB, intsA, plN, appE, appZ, appC, appNZ, appNC, VwL, srcC, srcZ, srcM, isBoolT, isPtrT, isSliceT, uOk, Value.oneCell', Nat.reducePow, Int.reducePow, Nat.reduceAdd, Nat.reduceMul, Nat.reduceSub, Nat.reduceLT, Nat.reduceLeDiff, Nat.reduceEqDiff, Nat.reduceBEq, Nat.reduceDiv, Nat.reduceMod, ↓reduceIte, reduceCtorEq, Int.reduceToNat, Int.reduceLT, Int.reduceLE, TFSpJ, SeqQ, BlkQ, LoopQ, BodyQ, a1, t1, k, hus, FR.out])
        | (refine WP.seq fun K hK => ?_)
        | (refine WP.region (rvc_sound _ _ (Sm.out ?_)))
        | (refine WP.drawK rfl mixed (by decide +kernel) (Sm.out ?_))
        | (refine Ob.mk ?_; focus (first | assumption | omega | decide | trivial | (intro hob; simp only [hob, ZF]; done) | (intros; (repeat' refine And.intro ?_ ?_) <;> first | assumption | omega | trivial | decide) | (intros; simp only [ZE] at *; (repeat' refine And.intro ?_ ?_) <;> first | assumption | omega | trivial)))
        | (refine And.intro (Ob.out ?_) ?_)
        | (refine WP.block ?_)
        | (refine WP.cond rfl (fun hc => ?_) (fun hc => ?_) <;> (try simp only [ZC, reduceCtorEq, ZD] at hc) <;> (try (exact absurd hc (by decide))) <;> (try (exfalso; omega)))
        | ((first | refine WP.skip ?_ | refine WP.exit ?_); simp only [SeqQ, BlkQ, LoopQ, BodyQ, ↓reduceIte, Nat.reduceEqDiff, reduceCtorEq, look, true_and])
        | (refine WP.ret (Sm.out ?_))
        | (first | refine ExG.no (Sm.out ?_) | refine Or.inl (ExG.no (Sm.out ?_)) | refine Or.inl (And.intro (fun hg => absurd hg (by decide)) (ExG.no (Sm.out ?_))))
        | (refine Rt.mk ?_; refine And.intro ?_ ?_ <;> (intro hg; first | exact absurd hg (by decide) | refine Sm.out ?_))
        | (refine Nu.mk ?_; first | (fail_if_success (have := nb1)); intro nb1 | (fail_if_success (have := nb2)); intro nb2 | (fail_if_success (have := nb3)); intro nb3 | (fail_if_success (have := nb4)); intro nb4 | intro nbz)
        | (refine Fr.mk ?_; intro hfr; (first | (have hFRb : _ ≤ _ ∧ _ ≤ _ := And.intro hfr.1 hfr.2.1) | (have hFRb : _ ≤ _ := hfr.1) | skip); replace FR := Sm.mk (And.intro hfr FR.out); clear hfr; refine Sm.out ?_)
        | (refine Two.mk ?_ ?_)
        | (refine Cs.mk ?_; intro hcs; first | exact False.elim hcs | (exfalso; omega) | (refine Sm.out ?_))
        | go_step
        | omega
        | (simp only [maxLen_eq]; omega)
      (refine OutQ.all ?_ ?_; (focus (simp only [resv, ZK, look, loadv, loadn, loadnm, load1, load1m, hget, ↓reduceIte, Nat.reduceEqDiff, Nat.reduceAdd, Nat.reduceMul, Nat.reduceLeDiff, Nat.reduceLT, reduceCtorEq, TFSpJ, e])); (try simp only [resv, resA, Fn, ZK, look, loadv, loadn, loadnm, load1, load1m, hget, ↓reduceIte, Nat.reduceEqDiff, Nat.reduceAdd, Nat.reduceMul, Nat.reduceLeDiff, Nat.reduceLT, reduceCtorEq, TFSpJ, e]); (try simp [resA, Fn, look, e]))
    · have k : ((100 : Int) == c) = false := beq_eq_false_iff_ne.2 (fun e => h e.symm)
      first | (have FRx := FR; clear FRx) | (have FR : Sm (¬ ((1 : Nat) = 0)) := Sm.mk Nat.one_ne_zero)
      repeat' first
        | (refine Sm.mk ?_; try simp -dsimp only [ZK, rvc, drawF, headN, pureH, stp, dvc, calleeOf, gcall, pev, eff, newB, okd, og, ogs, ogo, ogp, slv, bltv, opd, litv, strip, one, both, putE, St.put, look, gdOf, gdv, picka, pickv, pickw, binv, bini, bins, binb, binp, binq, isSlT, bina, shp, eqCells, unv, convv, nilv, faddv, addp, idxav, idxp, load1, load1m, loadn, loadnm, loadv, hget, hset, hrep, hdel, slicev, bnd, shift1, lenv, capv, IntKind.bits, extractv, fieldv, indexv, min2v, max2v, mkiv, cellsA, fillA, buildv, stC, oneC, rowMB, intsA, plN, appE, appZ, appC, appNZ, appNC, VwL, srcC, srcZ, srcM, isBoolT, isPtrT, isSliceT, uOk, Value.oneCell', Nat.reducePow, Int.reducePow, Nat.reduceAdd, Nat.reduceMul, Nat.reduceSub, Nat.reduceLT, Nat.reduceLeDiff, Nat.reduceEqDiff, Nat.reduceBEq, Nat.reduceDiv, Nat.reduceMod, ↓reduceIte, reduceCtorEq, Int.reduceToNat, Int.reduceLT, Int.reduceLE, TFSpJ, SeqQ, BlkQ, LoopQ, BodyQ, a1, t1, k, hus, FR.out])
        | (refine WP.seq fun K hK => ?_)
        | (refine WP.region (rvc_sound _ _ (Sm.out ?_)))
        | (refine WP.drawK rfl mixed (by decide +kernel) (Sm.out ?_))
        | (refine Ob.mk ?_; focus (first | assumption | omega | decide | trivial | (intro hob; simp only [hob, ZF]; done) | (intros; (repeat' refine And.intro ?_ ?_) <;> first | assumption | omega | trivial | decide) | (intros; simp only [ZE] at *; (repeat' refine And.intro ?_ ?_) <;> first | assumption | omega | trivial)))
        | (refine And.intro (Ob.out ?_) ?_)
        | (refine WP.block ?_)
        | (refine WP.cond rfl (fun hc => ?_) (fun hc => ?_) <;> (try simp only [ZC, reduceCtorEq, ZD] at hc) <;> (try (exact absurd hc (by decide))) <;> (try (exfalso; omega)))
        | ((first | refine WP.skip ?_ | refine WP.exit ?_); simp only [SeqQ, BlkQ, LoopQ, BodyQ, ↓reduceIte, Nat.reduceEqDiff, reduceCtorEq, look, true_and])
        | (refine WP.ret (Sm.out ?_))
        | (first | refine ExG.no (Sm.out ?_) | refine Or.inl (ExG.no (Sm.out ?_)) | refine Or.inl (And.intro (fun hg => absurd hg (by decide)) (ExG.no (Sm.out ?_))))
        | (refine Rt.mk ?_; refine And.intro ?_ ?_ <;> (intro hg; first | exact absurd hg (by decide) | refine Sm.out ?_))
        | (refine Nu.mk ?_; first | (fail_if_success (have := nb1)); intro nb1 | (fail_if_success (have := nb2)); intro nb2 | (fail_if_success (have := nb3)); intro nb3 | (fail_if_success (have := nb4)); intro nb4 | intro nbz)
        | (refine Fr.mk ?_; intro hfr; (first | (have hFRb : _ ≤ _ ∧ _ ≤ _ := And.intro hfr.1 hfr.2.1) | (have hFRb : _ ≤ _ := hfr.1) | skip); replace FR := Sm.mk (And.intro hfr FR.out); clear hfr; refine Sm.out ?_)
        | (refine Two.mk ?_ ?_)
        | (refine Cs.mk ?_; intro hcs; first | exact False.elim hcs | (exfalso; omega) | (refine Sm.out ?_))
        | go_step
        | omega
        | (simp only [maxLen_eq]; omega)
      refine ⟨2, ⟨by decide, hnx (fun e => h e.symm)⟩, by decide, (Sub.pick (by simp [pickB, hget, hdel, FR.out, q1, q2, q3, q4, q5]) (by simp [look, q1, q2, q3, q4, q5]))⟩
  · have n0 : c ≠ 119 := fun e => hno 0 (by omega) e.symm
    have n1 : c ≠ 100 := fun e => hno 1 (by omega) e.symm
    by_cases h : c = 104
    · have k : ((104 : Int) == c) = true := beq_iff_eq.2 h.symm
      have e : V = 3600 := by rw [hV, if_neg n0, if_neg n1, if_pos h]
      first | (have FRx := FR; clear FRx) | (have FR : Sm (¬ ((1 : Nat) = 0)) := Sm.mk Nat.one_ne_zero)
      repeat' first
        | (refine Sm.mk ?_; try simp -dsimp only [ZK, rvc, drawF, headN, pureH, stp, dvc, calleeOf, gcall, pev, eff, newB, okd, og, ogs, ogo, ogp, slv, bltv, opd, litv, strip, one, both, putE, St.put, look, gdOf, gdv, picka, pickv, pickw, binv, bini, bins, binb, binp, binq, isSlT, bina, shp, eqCells, unv, convv, nilv, faddv, addp, idxav, idxp, load1, load1m, loadn, loadnm, loadv, hget, hset, hrep, hdel, slicev, bnd, shift1, lenv, capv, IntKind.bits, extractv, fieldv, indexv, min2v, max2v, mkiv, cellsA, fillA, buildv, stC, oneC, rowMB, intsA, plN, appE, appZ, appC, appNZ, appNC, VwL, srcC, srcZ, srcM, isBoolT, isPtrT, isSliceT, uOk, Value.oneCell', Nat.reducePow, Int.reducePow, Nat.reduceAdd, Nat.reduceMul, Nat.reduceSub, Nat.reduceLT, Nat.reduceLeDiff, Nat.reduceEqDiff, Nat.reduceBEq, Nat.reduceDiv, Nat.reduceMod, ↓reduceIte, reduceCtorEq, Int.reduceToNat, Int.reduceLT, Int.reduceLE, TFSpJ, SeqQ, BlkQ, LoopQ, BodyQ, a2, t2, k, hus, FR.out])
        | (refine WP.seq fun K hK => ?_)
        | (refine WP.region (rvc_sound _ _ (Sm.out ?_)))
        | (refine WP.drawK rfl mixed (by decide +kernel) (Sm.out ?_))
        | (refine Ob.mk ?_; focus (first | assumption | omega | decide | trivial | (intro hob; simp only [hob, ZF]; done) | (intros; (repeat' refine And.intro ?_ ?_) <;> first | assumption | omega | trivial | decide) | (intros; simp only [ZE] at *; (repeat' refine And.intro ?_ ?_) <;> first | assumption | omega | trivial)))
        | (refine And.intro (Ob.out ?_) ?_)
        | (refine WP.block ?_)
        | (refine WP.cond rfl (fun hc => ?_) (fun hc => ?_) <;> (try simp only [ZC, reduceCtorEq, ZD] at hc) <;> (try (exact absurd hc (by decide))) <;> (try (exfalso; omega)))
        | ((first | refine WP.skip ?_ | refine WP.exit ?_); simp only [SeqQ, BlkQ, LoopQ, BodyQ, ↓reduceIte, Nat.reduceEqDiff, reduceCtorEq, look, true_and])
        | (refine WP.ret (Sm.out ?_))
        | (first | refine ExG.no (Sm.out ?_) | refine Or.inl (ExG.no (Sm.out ?_)) | refine Or.inl (And.intro (fun hg => absurd hg (by decide)) (ExG.no (Sm.out ?_))))
        | (refine Rt.mk ?_; refine And.intro ?_ ?_ <;> (intro hg; first | exact absurd hg (by decide) | refine Sm.out ?_))
        | (refine Nu.mk ?_; first | (fail_if_success (have := nb1)); intro nb1 | (fail_if_success (have := nb2)); intro nb2 | (fail_if_success (have := nb3)); intro nb3 | (fail_if_success (have := nb4)); intro nb4 | intro nbz)
        | (refine Fr.mk ?_; intro hfr; (first | (have hFRb : _ ≤ _ ∧ _ ≤ _ := And.intro hfr.1 hfr.2.1) | (have hFRb : _ ≤ _ := hfr.1) | skip); replace FR := Sm.mk (And.intro hfr FR.out); clear hfr; refine Sm.out ?_)
        | (refine Two.mk ?_ ?_)
        | (refine Cs.mk ?_; intro hcs; first | exact False.elim hcs | (exfalso; omega) | (refine Sm.out ?_))
        | go_step
        | omega
        | (simp only [maxLen_eq]; omega)
      (refine OutQ.all ?_ ?_; (focus (simp only [resv, ZK, look, loadv, loadn, loadnm, load1, load1m, hget, ↓reduceIte, Nat.reduceEqDiff, Nat.reduceAdd, Nat.reduceMul, Nat.reduceLeDiff, Nat.reduceLT, reduceCtorEq, TFSpJ, e])); (try simp only [resv, resA, Fn, ZK, look, loadv, loadn, loadnm, load1, load1m, hget, ↓reduceIte, Nat.reduceEqDiff, Nat.reduceAdd, Nat.reduceMul, Nat.reduceLeDiff, Nat.reduceLT, reduceCtorEq, TFSpJ, e]); (try simp [resA, Fn, look, e]))
    · have k : ((104 : Int) == c) = false := beq_eq_false_iff_ne.2 (fun e => h e.symm)
      first | (have FRx := FR; clear FRx) | (have FR : Sm (¬ ((1 : Nat) = 0)) := Sm.mk Nat.one_ne_zero)
      repeat' first
        | (refine Sm.mk ?_; try simp -dsimp only [ZK, rvc, drawF, headN, pureH, stp, dvc, calleeOf, gcall, pev, eff, newB, okd, og, ogs, ogo, ogp, slv, bltv, opd, litv, strip, one, both, putE, St.put, look, gdOf, gdv, picka, pickv, pickw, binv, bini, bins, binb, binp, binq, isSlT, bina, shp, eqCells, unv, convv, nilv, faddv, addp, idxav, idxp, load1, load1m, loadn, loadnm, loadv, hget, hset, hrep, hdel, slicev, bnd, shift1, lenv, capv, IntKind.bits, extractv, fieldv, indexv, min2v, max2v, mkiv, cellsA, fillA, buildv, stC, oneC, rowMB, intsA, plN, appE, appZ, appC, appNZ, appNC, VwL, srcC, srcZ, srcM, isBoolT, isPtrT, isSliceT, uOk, Value.oneCell', Nat.reducePow, Int.reducePow, Nat.reduceAdd, Nat.reduceMul, Nat.reduceSub, Nat.reduceLT, Nat.reduceLeDiff, Nat.reduceEqDiff, Nat.reduceBEq, Nat.reduceDiv, Nat.reduceMod, ↓reduceIte, reduceCtorEq, Int.reduceToNat, Int.reduceLT, Int.reduceLE, TFSpJ, SeqQ, BlkQ, LoopQ, BodyQ, a2, t2, k, hus, FR.out])
        | (refine WP.seq fun K hK => ?_)
        | (refine WP.region (rvc_sound _ _ (Sm.out ?_)))
        | (refine WP.drawK rfl mixed (by decide +kernel) (Sm.out ?_))
        | (refine Ob.mk ?_; focus (first | assumption | omega | decide | trivial | (intro hob; simp only [hob, ZF]; done) | (intros; (repeat' refine And.intro ?_ ?_) <;> first | assumption | omega | trivial | decide) | (intros; simp only [ZE] at *; (repeat' refine And.intro ?_ ?_) <;> first | assumption | omega | trivial)))
        | (refine And.intro (Ob.out ?_) ?_)
        | (refine WP.block ?_)
        | (refine WP.cond rfl (fun hc => ?_) (fun hc => ?_) <;> (try simp only [ZC, reduceCtorEq, ZD] at hc) <;> (try (exact absurd hc (by decide))) <;> (try (exfalso; omega)))
        | ((first | refine WP.skip ?_ | refine WP.exit ?_); simp only [SeqQ, BlkQ, LoopQ, BodyQ, ↓reduceIte, Nat.reduceEqDiff, reduceCtorEq, look, true_and])
        | (refine WP.ret (Sm.out ?_))
        | (first | refine ExG.no (Sm.out ?_) | refine Or.inl (ExG.no (Sm.out ?_)) | refine Or.inl (And.intro (fun hg => absurd hg (by decide)) (ExG.no (Sm.out ?_))))
        | (refine Rt.mk ?_; refine And.intro ?_ ?_ <;> (intro hg; first | exact absurd hg (by decide) | refine Sm.out ?_))
        | (refine Nu.mk ?_; first | (fail_if_success (have := nb1)); intro nb1 | (fail_if_success (have := nb2)); intro nb2 | (fail_if_success (have := nb3)); intro nb3 | (fail_if_success (have := nb4)); intro nb4 | intro nbz)
        | (refine Fr.mk ?_; intro hfr; (first | (have hFRb : _ ≤ _ ∧ _ ≤ _ := And.intro hfr.1 hfr.2.1) | (have hFRb : _ ≤ _ := hfr.1) | skip); replace FR := Sm.mk (And.intro hfr FR.out); clear hfr; refine Sm.out ?_)
        | (refine Two.mk ?_ ?_)
        | (refine Cs.mk ?_; intro hcs; first | exact False.elim hcs | (exfalso; omega) | (refine Sm.out ?_))
        | go_step
        | omega
        | (simp only [maxLen_eq]; omega)
      refine ⟨3, ⟨by decide, hnx (fun e => h e.symm)⟩, by decide, (Sub.pick (by simp [pickB, hget, hdel, FR.out, q1, q2, q3, q4, q5]) (by simp [look, q1, q2, q3, q4, q5]))⟩
  · have n0 : c ≠ 119 := fun e => hno 0 (by omega) e.symm
    have n1 : c ≠ 100 := fun e => hno 1 (by omega) e.symm
    have n2 : c ≠ 104 := fun e => hno 2 (by omega) e.symm
    by_cases h : c = 109
    · have k : ((109 : Int) == c) = true := beq_iff_eq.2 h.symm
      have e : V = 60 := by rw [hV, if_neg n0, if_neg n1, if_neg n2, if_pos h]
      first | (have FRx := FR; clear FRx) | (have FR : Sm (¬ ((1 : Nat) = 0)) := Sm.mk Nat.one_ne_zero)
      repeat' first
        | (refine Sm.mk ?_; try simp -dsimp only [ZK, rvc, drawF, headN, pureH, stp, dvc, calleeOf, gcall, pev, eff, newB, okd, og, ogs, ogo, ogp, slv, bltv, opd, litv, strip, one, both, putE, St.put, look, gdOf, gdv, picka, pickv, pickw, binv, bini, bins, binb, binp, binq, isSlT, bina, shp, eqCells, unv, convv, nilv, faddv, addp, idxav, idxp, load1, load1m, loadn, loadnm, loadv, hget, hset, hrep, hdel, slicev, bnd, shift1, lenv, capv, IntKind.bits, extractv, fieldv, indexv, min2v, max2v, mkiv, cellsA, fillA, buildv, stC, oneC, rowMB, intsA, plN, appE, appZ, appC, appNZ, appNC, VwL, srcC, srcZ, srcM, isBoolT, isPtrT, isSliceT, uOk, Value.oneCell', Nat.reducePow, Int.reducePow, Nat.reduceAdd, Nat.reduceMul, Nat.reduceSub, Nat.reduceLT, Nat.reduceLeDiff, Nat.reduceEqDiff, Nat.reduceBEq, Nat.reduceDiv, Nat.reduceMod, ↓reduceIte, reduceCtorEq, Int.reduceToNat, Int.reduceLT, Int.reduceLE, TFSpJ, SeqQ, BlkQ, LoopQ, BodyQ, a3, t3, k, hus, FR.out])
        | (refine WP.seq fun K hK => ?_)
        | (refine WP.region (rvc_sound _ _ (Sm.out ?_)))
        | (refine WP.drawK rfl mixed (by decide +kernel) (Sm.out ?_))
        | (refine Ob.mk ?_; focus (first | assumption | omega | decide | trivial | (intro hob; simp only [hob, ZF]; done) | (intros; (repeat' refine And.intro ?_ ?_) <;> first | assumption | omega | trivial | decide) | (intros; simp only [ZE] at *; (repeat' refine And.intro ?_ ?_) <;> first | assumption | omega | trivial)))
        | (refine And.intro (Ob.out ?_) ?_)
        | (refine WP.block ?_)
        | (refine WP.cond rfl (fun hc => ?_) (fun hc => ?_) <;> (try simp only [ZC, reduceCtorEq, ZD] at hc) <;> (try (exact absurd hc (by decide))) <;> (try (exfalso; omega)))
        | ((first | refine WP.skip ?_ | refine WP.exit ?_); simp only [SeqQ, BlkQ, LoopQ, BodyQ, ↓reduceIte, Nat.reduceEqDiff, reduceCtorEq, look, true_and])
        | (refine WP.ret (Sm.out ?_))
        | (first | refine ExG.no (Sm.out ?_) | refine Or.inl (ExG.no (Sm.out ?_)) | refine Or.inl (And.intro (fun hg => absurd hg (by decide)) (ExG.no (Sm.out ?_))))
        | (refine Rt.mk ?_; refine And.intro ?_ ?_ <;> (intro hg; first | exact absurd hg (by decide) | refine Sm.out ?_))
        | (refine Nu.mk ?_; first | (fail_if_success (have := nb1)); intro nb1 | (fail_if_success (have := nb2)); intro nb2 | (fail_if_success (have := nb3)); intro nb3 | (fail_if_success (have := nb4)); intro nb4 | intro nbz)
        | (refine Fr.mk ?_; intro hfr; (first | (have hFRb : _ ≤ _ ∧ _ ≤ _ := And.intro hfr.1 hfr.2.1) | (have hFRb : _ ≤ _ := hfr.1) | skip); replace FR := Sm.mk (And.intro hfr FR.out); clear hfr; refine Sm.out ?_)
        | (refine Two.mk ?_ ?_)
        | (refine Cs.mk ?_; intro hcs; first | exact False.elim hcs | (exfalso; omega) | (refine Sm.out ?_))
        | go_step
        | omega
        | (simp only [maxLen_eq]; omega)
      (refine OutQ.all ?_ ?_; (focus (simp only [resv, ZK, look, loadv, loadn, loadnm, load1, load1m, hget, ↓reduceIte, Nat.reduceEqDiff, Nat.reduceAdd, Nat.reduceMul, Nat.reduceLeDiff, Nat.reduceLT, reduceCtorEq, TFSpJ, e])); (try simp only [resv, resA, Fn, ZK, look, loadv, loadn, loadnm, load1, load1m, hget, ↓reduceIte, Nat.reduceEqDiff, Nat.reduceAdd, Nat.reduceMul, Nat.reduceLeDiff, Nat.reduceLT, reduceCtorEq, TFSpJ, e]); (try simp [resA, Fn, look, e]))
    · have k : ((109 : Int) == c) = false := beq_eq_false_iff_ne.2 (fun e => h e.symm)
      first | (have FRx := FR; clear FRx) | (have FR : Sm (¬ ((1 : Nat) = 0)) := Sm.mk Nat.one_ne_zero)
      repeat' first
        | (refine Sm.mk ?_; try simp -dsimp only [ZK, rvc, drawF, headN, pureH, stp, dvc, calleeOf, gcall, pev, eff, newB, okd, og, ogs, ogo, ogp, slv, bltv, opd, litv, strip, one, both, putE, St.put, look, gdOf, gdv, picka, pickv, pickw, binv, bini, bins, binb, binp, binq, isSlT, bina, shp, eqCells, unv, convv, nilv, faddv, addp, idxav, idxp, load1, load1m, loadn, loadnm, loadv, hget, hset, hrep, hdel, slicev, bnd, shift1, lenv, capv, IntKind.bits, extractv, fieldv, indexv, min2v, max2v, mkiv, cellsA, fillA, buildv, stC, oneC, rowMB, intsA, plN, appE, appZ, appC, appNZ, appNC, VwL, srcC, srcZ, srcM, isBoolT, isPtrT, isSliceT, uOk, Value.oneCell', Nat.reducePow, Int.reducePow, Nat.reduceAdd, Nat.reduceMul, Nat.reduceSub, Nat.reduceLT, Nat.reduceLeDiff, Nat.reduceEqDiff, Nat.reduceBEq, Nat.reduceDiv, Nat.reduceMod, ↓reduceIte, reduceCtorEq, Int.reduceToNat, Int.reduceLT, Int.reduceLE, TFSpJ, SeqQ, BlkQ, LoopQ, BodyQ, a3, t3, k, hus, FR.out])
        | (refine WP.seq fun K hK => ?_)
        | (refine WP.region (rvc_sound _ _ (Sm.out ?_)))
        | (refine WP.drawK rfl mixed (by decide +kernel) (Sm.out ?_))
        | (refine Ob.mk ?_; focus (first | assumption | omega | decide | trivial | (intro hob; simp only [hob, ZF]; done) | (intros; (repeat' refine And.intro ?_ ?_) <;> first | assumption | omega | trivial | decide) | (intros; simp only [ZE] at *; (repeat' refine And.intro ?_ ?_) <;> first | assumption | omega | trivial)))
        | (refine And.intro (Ob.out ?_) ?_)
        | (refine WP.block ?_)
        | (refine WP.cond rfl (fun hc => ?_) (fun hc => ?_) <;> (try simp only [ZC, reduceCtorEq, ZD] at hc) <;> (try (exact absurd hc (by decide))) <;> (try (exfalso; omega)))
        | ((first | refine WP.skip ?_ | refine WP.exit ?_); simp only [SeqQ, BlkQ, LoopQ, BodyQ, ↓reduceIte, Nat.reduceEqDiff, reduceCtorEq, look, true_and])
        | (refine WP.ret (Sm.out ?_))
        | (first | refine ExG.no (Sm.out ?_) | refine Or.inl (ExG.no (Sm.out ?_)) | refine Or.inl (And.intro (fun hg => absurd hg (by decide)) (ExG.no (Sm.out ?_))))
        | (refine Rt.mk ?_; refine And.intro ?_ ?_ <;> (intro hg; first | exact absurd hg (by decide) | refine Sm.out ?_))
        | (refine Nu.mk ?_; first | (fail_if_success (have := nb1)); intro nb1 | (fail_if_success (have := nb2)); intro nb2 | (fail_if_success (have := nb3)); intro nb3 | (fail_if_success (have := nb4)); intro nb4 | intro nbz)
        | (refine Fr.mk ?_; intro hfr; (first | (have hFRb : _ ≤ _ ∧ _ ≤ _ := And.intro hfr.1 hfr.2.1) | (have hFRb : _ ≤ _ := hfr.1) | skip); replace FR := Sm.mk (And.intro hfr FR.out); clear hfr; refine Sm.out ?_)
        | (refine Two.mk ?_ ?_)
        | (refine Cs.mk ?_; intro hcs; first | exact False.elim hcs | (exfalso; omega) | (refine Sm.out ?_))
        | go_step
        | omega
        | (simp only [maxLen_eq]; omega)
      refine ⟨4, ⟨by decide, hnx (fun e => h e.symm)⟩, by decide, (Sub.pick (by simp [pickB, hget, hdel, FR.out, q1, q2, q3, q4, q5]) (by simp [look, q1, q2, q3, q4, q5]))⟩
  · have n0 : c ≠ 119 := fun e => hno 0 (by omega) e.symm
    have n1 : c ≠ 100 := fun e => hno 1 (by omega) e.symm
    have n2 : c ≠ 104 := fun e => hno 2 (by omega) e.symm
    have n3 : c ≠ 109 := fun e => hno 3 (by omega) e.symm
    by_cases h : c = 115
    · have k : ((115 : Int) == c) = true := beq_iff_eq.2 h.symm
      have e : V = 1 := by rw [hV, if_neg n0, if_neg n1, if_neg n2, if_neg n3, if_pos h]
      first | (have FRx := FR; clear FRx) | (have FR : Sm (¬ ((1 : Nat) = 0)) := Sm.mk Nat.one_ne_zero)
      repeat' first
        | (refine Sm.mk ?_; try simp -dsimp only [ZK, rvc, drawF, headN, pureH, stp, dvc, calleeOf, gcall, pev, eff, newB, okd, og, ogs, ogo, ogp, slv, bltv, opd, litv, strip, one, both, putE, St.put, look, gdOf, gdv, picka, pickv, pickw, binv, bini, bins, binb, binp, binq, isSlT, bina, shp, eqCells, unv, convv, nilv, faddv, addp, idxav, idxp, load1, load1m, loadn, loadnm, loadv, hget, hset, hrep, hdel, slicev, bnd, shift1, lenv, capv, IntKind.bits, extractv, fieldv, indexv, min2v, max2v, mkiv, cellsA, fillA, buildv, stC, oneC, rowMB, intsA, plN, appE, appZ, appC, appNZ, appNC, VwL, srcC, srcZ, srcM, isBoolT, isPtrT, isSliceT, uOk, Value.oneCell', Nat.reducePow, Int.reducePow, Nat.reduceAdd, Nat.reduceMul, Nat.reduceSub, Nat.reduceLT, Nat.reduceLeDiff, Nat.reduceEqDiff, Nat.reduceBEq, Nat.reduceDiv, Nat.reduceMod, ↓reduceIte, reduceCtorEq, Int.reduceToNat, Int.reduceLT, Int.reduceLE, TFSpJ, SeqQ, BlkQ, LoopQ, BodyQ, a4, t4, k, hus, FR.out])
        | (refine WP.seq fun K hK => ?_)
        | (refine WP.region (rvc_sound _ _ (Sm.out ?_)))
        | (refine WP.drawK rfl mixed (by decide +kernel) (Sm.out ?_))
        | (refine Ob.mk ?_; focus (first | assumption | omega | decide | trivial | (intro hob; simp only [hob, ZF]; done) | (intros; (repeat' refine And.intro ?_ ?_) <;> first | assumption | omega | trivial | decide) | (intros; simp only [ZE] at *; (repeat' refine And.intro ?_ ?_) <;> first | assumption | omega | trivial)))
        | (refine And.intro (Ob.out ?_) ?_)
        | (refine WP.block ?_)
        | (refine WP.cond rfl (fun hc => ?_) (fun hc => ?_) <;> (try simp only [ZC, reduceCtorEq, ZD] at hc) <;> (try (exact absurd hc (by decide))) <;> (try (exfalso; omega)))
        | ((first | refine WP.skip ?_ | refine WP.exit ?_); simp only [SeqQ, BlkQ, LoopQ, BodyQ, ↓reduceIte, Nat.reduceEqDiff, reduceCtorEq, look, true_and])
        | (refine WP.ret (Sm.out ?_))
        | (first | refine ExG.no (Sm.out ?_) | refine Or.inl (ExG.no (Sm.out ?_)) | refine Or.inl (And.intro (fun hg => absurd hg (by decide)) (ExG.no (Sm.out ?_))))
        | (refine Rt.mk ?_; refine And.intro ?_ ?_ <;> (intro hg; first | exact absurd hg (by decide) | refine Sm.out ?_))
        | (refine Nu.mk ?_; first | (fail_if_success (have := nb1)); intro nb1 | (fail_if_success (have := nb2)); intro nb2 | (fail_if_success (have := nb3)); intro nb3 | (fail_if_success (have := nb4)); intro nb4 | intro nbz)
        | (refine Fr.mk ?_; intro hfr; (first | (have hFRb : _ ≤ _ ∧ _ ≤ _ := And.intro hfr.1 hfr.2.1) | (have hFRb : _ ≤ _ := hfr.1) | skip); replace FR := Sm.mk (And.intro hfr FR.out); clear hfr; refine Sm.out ?_)
        | (refine Two.mk ?_ ?_)
        | (refine Cs.mk ?_; intro hcs; first | exact False.elim hcs | (exfalso; omega) | (refine Sm.out ?_))
        | go_step
        | omega
        | (simp only [maxLen_eq]; omega)
      (refine OutQ.all ?_ ?_; (focus (simp only [resv, ZK, look, loadv, loadn, loadnm, load1, load1m, hget, ↓reduceIte, Nat.reduceEqDiff, Nat.reduceAdd, Nat.reduceMul, Nat.reduceLeDiff, Nat.reduceLT, reduceCtorEq, TFSpJ, e])); (try simp only [resv, resA, Fn, ZK, look, loadv, loadn, loadnm, load1, load1m, hget, ↓reduceIte, Nat.reduceEqDiff, Nat.reduceAdd, Nat.reduceMul, Nat.reduceLeDiff, Nat.reduceLT, reduceCtorEq, TFSpJ, e]); (try simp [resA, Fn, look, e]))
    · have k : ((115 : Int) == c) = false := beq_eq_false_iff_ne.2 (fun e => h e.symm)
      first | (have FRx := FR; clear FRx) | (have FR : Sm (¬ ((1 : Nat) = 0)) := Sm.mk Nat.one_ne_zero)
      repeat' first
        | (refine Sm.mk ?_; try simp -dsimp only [ZK, rvc, drawF, headN, pureH, stp, dvc, calleeOf, gcall, pev, eff, newB, okd, og, ogs, ogo, ogp, slv, bltv, opd, litv, strip, one, both, putE, St.put, look, gdOf, gdv, picka, pickv, pickw, binv, bini, bins, binb, binp, binq, isSlT, bina, shp, eqCells, unv, convv, nilv, faddv, addp, idxav, idxp, load1, load1m, loadn, loadnm, loadv, hget, hset, hrep, hdel, slicev, bnd, shift1, lenv, capv, IntKind.bits, extractv, fieldv, indexv, min2v, max2v, mkiv, cellsA, fillA, buildv, stC, oneC, rowMB, intsA, plN, appE, appZ, appC, appNZ, appNC, VwL, srcC, srcZ, srcM, isBoolT, isPtrT, isSliceT, uOk, Value.oneCell', Nat.reducePow, Int.reducePow, Nat.reduceAdd, Nat.reduceMul, Nat.reduceSub, Nat.reduceLT, Nat.reduceLeDiff, Nat.reduceEqDiff, Nat.reduceBEq, Nat.reduceDiv, Nat.reduceMod, ↓reduceIte, reduceCtorEq, Int.reduceToNat, Int.reduceLT, Int.reduceLE, TFSpJ, SeqQ, BlkQ, LoopQ, BodyQ, a4, t4, k, hus, FR.out])
        | (refine WP.seq fun K hK => ?_)
        | (refine WP.region (rvc_sound _ _ (Sm.out ?_)))
        | (refine WP.drawK rfl mixed (by decide +kernel) (Sm.out ?_))
        | (refine Ob.mk ?_; focus (first | assumption | omega | decide | trivial | (intro hob; simp only [hob, ZF]; done) | (intros; (repeat' refine And.intro ?_ ?_) <;> first | assumption | omega | trivial | decide) | (intros; simp only [ZE] at *; (repeat' refine And.intro ?_ ?_) <;> first | assumption | omega | trivial)))
        | (refine And.intro (Ob.out ?_) ?_)
        | (refine WP.block ?_)
        | (refine WP.cond rfl (fun hc => ?_) (fun hc => ?_) <;> (try simp only [ZC, reduceCtorEq, ZD] at hc) <;> (try (exact absurd hc (by decide))) <;> (try (exfalso; omega)))
        | ((first | refine WP.skip ?_ | refine WP.exit ?_); simp only [SeqQ, BlkQ, LoopQ, BodyQ, ↓reduceIte, Nat.reduceEqDiff, reduceCtorEq, look, true_and])
        | (refine WP.ret (Sm.out ?_))
        | (first | refine ExG.no (Sm.out ?_) | refine Or.inl (ExG.no (Sm.out ?_)) | refine Or.inl (And.intro (fun hg => absurd hg (by decide)) (ExG.no (Sm.out ?_))))
        | (refine Rt.mk ?_; refine And.intro ?_ ?_ <;> (intro hg; first | exact absurd hg (by decide) | refine Sm.out ?_))
        | (refine Nu.mk ?_; first | (fail_if_success (have := nb1)); intro nb1 | (fail_if_success (have := nb2)); intro nb2 | (fail_if_success (have := nb3)); intro nb3 | (fail_if_success (have := nb4)); intro nb4 | intro nbz)
        | (refine Fr.mk ?_; intro hfr; (first | (have hFRb : _ ≤ _ ∧ _ ≤ _ := And.intro hfr.1 hfr.2.1) | (have hFRb : _ ≤ _ := hfr.1) | skip); replace FR := Sm.mk (And.intro hfr FR.out); clear hfr; refine Sm.out ?_)
        | (refine Two.mk ?_ ?_)
        | (refine Cs.mk ?_; intro hcs; first | exact False.elim hcs | (exfalso; omega) | (refine Sm.out ?_))
        | go_step
        | omega
        | (simp only [maxLen_eq]; omega)
      refine ⟨5, ⟨by decide, hnx (fun e => h e.symm)⟩, by decide, (Sub.pick (by simp [pickB, hget, hdel, FR.out, q1, q2, q3, q4, q5]) (by simp [look, q1, q2, q3, q4, q5]))⟩
  · have n0 : c ≠ 119 := fun e => hno 0 (by omega) e.symm
    have n1 : c ≠ 100 := fun e => hno 1 (by omega) e.symm
    have n2 : c ≠ 104 := fun e => hno 2 (by omega) e.symm
    have n3 : c ≠ 109 := fun e => hno 3 (by omega) e.symm
    have n4 : c ≠ 115 := fun e => hno 4 (by omega) e.symm
    have e : V = 0 := by rw [hV, if_neg n0, if_neg n1, if_neg n2, if_neg n3, if_neg n4]
    first | (have FRx := FR; clear FRx) | (have FR : Sm (¬ ((1 : Nat) = 0)) := Sm.mk Nat.one_ne_zero)
    repeat' first
      | (refine Sm.mk ?_; try simp -dsimp only [ZK, rvc, drawF, headN, pureH, stp, dvc, calleeOf, gcall, pev, eff, newB, okd, og, ogs, ogo, ogp, slv, bltv, opd, litv, strip, one, both, putE, St.put, look, gdOf, gdv, picka, pickv, pickw, binv, bini, bins, binb, binp, binq, isSlT, bina, shp, eqCells, unv, convv, nilv, faddv, addp, idxav, idxp, load1, load1m, loadn, loadnm, loadv, hget, hset, hrep, hdel, slicev, bnd, shift1, lenv, capv, IntKind.bits, extractv, fieldv, indexv, min2v, max2v, mkiv, cellsA, fillA, buildv, stC, oneC, rowMB, intsA, plN, appE, appZ, appC, appNZ, appNC, VwL, srcC, srcZ, srcM, isBoolT, isPtrT, isSliceT, uOk, Value.oneCell', Nat.reducePow, Int.reducePow, Nat.reduceAdd, Nat.reduceMul, Nat.reduceSub, Nat.reduceLT, Nat.reduceLeDiff, Nat.reduceEqDiff, Nat.reduceBEq, Nat.reduceDiv, Nat.reduceMod, ↓reduceIte, reduceCtorEq, Int.reduceToNat, Int.reduceLT, Int.reduceLE, TFSpJ, SeqQ, BlkQ, LoopQ, BodyQ, FR.out])
      | (refine WP.seq fun K hK => ?_)
      | (refine WP.region (rvc_sound _ _ (Sm.out ?_)))
      | (refine WP.drawK rfl mixed (by decide +kernel) (Sm.out ?_))
      | (refine Ob.mk ?_; focus (first | assumption | omega | decide | trivial | (intro hob; simp only [hob, ZF]; done) | (intros; (repeat' refine And.intro ?_ ?_) <;> first | assumption | omega | trivial | decide) | (intros; simp only [ZE] at *; (repeat' refine And.intro ?_ ?_) <;> first | assumption | omega | trivial)))
      | (refine And.intro (Ob.out ?_) ?_)
      | (refine WP.block ?_)
      | (refine WP.cond rfl (fun hc => ?_) (fun hc => ?_) <;> (try simp only [ZC, reduceCtorEq, ZD] at hc) <;> (try (exact absurd hc (by decide))) <;> (try (exfalso; omega)))
      | ((first | refine WP.skip ?_ | refine WP.exit ?_); simp only [SeqQ, BlkQ, LoopQ, BodyQ, ↓reduceIte, Nat.reduceEqDiff, reduceCtorEq, look, true_and])
      | (refine WP.ret (Sm.out ?_))
      | (first | refine ExG.no (Sm.out ?_) | refine Or.inl (ExG.no (Sm.out ?_)) | refine Or.inl (And.intro (fun hg => absurd hg (by decide)) (ExG.no (Sm.out ?_))))
      | (refine Rt.mk ?_; refine And.intro ?_ ?_ <;> (intro hg; first | exact absurd hg (by decide) | refine Sm.out ?_))
      | (refine Nu.mk ?_; first | (fail_if_success (have := nb1)); intro nb1 | (fail_if_success (have := nb2)); intro nb2 | (fail_if_success (have := nb3)); intro nb3 | (fail_if_success (have := nb4)); intro nb4 | intro nbz)
      | (refine Fr.mk ?_; intro hfr; (first | (have hFRb : _ ≤ _ ∧ _ ≤ _ := And.intro hfr.1 hfr.2.1) | (have hFRb : _ ≤ _ := hfr.1) | skip); replace FR := Sm.mk (And.intro hfr FR.out); clear hfr; refine Sm.out ?_)
      | (refine Two.mk ?_ ?_)
      | (refine Cs.mk ?_; intro hcs; first | exact False.elim hcs | (exfalso; omega) | (refine Sm.out ?_))
      | go_step
      | omega
      | (simp only [maxLen_eq]; omega)
    (refine OutQ.all ?_ ?_; (focus (simp only [resv, ZK, look, loadv, loadn, loadnm, load1, load1m, hget, ↓reduceIte, Nat.reduceEqDiff, Nat.reduceAdd, Nat.reduceMul, Nat.reduceLeDiff, Nat.reduceLT, reduceCtorEq, TFSpJ, e])); (try simp only [resv, resA, Fn, ZK, look, loadv, loadn, loadnm, load1, load1m, hget, ↓reduceIte, Nat.reduceEqDiff, Nat.reduceAdd, Nat.reduceMul, Nat.reduceLeDiff, Nat.reduceLT, reduceCtorEq, TFSpJ, e]); (try simp [resA, Fn, look, e]))
end Go.Proofs.YtdfkpnkohikcgaaDoor
namespace Go.Proofs.YtdfkpnkohikcgaaDoor
open Go
set_option linter.unusedVariables false
set_option linter.unusedSimpArgs false
theorem runR_app2 (r : RdS) (xs ys : List Int) : runR r (xs ++ ys) = (runR r xs).bind fun r' => runR r' ys := by
  induction xs generalizing r with
  | nil => rfl
  | cons x t ih =>
    rw [List.cons_append, runR_cons, runR_cons]
    cases stepR r x with
    | none => rfl
    | some r' => exact ih r'
theorem ixu : ∀ j, j < 6 → ∀ i, i < 5 → (i < j → ixN (uL j) ((uch i : Nat) : Int) = 5 - j) ∧ (j ≤ i → ixN (uL j) ((uch i : Nat) : Int) = i - j) := by decide +kernel
theorem uch_c : ∀ i, i < 5 → unitV ((uch i : Nat) : Int) = ((uni i : Nat) : Int) ∧ 1 ≤ uni i ∧ uni i ≤ 604800 ∧ 57 < uch i ∧ uch i < 128 ∧ uS.getD i 0 = ((uch i : Nat) : Int) := by decide +kernel
theorem uni_mono : ∀ i, i < 5 → ∀ k, k < 5 → (uni i ≥ uni k → i ≤ k) ∧ (i ≤ k → uni i ≥ uni k) := by decide +kernel
/-- a step is a digit's or a unit's -/
theorem step_cases {r r' : RdS} {c : Int} (h : stepR r c = some r') : ((48 ≤ c ∧ c ≤ 57) ∧ r' = tkD r c) ∨ ∃ i, i < 5 ∧ r.j ≤ i ∧ c = ((uch i : Nat) : Int) ∧ r.d = true ∧ ixN (uL r.j) c = i - r.j ∧ r' = tkU r c (i - r.j) := by
  unfold stepR at h
  by_cases hd : 48 ≤ c ∧ c ≤ 57
  · rw [if_pos hd] at h
    cases h
    exact .inl ⟨hd, rfl⟩
  · rw [if_neg hd] at h
    by_cases hu : c < 128 ∧ ixN (uL r.j) c < (uL r.j).length ∧ r.d = true
    · rw [if_pos hu] at h
      cases h
      obtain ⟨u1, u2, u3⟩ := unit_in hu.2.1
      have h1 := ixN_get c _ hu.2.1
      have e : (uL r.j).getD (ixN (uL r.j) c) 0 = uS.getD (r.j + ixN (uL r.j) c) 0 := by simp [List.getD_eq_getElem?_getD, List.getElem?_drop]
      rw [e, (uch_c _ u1).2.2.2.2.2] at h1
      refine .inr ⟨r.j + ixN (uL r.j) c, u1, by omega, h1.symm, hu.2.2, by omega, ?_⟩
      rw [show r.j + ixN (uL r.j) c - r.j = ixN (uL r.j) c by omega]
    · rw [if_neg hu] at h; cases h
theorem step_unit {r : RdS} {i : Nat} (hi : i < 5) (hj : r.j ≤ i) (hd : r.d = true) : stepR r ((uch i : Nat) : Int) = some (tkU r ((uch i : Nat) : Int) (i - r.j)) := by
  obtain ⟨u1, u2, u3, u4, u5, _⟩ := uch_c i hi
  have hx := (ixu r.j (by omega) i hi).2 hj
  unfold stepR
  rw [if_neg (by omega), if_pos ⟨by omega, by rw [hx, uL_len]; omega, hd⟩, hx]
theorem step_gone {r : RdS} {i : Nat} (hi : i < 5) (hj : i < r.j) (hj5 : r.j ≤ 5) : stepR r ((uch i : Nat) : Int) = none := by
  obtain ⟨u1, u2, u3, u4, u5, _⟩ := uch_c i hi
  have hx := (ixu r.j (by omega) i hi).1 hj
  unfold stepR
  rw [if_neg (by omega), if_neg]
  rintro ⟨_, h, _⟩
  rw [hx, uL_len] at h; omega
/-- what is true of every reader -/
structure RdK (r : RdS) : Prop where
  ok : RdOk r
  s2 : r.f = false → r.s ≤ 253402300799
theorem step_ok {r r' : RdS} {c : Int} (h : RdK r) (hs : stepR r c = some r') : RdK r' := by
  rcases step_cases hs with ⟨hd, rfl⟩ | ⟨i, hi, hj, rfl, hd, hx, rfl⟩
  · refine ⟨tkD_ok h.ok hd, fun hf => ?_⟩
    unfold tkD at hf ⊢
    simp only [Bool.or_eq_false_iff] at hf ⊢
    exact h.s2 hf.1
  · have hlt : ixN (uL r.j) ((uch i : Nat) : Int) < (uL r.j).length := by rw [hx, uL_len]; omega
    have := tkU_ok h.ok hlt
    rw [hx] at this
    refine ⟨this, fun hf => ?_⟩
    unfold tkU hdV at hf ⊢
    simp only [Bool.or_eq_false_iff, decide_eq_false_iff_not] at hf ⊢
    rw [if_neg hf.2]
    omega
theorem run_ok : ∀ (zs : List Int) {r r' : RdS}, RdK r → runR r zs = some r' → RdK r'
  | [], r, r', h, e => by cases e; exact h
  | c :: t, r, r', h, e => by
    rw [runR_cons] at e
    cases hs : stepR r c with
    | none => rw [hs] at e; cases e
    | some r1 => rw [hs] at e; exact run_ok t (step_ok h hs) e
theorem r0_ok : RdK r0 := ⟨⟨by decide, by decide, by decide, by decide, by decide⟩, fun _ => by decide⟩
/-- the last rune says whether digits wait -/
theorem run_last : ∀ (zs : List Int) {r r' : RdS}, zs ≠ [] → runR r zs = some r' → (r'.d = true → zs.getD (zs.length - 1) 0 ≤ 57) ∧ (r'.d = false → ∃ i, i < 5 ∧ zs.getD (zs.length - 1) 0 = ((uch i : Nat) : Int) ∧ r'.j = i + 1)
  | [], r, r', h, e => absurd rfl h
  | [c], r, r', h, e => by
    rw [runR_cons] at e
    cases hs : stepR r c with
    | none => rw [hs] at e; cases e
    | some r1 =>
      rw [hs] at e
      cases e
      rcases step_cases hs with ⟨hd, rfl⟩ | ⟨i, hi, hj, rfl, hd, hx, rfl⟩
      · exact ⟨fun _ => hd.2, fun h => by cases h⟩
      · refine ⟨fun h => (by cases h), fun _ => ⟨i, hi, rfl, ?_⟩⟩
        show r.j + (i - r.j) + 1 = i + 1
        omega
  | c :: c2 :: t, r, r', h, e => by
    rw [runR_cons] at e
    cases hs : stepR r c with
    | none => rw [hs] at e; cases e
    | some r1 =>
      rw [hs] at e
      have := run_last (c2 :: t) (by simp) e
      have e2 : (c :: c2 :: t).getD ((c :: c2 :: t).length - 1) 0 = (c2 :: t).getD ((c2 :: t).length - 1) 0 := by simp
      rw [e2]; exact this
theorem run_p : ∀ (zs : List Int) {r r' : RdS}, zs ≠ [] → runR r zs = some r' → r'.d = false → r'.p = 0
  | [], r, r', h, e, hd => absurd rfl h
  | [c], r, r', h, e, hd => by
    rw [runR_cons] at e
    cases hs : stepR r c with
    | none => rw [hs] at e; cases e
    | some r1 =>
      rw [hs] at e
      cases e
      rcases step_cases hs with ⟨hdg, rfl⟩ | ⟨i, hi, hj, rfl, hd', hx, rfl⟩
      · cases hd
      · rfl
  | c :: c2 :: t, r, r', h, e, hd => by
    rw [runR_cons] at e
    cases hs : stepR r c with
    | none => rw [hs] at e; cases e
    | some r1 => rw [hs] at e; exact run_p (c2 :: t) (by simp) e hd
/-- what goes on with fewer units left goes on with more -/
theorem sim_word : ∀ (zs : List Int) {R R' R1' : RdS}, R.d = R'.d → R.j ≤ R'.j → runR R' zs = some R1' → ∃ R1, runR R zs = some R1 ∧ R1.d = R1'.d
  | [], R, R', R1', hd, hj, e => by cases e; exact ⟨R, rfl, hd⟩
  | c :: t, R, R', R1', hd, hj, e => by
    rw [runR_cons] at e
    cases hs : stepR R' c with
    | none => rw [hs] at e; cases e
    | some R2' =>
      rw [hs] at e
      rcases step_cases hs with ⟨hdg, rfl⟩ | ⟨i, hi, hji, rfl, hd', hx, rfl⟩
      · have hs2 : stepR R c = some (tkD R c) := by unfold stepR; rw [if_pos hdg]
        obtain ⟨R1, e1, e2⟩ := sim_word t (R := tkD R c) (R' := tkD R' c) rfl hj e
        exact ⟨R1, by rw [runR_cons, hs2]; exact e1, e2⟩
      · have hs2 := step_unit (r := R) hi (by omega) (by rw [hd]; exact hd')
        obtain ⟨R1, e1, e2⟩ := sim_word t (R := tkU R ((uch i : Nat) : Int) (i - R.j)) (R' := tkU R' ((uch i : Nat) : Int) (i - R'.j)) rfl (by show R.j + (i - R.j) + 1 ≤ R'.j + (i - R'.j) + 1; omega) e
        exact ⟨R1, by rw [runR_cons, hs2]; exact e1, e2⟩
/-- a reader that is n ahead -/
structure SimV (n : Int) (R R' : RdS) : Prop where
  p : R'.p = R.p
  d : R'.d = R.d
  v : R.f = false → (n + R.s ≤ 253402300799 → R'.s = n + R.s ∧ R'.f = false) ∧ (n + R.s > 253402300799 → R'.f = true)
theorem sim_dig {n : Int} {R R' : RdS} {c : Int} (h : SimV n R R') : SimV n (tkD R c) (tkD R' c) := by
  obtain ⟨s, p, d, j, f⟩ := R
  obtain ⟨s', p', d', j', f'⟩ := R'
  obtain ⟨h1, h2, h3⟩ := h
  simp only at h1 h2 h3
  subst h1 h2
  refine ⟨rfl, rfl, fun hf => ?_⟩
  unfold tkD at hf ⊢
  simp only [Bool.or_eq_false_iff] at hf ⊢
  obtain ⟨a1, a2⟩ := h3 hf.1
  refine ⟨fun h => ?_, fun h => ?_⟩
  · exact ⟨(a1 h).1, (a1 h).2, hf.2⟩
  · rw [a2 h, Bool.true_or]
theorem sim_uni {n : Int} {R R' : RdS} {i : Nat} (hn : 0 ≤ n) (h : SimV n R R') (hk : RdOk R) (hi : i < 5) :
    SimV n (tkU R ((uch i : Nat) : Int) (i - R.j)) (tkU R' ((uch i : Nat) : Int) (i - R'.j)) := by
  obtain ⟨s, p, d, j, f⟩ := R
  obtain ⟨s', p', d', j', f'⟩ := R'
  obtain ⟨h1, h2, h3⟩ := h
  simp only at h1 h2 h3
  subst h1 h2
  obtain ⟨u1, u2, u3, u4, u5, _⟩ := uch_c i hi
  have hpu : 0 ≤ p' * ((uni i : Nat) : Int) := Int.mul_nonneg hk.p0 (by omega)
  have hx := (hdV_bd hpu).1
  refine ⟨rfl, rfl, fun hf => ?_⟩
  unfold tkU at hf ⊢
  simp only [Bool.or_eq_false_iff, decide_eq_false_iff_not] at hf ⊢
  rw [u1] at hf ⊢
  obtain ⟨x, hx0⟩ : ∃ x, x = hdV (p' * ((uni i : Nat) : Int)) := ⟨_, rfl⟩
  rw [← hx0] at hf hx ⊢
  obtain ⟨a1, a2⟩ := h3 hf.1
  have e1 : hdV (s + x) = s + x := if_neg hf.2
  rw [e1]
  refine ⟨fun h => ?_, fun h => ?_⟩
  · obtain ⟨b1, b2⟩ := a1 (by omega)
    rw [b1, show n + s + x = n + (s + x) by omega]
    exact ⟨if_neg (by omega), b2, by omega⟩
  · by_cases hs : n + s ≤ 253402300799
    · obtain ⟨b1, b2⟩ := a1 hs
      rw [b1, decide_eq_true (by omega), Bool.or_true]
    · rw [a2 (by omega), Bool.true_or]
theorem sim_run {n : Int} (hn : 0 ≤ n) : ∀ (zs : List Int) {R R' R1 : RdS}, SimV n R R' → R'.j = R.j → RdK R → runR R zs = some R1 → ∃ R1', runR R' zs = some R1' ∧ SimV n R1 R1'
  | [], R, R', R1, h, hj, hk, e => by cases e; exact ⟨R', rfl, h⟩
  | c :: t, R, R', R1, h, hj, hk, e => by
    rw [runR_cons] at e
    cases hs : stepR R c with
    | none => rw [hs] at e; cases e
    | some R2 =>
      rw [hs] at e
      have hk2 := step_ok hk hs
      rcases step_cases hs with ⟨hdg, rfl⟩ | ⟨i, hi, hji, rfl, hd', hx, rfl⟩
      · have hs2 : stepR R' c = some (tkD R' c) := by unfold stepR; rw [if_pos hdg]
        obtain ⟨R1', e1, e2⟩ := sim_run hn t (R := tkD R c) (R' := tkD R' c) (sim_dig h) hj hk2 e
        exact ⟨R1', by rw [runR_cons, hs2]; exact e1, e2⟩
      · have hs2 := step_unit (r := R') hi (by omega) (by rw [h.d]; exact hd')
        obtain ⟨R1', e1, e2⟩ := sim_run hn t (R := tkU R ((uch i : Nat) : Int) (i - R.j)) (R' := tkU R' ((uch i : Nat) : Int) (i - R'.j)) (sim_uni hn h hk.ok hi) (by show R'.j + (i - R'.j) + 1 = R.j + (i - R.j) + 1; omega) hk2 e
        exact ⟨R1', by rw [runR_cons, hs2]; exact e1, e2⟩
/-- the place of the first unit -/
def fuN : List Int → Nat
  | [] => 0
  | c :: t => if unitV c = 0 then fuN t + 1 else 0
theorem fuN_cons (c : Int) (t : List Int) : fuN (c :: t) = if unitV c = 0 then fuN t + 1 else 0 := rfl
theorem fuN_lt : ∀ (zs : List Int) (i : Nat), i < fuN zs → unitV (zs.getD i 0) = 0
  | [], i, h => absurd h (Nat.not_lt_zero _)
  | c :: t, i, h => by
    rw [fuN_cons] at h
    by_cases hc : unitV c = 0
    · rw [if_pos hc] at h
      cases i with
      | zero => exact hc
      | succ i => have := fuN_lt t i (by omega); simpa using this
    · rw [if_neg hc] at h; exact absurd h (Nat.not_lt_zero _)
theorem dig_unit0 {c : Int} (h : 48 ≤ c ∧ c ≤ 57) : unitV c = 0 := by unfold unitV; rw [if_neg (by omega), if_neg (by omega), if_neg (by omega), if_neg (by omega), if_neg (by omega)]
/-- the first unit of a text that was read to its end, and what comes of the whole behind another reader -/
theorem join_run {n : Int} (hn : 0 ≤ n) : ∀ (zs : List Int) {R R' R1 : RdS}, zs ≠ [] → SimV n R R' → R.j = 0 → R'.j ≤ 5 → RdK R → runR R zs = some R1 → R1.d = false →
    ∃ i, i < 5 ∧ fuN zs < zs.length ∧ zs.getD (fuN zs) 0 = ((uch i : Nat) : Int) ∧ (i < R'.j → runR R' zs = none) ∧ (R'.j ≤ i → ∃ R1', runR R' zs = some R1' ∧ SimV n R1 R1')
  | [], R, R', R1, hne, h, hj, hj', hk, e, hd => absurd rfl hne
  | c :: t, R, R', R1, hne, h, hj, hj', hk, e, hd => by
    rw [runR_cons] at e
    cases hs : stepR R c with
    | none => rw [hs] at e; cases e
    | some R2 =>
      rw [hs] at e
      have hk2 := step_ok hk hs
      rcases step_cases hs with ⟨hdg, rfl⟩ | ⟨i, hi, hji, rfl, hd', hx, rfl⟩
      · have hs2 : stepR R' c = some (tkD R' c) := by unfold stepR; rw [if_pos hdg]
        have hu := dig_unit0 hdg
        have e : runR (tkD R c) t = some R1 := e
        have hne2 : t ≠ [] := fun h => by
          subst h
          cases e
          cases hd
        obtain ⟨i, a1, a2, a3, a4, a5⟩ := join_run hn t (R := tkD R c) (R' := tkD R' c) hne2 (sim_dig h) hj hj' hk2 e hd
        refine ⟨i, a1, ?_, ?_, fun hlt => ?_, fun hge => ?_⟩
        · rw [fuN_cons, if_pos hu]; simp; exact a2
        · rw [fuN_cons, if_pos hu]; simpa using a3
        · rw [runR_cons, hs2]; exact a4 hlt
        · rw [runR_cons, hs2]; exact a5 hge
      · obtain ⟨u1, u2, _⟩ := uch_c i hi
        have hu : ¬ unitV ((uch i : Nat) : Int) = 0 := by rw [u1]; omega
        refine ⟨i, hi, ?_, ?_, fun hlt => ?_, fun hge => ?_⟩
        · rw [fuN_cons, if_neg hu]; simp
        · rw [fuN_cons, if_neg hu]; rfl
        · rw [runR_cons, step_gone hi hlt hj']; rfl
        · have hs2 := step_unit (r := R') hi hge (by rw [h.d]; exact hd')
          obtain ⟨R1', e1, e2⟩ := sim_run hn t (R := tkU R ((uch i : Nat) : Int) (i - R.j)) (R' := tkU R' ((uch i : Nat) : Int) (i - R'.j)) (sim_uni hn h hk.ok hi) (by show R'.j + (i - R'.j) + 1 = R.j + (i - R.j) + 1; omega) hk2 e
          exact ⟨R1', by rw [runR_cons, hs2]; exact e1, e2⟩
/-- what the law asks of two texts -/
def JoinP (a b : List Int) : Prop :=
  (∃ ca cb cg : Int, ∃ xa xb xg : Int, rdS a = .tup [iv .i64 xa, iv .i64 ca] ∧ rdS b = .tup [iv .i64 xb, iv .i64 cb] ∧ rdS (a ++ b) = .tup [iv .i64 xg, iv .i64 cg] ∧ (ca ≠ 0 ∨ cb ≠ 0) ∧
    (ca = 8 ∨ cb = 8 ∨ cg = 5 ∨ a.getD (a.length - 1) 0 ≤ 57)) ∨
  (∃ n m : Int, ∃ ia ib : Nat, rdS a = sgood n ∧ rdS b = sgood m ∧ (0 ≤ n ∧ n ≤ 253402300799) ∧ (0 ≤ m ∧ m ≤ 253402300799) ∧ ia < 5 ∧ ib < 5 ∧ a.getD (a.length - 1) 0 = ((uch ia : Nat) : Int) ∧ fuN b < b.length ∧ b.getD (fuN b) 0 = ((uch ib : Nat) : Int) ∧
    (ib ≤ ia → rdS (a ++ b) = sbad 5) ∧ (ia < ib → n + m > 253402300799 → rdS (a ++ b) = sbad 8) ∧ (ia < ib → n + m ≤ 253402300799 → rdS (a ++ b) = sgood (n + m)))
theorem rd_form (zs : List Int) : ∃ x c : Int, rdS zs = .tup [iv .i64 x, iv .i64 c] := by
  rcases rd_cases zs with ⟨c, _, e, _⟩ | ⟨s, e, _⟩
  · exact ⟨_, _, e⟩
  · exact ⟨_, _, e⟩
theorem join_all (a b : List Int) (ha : a ≠ []) (hb : b ≠ []) : JoinP a b := by
  have hab : a ++ b ≠ [] := fun h => ha (List.append_eq_nil_iff.1 h).1
  obtain ⟨xb, cb, eb⟩ := rd_form b
  obtain ⟨xg, cg, eg⟩ := rd_form (a ++ b)
  have happ := runR_app2 r0 a b
  cases hTa : runR r0 a with
  | none =>
    have e1 : rdS a = sbad 5 := by unfold rdS; rw [hTa]; rfl
    have e2 : rdS (a ++ b) = sbad 5 := by unfold rdS; rw [happ, hTa]; rfl
    exact .inl ⟨5, cb, 5, 0, xb, 0, e1, eb, e2, .inl (by decide), .inr (.inr (.inl rfl))⟩
  | some ra =>
    rw [hTa] at happ
    have happ : runR r0 (a ++ b) = runR ra b := happ
    have hka := run_ok a r0_ok hTa
    obtain ⟨l1, l2⟩ := run_last a ha hTa
    cases hda : ra.d
    · cases hfa : ra.f
      · have e1 : rdS a = sgood ra.s := by unfold rdS; rw [hTa]; unfold finR; simp only; rw [if_neg (by simp [ha, hda]), if_neg (by simp [hfa])]
        obtain ⟨ia, hia, hla, hja⟩ := l2 hda
        cases hTb : runR r0 b with
        | none =>
          have e2 : rdS b = sbad 5 := by unfold rdS; rw [hTb]; rfl
          have e3 : runR ra b = none := by
            cases h : runR ra b with
            | none => rfl
            | some R1' =>
              obtain ⟨R1, h1, _⟩ := sim_word b (R := r0) (R' := ra) hda.symm (Nat.zero_le _) h
              rw [hTb] at h1; cases h1
          have e4 : rdS (a ++ b) = sbad 5 := by unfold rdS; rw [happ, e3]; rfl
          exact .inl ⟨0, 5, 5, ra.s, 0, 0, e1, e2, e4, .inr (by decide), .inr (.inr (.inl rfl))⟩
        | some rb =>
          have hkb := run_ok b r0_ok hTb
          cases hdb : rb.d
          · cases hfb : rb.f
            · have e2 : rdS b = sgood rb.s := by unfold rdS; rw [hTb]; unfold finR; simp only; rw [if_neg (by simp [hb, hdb]), if_neg (by simp [hfb])]
              have hsim : SimV ra.s r0 ra := ⟨by
                -- between pieces nothing waits
                exact (run_p a ha hTa hda), hda, fun _ => ⟨fun _ => ⟨by show ra.s = ra.s + 0; omega, hfa⟩, fun h => by
                  have := hka.s2 hfa
                  have h : ra.s + 0 > 253402300799 := h
                  omega⟩⟩
              obtain ⟨ib, hib, hfu, hbc, hno, hyes⟩ := join_run hka.ok.s0 b hb hsim rfl hka.ok.j r0_ok hTb hdb
              refine .inr ⟨ra.s, rb.s, ia, ib, e1, e2, ⟨hka.ok.s0, hka.s2 hfa⟩, ⟨hkb.ok.s0, hkb.s2 hfb⟩, hia, hib, hla, hfu, hbc, fun h => ?_, fun h h2 => ?_, fun h h2 => ?_⟩
              · have e3 := hno (by omega)
                unfold rdS; rw [happ, e3]; rfl
              · obtain ⟨R1', e3, hS⟩ := hyes (by omega)
                have hf := (hS.v hfb).2 h2
                unfold rdS; rw [happ, e3]; unfold finR; simp only
                rw [if_neg (by simp [hab, hS.d, hdb]), if_pos hf]
              · obtain ⟨R1', e3, hS⟩ := hyes (by omega)
                obtain ⟨hs, hf⟩ := (hS.v hfb).1 h2
                unfold rdS; rw [happ, e3]; unfold finR; simp only
                rw [if_neg (by simp [hab, hS.d, hdb]), if_neg (by simp [hf]), hs]
            · have e2 : rdS b = sbad 8 := by unfold rdS; rw [hTb]; unfold finR; simp only; rw [if_neg (by simp [hb, hdb]), if_pos hfb]
              exact .inl ⟨0, 8, cg, ra.s, 0, xg, e1, e2, eg, .inr (by decide), .inr (.inl rfl)⟩
          · have e2 : rdS b = sbad 5 := by unfold rdS; rw [hTb]; unfold finR; simp only; rw [if_pos (.inr hdb)]
            have e4 : rdS (a ++ b) = sbad 5 := by
              unfold rdS; rw [happ]
              cases h : runR ra b with
              | none => rfl
              | some R1' =>
                obtain ⟨R1, h1, h2⟩ := sim_word b (R := r0) (R' := ra) hda.symm (Nat.zero_le _) h
                rw [hTb] at h1; cases h1
                unfold finR; simp only; rw [if_pos (.inr (by rw [← h2]; exact hdb))]
            exact .inl ⟨0, 5, 5, ra.s, 0, 0, e1, e2, e4, .inr (by decide), .inr (.inr (.inl rfl))⟩
      · have e1 : rdS a = sbad 8 := by unfold rdS; rw [hTa]; unfold finR; simp only; rw [if_neg (by simp [ha, hda]), if_pos hfa]
        exact .inl ⟨8, cb, cg, 0, xb, xg, e1, eb, eg, .inl (by decide), .inl rfl⟩
    · have e1 : rdS a = sbad 5 := by unfold rdS; rw [hTa]; unfold finR; simp only; rw [if_pos (.inr hda)]
      exact .inl ⟨5, cb, cg, 0, xb, xg, e1, eb, eg, .inl (by decide), .inr (.inr (.inr (l1 hda)))⟩
end Go.Proofs.YtdfkpnkohikcgaaDoor
