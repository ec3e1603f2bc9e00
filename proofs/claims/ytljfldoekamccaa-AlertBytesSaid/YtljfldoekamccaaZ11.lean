/-
  The walks and the laws that the statement leans on, part 11.
-/
import Derived.Test.YtljfldoekamccaaZ10
namespace Go.Proofs.Ytljfldoekamccaa
open Go Wi
set_option linter.unusedVariables false
set_option linter.unusedSimpArgs false
theorem TFAmE : ((((((type_of% tyc0) ∧ (type_of% tyc2)) ∧ ((type_of% zmb2) ∧ ((type_of% tyc3) ∧ (type_of% zmb3)))) ∧ (((type_of% tyc4) ∧ ((type_of% zmb4) ∧ (type_of% tyc5))) ∧ ((type_of% zmb5) ∧ ((type_of% tyc22) ∧ (type_of% zmb22))))) ∧ ((((type_of% tyc32) ∧ ((type_of% foff32_0) ∧ (type_of% fpart32_0))) ∧ ((type_of% foff32_1) ∧ ((type_of% fpart32_1) ∧ (type_of% foff32_2)))) ∧ (((type_of% fpart32_2) ∧ ((type_of% foff32_3) ∧ (type_of% fpart32_3))) ∧ ((type_of% fe32) ∧ ((type_of% zmb32) ∧ (type_of% bldT32)))))) ∧ (((((type_of% tyc38) ∧ (type_of% elt38)) ∧ ((type_of% mkz38) ∧ ((type_of% apT38) ∧ (type_of% elk38)))) ∧ (((type_of% zmb38) ∧ ((type_of% tyc69) ∧ (type_of% elt69))) ∧ ((type_of% mkz69) ∧ ((type_of% apT69) ∧ (type_of% elk69))))) ∧ ((((type_of% zmb69) ∧ ((type_of% tyc70) ∧ (type_of% Try.underlying0))) ∧ ((type_of% Try.underlying2) ∧ ((type_of% Try.underlying3) ∧ (type_of% Try.underlying4)))) ∧ (((type_of% Try.underlying5) ∧ ((type_of% Try.underlying22) ∧ (type_of% Try.underlying32))) ∧ ((type_of% Try.underlying38) ∧ ((type_of% Try.underlying69) ∧ (type_of% Try.underlying70))))))) :=
  ⟨⟨⟨⟨⟨tyc0, tyc2⟩, ⟨zmb2, ⟨tyc3, zmb3⟩⟩⟩, ⟨⟨tyc4, ⟨zmb4, tyc5⟩⟩, ⟨zmb5, ⟨tyc22, zmb22⟩⟩⟩⟩, ⟨⟨⟨tyc32, ⟨foff32_0, fpart32_0⟩⟩, ⟨foff32_1, ⟨fpart32_1, foff32_2⟩⟩⟩, ⟨⟨fpart32_2, ⟨foff32_3, fpart32_3⟩⟩, ⟨fe32, ⟨zmb32, bldT32⟩⟩⟩⟩⟩, ⟨⟨⟨⟨tyc38, elt38⟩, ⟨mkz38, ⟨apT38, elk38⟩⟩⟩, ⟨⟨zmb38, ⟨tyc69, elt69⟩⟩, ⟨mkz69, ⟨apT69, elk69⟩⟩⟩⟩, ⟨⟨⟨zmb69, ⟨tyc70, Try.underlying0⟩⟩, ⟨Try.underlying2, ⟨Try.underlying3, Try.underlying4⟩⟩⟩, ⟨⟨Try.underlying5, ⟨Try.underlying22, Try.underlying32⟩⟩, ⟨Try.underlying38, ⟨Try.underlying69, Try.underlying70⟩⟩⟩⟩⟩⟩
abbrev AGb (b : Bool) (G : AG) : Type := {g : AG // b = true → g = G}
set_option maxRecDepth 8000 in
set_option maxHeartbeats 8000000 in
theorem refGet_some (Z : List Int) (hb : By Z) (hz : Z.length ≤ 2000) (ph : Nat) (r : List Int) (Lf rf : List Int) (h0 : nF Z = some (ph, r)) (h3 : ph ≤ 3) (h : rdL ph [] r = some (Lf, rf)) (bb : Bool)
    (hbb : rightP ph (Lf.getD 0 0) (Lf.getD 2 0) (Lf.getD 1 0) = bb) (N : Nat) (hN : N = Z.length - rf.length) :
    ACt Try.prog 20 [.slz .u8 Z, iv .i64 0] [] (fun r F' => ∃ g : AGb bb (((ph : Int), Lf.getD 0 0, Lf.getD 2 0, Lf.getD 1 0), (N : Int)), r = .tup [alA g.1.1.1 g.1.1.2.1 g.1.1.2.2.1 g.1.1.2.2.2, iv .i64 g.1.2, bv bb] ∧ F' = []) := by
  refine ACt.intro Try.func20 rfl (by kernel_rfl) (by simp [Try.ntmps20]) (fun cx => ?_)
  simp only [argE, Try.ntmps20, Try.results20]
  have x1 := number_good Z r 0 ph (by omega) hb hz (by simpa using h0)
  have hbd := nF_bd hb h0
  obtain ⟨A0, hA0⟩ : ∃ A0, A0 = Z.length - r.length := ⟨_, rfl⟩
  rw [← hA0] at x1
  have d : decide ((ph : Int) > 3) = false := by simp; omega
  have hs : Z.drop A0 = r := by
    have := drop_next (Z := Z) (at_ := 0) hb (by simpa using h0)
    rw [hA0]; exact this.1
  obtain ⟨hlen, hpos⟩ := rdL_len ph [] r Lf rf h
  have hpos := hpos fun x hx => by cases hx
  first | (have FRx := FR; clear FRx) | (have FR : Sm (¬ ((1 : Nat) = 0)) := Sm.mk Nat.one_ne_zero)
  repeat' first
    | (refine Sm.mk ?_; try simp -dsimp only [ZK, rvc, drawF, headN, pureH, stp, dvc, calleeOf, gcall, pev, eff, newB, okd, og, ogs, ogo, ogp, slv, bltv, opd, litv, strip, one, both, putE, St.put, look, gdOf, gdv, picka, pickv, pickw, binv, bini, bins, binb, binp, bina, shp, eqCells, unv, convv, nilv, faddv, addp, idxav, idxp, load1, load1m, loadn, loadnm, loadv, hget, hset, hrep, hdel, slicev, bnd, shift1, lenv, IntKind.bits, extractv, fieldv, indexv, min2v, max2v, mkiv, cellsA, fillA, buildv, stC, oneC, rowMB, intsA, plN, appE, appZ, appC, appNZ, appNC, VwL, srcC, srcZ, srcM, isBoolT, isPtrT, isSliceT, uOk, Value.oneCell', Nat.reducePow, Int.reducePow, Nat.reduceAdd, Nat.reduceMul, Nat.reduceSub, Nat.reduceLT, Nat.reduceLeDiff, Nat.reduceEqDiff, Nat.reduceBEq, Nat.reduceDiv, Nat.reduceMod, ↓reduceIte, reduceCtorEq, Int.reduceToNat, Int.reduceLT, Int.reduceLE, drawSF, hdel, TFAmE, SeqQ, BlkQ, LoopQ, BodyQ, d, FR.out])
    | (first | refine CallV.fn (x1) (Sm.out ?_) | refine ExF.mk (x1) (Sm.out ?_) | refine ExG.mk (fun _ => x1) (Sm.out ?_) | refine ExG.mkJ (fun _ => x1) (Sm.out ?_) | refine ExG.mkI (Ob.out ?_) (fun _ => x1) (Sm.out ?_))
    | (refine WP.seq fun K hK => ?_)
    | (refine WP.region (rvc_sound _ _ (Sm.out ?_)))
    | (refine WP.drawS (is := 4) (k := 7) mixed (by decide +kernel) (by decide +kernel) (Sm.out ?_))
    | (refine WP.drawK rfl mixed (by decide +kernel) (Sm.out ?_))
    | (refine Ob.mk ?_; focus (first | assumption | omega | decide | trivial | (intro hob; simp only [hob, ZF]; done) | (intros; (repeat' refine And.intro ?_ ?_) <;> first | assumption | omega | trivial | decide) | (intros; simp only [ZE] at *; (repeat' refine And.intro ?_ ?_) <;> first | assumption | omega | trivial)))
    | (refine And.intro (Ob.out ?_) ?_)
    | (refine WP.block ?_)
    | (refine WP.cond rfl (fun hc => ?_) (fun hc => ?_) <;> (try simp only [ZC, reduceCtorEq, ZD] at hc) <;> (try (exact absurd hc (by decide))) <;> (try (exfalso; omega)))
    | ((first | refine WP.skip ?_ | refine WP.exit ?_); simp only [SeqQ, BlkQ, LoopQ, BodyQ, ↓reduceIte, Nat.reduceEqDiff, reduceCtorEq, look, true_and])
    | (refine WP.ret (Sm.out ?_))
    | (first | refine ExG.no (Sm.out ?_) | refine Or.inl (ExG.no (Sm.out ?_)) | refine Or.inl (And.intro (fun hg => absurd hg (by decide)) (ExG.no (Sm.out ?_))))
    | (refine Rt.mk ?_; refine And.intro ?_ ?_ <;> (intro hg; first | exact absurd hg (by decide) | refine Sm.out ?_))
    | (refine Nu.mk ?_; first | (fail_if_success (have := nb1)); intro nb1 | (fail_if_success (have := nb2)); intro nb2 | (fail_if_success (have := nb3)); intro nb3 | (fail_if_success (have := nb4)); intro nb4 | (fail_if_success (have := nb5)); intro nb5 | (fail_if_success (have := nb6)); intro nb6 | (fail_if_success (have := nb7)); intro nb7 | (fail_if_success (have := nb8)); intro nb8 | (fail_if_success (have := nb9)); intro nb9 | (fail_if_success (have := nb10)); intro nb10 | (fail_if_success (have := nb11)); intro nb11 | (fail_if_success (have := nb12)); intro nb12 | intro nbz)
    | (refine Fr.mk ?_; intro hfr; (first | (have hFRb : _ ≤ _ ∧ _ ≤ _ := And.intro hfr.1 hfr.2.1) | skip); replace FR := Sm.mk (And.intro hfr FR.out); clear hfr; refine Sm.out ?_)
    | (refine Two.mk ?_ ?_)
    | (refine Cs.mk ?_; intro hcs; first | exact False.elim hcs | (exfalso; omega) | (refine Sm.out ?_))
    | go_step
    | omega
    | (simp only [maxLen_eq]; omega)
  refine WP.loop (Γ := VG) (fun q => ⟨[(11, iv .u64 q.k), (8, iv .u64 ph), (7, ms q.b 0 q.L.length q.cap), (9, iv .i64 q.a), (0, .slz .u8 Z), (4, pt nb1 0)], [(q.b, .zs .u64 q.L q.cap 22), (nb1, .cells [iv .i64 0, iv .i64 0, iv .i64 0, iv .u64 0] 4 32)]⟩)
    (fun q => q.k ≤ ph ∧ q.L.length = q.k ∧ q.a ≤ Z.length ∧ q.L.length ≤ q.cap ∧ q.cap ≤ 9223372036854775807 ∧ rdL (ph - q.k) q.L (Z.drop q.a) = some (Lf, rf)) (fun q => ph - q.k) ⟨0, [], A0, nb2, 0⟩
    ⟨by simp, rfl, by simp only; omega, by simp, by simp, by simpa [hs] using h⟩ (Sub.pick (by simp [pickB, hget, hdel, FR.out]) (by simp [look])) ?_
  intro ⟨k, L, a, b, cap⟩ ⟨q1, q2, q3, q4, q5, q6⟩
  simp only at q1 q2 q3 q4 q5 q6 ⊢
  (refine WP.nd fun hnd => ?_; simp only [ndF, fresh_cons, fresh_nil, and_true, ne_eq] at hnd; replace FR := Sm.mk (And.intro hnd FR.out); clear hnd)
  by_cases hlt : k < ph
  · have k1 : decide ((k : Int) < (ph : Int)) = true := by simp; omega
    obtain ⟨j, hj⟩ : ∃ j, ph - k = j + 1 := ⟨ph - k - 1, by omega⟩
    rw [hj, rdL] at q6
    cases h1 : nF (Z.drop a) with
    | none => rw [h1] at q6; cases q6
    | some p =>
      obtain ⟨n, q⟩ := p
      rw [h1] at q6
      simp only at q6
      have x2 := number_good Z q a n q3 hb hz h1
      obtain ⟨s1, s2⟩ := drop_next hb h1
      obtain ⟨A1, hA1⟩ : ∃ A1, A1 = Z.length - q.length := ⟨_, rfl⟩
      rw [← hA1] at x2 s1
      have w1 : IntKind.u64.wrap ((k : Int) + 1) = ((k + 1 : Nat) : Int) := by rw [wrap_u64 (by omega) (by omega)]; omega
      obtain ⟨L', hL'⟩ : ∃ L', L ++ [(n : Int)] = L' := ⟨_, rfl⟩
      have hl' : L'.length = L.length + 1 := by rw [← hL']; simp
      rw [hL'] at q6
      first | (have FRx := FR; clear FRx) | (have FR : Sm (¬ ((1 : Nat) = 0)) := Sm.mk Nat.one_ne_zero)
      repeat' first
        | (refine Sm.mk ?_; try simp -dsimp only [ZK, rvc, drawF, headN, pureH, stp, dvc, calleeOf, gcall, pev, eff, newB, okd, og, ogs, ogo, ogp, slv, bltv, opd, litv, strip, one, both, putE, St.put, look, gdOf, gdv, picka, pickv, pickw, binv, bini, bins, binb, binp, bina, shp, eqCells, unv, convv, nilv, faddv, addp, idxav, idxp, load1, load1m, loadn, loadnm, loadv, hget, hset, hrep, hdel, slicev, bnd, shift1, lenv, IntKind.bits, extractv, fieldv, indexv, min2v, max2v, mkiv, cellsA, fillA, buildv, stC, oneC, rowMB, intsA, plN, appE, appZ, appC, appNZ, appNC, VwL, srcC, srcZ, srcM, isBoolT, isPtrT, isSliceT, uOk, Value.oneCell', Nat.reducePow, Int.reducePow, Nat.reduceAdd, Nat.reduceMul, Nat.reduceSub, Nat.reduceLT, Nat.reduceLeDiff, Nat.reduceEqDiff, Nat.reduceBEq, Nat.reduceDiv, Nat.reduceMod, ↓reduceIte, reduceCtorEq, Int.reduceToNat, Int.reduceLT, Int.reduceLE, drawSF, hdel, TFAmE, SeqQ, BlkQ, LoopQ, BodyQ, k1, w1, hL', FR.out])
        | (first | refine CallV.fn (x2) (Sm.out ?_) | refine ExF.mk (x2) (Sm.out ?_) | refine ExG.mk (fun _ => x2) (Sm.out ?_) | refine ExG.mkJ (fun _ => x2) (Sm.out ?_) | refine ExG.mkI (Ob.out ?_) (fun _ => x2) (Sm.out ?_))
        | (refine WP.seq fun K hK => ?_)
        | (refine WP.region (rvc_sound _ _ (Sm.out ?_)))
        | (refine WP.drawS (is := 4) (k := 7) mixed (by decide +kernel) (by decide +kernel) (Sm.out ?_))
        | (refine WP.drawK rfl mixed (by decide +kernel) (Sm.out ?_))
        | (refine Ob.mk ?_; focus (first | assumption | omega | decide | trivial | (intro hob; simp only [hob, ZF]; done) | (intros; (repeat' refine And.intro ?_ ?_) <;> first | assumption | omega | trivial | decide) | (intros; simp only [ZE] at *; (repeat' refine And.intro ?_ ?_) <;> first | assumption | omega | trivial)))
        | (refine And.intro (Ob.out ?_) ?_)
        | (refine WP.block ?_)
        | (refine WP.cond rfl (fun hc => ?_) (fun hc => ?_) <;> (try simp only [ZC, reduceCtorEq, ZD] at hc) <;> (try (exact absurd hc (by decide))) <;> (try (exfalso; omega)))
        | ((first | refine WP.skip ?_ | refine WP.exit ?_); simp only [SeqQ, BlkQ, LoopQ, BodyQ, ↓reduceIte, Nat.reduceEqDiff, reduceCtorEq, look, true_and])
        | (refine WP.ret (Sm.out ?_))
        | (first | refine ExG.no (Sm.out ?_) | refine Or.inl (ExG.no (Sm.out ?_)) | refine Or.inl (And.intro (fun hg => absurd hg (by decide)) (ExG.no (Sm.out ?_))))
        | (refine Rt.mk ?_; refine And.intro ?_ ?_ <;> (intro hg; first | exact absurd hg (by decide) | refine Sm.out ?_))
        | (refine Nu.mk ?_; first | (fail_if_success (have := nb1)); intro nb1 | (fail_if_success (have := nb2)); intro nb2 | (fail_if_success (have := nb3)); intro nb3 | (fail_if_success (have := nb4)); intro nb4 | (fail_if_success (have := nb5)); intro nb5 | (fail_if_success (have := nb6)); intro nb6 | (fail_if_success (have := nb7)); intro nb7 | (fail_if_success (have := nb8)); intro nb8 | (fail_if_success (have := nb9)); intro nb9 | (fail_if_success (have := nb10)); intro nb10 | (fail_if_success (have := nb11)); intro nb11 | (fail_if_success (have := nb12)); intro nb12 | intro nbz)
        | (refine Fr.mk ?_; intro hfr; (first | (have hFRb : _ ≤ _ ∧ _ ≤ _ := And.intro hfr.1 hfr.2.1) | skip); replace FR := Sm.mk (And.intro hfr FR.out); clear hfr; refine Sm.out ?_)
        | (refine Two.mk ?_ ?_)
        | (refine Cs.mk ?_; intro hcs; first | exact False.elim hcs | (exfalso; omega) | (refine Sm.out ?_))
        | go_step
        | omega
        | (simp only [maxLen_eq]; omega)
      all_goals exact ⟨⟨k + 1, L', A1, nb4, nb5⟩, ⟨by simp only; omega, by simp only; omega, by simp only; omega, by simp only; omega, by simp only; omega, by simp only; rw [s1, show ph - (k + 1) = j by omega]; exact q6⟩, by simp only; omega, (Sub.pick (by simp [pickB, hget, hdel, FR.out, hl']) (by simp [look, hl']))⟩
  · obtain rfl : k = ph := by omega
    have k1 : decide ((k : Int) < (k : Int)) = false := by simp
    rw [Nat.sub_self, rdL] at q6
    simp only [Option.some.injEq, Prod.mk.injEq] at q6
    obtain ⟨rfl, rfl⟩ := q6
    have ha : a = N := by rw [hN]; simp; omega
    subst ha
    clear hN h hs x1 hA0 h0 hbd
    have iff := rightP_iff (k : Int) (L.getD 0 0) (L.getD 2 0) (L.getD 1 0)
    rw [hbb] at iff
    match k, h3 with
    | 0, _ =>
      obtain rfl : L = [] := List.eq_nil_of_length_eq_zero q2
      have cR := refRight_ct 0 0 0 0
      have hb1 : bb = true := by rw [← hbb]; decide
      subst hb1
      rw [right_zero] at cR
      have y0 : ((0 : Nat) : Int) = 0 := rfl
      have w0 : IntKind.i64.wrap 0 = 0 := by decide
      have d0 : decide ((0 : Int) > 0) = false := by decide
      have d1 : decide ((0 : Int) > 1) = false := by decide
      have d2 : decide ((0 : Int) > 2) = false := by decide
      first | (have FRx := FR; clear FRx) | (have FR : Sm (¬ ((1 : Nat) = 0)) := Sm.mk Nat.one_ne_zero)
      repeat' first
        | (refine Sm.mk ?_; try simp -dsimp only [ZK, rvc, drawF, headN, pureH, stp, dvc, calleeOf, gcall, pev, eff, newB, okd, og, ogs, ogo, ogp, slv, bltv, opd, litv, strip, one, both, putE, St.put, look, gdOf, gdv, picka, pickv, pickw, binv, bini, bins, binb, binp, bina, shp, eqCells, unv, convv, nilv, faddv, addp, idxav, idxp, load1, load1m, loadn, loadnm, loadv, hget, hset, hrep, hdel, slicev, bnd, shift1, lenv, IntKind.bits, extractv, fieldv, indexv, min2v, max2v, mkiv, cellsA, fillA, buildv, stC, oneC, rowMB, intsA, plN, appE, appZ, appC, appNZ, appNC, VwL, srcC, srcZ, srcM, isBoolT, isPtrT, isSliceT, uOk, Value.oneCell', Nat.reducePow, Int.reducePow, Nat.reduceAdd, Nat.reduceMul, Nat.reduceSub, Nat.reduceLT, Nat.reduceLeDiff, Nat.reduceEqDiff, Nat.reduceBEq, Nat.reduceDiv, Nat.reduceMod, ↓reduceIte, reduceCtorEq, Int.reduceToNat, Int.reduceLT, Int.reduceLE, drawSF, hdel, TFAmE, SeqQ, BlkQ, LoopQ, BodyQ, k1, y0, w0, d0, d1, d2, FR.out])
        | (first | refine CallV.fn (cR) (Sm.out ?_) | refine ExF.mk (cR) (Sm.out ?_) | refine ExG.mk (fun _ => cR) (Sm.out ?_) | refine ExG.mkJ (fun _ => cR) (Sm.out ?_) | refine ExG.mkI (Ob.out ?_) (fun _ => cR) (Sm.out ?_))
        | (refine WP.seq fun K hK => ?_)
        | (refine WP.region (rvc_sound _ _ (Sm.out ?_)))
        | (refine WP.drawS (is := 4) (k := 7) mixed (by decide +kernel) (by decide +kernel) (Sm.out ?_))
        | (refine WP.drawK rfl mixed (by decide +kernel) (Sm.out ?_))
        | (refine Ob.mk ?_; focus (first | assumption | omega | decide | trivial | (intro hob; simp only [hob, ZF]; done) | (intros; (repeat' refine And.intro ?_ ?_) <;> first | assumption | omega | trivial | decide) | (intros; simp only [ZE] at *; (repeat' refine And.intro ?_ ?_) <;> first | assumption | omega | trivial)))
        | (refine And.intro (Ob.out ?_) ?_)
        | (refine WP.block ?_)
        | (refine WP.cond rfl (fun hc => ?_) (fun hc => ?_) <;> (try simp only [ZC, reduceCtorEq, ZD] at hc) <;> (try (exact absurd hc (by decide))) <;> (try (exfalso; omega)))
        | ((first | refine WP.skip ?_ | refine WP.exit ?_); simp only [SeqQ, BlkQ, LoopQ, BodyQ, ↓reduceIte, Nat.reduceEqDiff, reduceCtorEq, look, true_and])
        | (refine WP.ret (Sm.out ?_))
        | (first | refine ExG.no (Sm.out ?_) | refine Or.inl (ExG.no (Sm.out ?_)) | refine Or.inl (And.intro (fun hg => absurd hg (by decide)) (ExG.no (Sm.out ?_))))
        | (refine Rt.mk ?_; refine And.intro ?_ ?_ <;> (intro hg; first | exact absurd hg (by decide) | refine Sm.out ?_))
        | (refine Nu.mk ?_; first | (fail_if_success (have := nb1)); intro nb1 | (fail_if_success (have := nb2)); intro nb2 | (fail_if_success (have := nb3)); intro nb3 | (fail_if_success (have := nb4)); intro nb4 | (fail_if_success (have := nb5)); intro nb5 | (fail_if_success (have := nb6)); intro nb6 | (fail_if_success (have := nb7)); intro nb7 | (fail_if_success (have := nb8)); intro nb8 | (fail_if_success (have := nb9)); intro nb9 | (fail_if_success (have := nb10)); intro nb10 | (fail_if_success (have := nb11)); intro nb11 | (fail_if_success (have := nb12)); intro nb12 | intro nbz)
        | (refine Fr.mk ?_; intro hfr; (first | (have hFRb : _ ≤ _ ∧ _ ≤ _ := And.intro hfr.1 hfr.2.1) | skip); replace FR := Sm.mk (And.intro hfr FR.out); clear hfr; refine Sm.out ?_)
        | (refine Two.mk ?_ ?_)
        | (refine Cs.mk ?_; intro hcs; first | exact False.elim hcs | (exfalso; omega) | (refine Sm.out ?_))
        | go_step
        | omega
        | (simp only [maxLen_eq]; omega)
      (refine OutQ.drop _ _ (pme _) (by simp only [resv, ZK, look, loadv, loadn, loadnm, load1, load1m, hget, ↓reduceIte, Nat.reduceEqDiff, Nat.reduceAdd, Nat.reduceMul, Nat.reduceLeDiff, Nat.reduceLT, reduceCtorEq, TFAmE, FR.out]) ⟨⟨((0, 0, 0, 0), ↑a), fun _ => rfl⟩, (by simp only [resv, resA, ZK, look, loadv, loadn, loadnm, load1, load1m, hget, ↓reduceIte, Nat.reduceEqDiff, Nat.reduceAdd, Nat.reduceMul, Nat.reduceLeDiff, Nat.reduceLT, reduceCtorEq, TFAmE, FR.out]; first | done | rfl), rfl⟩)
    | 1, _ =>
      obtain ⟨x, rfl⟩ := List.length_eq_one_iff.1 q2
      have hx : 0 ≤ x := hpos x (by simp)
      have y1 : ((1 : Nat) : Int) = 1 := rfl
      have w0 : IntKind.i64.wrap 1 = 1 := by decide
      have d0 : decide ((1 : Int) > 0) = true := by decide
      have d1 : decide ((1 : Int) > 1) = false := by decide
      have d2 : decide ((1 : Int) > 2) = false := by decide
      have k2 : decide (((1 : Nat) : Int) < ((1 : Nat) : Int)) = false := by decide
      have k3 : decide ((1 : Int) < 1) = false := by decide
      have g0 : ([x] : List Int).getD 0 0 = x := rfl
      by_cases hm : x > 253402300799
      · have dm : decide (x > 253402300799) = true := by simp; omega
        have hb1 : bb = false := by
          cases bb with
          | false => rfl
          | true =>
            have hh := iff.1 rfl
            simp at hh; omega
        subst hb1
        first | (have FRx := FR; clear FRx) | (have FR : Sm (¬ ((1 : Nat) = 0)) := Sm.mk Nat.one_ne_zero)
        repeat' first
          | (refine Sm.mk ?_; try simp -dsimp only [ZK, rvc, drawF, headN, pureH, stp, dvc, calleeOf, gcall, pev, eff, newB, okd, og, ogs, ogo, ogp, slv, bltv, opd, litv, strip, one, both, putE, St.put, look, gdOf, gdv, picka, pickv, pickw, binv, bini, bins, binb, binp, bina, shp, eqCells, unv, convv, nilv, faddv, addp, idxav, idxp, load1, load1m, loadn, loadnm, loadv, hget, hset, hrep, hdel, slicev, bnd, shift1, lenv, IntKind.bits, extractv, fieldv, indexv, min2v, max2v, mkiv, cellsA, fillA, buildv, stC, oneC, rowMB, intsA, plN, appE, appZ, appC, appNZ, appNC, VwL, srcC, srcZ, srcM, isBoolT, isPtrT, isSliceT, uOk, Value.oneCell', Nat.reducePow, Int.reducePow, Nat.reduceAdd, Nat.reduceMul, Nat.reduceSub, Nat.reduceLT, Nat.reduceLeDiff, Nat.reduceEqDiff, Nat.reduceBEq, Nat.reduceDiv, Nat.reduceMod, ↓reduceIte, reduceCtorEq, Int.reduceToNat, Int.reduceLT, Int.reduceLE, drawSF, hdel, TFAmE, SeqQ, BlkQ, LoopQ, BodyQ, k2, k3, y1, w0, d0, d1, d2, dm, g0, FR.out])
          | (refine WP.seq fun K hK => ?_)
          | (refine WP.region (rvc_sound _ _ (Sm.out ?_)))
          | (refine WP.drawS (is := 4) (k := 7) mixed (by decide +kernel) (by decide +kernel) (Sm.out ?_))
          | (refine WP.drawK rfl mixed (by decide +kernel) (Sm.out ?_))
          | (refine Ob.mk ?_; focus (first | assumption | omega | decide | trivial | (intro hob; simp only [hob, ZF]; done) | (intros; (repeat' refine And.intro ?_ ?_) <;> first | assumption | omega | trivial | decide) | (intros; simp only [ZE] at *; (repeat' refine And.intro ?_ ?_) <;> first | assumption | omega | trivial)))
          | (refine And.intro (Ob.out ?_) ?_)
          | (refine WP.block ?_)
          | (refine WP.cond rfl (fun hc => ?_) (fun hc => ?_) <;> (try simp only [ZC, reduceCtorEq, ZD] at hc) <;> (try (exact absurd hc (by decide))) <;> (try (exfalso; omega)))
          | ((first | refine WP.skip ?_ | refine WP.exit ?_); simp only [SeqQ, BlkQ, LoopQ, BodyQ, ↓reduceIte, Nat.reduceEqDiff, reduceCtorEq, look, true_and])
          | (refine WP.ret (Sm.out ?_))
          | (first | refine ExG.no (Sm.out ?_) | refine Or.inl (ExG.no (Sm.out ?_)) | refine Or.inl (And.intro (fun hg => absurd hg (by decide)) (ExG.no (Sm.out ?_))))
          | (refine Rt.mk ?_; refine And.intro ?_ ?_ <;> (intro hg; first | exact absurd hg (by decide) | refine Sm.out ?_))
          | (refine Nu.mk ?_; first | (fail_if_success (have := nb1)); intro nb1 | (fail_if_success (have := nb2)); intro nb2 | (fail_if_success (have := nb3)); intro nb3 | (fail_if_success (have := nb4)); intro nb4 | (fail_if_success (have := nb5)); intro nb5 | (fail_if_success (have := nb6)); intro nb6 | (fail_if_success (have := nb7)); intro nb7 | (fail_if_success (have := nb8)); intro nb8 | (fail_if_success (have := nb9)); intro nb9 | (fail_if_success (have := nb10)); intro nb10 | (fail_if_success (have := nb11)); intro nb11 | (fail_if_success (have := nb12)); intro nb12 | intro nbz)
          | (refine Fr.mk ?_; intro hfr; (first | (have hFRb : _ ≤ _ ∧ _ ≤ _ := And.intro hfr.1 hfr.2.1) | skip); replace FR := Sm.mk (And.intro hfr FR.out); clear hfr; refine Sm.out ?_)
          | (refine Two.mk ?_ ?_)
          | (refine Cs.mk ?_; intro hcs; first | exact False.elim hcs | (exfalso; omega) | (refine Sm.out ?_))
          | go_step
          | omega
          | (simp only [maxLen_eq]; omega)
        (refine OutQ.drop _ _ (pme _) (by simp only [resv, ZK, look, loadv, loadn, loadnm, load1, load1m, hget, ↓reduceIte, Nat.reduceEqDiff, Nat.reduceAdd, Nat.reduceMul, Nat.reduceLeDiff, Nat.reduceLT, reduceCtorEq, TFAmE, FR.out]) ⟨⟨((0, 0, 0, 0), 0), fun h => by cases h⟩, (by simp only [resv, resA, ZK, look, loadv, loadn, loadnm, load1, load1m, hget, ↓reduceIte, Nat.reduceEqDiff, Nat.reduceAdd, Nat.reduceMul, Nat.reduceLeDiff, Nat.reduceLT, reduceCtorEq, TFAmE, FR.out]; first | done | rfl), rfl⟩)
      · have dm : decide (x > 253402300799) = false := by simp; omega
        have wx : IntKind.i64.wrap x = x := wrap_i64 (by omega) (by omega)
        have cR := refRight_ct 1 x 0 0
        have hbb2 : rightP 1 x 0 0 = bb := hbb
        rw [hbb2] at cR
        first | (have FRx := FR; clear FRx) | (have FR : Sm (¬ ((1 : Nat) = 0)) := Sm.mk Nat.one_ne_zero)
        repeat' first
          | (refine Sm.mk ?_; try simp -dsimp only [ZK, rvc, drawF, headN, pureH, stp, dvc, calleeOf, gcall, pev, eff, newB, okd, og, ogs, ogo, ogp, slv, bltv, opd, litv, strip, one, both, putE, St.put, look, gdOf, gdv, picka, pickv, pickw, binv, bini, bins, binb, binp, bina, shp, eqCells, unv, convv, nilv, faddv, addp, idxav, idxp, load1, load1m, loadn, loadnm, loadv, hget, hset, hrep, hdel, slicev, bnd, shift1, lenv, IntKind.bits, extractv, fieldv, indexv, min2v, max2v, mkiv, cellsA, fillA, buildv, stC, oneC, rowMB, intsA, plN, appE, appZ, appC, appNZ, appNC, VwL, srcC, srcZ, srcM, isBoolT, isPtrT, isSliceT, uOk, Value.oneCell', Nat.reducePow, Int.reducePow, Nat.reduceAdd, Nat.reduceMul, Nat.reduceSub, Nat.reduceLT, Nat.reduceLeDiff, Nat.reduceEqDiff, Nat.reduceBEq, Nat.reduceDiv, Nat.reduceMod, ↓reduceIte, reduceCtorEq, Int.reduceToNat, Int.reduceLT, Int.reduceLE, drawSF, hdel, TFAmE, SeqQ, BlkQ, LoopQ, BodyQ, k2, k3, y1, w0, d0, d1, d2, dm, wx, g0, FR.out])
          | (first | refine CallV.fn (cR) (Sm.out ?_) | refine ExF.mk (cR) (Sm.out ?_) | refine ExG.mk (fun _ => cR) (Sm.out ?_) | refine ExG.mkJ (fun _ => cR) (Sm.out ?_) | refine ExG.mkI (Ob.out ?_) (fun _ => cR) (Sm.out ?_))
          | (refine WP.seq fun K hK => ?_)
          | (refine WP.region (rvc_sound _ _ (Sm.out ?_)))
          | (refine WP.drawS (is := 4) (k := 7) mixed (by decide +kernel) (by decide +kernel) (Sm.out ?_))
          | (refine WP.drawK rfl mixed (by decide +kernel) (Sm.out ?_))
          | (refine Ob.mk ?_; focus (first | assumption | omega | decide | trivial | (intro hob; simp only [hob, ZF]; done) | (intros; (repeat' refine And.intro ?_ ?_) <;> first | assumption | omega | trivial | decide) | (intros; simp only [ZE] at *; (repeat' refine And.intro ?_ ?_) <;> first | assumption | omega | trivial)))
          | (refine And.intro (Ob.out ?_) ?_)
          | (refine WP.block ?_)
          | (refine WP.cond rfl (fun hc => ?_) (fun hc => ?_) <;> (try simp only [ZC, reduceCtorEq, ZD] at hc) <;> (try (exact absurd hc (by decide))) <;> (try (exfalso; omega)))
          | ((first | refine WP.skip ?_ | refine WP.exit ?_); simp only [SeqQ, BlkQ, LoopQ, BodyQ, ↓reduceIte, Nat.reduceEqDiff, reduceCtorEq, look, true_and])
          | (refine WP.ret (Sm.out ?_))
          | (first | refine ExG.no (Sm.out ?_) | refine Or.inl (ExG.no (Sm.out ?_)) | refine Or.inl (And.intro (fun hg => absurd hg (by decide)) (ExG.no (Sm.out ?_))))
          | (refine Rt.mk ?_; refine And.intro ?_ ?_ <;> (intro hg; first | exact absurd hg (by decide) | refine Sm.out ?_))
          | (refine Nu.mk ?_; first | (fail_if_success (have := nb1)); intro nb1 | (fail_if_success (have := nb2)); intro nb2 | (fail_if_success (have := nb3)); intro nb3 | (fail_if_success (have := nb4)); intro nb4 | (fail_if_success (have := nb5)); intro nb5 | (fail_if_success (have := nb6)); intro nb6 | (fail_if_success (have := nb7)); intro nb7 | (fail_if_success (have := nb8)); intro nb8 | (fail_if_success (have := nb9)); intro nb9 | (fail_if_success (have := nb10)); intro nb10 | (fail_if_success (have := nb11)); intro nb11 | (fail_if_success (have := nb12)); intro nb12 | intro nbz)
          | (refine Fr.mk ?_; intro hfr; (first | (have hFRb : _ ≤ _ ∧ _ ≤ _ := And.intro hfr.1 hfr.2.1) | skip); replace FR := Sm.mk (And.intro hfr FR.out); clear hfr; refine Sm.out ?_)
          | (refine Two.mk ?_ ?_)
          | (refine Cs.mk ?_; intro hcs; first | exact False.elim hcs | (exfalso; omega) | (refine Sm.out ?_))
          | go_step
          | omega
          | (simp only [maxLen_eq]; omega)
        (refine OutQ.drop _ _ (pme _) (by simp only [resv, ZK, look, loadv, loadn, loadnm, load1, load1m, hget, ↓reduceIte, Nat.reduceEqDiff, Nat.reduceAdd, Nat.reduceMul, Nat.reduceLeDiff, Nat.reduceLT, reduceCtorEq, TFAmE, FR.out]) ⟨⟨((1, x, 0, 0), ↑a), fun _ => rfl⟩, (by simp only [resv, resA, ZK, look, loadv, loadn, loadnm, load1, load1m, hget, ↓reduceIte, Nat.reduceEqDiff, Nat.reduceAdd, Nat.reduceMul, Nat.reduceLeDiff, Nat.reduceLT, reduceCtorEq, TFAmE, FR.out]; first | done | rfl), rfl⟩)
    | 2, _ =>
      obtain ⟨x, e, rfl⟩ : ∃ x e, L = [x, e] := by
        match L, q2 with
        | [x, e], _ => exact ⟨x, e, rfl⟩
      have hx : 0 ≤ x := hpos x (by simp)
      have y1 : ((2 : Nat) : Int) = 2 := rfl
      have w0 : IntKind.i64.wrap 2 = 2 := by decide
      have d0 : decide ((2 : Int) > 0) = true := by decide
      have d1 : decide ((2 : Int) > 1) = true := by decide
      have d2 : decide ((2 : Int) > 2) = false := by decide
      have k2 : decide (((2 : Nat) : Int) < ((2 : Nat) : Int)) = false := by decide
      have k3 : decide ((2 : Int) < 2) = false := by decide
      have g0 : ([x, e] : List Int).getD 0 0 = x := rfl
      have g1 : ([x, e] : List Int).getD 1 0 = e := rfl
      by_cases hm : x > 253402300799
      · have dm : decide (x > 253402300799) = true := by simp; omega
        have hb1 : bb = false := by
          cases bb with
          | false => rfl
          | true =>
            have hh := iff.1 rfl
            simp at hh; omega
        subst hb1
        first | (have FRx := FR; clear FRx) | (have FR : Sm (¬ ((1 : Nat) = 0)) := Sm.mk Nat.one_ne_zero)
        repeat' first
          | (refine Sm.mk ?_; try simp -dsimp only [ZK, rvc, drawF, headN, pureH, stp, dvc, calleeOf, gcall, pev, eff, newB, okd, og, ogs, ogo, ogp, slv, bltv, opd, litv, strip, one, both, putE, St.put, look, gdOf, gdv, picka, pickv, pickw, binv, bini, bins, binb, binp, bina, shp, eqCells, unv, convv, nilv, faddv, addp, idxav, idxp, load1, load1m, loadn, loadnm, loadv, hget, hset, hrep, hdel, slicev, bnd, shift1, lenv, IntKind.bits, extractv, fieldv, indexv, min2v, max2v, mkiv, cellsA, fillA, buildv, stC, oneC, rowMB, intsA, plN, appE, appZ, appC, appNZ, appNC, VwL, srcC, srcZ, srcM, isBoolT, isPtrT, isSliceT, uOk, Value.oneCell', Nat.reducePow, Int.reducePow, Nat.reduceAdd, Nat.reduceMul, Nat.reduceSub, Nat.reduceLT, Nat.reduceLeDiff, Nat.reduceEqDiff, Nat.reduceBEq, Nat.reduceDiv, Nat.reduceMod, ↓reduceIte, reduceCtorEq, Int.reduceToNat, Int.reduceLT, Int.reduceLE, drawSF, hdel, TFAmE, SeqQ, BlkQ, LoopQ, BodyQ, k2, k3, y1, w0, d0, d1, d2, dm, g0, g1, FR.out])
          | (refine WP.seq fun K hK => ?_)
          | (refine WP.region (rvc_sound _ _ (Sm.out ?_)))
          | (refine WP.drawS (is := 4) (k := 7) mixed (by decide +kernel) (by decide +kernel) (Sm.out ?_))
          | (refine WP.drawK rfl mixed (by decide +kernel) (Sm.out ?_))
          | (refine Ob.mk ?_; focus (first | assumption | omega | decide | trivial | (intro hob; simp only [hob, ZF]; done) | (intros; (repeat' refine And.intro ?_ ?_) <;> first | assumption | omega | trivial | decide) | (intros; simp only [ZE] at *; (repeat' refine And.intro ?_ ?_) <;> first | assumption | omega | trivial)))
          | (refine And.intro (Ob.out ?_) ?_)
          | (refine WP.block ?_)
          | (refine WP.cond rfl (fun hc => ?_) (fun hc => ?_) <;> (try simp only [ZC, reduceCtorEq, ZD] at hc) <;> (try (exact absurd hc (by decide))) <;> (try (exfalso; omega)))
          | ((first | refine WP.skip ?_ | refine WP.exit ?_); simp only [SeqQ, BlkQ, LoopQ, BodyQ, ↓reduceIte, Nat.reduceEqDiff, reduceCtorEq, look, true_and])
          | (refine WP.ret (Sm.out ?_))
          | (first | refine ExG.no (Sm.out ?_) | refine Or.inl (ExG.no (Sm.out ?_)) | refine Or.inl (And.intro (fun hg => absurd hg (by decide)) (ExG.no (Sm.out ?_))))
          | (refine Rt.mk ?_; refine And.intro ?_ ?_ <;> (intro hg; first | exact absurd hg (by decide) | refine Sm.out ?_))
          | (refine Nu.mk ?_; first | (fail_if_success (have := nb1)); intro nb1 | (fail_if_success (have := nb2)); intro nb2 | (fail_if_success (have := nb3)); intro nb3 | (fail_if_success (have := nb4)); intro nb4 | (fail_if_success (have := nb5)); intro nb5 | (fail_if_success (have := nb6)); intro nb6 | (fail_if_success (have := nb7)); intro nb7 | (fail_if_success (have := nb8)); intro nb8 | (fail_if_success (have := nb9)); intro nb9 | (fail_if_success (have := nb10)); intro nb10 | (fail_if_success (have := nb11)); intro nb11 | (fail_if_success (have := nb12)); intro nb12 | intro nbz)
          | (refine Fr.mk ?_; intro hfr; (first | (have hFRb : _ ≤ _ ∧ _ ≤ _ := And.intro hfr.1 hfr.2.1) | skip); replace FR := Sm.mk (And.intro hfr FR.out); clear hfr; refine Sm.out ?_)
          | (refine Two.mk ?_ ?_)
          | (refine Cs.mk ?_; intro hcs; first | exact False.elim hcs | (exfalso; omega) | (refine Sm.out ?_))
          | go_step
          | omega
          | (simp only [maxLen_eq]; omega)
        (refine OutQ.drop _ _ (pme _) (by simp only [resv, ZK, look, loadv, loadn, loadnm, load1, load1m, hget, ↓reduceIte, Nat.reduceEqDiff, Nat.reduceAdd, Nat.reduceMul, Nat.reduceLeDiff, Nat.reduceLT, reduceCtorEq, TFAmE, FR.out]) ⟨⟨((0, 0, 0, 0), 0), fun h => by cases h⟩, (by simp only [resv, resA, ZK, look, loadv, loadn, loadnm, load1, load1m, hget, ↓reduceIte, Nat.reduceEqDiff, Nat.reduceAdd, Nat.reduceMul, Nat.reduceLeDiff, Nat.reduceLT, reduceCtorEq, TFAmE, FR.out]; first | done | rfl), rfl⟩)
      · have dm : decide (x > 253402300799) = false := by simp; omega
        have wx : IntKind.i64.wrap x = x := wrap_i64 (by omega) (by omega)
        have cR := refRight_ct 2 x 0 e
        have hbb2 : rightP 2 x 0 e = bb := hbb
        rw [hbb2] at cR
        first | (have FRx := FR; clear FRx) | (have FR : Sm (¬ ((1 : Nat) = 0)) := Sm.mk Nat.one_ne_zero)
        repeat' first
          | (refine Sm.mk ?_; try simp -dsimp only [ZK, rvc, drawF, headN, pureH, stp, dvc, calleeOf, gcall, pev, eff, newB, okd, og, ogs, ogo, ogp, slv, bltv, opd, litv, strip, one, both, putE, St.put, look, gdOf, gdv, picka, pickv, pickw, binv, bini, bins, binb, binp, bina, shp, eqCells, unv, convv, nilv, faddv, addp, idxav, idxp, load1, load1m, loadn, loadnm, loadv, hget, hset, hrep, hdel, slicev, bnd, shift1, lenv, IntKind.bits, extractv, fieldv, indexv, min2v, max2v, mkiv, cellsA, fillA, buildv, stC, oneC, rowMB, intsA, plN, appE, appZ, appC, appNZ, appNC, VwL, srcC, srcZ, srcM, isBoolT, isPtrT, isSliceT, uOk, Value.oneCell', Nat.reducePow, Int.reducePow, Nat.reduceAdd, Nat.reduceMul, Nat.reduceSub, Nat.reduceLT, Nat.reduceLeDiff, Nat.reduceEqDiff, Nat.reduceBEq, Nat.reduceDiv, Nat.reduceMod, ↓reduceIte, reduceCtorEq, Int.reduceToNat, Int.reduceLT, Int.reduceLE, drawSF, hdel, TFAmE, SeqQ, BlkQ, LoopQ, BodyQ, k2, k3, y1, w0, d0, d1, d2, dm, wx, g0, g1, FR.out])
          | (first | refine CallV.fn (cR) (Sm.out ?_) | refine ExF.mk (cR) (Sm.out ?_) | refine ExG.mk (fun _ => cR) (Sm.out ?_) | refine ExG.mkJ (fun _ => cR) (Sm.out ?_) | refine ExG.mkI (Ob.out ?_) (fun _ => cR) (Sm.out ?_))
          | (refine WP.seq fun K hK => ?_)
          | (refine WP.region (rvc_sound _ _ (Sm.out ?_)))
          | (refine WP.drawS (is := 4) (k := 7) mixed (by decide +kernel) (by decide +kernel) (Sm.out ?_))
          | (refine WP.drawK rfl mixed (by decide +kernel) (Sm.out ?_))
          | (refine Ob.mk ?_; focus (first | assumption | omega | decide | trivial | (intro hob; simp only [hob, ZF]; done) | (intros; (repeat' refine And.intro ?_ ?_) <;> first | assumption | omega | trivial | decide) | (intros; simp only [ZE] at *; (repeat' refine And.intro ?_ ?_) <;> first | assumption | omega | trivial)))
          | (refine And.intro (Ob.out ?_) ?_)
          | (refine WP.block ?_)
          | (refine WP.cond rfl (fun hc => ?_) (fun hc => ?_) <;> (try simp only [ZC, reduceCtorEq, ZD] at hc) <;> (try (exact absurd hc (by decide))) <;> (try (exfalso; omega)))
          | ((first | refine WP.skip ?_ | refine WP.exit ?_); simp only [SeqQ, BlkQ, LoopQ, BodyQ, ↓reduceIte, Nat.reduceEqDiff, reduceCtorEq, look, true_and])
          | (refine WP.ret (Sm.out ?_))
          | (first | refine ExG.no (Sm.out ?_) | refine Or.inl (ExG.no (Sm.out ?_)) | refine Or.inl (And.intro (fun hg => absurd hg (by decide)) (ExG.no (Sm.out ?_))))
          | (refine Rt.mk ?_; refine And.intro ?_ ?_ <;> (intro hg; first | exact absurd hg (by decide) | refine Sm.out ?_))
          | (refine Nu.mk ?_; first | (fail_if_success (have := nb1)); intro nb1 | (fail_if_success (have := nb2)); intro nb2 | (fail_if_success (have := nb3)); intro nb3 | (fail_if_success (have := nb4)); intro nb4 | (fail_if_success (have := nb5)); intro nb5 | (fail_if_success (have := nb6)); intro nb6 | (fail_if_success (have := nb7)); intro nb7 | (fail_if_success (have := nb8)); intro nb8 | (fail_if_success (have := nb9)); intro nb9 | (fail_if_success (have := nb10)); intro nb10 | (fail_if_success (have := nb11)); intro nb11 | (fail_if_success (have := nb12)); intro nb12 | intro nbz)
          | (refine Fr.mk ?_; intro hfr; (first | (have hFRb : _ ≤ _ ∧ _ ≤ _ := And.intro hfr.1 hfr.2.1) | skip); replace FR := Sm.mk (And.intro hfr FR.out); clear hfr; refine Sm.out ?_)
          | (refine Two.mk ?_ ?_)
          | (refine Cs.mk ?_; intro hcs; first | exact False.elim hcs | (exfalso; omega) | (refine Sm.out ?_))
          | go_step
          | omega
          | (simp only [maxLen_eq]; omega)
        (refine OutQ.drop _ _ (pme _) (by simp only [resv, ZK, look, loadv, loadn, loadnm, load1, load1m, hget, ↓reduceIte, Nat.reduceEqDiff, Nat.reduceAdd, Nat.reduceMul, Nat.reduceLeDiff, Nat.reduceLT, reduceCtorEq, TFAmE, FR.out]) ⟨⟨((2, x, 0, e), ↑a), fun _ => rfl⟩, (by simp only [resv, resA, ZK, look, loadv, loadn, loadnm, load1, load1m, hget, ↓reduceIte, Nat.reduceEqDiff, Nat.reduceAdd, Nat.reduceMul, Nat.reduceLeDiff, Nat.reduceLT, reduceCtorEq, TFAmE, FR.out]; first | done | rfl), rfl⟩)
    | 3, _ =>
      obtain ⟨x, e, c, rfl⟩ : ∃ x e c, L = [x, e, c] := by
        match L, q2 with
        | [x, e, c], _ => exact ⟨x, e, c, rfl⟩
      have hx : 0 ≤ x := hpos x (by simp)
      have hc : 0 ≤ c := hpos c (by simp)
      have y1 : ((3 : Nat) : Int) = 3 := rfl
      have w0 : IntKind.i64.wrap 3 = 3 := by decide
      have d0 : decide ((3 : Int) > 0) = true := by decide
      have d1 : decide ((3 : Int) > 1) = true := by decide
      have d2 : decide ((3 : Int) > 2) = true := by decide
      have k2 : decide (((3 : Nat) : Int) < ((3 : Nat) : Int)) = false := by decide
      have k3 : decide ((3 : Int) < 3) = false := by decide
      have g0 : ([x, e, c] : List Int).getD 0 0 = x := rfl
      have g1 : ([x, e, c] : List Int).getD 1 0 = e := rfl
      have g2 : ([x, e, c] : List Int).getD 2 0 = c := rfl
      by_cases hm : x > 253402300799
      · have dm : decide (x > 253402300799) = true := by simp; omega
        have hb1 : bb = false := by
          cases bb with
          | false => rfl
          | true =>
            have hh := iff.1 rfl
            simp at hh; omega
        subst hb1
        first | (have FRx := FR; clear FRx) | (have FR : Sm (¬ ((1 : Nat) = 0)) := Sm.mk Nat.one_ne_zero)
        repeat' first
          | (refine Sm.mk ?_; try simp -dsimp only [ZK, rvc, drawF, headN, pureH, stp, dvc, calleeOf, gcall, pev, eff, newB, okd, og, ogs, ogo, ogp, slv, bltv, opd, litv, strip, one, both, putE, St.put, look, gdOf, gdv, picka, pickv, pickw, binv, bini, bins, binb, binp, bina, shp, eqCells, unv, convv, nilv, faddv, addp, idxav, idxp, load1, load1m, loadn, loadnm, loadv, hget, hset, hrep, hdel, slicev, bnd, shift1, lenv, IntKind.bits, extractv, fieldv, indexv, min2v, max2v, mkiv, cellsA, fillA, buildv, stC, oneC, rowMB, intsA, plN, appE, appZ, appC, appNZ, appNC, VwL, srcC, srcZ, srcM, isBoolT, isPtrT, isSliceT, uOk, Value.oneCell', Nat.reducePow, Int.reducePow, Nat.reduceAdd, Nat.reduceMul, Nat.reduceSub, Nat.reduceLT, Nat.reduceLeDiff, Nat.reduceEqDiff, Nat.reduceBEq, Nat.reduceDiv, Nat.reduceMod, ↓reduceIte, reduceCtorEq, Int.reduceToNat, Int.reduceLT, Int.reduceLE, drawSF, hdel, TFAmE, SeqQ, BlkQ, LoopQ, BodyQ, k2, k3, y1, w0, d0, d1, d2, dm, g0, g1, g2, FR.out])
          | (refine WP.seq fun K hK => ?_)
          | (refine WP.region (rvc_sound _ _ (Sm.out ?_)))
          | (refine WP.drawS (is := 4) (k := 7) mixed (by decide +kernel) (by decide +kernel) (Sm.out ?_))
          | (refine WP.drawK rfl mixed (by decide +kernel) (Sm.out ?_))
          | (refine Ob.mk ?_; focus (first | assumption | omega | decide | trivial | (intro hob; simp only [hob, ZF]; done) | (intros; (repeat' refine And.intro ?_ ?_) <;> first | assumption | omega | trivial | decide) | (intros; simp only [ZE] at *; (repeat' refine And.intro ?_ ?_) <;> first | assumption | omega | trivial)))
          | (refine And.intro (Ob.out ?_) ?_)
          | (refine WP.block ?_)
          | (refine WP.cond rfl (fun hc => ?_) (fun hc => ?_) <;> (try simp only [ZC, reduceCtorEq, ZD] at hc) <;> (try (exact absurd hc (by decide))) <;> (try (exfalso; omega)))
          | ((first | refine WP.skip ?_ | refine WP.exit ?_); simp only [SeqQ, BlkQ, LoopQ, BodyQ, ↓reduceIte, Nat.reduceEqDiff, reduceCtorEq, look, true_and])
          | (refine WP.ret (Sm.out ?_))
          | (first | refine ExG.no (Sm.out ?_) | refine Or.inl (ExG.no (Sm.out ?_)) | refine Or.inl (And.intro (fun hg => absurd hg (by decide)) (ExG.no (Sm.out ?_))))
          | (refine Rt.mk ?_; refine And.intro ?_ ?_ <;> (intro hg; first | exact absurd hg (by decide) | refine Sm.out ?_))
          | (refine Nu.mk ?_; first | (fail_if_success (have := nb1)); intro nb1 | (fail_if_success (have := nb2)); intro nb2 | (fail_if_success (have := nb3)); intro nb3 | (fail_if_success (have := nb4)); intro nb4 | (fail_if_success (have := nb5)); intro nb5 | (fail_if_success (have := nb6)); intro nb6 | (fail_if_success (have := nb7)); intro nb7 | (fail_if_success (have := nb8)); intro nb8 | (fail_if_success (have := nb9)); intro nb9 | (fail_if_success (have := nb10)); intro nb10 | (fail_if_success (have := nb11)); intro nb11 | (fail_if_success (have := nb12)); intro nb12 | intro nbz)
          | (refine Fr.mk ?_; intro hfr; (first | (have hFRb : _ ≤ _ ∧ _ ≤ _ := And.intro hfr.1 hfr.2.1) | skip); replace FR := Sm.mk (And.intro hfr FR.out); clear hfr; refine Sm.out ?_)
          | (refine Two.mk ?_ ?_)
          | (refine Cs.mk ?_; intro hcs; first | exact False.elim hcs | (exfalso; omega) | (refine Sm.out ?_))
          | go_step
          | omega
          | (simp only [maxLen_eq]; omega)
        (refine OutQ.drop _ _ (pme _) (by simp only [resv, ZK, look, loadv, loadn, loadnm, load1, load1m, hget, ↓reduceIte, Nat.reduceEqDiff, Nat.reduceAdd, Nat.reduceMul, Nat.reduceLeDiff, Nat.reduceLT, reduceCtorEq, TFAmE, FR.out]) ⟨⟨((0, 0, 0, 0), 0), fun h => by cases h⟩, (by simp only [resv, resA, ZK, look, loadv, loadn, loadnm, load1, load1m, hget, ↓reduceIte, Nat.reduceEqDiff, Nat.reduceAdd, Nat.reduceMul, Nat.reduceLeDiff, Nat.reduceLT, reduceCtorEq, TFAmE, FR.out]; first | done | rfl), rfl⟩)
      have dm : decide (x > 253402300799) = false := by simp; omega
      have wx : IntKind.i64.wrap x = x := wrap_i64 (by omega) (by omega)
      by_cases hn : c > 253402300799
      · have dn : decide (c > 253402300799) = true := by simp; omega
        have hb1 : bb = false := by
          cases bb with
          | false => rfl
          | true =>
            have hh := iff.1 rfl
            simp at hh; omega
        subst hb1
        first | (have FRx := FR; clear FRx) | (have FR : Sm (¬ ((1 : Nat) = 0)) := Sm.mk Nat.one_ne_zero)
        repeat' first
          | (refine Sm.mk ?_; try simp -dsimp only [ZK, rvc, drawF, headN, pureH, stp, dvc, calleeOf, gcall, pev, eff, newB, okd, og, ogs, ogo, ogp, slv, bltv, opd, litv, strip, one, both, putE, St.put, look, gdOf, gdv, picka, pickv, pickw, binv, bini, bins, binb, binp, bina, shp, eqCells, unv, convv, nilv, faddv, addp, idxav, idxp, load1, load1m, loadn, loadnm, loadv, hget, hset, hrep, hdel, slicev, bnd, shift1, lenv, IntKind.bits, extractv, fieldv, indexv, min2v, max2v, mkiv, cellsA, fillA, buildv, stC, oneC, rowMB, intsA, plN, appE, appZ, appC, appNZ, appNC, VwL, srcC, srcZ, srcM, isBoolT, isPtrT, isSliceT, uOk, Value.oneCell', Nat.reducePow, Int.reducePow, Nat.reduceAdd, Nat.reduceMul, Nat.reduceSub, Nat.reduceLT, Nat.reduceLeDiff, Nat.reduceEqDiff, Nat.reduceBEq, Nat.reduceDiv, Nat.reduceMod, ↓reduceIte, reduceCtorEq, Int.reduceToNat, Int.reduceLT, Int.reduceLE, drawSF, hdel, TFAmE, SeqQ, BlkQ, LoopQ, BodyQ, k2, k3, y1, w0, d0, d1, d2, dm, dn, wx, g0, g1, g2, FR.out])
          | (refine WP.seq fun K hK => ?_)
          | (refine WP.region (rvc_sound _ _ (Sm.out ?_)))
          | (refine WP.drawS (is := 4) (k := 7) mixed (by decide +kernel) (by decide +kernel) (Sm.out ?_))
          | (refine WP.drawK rfl mixed (by decide +kernel) (Sm.out ?_))
          | (refine Ob.mk ?_; focus (first | assumption | omega | decide | trivial | (intro hob; simp only [hob, ZF]; done) | (intros; (repeat' refine And.intro ?_ ?_) <;> first | assumption | omega | trivial | decide) | (intros; simp only [ZE] at *; (repeat' refine And.intro ?_ ?_) <;> first | assumption | omega | trivial)))
          | (refine And.intro (Ob.out ?_) ?_)
          | (refine WP.block ?_)
          | (refine WP.cond rfl (fun hc => ?_) (fun hc => ?_) <;> (try simp only [ZC, reduceCtorEq, ZD] at hc) <;> (try (exact absurd hc (by decide))) <;> (try (exfalso; omega)))
          | ((first | refine WP.skip ?_ | refine WP.exit ?_); simp only [SeqQ, BlkQ, LoopQ, BodyQ, ↓reduceIte, Nat.reduceEqDiff, reduceCtorEq, look, true_and])
          | (refine WP.ret (Sm.out ?_))
          | (first | refine ExG.no (Sm.out ?_) | refine Or.inl (ExG.no (Sm.out ?_)) | refine Or.inl (And.intro (fun hg => absurd hg (by decide)) (ExG.no (Sm.out ?_))))
          | (refine Rt.mk ?_; refine And.intro ?_ ?_ <;> (intro hg; first | exact absurd hg (by decide) | refine Sm.out ?_))
          | (refine Nu.mk ?_; first | (fail_if_success (have := nb1)); intro nb1 | (fail_if_success (have := nb2)); intro nb2 | (fail_if_success (have := nb3)); intro nb3 | (fail_if_success (have := nb4)); intro nb4 | (fail_if_success (have := nb5)); intro nb5 | (fail_if_success (have := nb6)); intro nb6 | (fail_if_success (have := nb7)); intro nb7 | (fail_if_success (have := nb8)); intro nb8 | (fail_if_success (have := nb9)); intro nb9 | (fail_if_success (have := nb10)); intro nb10 | (fail_if_success (have := nb11)); intro nb11 | (fail_if_success (have := nb12)); intro nb12 | intro nbz)
          | (refine Fr.mk ?_; intro hfr; (first | (have hFRb : _ ≤ _ ∧ _ ≤ _ := And.intro hfr.1 hfr.2.1) | skip); replace FR := Sm.mk (And.intro hfr FR.out); clear hfr; refine Sm.out ?_)
          | (refine Two.mk ?_ ?_)
          | (refine Cs.mk ?_; intro hcs; first | exact False.elim hcs | (exfalso; omega) | (refine Sm.out ?_))
          | go_step
          | omega
          | (simp only [maxLen_eq]; omega)
        (refine OutQ.drop _ _ (pme _) (by simp only [resv, ZK, look, loadv, loadn, loadnm, load1, load1m, hget, ↓reduceIte, Nat.reduceEqDiff, Nat.reduceAdd, Nat.reduceMul, Nat.reduceLeDiff, Nat.reduceLT, reduceCtorEq, TFAmE, FR.out]) ⟨⟨((0, 0, 0, 0), 0), fun h => by cases h⟩, (by simp only [resv, resA, ZK, look, loadv, loadn, loadnm, load1, load1m, hget, ↓reduceIte, Nat.reduceEqDiff, Nat.reduceAdd, Nat.reduceMul, Nat.reduceLeDiff, Nat.reduceLT, reduceCtorEq, TFAmE, FR.out]; first | done | rfl), rfl⟩)
      · have dn : decide (c > 253402300799) = false := by simp; omega
        have wc : IntKind.i64.wrap c = c := wrap_i64 (by omega) (by omega)
        have cR := refRight_ct 3 x c e
        have hbb2 : rightP 3 x c e = bb := hbb
        rw [hbb2] at cR
        first | (have FRx := FR; clear FRx) | (have FR : Sm (¬ ((1 : Nat) = 0)) := Sm.mk Nat.one_ne_zero)
        repeat' first
          | (refine Sm.mk ?_; try simp -dsimp only [ZK, rvc, drawF, headN, pureH, stp, dvc, calleeOf, gcall, pev, eff, newB, okd, og, ogs, ogo, ogp, slv, bltv, opd, litv, strip, one, both, putE, St.put, look, gdOf, gdv, picka, pickv, pickw, binv, bini, bins, binb, binp, bina, shp, eqCells, unv, convv, nilv, faddv, addp, idxav, idxp, load1, load1m, loadn, loadnm, loadv, hget, hset, hrep, hdel, slicev, bnd, shift1, lenv, IntKind.bits, extractv, fieldv, indexv, min2v, max2v, mkiv, cellsA, fillA, buildv, stC, oneC, rowMB, intsA, plN, appE, appZ, appC, appNZ, appNC, VwL, srcC, srcZ, srcM, isBoolT, isPtrT, isSliceT, uOk, Value.oneCell', Nat.reducePow, Int.reducePow, Nat.reduceAdd, Nat.reduceMul, Nat.reduceSub, Nat.reduceLT, Nat.reduceLeDiff, Nat.reduceEqDiff, Nat.reduceBEq, Nat.reduceDiv, Nat.reduceMod, ↓reduceIte, reduceCtorEq, Int.reduceToNat, Int.reduceLT, Int.reduceLE, drawSF, hdel, TFAmE, SeqQ, BlkQ, LoopQ, BodyQ, k2, k3, y1, w0, d0, d1, d2, dm, dn, wx, wc, g0, g1, g2, FR.out])
          | (first | refine CallV.fn (cR) (Sm.out ?_) | refine ExF.mk (cR) (Sm.out ?_) | refine ExG.mk (fun _ => cR) (Sm.out ?_) | refine ExG.mkJ (fun _ => cR) (Sm.out ?_) | refine ExG.mkI (Ob.out ?_) (fun _ => cR) (Sm.out ?_))
          | (refine WP.seq fun K hK => ?_)
          | (refine WP.region (rvc_sound _ _ (Sm.out ?_)))
          | (refine WP.drawS (is := 4) (k := 7) mixed (by decide +kernel) (by decide +kernel) (Sm.out ?_))
          | (refine WP.drawK rfl mixed (by decide +kernel) (Sm.out ?_))
          | (refine Ob.mk ?_; focus (first | assumption | omega | decide | trivial | (intro hob; simp only [hob, ZF]; done) | (intros; (repeat' refine And.intro ?_ ?_) <;> first | assumption | omega | trivial | decide) | (intros; simp only [ZE] at *; (repeat' refine And.intro ?_ ?_) <;> first | assumption | omega | trivial)))
          | (refine And.intro (Ob.out ?_) ?_)
          | (refine WP.block ?_)
          | (refine WP.cond rfl (fun hc => ?_) (fun hc => ?_) <;> (try simp only [ZC, reduceCtorEq, ZD] at hc) <;> (try (exact absurd hc (by decide))) <;> (try (exfalso; omega)))
          | ((first | refine WP.skip ?_ | refine WP.exit ?_); simp only [SeqQ, BlkQ, LoopQ, BodyQ, ↓reduceIte, Nat.reduceEqDiff, reduceCtorEq, look, true_and])
          | (refine WP.ret (Sm.out ?_))
          | (first | refine ExG.no (Sm.out ?_) | refine Or.inl (ExG.no (Sm.out ?_)) | refine Or.inl (And.intro (fun hg => absurd hg (by decide)) (ExG.no (Sm.out ?_))))
          | (refine Rt.mk ?_; refine And.intro ?_ ?_ <;> (intro hg; first | exact absurd hg (by decide) | refine Sm.out ?_))
          | (refine Nu.mk ?_; first | (fail_if_success (have := nb1)); intro nb1 | (fail_if_success (have := nb2)); intro nb2 | (fail_if_success (have := nb3)); intro nb3 | (fail_if_success (have := nb4)); intro nb4 | (fail_if_success (have := nb5)); intro nb5 | (fail_if_success (have := nb6)); intro nb6 | (fail_if_success (have := nb7)); intro nb7 | (fail_if_success (have := nb8)); intro nb8 | (fail_if_success (have := nb9)); intro nb9 | (fail_if_success (have := nb10)); intro nb10 | (fail_if_success (have := nb11)); intro nb11 | (fail_if_success (have := nb12)); intro nb12 | intro nbz)
          | (refine Fr.mk ?_; intro hfr; (first | (have hFRb : _ ≤ _ ∧ _ ≤ _ := And.intro hfr.1 hfr.2.1) | skip); replace FR := Sm.mk (And.intro hfr FR.out); clear hfr; refine Sm.out ?_)
          | (refine Two.mk ?_ ?_)
          | (refine Cs.mk ?_; intro hcs; first | exact False.elim hcs | (exfalso; omega) | (refine Sm.out ?_))
          | go_step
          | omega
          | (simp only [maxLen_eq]; omega)
        (refine OutQ.drop _ _ (pme _) (by simp only [resv, ZK, look, loadv, loadn, loadnm, load1, load1m, hget, ↓reduceIte, Nat.reduceEqDiff, Nat.reduceAdd, Nat.reduceMul, Nat.reduceLeDiff, Nat.reduceLT, reduceCtorEq, TFAmE, FR.out]) ⟨⟨((3, x, c, e), ↑a), fun _ => rfl⟩, (by simp only [resv, resA, ZK, look, loadv, loadn, loadnm, load1, load1m, hget, ↓reduceIte, Nat.reduceEqDiff, Nat.reduceAdd, Nat.reduceMul, Nat.reduceLeDiff, Nat.reduceLT, reduceCtorEq, TFAmE, FR.out]; first | done | rfl), rfl⟩)
end Go.Proofs.Ytljfldoekamccaa
namespace Go.Proofs.Ytljfldoekamccaa
open Go Wi
set_option linter.unusedVariables false
set_option linter.unusedSimpArgs false
theorem tk_right {p c0 s0 : Nat} {e : Nat} : rightP p (tk s0) (tk c0) e = rightP p s0 c0 e ∧ (rightP p s0 c0 e = true → tk s0 = s0 ∧ tk c0 = c0) := by
  have h1 : ∀ n, n ≤ 253402300799 → tk n = n := fun n hn => by unfold tk; rw [if_neg (by omega)]
  have h2 : ∀ n, 253402300799 < n → 253402300799 < tk n := fun n hn => by unfold tk; split <;> omega
  have h3 : rightP p s0 c0 e = true → tk s0 = s0 ∧ tk c0 = c0 := fun h => by
    have := (rightP_iff _ _ _ _).1 h
    exact ⟨h1 _ (by omega), h1 _ (by omega)⟩
  refine ⟨?_, h3⟩
  cases hr : rightP p s0 c0 e with
  | true => rw [(h3 hr).1, (h3 hr).2, hr]
  | false =>
    cases hr2 : rightP p (tk s0) (tk c0) e with
    | false => rfl
    | true =>
      have hh := (rightP_iff _ _ _ _).1 hr2
      have a1 : s0 ≤ 253402300799 := by
        apply Classical.byContradiction; intro hc
        have := h2 s0 (by omega); omega
      have a2 : c0 ≤ 253402300799 := by
        apply Classical.byContradiction; intro hc
        have := h2 c0 (by omega); omega
      rw [h1 _ a1, h1 _ a2, hr] at hr2
      cases hr2
/-- the program's answer to bytes -/
def gaA (zs : List Int) : AV :=
  match alR zs with
  | none => alA 0 0 0 0
  | some q => alA q.1.1 q.1.2.1 q.1.2.2.1 q.1.2.2.2
def gaM (zs : List Int) : MB :=
  match alR zs with
  | none => rdN
  | some q => rd q.2 false
theorem fin_eq (p s0 c0 e : Nat) (r : List Int) : fin p (tk s0) (tk c0) e (some r) = if rightP p s0 c0 e then (alA p s0 c0 e, rd r false) else (alA 0 0 0 0, rdN) := by
  obtain ⟨h1, h2⟩ := tk_right (p := p) (s0 := s0) (c0 := c0) (e := e)
  unfold fin
  rw [h1]
  cases hr : rightP p s0 c0 e with
  | true => rw [(h2 hr).1, (h2 hr).2]; rfl
  | false => rfl
theorem tk0 : tk 0 = 0 := rfl
theorem gS_alR {zs r : List Int} {ph : Nat} (hn : nF zs = some (ph, r)) (h3 : ph ≤ 3) : gS ph (some r) = (gaA zs, gaM zs) := by
  unfold gaA gaM alR
  rw [hn]
  simp only [if_neg (show ¬ 3 < ph by omega)]
  match ph, h3 with
  | 0, _ =>
    have e : rightP ((0 : Nat) : Int) (([] : List Int).getD 0 0) (([] : List Int).getD 2 0) (([] : List Int).getD 1 0) = true := by decide
    simp only [rdL, e, if_true]
    unfold gS
    rw [if_pos rfl]
    have := fin_eq 0 0 0 0 r
    rw [tk0] at this
    rw [this]
    rfl
  | 1, _ =>
    unfold gS
    rw [if_neg (by decide), if_pos rfl]
    cases h1 : nF r with
    | none => simp only [rdL, h1, nS]; rfl
    | some a =>
      obtain ⟨n1, r1⟩ := a
      simp only [rdL, h1, nS, List.nil_append]
      have := fin_eq 1 n1 0 0 r1
      rw [tk0] at this
      rw [this]
      have e : rightP ((1 : Nat) : Int) (([(n1 : Int)] : List Int).getD 0 0) (([(n1 : Int)] : List Int).getD 2 0) (([(n1 : Int)] : List Int).getD 1 0) = rightP ((1 : Nat) : Int) n1 ((0 : Nat) : Int) ((0 : Nat) : Int) := rfl
      rw [e]
      cases rightP ((1 : Nat) : Int) n1 ((0 : Nat) : Int) ((0 : Nat) : Int) <;> rfl
  | 2, _ =>
    unfold gS
    rw [if_neg (by decide), if_neg (by decide), if_pos rfl]
    cases h1 : nF r with
    | none => simp only [rdL, h1, nS]; rfl
    | some a =>
      obtain ⟨n1, r1⟩ := a
      simp only [rdL, h1, nS, List.nil_append]
      cases h2 : nF r1 with
      | none => rfl
      | some b =>
        obtain ⟨n2, r2⟩ := b
        simp only [List.cons_append, List.nil_append]
        have := fin_eq 2 n1 0 n2 r2
        rw [tk0] at this
        rw [this]
        have e : rightP ((2 : Nat) : Int) (([(n1 : Int), (n2 : Int)] : List Int).getD 0 0) (([(n1 : Int), (n2 : Int)] : List Int).getD 2 0) (([(n1 : Int), (n2 : Int)] : List Int).getD 1 0) = rightP ((2 : Nat) : Int) n1 ((0 : Nat) : Int) n2 := rfl
        rw [e]
        cases rightP ((2 : Nat) : Int) n1 ((0 : Nat) : Int) n2 <;> rfl
  | 3, _ =>
    unfold gS
    rw [if_neg (by decide), if_neg (by decide), if_neg (by decide)]
    cases h1 : nF r with
    | none => simp only [rdL, h1, nS]; rfl
    | some a =>
      obtain ⟨n1, r1⟩ := a
      simp only [rdL, h1, nS, List.nil_append]
      cases h2 : nF r1 with
      | none => rfl
      | some b =>
        obtain ⟨n2, r2⟩ := b
        simp only [List.cons_append, List.nil_append]
        cases h4 : nF r2 with
        | none => rfl
        | some c =>
          obtain ⟨n3, r3⟩ := c
          simp only [List.cons_append, List.nil_append]
          rw [fin_eq 3 n1 n3 n2 r3]
          have e : rightP ((3 : Nat) : Int) (([(n1 : Int), (n2 : Int), (n3 : Int)] : List Int).getD 0 0) (([(n1 : Int), (n2 : Int), (n3 : Int)] : List Int).getD 2 0) (([(n1 : Int), (n2 : Int), (n3 : Int)] : List Int).getD 1 0) = rightP ((3 : Nat) : Int) n1 n3 n2 := rfl
          rw [e]
          cases rightP ((3 : Nat) : Int) n1 n3 n2 <;> rfl
theorem Get_ct (b : Nat) (zs : List Int) (hb : By zs) (hz : zs.length ≤ 10000) : ACt Try.prog 17 [pt b 0] [(b, rd zs false)] (fun r F' => r = gaA zs ∧ F' = [(b, gaM zs)]) := by
  have c := countX b zs 3 hb hz (by omega) (by omega)
  have key : ∀ (ph : Nat) (o : Option (List Int)), ph ≤ 3 → okS o → ACt Try.prog 28 [pt b 0, iv .i64 3] [(b, rd zs false)] (fun r F' => r = iv .i64 (ph : Int) ∧ F' = [(b, stM o)]) → gS ph o = (gaA zs, gaM zs) → ACt Try.prog 17 [pt b 0] [(b, rd zs false)] (fun r F' => r = gaA zs ∧ F' = [(b, gaM zs)]) := by
    intro ph o hp ho cC hg
    have := Get_st b (rd zs false) ph o hp ho cC
    rw [hg] at this
    exact this
  cases hn : nF zs with
  | none =>
    have e : cF 3 zs = none := by unfold cF; rw [hn]
    rw [e] at c
    refine key 0 none (by omega) trivial c ?_
    unfold gaA gaM alR
    rw [hn]
    rfl
  | some p =>
    obtain ⟨n, r⟩ := p
    have hbd := nF_bd hb hn
    by_cases h3 : n ≤ 3
    · have e : cF 3 zs = some (n, r) := by unfold cF; rw [hn]; simp only; rw [if_neg (by omega)]
      rw [e] at c
      exact key n (some r) h3 ⟨hbd.2.1, by omega⟩ c (gS_alR hn h3)
    · have e : cF 3 zs = none := by unfold cF; rw [hn]; simp only; rw [if_pos (by omega)]
      rw [e] at c
      refine key 0 none (by omega) trivial c ?_
      unfold gaA gaM alR
      rw [hn]
      simp only [if_pos (show 3 < n by omega)]
      rfl
/-- the document's answer -/
theorem refGet_ct3 (Z : List Int) (hb : By Z) (hz : Z.length ≤ 2000) (h : alR Z = none) : ACt Try.prog 20 [.slz .u8 Z, iv .i64 0] [] (fun r F' => ∃ g : AG, r = nA g ∧ F' = []) := by
  unfold alR at h
  cases hn : nF Z with
  | none => exact refGet_bad Z hb hz (.inl hn)
  | some p =>
    obtain ⟨ph, r⟩ := p
    rw [hn] at h
    simp only at h
    by_cases h3 : 3 < ph
    · exact refGet_bad Z hb hz (.inr ⟨ph, r, hn, .inl h3⟩)
    · rw [if_neg h3] at h
      cases hr : rdL ph [] r with
      | none => exact refGet_bad Z hb hz (.inr ⟨ph, r, hn, .inr ⟨by omega, hr⟩⟩)
      | some q =>
        obtain ⟨L, rf⟩ := q
        rw [hr] at h
        simp only at h
        split at h
        · cases h
        rename_i hbb
        refine (refGet_some Z hb hz ph r L rf hn (by omega) hr false (by simpa using hbb) _ rfl).mono ?_
        rintro r F' ⟨g, e1, e2⟩
        exact ⟨g.1, e1, e2⟩
theorem refGet_ct4 (Z : List Int) (hb : By Z) (hz : Z.length ≤ 2000) (q : (Int × Int × Int × Int) × List Int) (h : alR Z = some q) :
    ACt Try.prog 20 [.slz .u8 Z, iv .i64 0] [] (Fn (.tup [alA q.1.1 q.1.2.1 q.1.2.2.1 q.1.2.2.2, iv .i64 ((Z.length - q.2.length : Nat) : Int), bv true])) := by
  unfold alR at h
  cases hn : nF Z with
  | none => rw [hn] at h; cases h
  | some p =>
    obtain ⟨ph, r⟩ := p
    rw [hn] at h
    simp only at h
    split at h
    · cases h
    rename_i h3
    cases hr : rdL ph [] r with
    | none => rw [hr] at h; cases h
    | some x =>
      obtain ⟨L, rf⟩ := x
      rw [hr] at h
      simp only at h
      split at h
      · rename_i hbb
        cases h
        refine (refGet_some Z hb hz ph r L rf hn (by omega) hr true hbb _ rfl).mono ?_
        rintro r F' ⟨g, e1, e2⟩
        have := g.2 rfl
        rw [this] at e1
        exact ⟨e1, e2⟩
      · cases h
theorem rdL_suf : ∀ (j : Nat) (L zs L' r : List Int), By zs → rdL j L zs = some (L', r) → r.length ≤ zs.length
  | 0, L, zs, L', r, hb, h => by simp only [rdL, Option.some.injEq, Prod.mk.injEq] at h; obtain ⟨rfl, rfl⟩ := h; exact Nat.le_refl _
  | j + 1, L, zs, L', r, hb, h => by
    rw [rdL] at h
    cases h1 : nF zs with
    | none => rw [h1] at h; cases h
    | some p =>
      obtain ⟨n, q⟩ := p
      rw [h1] at h
      simp only at h
      have := nF_bd hb h1
      have := rdL_suf j _ q L' r this.2.1 h
      omega
theorem alR_len {Z : List Int} {q : (Int × Int × Int × Int) × List Int} (hb : By Z) (h : alR Z = some q) : q.2.length ≤ Z.length := by
  unfold alR at h
  cases hn : nF Z with
  | none => rw [hn] at h; cases h
  | some p =>
    obtain ⟨ph, r⟩ := p
    have hbd := nF_bd hb hn
    rw [hn] at h
    simp only at h
    split at h
    · cases h
    cases hr : rdL ph [] r with
    | none => rw [hr] at h; cases h
    | some x =>
      obtain ⟨L, rf⟩ := x
      have := rdL_suf ph [] r L rf hbd.2.1 hr
      rw [hr] at h
      simp only at h
      split at h
      · cases h; simp only; omega
      · cases h
theorem alL_by {p s c e : Int} : By (alL p s c e) ∧ (alL p s c e).length ≤ 40 := by
  have key : ∀ n : Nat, n < 18446744073709551616 → By (putL 0 n) ∧ (putL 0 n).length ≤ 9 := fun n hn => ⟨by_putL n hn, putL_len 0 n hn⟩
  cases hr : rightP p s c e with
  | false =>
    rw [alL_bad hr]
    show By (putL 0 0) ∧ (putL 0 0).length ≤ 40
    have := key 0 (by omega)
    exact ⟨this.1, by omega⟩
  | true =>
    unfold alL
    rw [if_pos hr]
    rcases right_cases hr with ⟨rfl, rfl, rfl, rfl⟩ | ⟨s, rfl, rfl, hs, rfl, rfl⟩ | ⟨s, e, rfl, rfl, hs, rfl, rfl, he⟩ | ⟨s, e, c, rfl, rfl, hs, rfl, hc, rfl, he⟩
    · have := key 0 (by omega)
      exact ⟨this.1, Nat.le_trans this.2 (by omega)⟩
    · have a1 := key 1 (by omega)
      have a2 := key s (by omega)
      exact ⟨a1.1.app a2.1, by simp; omega⟩
    · have a1 := key 2 (by omega)
      have a2 := key s (by omega)
      have a3 := key e (by omega)
      exact ⟨(a1.1.app a2.1).app a3.1, by simp; omega⟩
    · have a1 := key 3 (by omega)
      have a2 := key s (by omega)
      have a3 := key e (by omega)
      have a4 := key c (by omega)
      exact ⟨((a1.1.app a2.1).app a3.1).app a4.1, by simp; omega⟩
theorem nF_put0 (n : Nat) (hn : n < 18446744073709551616) : nF (putL 0 n) = some (n, []) := by
  have := nF_put n [] hn
  rwa [List.append_nil] at this
/-- what was put is got -/
theorem alR_put {p s c e : Int} : alR (alL p s c e) = some (if rightP p s c e then (p, s, c, e) else (0, 0, 0, 0), []) := by
  have z : alR (putL 0 0) = some ((0, 0, 0, 0), []) := by
    unfold alR; rw [nF_put0 0 (by omega)]; rfl
  cases hr : rightP p s c e with
  | false => rw [alL_bad hr]; exact z
  | true =>
    rw [if_pos rfl]
    unfold alL
    rw [if_pos hr]
    rcases right_cases hr with ⟨rfl, rfl, rfl, rfl⟩ | ⟨s, rfl, rfl, hs, rfl, rfl⟩ | ⟨s, e, rfl, rfl, hs, rfl, rfl, he⟩ | ⟨s, e, c, rfl, rfl, hs, rfl, hc, rfl, he⟩
    · exact z
    · rw [if_neg (by decide), if_pos rfl]
      unfold alR
      rw [nF_put 1 _ (by omega)]
      simp only [Int.toNat_natCast, rdL, nF_put0 s (by omega), List.nil_append]
      have e : rightP ((1 : Nat) : Int) (([(s : Int)] : List Int).getD 0 0) (([(s : Int)] : List Int).getD 2 0) (([(s : Int)] : List Int).getD 1 0) = true := hr
      rw [if_neg (by omega), if_pos e]; rfl
    · rw [if_neg (by decide), if_neg (by decide), if_pos rfl]
      unfold alR
      rw [List.append_assoc, nF_put 2 _ (by omega)]
      simp only [Int.toNat_natCast, rdL, nF_put s _ (show s < 18446744073709551616 by omega), nF_put0 e (show e < 18446744073709551616 by omega), List.nil_append, List.cons_append]
      have e' : rightP ((2 : Nat) : Int) (([(s : Int), (e : Int)] : List Int).getD 0 0) (([(s : Int), (e : Int)] : List Int).getD 2 0) (([(s : Int), (e : Int)] : List Int).getD 1 0) = true := hr
      rw [if_neg (by omega), if_pos e']; rfl
    · rw [if_neg (by decide), if_neg (by decide), if_neg (by decide)]
      unfold alR
      rw [List.append_assoc, List.append_assoc, nF_put 3 _ (by omega)]
      simp only [Int.toNat_natCast, rdL, nF_put s _ (show s < 18446744073709551616 by omega), nF_put e _ (show e < 18446744073709551616 by omega), nF_put0 c (show c < 18446744073709551616 by omega), List.nil_append, List.cons_append]
      have e' : rightP ((3 : Nat) : Int) (([(s : Int), (e : Int), (c : Int)] : List Int).getD 0 0) (([(s : Int), (e : Int), (c : Int)] : List Int).getD 2 0) (([(s : Int), (e : Int), (c : Int)] : List Int).getD 1 0) = true := hr
      rw [if_neg (by omega), if_pos e']; rfl
end Go.Proofs.Ytljfldoekamccaa
namespace Go.Proofs.Ytljfldoekamccaa
open Go Wi
set_option linter.unusedVariables false
set_option linter.unusedSimpArgs false
theorem TFAmG : ((((((type_of% tyc0) ∧ ((type_of% tyc3) ∧ (type_of% zmb3))) ∧ ((type_of% tyc4) ∧ ((type_of% zmb4) ∧ (type_of% tyc5)))) ∧ (((type_of% zmb5) ∧ ((type_of% tyc9) ∧ (type_of% zmb9))) ∧ (((type_of% tyc32) ∧ (type_of% foff32_0)) ∧ ((type_of% fpart32_0) ∧ (type_of% foff32_1))))) ∧ ((((type_of% fpart32_1) ∧ ((type_of% foff32_2) ∧ (type_of% fpart32_2))) ∧ (((type_of% foff32_3) ∧ (type_of% fpart32_3)) ∧ ((type_of% fe32) ∧ (type_of% zmb32)))) ∧ (((type_of% bldT32) ∧ ((type_of% tyc38) ∧ (type_of% elt38))) ∧ (((type_of% mkz38) ∧ (type_of% apT38)) ∧ ((type_of% elk38) ∧ (type_of% zmb38)))))) ∧ (((((type_of% tyc44) ∧ ((type_of% mth44_35) ∧ (type_of% mth44_36))) ∧ ((type_of% mth44_39) ∧ ((type_of% con44) ∧ (type_of% zmb44)))) ∧ (((type_of% tyc48) ∧ ((type_of% zmb48) ∧ (type_of% tyc50))) ∧ (((type_of% tyc64) ∧ (type_of% foff64_0)) ∧ ((type_of% fpart64_0) ∧ (type_of% foff64_1))))) ∧ ((((type_of% fpart64_1) ∧ ((type_of% zmb64) ∧ (type_of% bldT64))) ∧ (((type_of% Try.underlying0) ∧ (type_of% Try.underlying3)) ∧ ((type_of% Try.underlying4) ∧ (type_of% Try.underlying5)))) ∧ (((type_of% Try.underlying9) ∧ ((type_of% Try.underlying32) ∧ (type_of% Try.underlying38))) ∧ (((type_of% Try.underlying44) ∧ (type_of% Try.underlying48)) ∧ ((type_of% Try.underlying50) ∧ (type_of% Try.underlying64))))))) :=
  ⟨⟨⟨⟨⟨tyc0, ⟨tyc3, zmb3⟩⟩, ⟨tyc4, ⟨zmb4, tyc5⟩⟩⟩, ⟨⟨zmb5, ⟨tyc9, zmb9⟩⟩, ⟨⟨tyc32, foff32_0⟩, ⟨fpart32_0, foff32_1⟩⟩⟩⟩, ⟨⟨⟨fpart32_1, ⟨foff32_2, fpart32_2⟩⟩, ⟨⟨foff32_3, fpart32_3⟩, ⟨fe32, zmb32⟩⟩⟩, ⟨⟨bldT32, ⟨tyc38, elt38⟩⟩, ⟨⟨mkz38, apT38⟩, ⟨elk38, zmb38⟩⟩⟩⟩⟩, ⟨⟨⟨⟨tyc44, ⟨mth44_35, mth44_36⟩⟩, ⟨mth44_39, ⟨con44, zmb44⟩⟩⟩, ⟨⟨tyc48, ⟨zmb48, tyc50⟩⟩, ⟨⟨tyc64, foff64_0⟩, ⟨fpart64_0, foff64_1⟩⟩⟩⟩, ⟨⟨⟨fpart64_1, ⟨zmb64, bldT64⟩⟩, ⟨⟨Try.underlying0, Try.underlying3⟩, ⟨Try.underlying4, Try.underlying5⟩⟩⟩, ⟨⟨Try.underlying9, ⟨Try.underlying32, Try.underlying38⟩⟩, ⟨⟨Try.underlying44, Try.underlying48⟩, ⟨Try.underlying50, Try.underlying64⟩⟩⟩⟩⟩⟩
theorem new_cr (zs : List Int) : ACt Try.prog 16 [.slz .u8 zs] [] (NewC 64 [.slz .u8 zs, bv false]) := by
  refine ACt.intro Try.func16 rfl (by kernel_rfl) (by simp [Try.ntmps16]) (fun cx => ?_)
  simp only [argE, Try.ntmps16, Try.results16]
  first | (have FRx := FR; clear FRx) | (have FR : Sm (¬ ((1 : Nat) = 0)) := Sm.mk Nat.one_ne_zero)
  repeat' first
    | (refine Sm.mk ?_; try simp -dsimp only [ZK, rvc, drawF, headN, pureH, stp, dvc, calleeOf, gcall, pev, eff, newB, okd, og, ogs, ogo, ogp, slv, bltv, opd, litv, strip, one, both, putE, St.put, look, gdOf, gdv, picka, pickv, pickw, binv, bini, bins, binb, binp, bina, shp, eqCells, unv, convv, nilv, faddv, addp, idxav, idxp, load1, load1m, loadn, loadnm, loadv, hget, hset, hrep, hdel, slicev, bnd, shift1, lenv, IntKind.bits, extractv, fieldv, indexv, min2v, max2v, mkiv, cellsA, fillA, buildv, stC, oneC, rowMB, intsA, plN, appE, appZ, appC, appNZ, appNC, VwL, srcC, srcZ, srcM, isBoolT, isPtrT, isSliceT, uOk, Value.oneCell', Nat.reducePow, Int.reducePow, Nat.reduceAdd, Nat.reduceMul, Nat.reduceSub, Nat.reduceLT, Nat.reduceLeDiff, Nat.reduceEqDiff, Nat.reduceBEq, Nat.reduceDiv, Nat.reduceMod, ↓reduceIte, reduceCtorEq, Int.reduceToNat, Int.reduceLT, Int.reduceLE, TFAmG, SeqQ, BlkQ, LoopQ, BodyQ, FR.out])
    | (refine WP.seq fun K hK => ?_)
    | (refine WP.region (rvc_sound _ _ (Sm.out ?_)))
    | (refine WP.drawK rfl mixed (by decide +kernel) (Sm.out ?_))
    | (refine Ob.mk ?_; focus (first | assumption | omega | decide | trivial | (intro hob; simp only [hob, ZF]; done) | (intros; (repeat' refine And.intro ?_ ?_) <;> first | assumption | omega | trivial | decide) | (intros; simp only [ZE] at *; (repeat' refine And.intro ?_ ?_) <;> first | assumption | omega | trivial)))
    | (refine And.intro (Ob.out ?_) ?_)
    | (refine WP.block ?_)
    | (refine WP.cond rfl (fun hc => ?_) (fun hc => ?_) <;> (try simp only [ZC, reduceCtorEq, ZD] at hc) <;> (try (exact absurd hc (by decide))) <;> (try (exfalso; omega)))
    | ((first | refine WP.skip ?_ | refine WP.exit ?_); simp only [SeqQ, BlkQ, LoopQ, BodyQ, ↓reduceIte, Nat.reduceEqDiff, reduceCtorEq, look, true_and])
    | (refine WP.ret (Sm.out ?_))
    | (first | refine ExG.no (Sm.out ?_) | refine Or.inl (ExG.no (Sm.out ?_)) | refine Or.inl (And.intro (fun hg => absurd hg (by decide)) (ExG.no (Sm.out ?_))))
    | (refine Rt.mk ?_; refine And.intro ?_ ?_ <;> (intro hg; first | exact absurd hg (by decide) | refine Sm.out ?_))
    | (refine Nu.mk ?_; first | (fail_if_success (have := nb1)); intro nb1 | (fail_if_success (have := nb2)); intro nb2 | (fail_if_success (have := nb3)); intro nb3 | (fail_if_success (have := nb4)); intro nb4 | (fail_if_success (have := nb5)); intro nb5 | (fail_if_success (have := nb6)); intro nb6 | (fail_if_success (have := nb7)); intro nb7 | (fail_if_success (have := nb8)); intro nb8 | (fail_if_success (have := nb9)); intro nb9 | (fail_if_success (have := nb10)); intro nb10 | (fail_if_success (have := nb11)); intro nb11 | (fail_if_success (have := nb12)); intro nb12 | intro nbz)
    | (refine Fr.mk ?_; intro hfr; (first | (have hFRb : _ ≤ _ ∧ _ ≤ _ := And.intro hfr.1 hfr.2.1) | skip); replace FR := Sm.mk (And.intro hfr FR.out); clear hfr; refine Sm.out ?_)
    | (refine Two.mk ?_ ?_)
    | (refine Cs.mk ?_; intro hcs; first | exact False.elim hcs | (exfalso; omega) | (refine Sm.out ?_))
    | go_step
    | omega
    | (simp only [maxLen_eq]; omega)
    | (refine Or.inr (Rt.mk ?_); refine And.intro ?_ ?_ <;> (intro hg; first | exact absurd hg (by decide) | refine Sm.out ?_))
  (refine OutQ.newC (by simp only [resv, ZK, look, loadv, loadn, loadnm, load1, load1m, hget, ↓reduceIte, Nat.reduceEqDiff, Nat.reduceAdd, Nat.reduceMul, Nat.reduceLeDiff, Nat.reduceLT, reduceCtorEq, TFAmG, FR.out]) (by simp only [resv, resA, ZK, look, loadv, loadn, loadnm, load1, load1m, hget, ↓reduceIte, Nat.reduceEqDiff, Nat.reduceAdd, Nat.reduceMul, Nat.reduceLeDiff, Nat.reduceLT, reduceCtorEq, TFAmG, FR.out]; first | done | rfl) (by simp only [hget, ↓reduceIte, if_true, if_false, FR.out]; first | done | rfl) ?_ ?_ <;> first | exact rfl | (simp only [ZK, look, loadv, loadn, loadnm, load1, load1m, hget, ↓reduceIte, Nat.reduceEqDiff, Nat.reduceAdd, Nat.reduceMul, Nat.reduceLeDiff, Nat.reduceLT, reduceCtorEq, TFAmG, FR.out]; done) | skip)
set_option maxRecDepth 8000 in
set_option maxHeartbeats 8000000 in
theorem bytes_ct (p s c e : Int) (Z : List Int) (hb : By Z) : ACt Try.prog 6 [alA p s c e, .slz .u8 Z] [] (fun r _ => r = bv true) := by
  refine ACt.intro Try.func6 rfl (by kernel_rfl) (by simp [Try.ntmps6]) (fun cx => ?_)
  simp only [argE, Try.ntmps6, Try.results6]
  by_cases hz : Z.length ≤ 200
  case neg =>
    have d : decide ((Z.length : Int) > 200) = true := by simp; omega
    first | (have FRx := FR; clear FRx) | (have FR : Sm (¬ ((1 : Nat) = 0)) := Sm.mk Nat.one_ne_zero)
    repeat' first
      | (refine Sm.mk ?_; try simp -dsimp only [ZK, rvc, drawF, headN, pureH, stp, dvc, calleeOf, gcall, pev, eff, newB, okd, og, ogs, ogo, ogp, slv, bltv, opd, litv, strip, one, both, putE, St.put, look, gdOf, gdv, picka, pickv, pickw, binv, bini, bins, binb, binp, bina, shp, eqCells, unv, convv, nilv, faddv, addp, idxav, idxp, load1, load1m, loadn, loadnm, loadv, hget, hset, hrep, hdel, slicev, bnd, shift1, lenv, IntKind.bits, extractv, fieldv, indexv, min2v, max2v, mkiv, cellsA, fillA, buildv, stC, oneC, rowMB, intsA, plN, appE, appZ, appC, appNZ, appNC, VwL, srcC, srcZ, srcM, isBoolT, isPtrT, isSliceT, uOk, Value.oneCell', Nat.reducePow, Int.reducePow, Nat.reduceAdd, Nat.reduceMul, Nat.reduceSub, Nat.reduceLT, Nat.reduceLeDiff, Nat.reduceEqDiff, Nat.reduceBEq, Nat.reduceDiv, Nat.reduceMod, ↓reduceIte, reduceCtorEq, Int.reduceToNat, Int.reduceLT, Int.reduceLE, TFAmG, SeqQ, BlkQ, LoopQ, BodyQ, d, FR.out])
      | (first | refine CallV.fn (awake_ct) (Sm.out ?_) | refine ExF.mk (awake_ct) (Sm.out ?_) | refine ExG.mk (fun _ => awake_ct) (Sm.out ?_) | refine ExG.mkJ (fun _ => awake_ct) (Sm.out ?_) | refine ExG.mkI (Ob.out ?_) (fun _ => awake_ct) (Sm.out ?_))
      | (refine WP.seq fun K hK => ?_)
      | (refine WP.region (rvc_sound _ _ (Sm.out ?_)))
      | (refine WP.drawK rfl mixed (by decide +kernel) (Sm.out ?_))
      | (refine Ob.mk ?_; focus (first | assumption | omega | decide | trivial | (intro hob; simp only [hob, ZF]; done) | (intros; (repeat' refine And.intro ?_ ?_) <;> first | assumption | omega | trivial | decide) | (intros; simp only [ZE] at *; (repeat' refine And.intro ?_ ?_) <;> first | assumption | omega | trivial)))
      | (refine And.intro (Ob.out ?_) ?_)
      | (refine WP.block ?_)
      | (refine WP.cond rfl (fun hc => ?_) (fun hc => ?_) <;> (try simp only [ZC, reduceCtorEq, ZD] at hc) <;> (try (exact absurd hc (by decide))) <;> (try (exfalso; omega)))
      | ((first | refine WP.skip ?_ | refine WP.exit ?_); simp only [SeqQ, BlkQ, LoopQ, BodyQ, ↓reduceIte, Nat.reduceEqDiff, reduceCtorEq, look, true_and])
      | (refine WP.ret (Sm.out ?_))
      | (first | refine ExG.no (Sm.out ?_) | refine Or.inl (ExG.no (Sm.out ?_)) | refine Or.inl (And.intro (fun hg => absurd hg (by decide)) (ExG.no (Sm.out ?_))))
      | (refine Rt.mk ?_; refine And.intro ?_ ?_ <;> (intro hg; first | exact absurd hg (by decide) | refine Sm.out ?_))
      | (refine Nu.mk ?_; first | (fail_if_success (have := nb1)); intro nb1 | (fail_if_success (have := nb2)); intro nb2 | (fail_if_success (have := nb3)); intro nb3 | (fail_if_success (have := nb4)); intro nb4 | (fail_if_success (have := nb5)); intro nb5 | (fail_if_success (have := nb6)); intro nb6 | (fail_if_success (have := nb7)); intro nb7 | (fail_if_success (have := nb8)); intro nb8 | (fail_if_success (have := nb9)); intro nb9 | (fail_if_success (have := nb10)); intro nb10 | (fail_if_success (have := nb11)); intro nb11 | (fail_if_success (have := nb12)); intro nb12 | intro nbz)
      | (refine Fr.mk ?_; intro hfr; (first | (have hFRb : _ ≤ _ ∧ _ ≤ _ := And.intro hfr.1 hfr.2.1) | skip); replace FR := Sm.mk (And.intro hfr FR.out); clear hfr; refine Sm.out ?_)
      | (refine Two.mk ?_ ?_)
      | (refine Cs.mk ?_; intro hcs; first | exact False.elim hcs | (exfalso; omega) | (refine Sm.out ?_))
      | (refine OutQ.all ?_ ?_; (focus (simp only [resv, ZK, look, loadv, loadn, loadnm, load1, load1m, hget, ↓reduceIte, Nat.reduceEqDiff, Nat.reduceAdd, Nat.reduceMul, Nat.reduceLeDiff, Nat.reduceLT, reduceCtorEq, TFAmG, d, FR.out])); (try simp only [resv, resA, Fn, ZK, look, loadv, loadn, loadnm, load1, load1m, hget, ↓reduceIte, Nat.reduceEqDiff, Nat.reduceAdd, Nat.reduceMul, Nat.reduceLeDiff, Nat.reduceLT, reduceCtorEq, TFAmG, d, FR.out]); (try simp [resA, Fn, look, d, FR.out]); done)
      | go_step
      | omega
      | (simp only [maxLen_eq]; omega)
      | (refine Or.inr (Rt.mk ?_); refine And.intro ?_ ?_ <;> (intro hg; first | exact absurd hg (by decide) | refine Sm.out ?_))
  have d : decide ((Z.length : Int) > 200) = false := by simp; omega
  obtain ⟨hDb, hDl⟩ := alL_by (p := p) (s := s) (c := c) (e := e)
  have hput := alR_put (p := p) (s := s) (c := c) (e := e)
  have cP := fun b => ACt.fzRow (Put_ct b 1 [9] p s c e (by simp) (by simp) (by omega))
  have cF := ACt.fzRow (refPut_ct p s c e)
  obtain ⟨D, hD⟩ : ∃ D, D = alL p s c e := ⟨_, rfl⟩
  rw [← hD] at cF hDb hDl hput
  have cP : ∀ b, ACt Try.prog 15 [ms b 0 1 1, alA p s c e] [(b, .zs .u8 [9] 1 5)] (fun r F' => r = .slz .u8 (9 :: D) ∧ F' = []) := fun b => by rw [hD]; exact cP b
  have cF : ACt Try.prog 18 [alA p s c e] [] (Fn (.slz .u8 D)) := cF
  have cG := fun b => Get_ct b D hDb (by omega)
  have cG2 := fun b => Get_ct b Z hb (by omega)
  have cR := refRight_ct p s c e
  have tkl : ∀ L : List Int, L.take L.length = L := fun L => List.take_length
  have y9 : ((9 : Int) != 9) = false := by decide
  have y2 : ((bstr D).toList == (bstr D).toList) = true := beq_self_eq_true _
  have y0 : ((0 : Int) != 0) = false := by decide
  have yy : ∀ x : Int, (x == x) = true := fun x => beq_self_eq_true x
  have hM1 : gaM D = rd [] false := by unfold gaM; rw [hput]
  have cE := endR
  cases hr : rightP p s c e with
  | true =>
    rw [hr] at cR hput
    have hA1 : gaA D = alA p s c e := by unfold gaA; rw [hput]; rfl
    rw [hA1, hM1] at cG
    cases h : alR Z with
    | none =>
      have hA2 : gaA Z = alA 0 0 0 0 := by unfold gaA; rw [h]
      have hM2 : gaM Z = rdN := by unfold gaM; rw [h]
      rw [hA2, hM2] at cG2
      have cD := refGet_ct3 Z hb (by omega) h
      have cB := fun b => bad_e b true
      first | (have FRx := FR; clear FRx) | (have FR : Sm (¬ ((1 : Nat) = 0)) := Sm.mk Nat.one_ne_zero)
      repeat' first
        | (refine Sm.mk ?_; try simp -dsimp only [ZK, rvc, drawF, headN, pureH, stp, dvc, calleeOf, gcall, pev, eff, newB, okd, og, ogs, ogo, ogp, slv, bltv, opd, litv, strip, one, both, putE, St.put, look, gdOf, gdv, picka, pickv, pickw, binv, bini, bins, binb, binp, bina, shp, eqCells, unv, convv, nilv, faddv, addp, idxav, idxp, load1, load1m, loadn, loadnm, loadv, hget, hset, hrep, hdel, slicev, bnd, shift1, lenv, IntKind.bits, extractv, fieldv, indexv, min2v, max2v, mkiv, cellsA, fillA, buildv, stC, oneC, rowMB, intsA, plN, appE, appZ, appC, appNZ, appNC, VwL, srcC, srcZ, srcM, isBoolT, isPtrT, isSliceT, uOk, Value.oneCell', Nat.reducePow, Int.reducePow, Nat.reduceAdd, Nat.reduceMul, Nat.reduceSub, Nat.reduceLT, Nat.reduceLeDiff, Nat.reduceEqDiff, Nat.reduceBEq, Nat.reduceDiv, Nat.reduceMod, ↓reduceIte, reduceCtorEq, Int.reduceToNat, Int.reduceLT, Int.reduceLE, TFAmG, SeqQ, BlkQ, LoopQ, BodyQ, d, tkl, y9, y2, y0, yy, fe32, FR.out])
        | (first | refine CallV.fn (awake_ct) (Sm.out ?_) | refine ExF.mk (awake_ct) (Sm.out ?_) | refine ExG.mk (fun _ => awake_ct) (Sm.out ?_) | refine ExG.mkJ (fun _ => awake_ct) (Sm.out ?_) | refine ExG.mkI (Ob.out ?_) (fun _ => awake_ct) (Sm.out ?_))
        | (refine CallV.updN (perm1 (by simp only [hget, hdel, ↓reduceIte, FR.out, d, tkl, y9, y2, y0, yy, fe32]; first | done | rfl)) (cP nb2) (Sm.out ?_))
        | (refine CallV.row (by simp only [hget, ↓reduceIte, FR.out, d, tkl, y9, y2, y0, yy, fe32]; first | done | rfl) (new_cr D) (Sm.out ?_))
        | (refine CallV.mkrow (new_cr D) (Sm.out ?_))
        | (refine CallV.upd (by simp only [hget, ↓reduceIte, FR.out, d, tkl, y9, y2, y0, yy, fe32]; first | done | rfl) (new_cr D) (Sm.out ?_))
        | (refine CallV.mkobj (new_cr D) (Sm.out ?_))
        | (first | refine CallV.fn (new_cr D) (Sm.out ?_) | refine ExF.mk (new_cr D) (Sm.out ?_) | refine ExG.mk (fun _ => new_cr D) (Sm.out ?_) | refine ExG.mkJ (fun _ => new_cr D) (Sm.out ?_) | refine ExG.mkI (Ob.out ?_) (fun _ => new_cr D) (Sm.out ?_))
        | (refine CallV.updN (perm1 (by simp only [hget, hdel, ↓reduceIte, FR.out, d, tkl, y9, y2, y0, yy, fe32]; first | done | rfl)) (cG nb3) (Sm.out ?_))
        | (first | refine CallV.fn (cR) (Sm.out ?_) | refine ExF.mk (cR) (Sm.out ?_) | refine ExG.mk (fun _ => cR) (Sm.out ?_) | refine ExG.mkJ (fun _ => cR) (Sm.out ?_) | refine ExG.mkI (Ob.out ?_) (fun _ => cR) (Sm.out ?_))
        | (first | refine CallV.fn (cF) (Sm.out ?_) | refine ExF.mk (cF) (Sm.out ?_) | refine ExG.mk (fun _ => cF) (Sm.out ?_) | refine ExG.mkJ (fun _ => cF) (Sm.out ?_) | refine ExG.mkI (Ob.out ?_) (fun _ => cF) (Sm.out ?_))
        | (refine CallV.updN (perm1 (by simp only [hget, hdel, ↓reduceIte, FR.out, d, tkl, y9, y2, y0, yy, fe32]; first | done | rfl)) (cE nb3) (Sm.out ?_))
        | ((first | refine ExF.up ?_ (cE nb3) (Sm.out ?_) | refine ExG.up ?_ (fun _ => cE nb3) (Sm.out ?_) | refine ExG.upJ ?_ (fun _ => cE nb3) (Sm.out ?_) | refine ExG.upI ?_ (fun _ => cE nb3) (Ob.out ?_) (Sm.out ?_)); focus (exact ⟨_, (perm1 (by simp only [hget, hdel, ↓reduceIte, FR.out, d, tkl, y9, y2, y0, yy, fe32]; first | done | rfl))⟩))
        | (refine CallV.row (by simp only [hget, ↓reduceIte, FR.out, d, tkl, y9, y2, y0, yy, fe32]; first | done | rfl) (new_cr Z) (Sm.out ?_))
        | (refine CallV.mkrow (new_cr Z) (Sm.out ?_))
        | (refine CallV.upd (by simp only [hget, ↓reduceIte, FR.out, d, tkl, y9, y2, y0, yy, fe32]; first | done | rfl) (new_cr Z) (Sm.out ?_))
        | (refine CallV.mkobj (new_cr Z) (Sm.out ?_))
        | (first | refine CallV.fn (new_cr Z) (Sm.out ?_) | refine ExF.mk (new_cr Z) (Sm.out ?_) | refine ExG.mk (fun _ => new_cr Z) (Sm.out ?_) | refine ExG.mkJ (fun _ => new_cr Z) (Sm.out ?_) | refine ExG.mkI (Ob.out ?_) (fun _ => new_cr Z) (Sm.out ?_))
        | (refine CallV.updN (perm1 (by simp only [hget, hdel, ↓reduceIte, FR.out, d, tkl, y9, y2, y0, yy, fe32]; first | done | rfl)) (cG2 nb6) (Sm.out ?_))
        | (refine CallV.ex (F := []) (List.Perm.refl _) (cD) (fun g => Sm.out ?_))
        | (refine CallV.updN (perm1 (by simp only [hget, hdel, ↓reduceIte, FR.out, d, tkl, y9, y2, y0, yy, fe32]; first | done | rfl)) (cB nb6) (Sm.out ?_))
        | ((first | refine ExF.up ?_ (cB nb6) (Sm.out ?_) | refine ExG.up ?_ (fun _ => cB nb6) (Sm.out ?_) | refine ExG.upJ ?_ (fun _ => cB nb6) (Sm.out ?_) | refine ExG.upI ?_ (fun _ => cB nb6) (Ob.out ?_) (Sm.out ?_)); focus (exact ⟨_, (perm1 (by simp only [hget, hdel, ↓reduceIte, FR.out, d, tkl, y9, y2, y0, yy, fe32]; first | done | rfl))⟩))
        | (refine WP.seq fun K hK => ?_)
        | (refine WP.region (rvc_sound _ _ (Sm.out ?_)))
        | (refine WP.drawK rfl mixed (by decide +kernel) (Sm.out ?_))
        | (refine Ob.mk ?_; focus (first | assumption | omega | decide | trivial | (intro hob; simp only [hob, ZF]; done) | (intros; (repeat' refine And.intro ?_ ?_) <;> first | assumption | omega | trivial | decide) | (intros; simp only [ZE] at *; (repeat' refine And.intro ?_ ?_) <;> first | assumption | omega | trivial)))
        | (refine And.intro (Ob.out ?_) ?_)
        | (refine WP.block ?_)
        | (refine WP.cond rfl (fun hc => ?_) (fun hc => ?_) <;> (try simp only [ZC, reduceCtorEq, ZD] at hc) <;> (try (exact absurd hc (by decide))) <;> (try (exfalso; omega)))
        | ((first | refine WP.skip ?_ | refine WP.exit ?_); simp only [SeqQ, BlkQ, LoopQ, BodyQ, ↓reduceIte, Nat.reduceEqDiff, reduceCtorEq, look, true_and])
        | (refine WP.ret (Sm.out ?_))
        | (first | refine ExG.no (Sm.out ?_) | refine Or.inl (ExG.no (Sm.out ?_)) | refine Or.inl (And.intro (fun hg => absurd hg (by decide)) (ExG.no (Sm.out ?_))))
        | (refine Rt.mk ?_; refine And.intro ?_ ?_ <;> (intro hg; first | exact absurd hg (by decide) | refine Sm.out ?_))
        | (refine Nu.mk ?_; first | (fail_if_success (have := nb1)); intro nb1 | (fail_if_success (have := nb2)); intro nb2 | (fail_if_success (have := nb3)); intro nb3 | (fail_if_success (have := nb4)); intro nb4 | (fail_if_success (have := nb5)); intro nb5 | (fail_if_success (have := nb6)); intro nb6 | (fail_if_success (have := nb7)); intro nb7 | (fail_if_success (have := nb8)); intro nb8 | (fail_if_success (have := nb9)); intro nb9 | (fail_if_success (have := nb10)); intro nb10 | (fail_if_success (have := nb11)); intro nb11 | (fail_if_success (have := nb12)); intro nb12 | intro nbz)
        | (refine Fr.mk ?_; intro hfr; (first | (have hFRb : _ ≤ _ ∧ _ ≤ _ := And.intro hfr.1 hfr.2.1) | skip); replace FR := Sm.mk (And.intro hfr FR.out); clear hfr; refine Sm.out ?_)
        | (refine Two.mk ?_ ?_)
        | (refine Cs.mk ?_; intro hcs; first | exact False.elim hcs | (exfalso; omega) | (refine Sm.out ?_))
        | (refine OutQ.all ?_ ?_; (focus (simp only [resv, ZK, look, loadv, loadn, loadnm, load1, load1m, hget, ↓reduceIte, Nat.reduceEqDiff, Nat.reduceAdd, Nat.reduceMul, Nat.reduceLeDiff, Nat.reduceLT, reduceCtorEq, TFAmG, d, tkl, y9, y2, y0, yy, fe32, FR.out])); (try simp only [resv, resA, Fn, ZK, look, loadv, loadn, loadnm, load1, load1m, hget, ↓reduceIte, Nat.reduceEqDiff, Nat.reduceAdd, Nat.reduceMul, Nat.reduceLeDiff, Nat.reduceLT, reduceCtorEq, TFAmG, d, tkl, y9, y2, y0, yy, fe32, FR.out]); (try simp [resA, Fn, look, d, tkl, y9, y2, y0, yy, fe32, FR.out]); done)
        | go_step
        | omega
        | (simp only [maxLen_eq]; omega)
        | (refine Or.inr (Rt.mk ?_); refine And.intro ?_ ?_ <;> (intro hg; first | exact absurd hg (by decide) | refine Sm.out ?_))
    | some q =>
      obtain ⟨⟨p2, s2, c2, e2⟩, r2⟩ := q
      have hA2 : gaA Z = alA p2 s2 c2 e2 := by unfold gaA; rw [h]
      have hM2 : gaM Z = rd r2 false := by unfold gaM; rw [h]
      rw [hA2, hM2] at cG2
      have cD := refGet_ct4 Z hb (by omega) _ h
      have cB := fun b => badR b r2 false
      have cL := fun b => leftR b r2
      have hle : r2.length ≤ Z.length := alR_len hb h
      obtain ⟨N, hN⟩ : ∃ N, N = Z.length - r2.length := ⟨_, rfl⟩
      have w1 : IntKind.i64.wrap ((Z.length : Int) - (N : Int)) = (r2.length : Int) := by rw [wrap_i64 (by omega) (by omega)]; omega
      have cD : ACt Try.prog 20 [.slz .u8 Z, iv .i64 0] [] (Fn (.tup [alA p2 s2 c2 e2, iv .i64 (N : Int), bv true])) := by rw [hN]; exact cD
      clear h
      first | (have FRx := FR; clear FRx) | (have FR : Sm (¬ ((1 : Nat) = 0)) := Sm.mk Nat.one_ne_zero)
      repeat' first
        | (refine Sm.mk ?_; try simp -dsimp only [ZK, rvc, drawF, headN, pureH, stp, dvc, calleeOf, gcall, pev, eff, newB, okd, og, ogs, ogo, ogp, slv, bltv, opd, litv, strip, one, both, putE, St.put, look, gdOf, gdv, picka, pickv, pickw, binv, bini, bins, binb, binp, bina, shp, eqCells, unv, convv, nilv, faddv, addp, idxav, idxp, load1, load1m, loadn, loadnm, loadv, hget, hset, hrep, hdel, slicev, bnd, shift1, lenv, IntKind.bits, extractv, fieldv, indexv, min2v, max2v, mkiv, cellsA, fillA, buildv, stC, oneC, rowMB, intsA, plN, appE, appZ, appC, appNZ, appNC, VwL, srcC, srcZ, srcM, isBoolT, isPtrT, isSliceT, uOk, Value.oneCell', Nat.reducePow, Int.reducePow, Nat.reduceAdd, Nat.reduceMul, Nat.reduceSub, Nat.reduceLT, Nat.reduceLeDiff, Nat.reduceEqDiff, Nat.reduceBEq, Nat.reduceDiv, Nat.reduceMod, ↓reduceIte, reduceCtorEq, Int.reduceToNat, Int.reduceLT, Int.reduceLE, TFAmG, SeqQ, BlkQ, LoopQ, BodyQ, d, tkl, y9, y2, y0, yy, w1, fe32, FR.out])
        | (first | refine CallV.fn (awake_ct) (Sm.out ?_) | refine ExF.mk (awake_ct) (Sm.out ?_) | refine ExG.mk (fun _ => awake_ct) (Sm.out ?_) | refine ExG.mkJ (fun _ => awake_ct) (Sm.out ?_) | refine ExG.mkI (Ob.out ?_) (fun _ => awake_ct) (Sm.out ?_))
        | (refine CallV.updN (perm1 (by simp only [hget, hdel, ↓reduceIte, FR.out, d, tkl, y9, y2, y0, yy, w1, fe32]; first | done | rfl)) (cP nb2) (Sm.out ?_))
        | (refine CallV.row (by simp only [hget, ↓reduceIte, FR.out, d, tkl, y9, y2, y0, yy, w1, fe32]; first | done | rfl) (new_cr D) (Sm.out ?_))
        | (refine CallV.mkrow (new_cr D) (Sm.out ?_))
        | (refine CallV.upd (by simp only [hget, ↓reduceIte, FR.out, d, tkl, y9, y2, y0, yy, w1, fe32]; first | done | rfl) (new_cr D) (Sm.out ?_))
        | (refine CallV.mkobj (new_cr D) (Sm.out ?_))
        | (first | refine CallV.fn (new_cr D) (Sm.out ?_) | refine ExF.mk (new_cr D) (Sm.out ?_) | refine ExG.mk (fun _ => new_cr D) (Sm.out ?_) | refine ExG.mkJ (fun _ => new_cr D) (Sm.out ?_) | refine ExG.mkI (Ob.out ?_) (fun _ => new_cr D) (Sm.out ?_))
        | (refine CallV.updN (perm1 (by simp only [hget, hdel, ↓reduceIte, FR.out, d, tkl, y9, y2, y0, yy, w1, fe32]; first | done | rfl)) (cG nb3) (Sm.out ?_))
        | (first | refine CallV.fn (cR) (Sm.out ?_) | refine ExF.mk (cR) (Sm.out ?_) | refine ExG.mk (fun _ => cR) (Sm.out ?_) | refine ExG.mkJ (fun _ => cR) (Sm.out ?_) | refine ExG.mkI (Ob.out ?_) (fun _ => cR) (Sm.out ?_))
        | (first | refine CallV.fn (cF) (Sm.out ?_) | refine ExF.mk (cF) (Sm.out ?_) | refine ExG.mk (fun _ => cF) (Sm.out ?_) | refine ExG.mkJ (fun _ => cF) (Sm.out ?_) | refine ExG.mkI (Ob.out ?_) (fun _ => cF) (Sm.out ?_))
        | (refine CallV.updN (perm1 (by simp only [hget, hdel, ↓reduceIte, FR.out, d, tkl, y9, y2, y0, yy, w1, fe32]; first | done | rfl)) (cE nb3) (Sm.out ?_))
        | ((first | refine ExF.up ?_ (cE nb3) (Sm.out ?_) | refine ExG.up ?_ (fun _ => cE nb3) (Sm.out ?_) | refine ExG.upJ ?_ (fun _ => cE nb3) (Sm.out ?_) | refine ExG.upI ?_ (fun _ => cE nb3) (Ob.out ?_) (Sm.out ?_)); focus (exact ⟨_, (perm1 (by simp only [hget, hdel, ↓reduceIte, FR.out, d, tkl, y9, y2, y0, yy, w1, fe32]; first | done | rfl))⟩))
        | (refine CallV.row (by simp only [hget, ↓reduceIte, FR.out, d, tkl, y9, y2, y0, yy, w1, fe32]; first | done | rfl) (new_cr Z) (Sm.out ?_))
        | (refine CallV.mkrow (new_cr Z) (Sm.out ?_))
        | (refine CallV.upd (by simp only [hget, ↓reduceIte, FR.out, d, tkl, y9, y2, y0, yy, w1, fe32]; first | done | rfl) (new_cr Z) (Sm.out ?_))
        | (refine CallV.mkobj (new_cr Z) (Sm.out ?_))
        | (first | refine CallV.fn (new_cr Z) (Sm.out ?_) | refine ExF.mk (new_cr Z) (Sm.out ?_) | refine ExG.mk (fun _ => new_cr Z) (Sm.out ?_) | refine ExG.mkJ (fun _ => new_cr Z) (Sm.out ?_) | refine ExG.mkI (Ob.out ?_) (fun _ => new_cr Z) (Sm.out ?_))
        | (refine CallV.updN (perm1 (by simp only [hget, hdel, ↓reduceIte, FR.out, d, tkl, y9, y2, y0, yy, w1, fe32]; first | done | rfl)) (cG2 nb6) (Sm.out ?_))
        | (first | refine CallV.fn (cD) (Sm.out ?_) | refine ExF.mk (cD) (Sm.out ?_) | refine ExG.mk (fun _ => cD) (Sm.out ?_) | refine ExG.mkJ (fun _ => cD) (Sm.out ?_) | refine ExG.mkI (Ob.out ?_) (fun _ => cD) (Sm.out ?_))
        | (refine CallV.updN (perm1 (by simp only [hget, hdel, ↓reduceIte, FR.out, d, tkl, y9, y2, y0, yy, w1, fe32]; first | done | rfl)) (cB nb6) (Sm.out ?_))
        | ((first | refine ExF.up ?_ (cB nb6) (Sm.out ?_) | refine ExG.up ?_ (fun _ => cB nb6) (Sm.out ?_) | refine ExG.upJ ?_ (fun _ => cB nb6) (Sm.out ?_) | refine ExG.upI ?_ (fun _ => cB nb6) (Ob.out ?_) (Sm.out ?_)); focus (exact ⟨_, (perm1 (by simp only [hget, hdel, ↓reduceIte, FR.out, d, tkl, y9, y2, y0, yy, w1, fe32]; first | done | rfl))⟩))
        | (refine CallV.updN (perm1 (by simp only [hget, hdel, ↓reduceIte, FR.out, d, tkl, y9, y2, y0, yy, w1, fe32]; first | done | rfl)) (cL nb6) (Sm.out ?_))
        | ((first | refine ExF.up ?_ (cL nb6) (Sm.out ?_) | refine ExG.up ?_ (fun _ => cL nb6) (Sm.out ?_) | refine ExG.upJ ?_ (fun _ => cL nb6) (Sm.out ?_) | refine ExG.upI ?_ (fun _ => cL nb6) (Ob.out ?_) (Sm.out ?_)); focus (exact ⟨_, (perm1 (by simp only [hget, hdel, ↓reduceIte, FR.out, d, tkl, y9, y2, y0, yy, w1, fe32]; first | done | rfl))⟩))
        | (refine WP.seq fun K hK => ?_)
        | (refine WP.region (rvc_sound _ _ (Sm.out ?_)))
        | (refine WP.drawK rfl mixed (by decide +kernel) (Sm.out ?_))
        | (refine Ob.mk ?_; focus (first | assumption | omega | decide | trivial | (intro hob; simp only [hob, ZF]; done) | (intros; (repeat' refine And.intro ?_ ?_) <;> first | assumption | omega | trivial | decide) | (intros; simp only [ZE] at *; (repeat' refine And.intro ?_ ?_) <;> first | assumption | omega | trivial)))
        | (refine And.intro (Ob.out ?_) ?_)
        | (refine WP.block ?_)
        | (refine WP.cond rfl (fun hc => ?_) (fun hc => ?_) <;> (try simp only [ZC, reduceCtorEq, ZD] at hc) <;> (try (exact absurd hc (by decide))) <;> (try (exfalso; omega)))
        | ((first | refine WP.skip ?_ | refine WP.exit ?_); simp only [SeqQ, BlkQ, LoopQ, BodyQ, ↓reduceIte, Nat.reduceEqDiff, reduceCtorEq, look, true_and])
        | (refine WP.ret (Sm.out ?_))
        | (first | refine ExG.no (Sm.out ?_) | refine Or.inl (ExG.no (Sm.out ?_)) | refine Or.inl (And.intro (fun hg => absurd hg (by decide)) (ExG.no (Sm.out ?_))))
        | (refine Rt.mk ?_; refine And.intro ?_ ?_ <;> (intro hg; first | exact absurd hg (by decide) | refine Sm.out ?_))
        | (refine Nu.mk ?_; first | (fail_if_success (have := nb1)); intro nb1 | (fail_if_success (have := nb2)); intro nb2 | (fail_if_success (have := nb3)); intro nb3 | (fail_if_success (have := nb4)); intro nb4 | (fail_if_success (have := nb5)); intro nb5 | (fail_if_success (have := nb6)); intro nb6 | (fail_if_success (have := nb7)); intro nb7 | (fail_if_success (have := nb8)); intro nb8 | (fail_if_success (have := nb9)); intro nb9 | (fail_if_success (have := nb10)); intro nb10 | (fail_if_success (have := nb11)); intro nb11 | (fail_if_success (have := nb12)); intro nb12 | intro nbz)
        | (refine Fr.mk ?_; intro hfr; (first | (have hFRb : _ ≤ _ ∧ _ ≤ _ := And.intro hfr.1 hfr.2.1) | skip); replace FR := Sm.mk (And.intro hfr FR.out); clear hfr; refine Sm.out ?_)
        | (refine Two.mk ?_ ?_)
        | (refine Cs.mk ?_; intro hcs; first | exact False.elim hcs | (exfalso; omega) | (refine Sm.out ?_))
        | (refine OutQ.all ?_ ?_; (focus (simp only [resv, ZK, look, loadv, loadn, loadnm, load1, load1m, hget, ↓reduceIte, Nat.reduceEqDiff, Nat.reduceAdd, Nat.reduceMul, Nat.reduceLeDiff, Nat.reduceLT, reduceCtorEq, TFAmG, d, tkl, y9, y2, y0, yy, w1, fe32, FR.out])); (try simp only [resv, resA, Fn, ZK, look, loadv, loadn, loadnm, load1, load1m, hget, ↓reduceIte, Nat.reduceEqDiff, Nat.reduceAdd, Nat.reduceMul, Nat.reduceLeDiff, Nat.reduceLT, reduceCtorEq, TFAmG, d, tkl, y9, y2, y0, yy, w1, fe32, FR.out]); (try simp [resA, Fn, look, d, tkl, y9, y2, y0, yy, w1, fe32, FR.out]); done)
        | go_step
        | omega
        | (simp only [maxLen_eq]; omega)
        | (refine Or.inr (Rt.mk ?_); refine And.intro ?_ ?_ <;> (intro hg; first | exact absurd hg (by decide) | refine Sm.out ?_))
  | false =>
    rw [hr] at cR hput
    have hA1 : gaA D = alA 0 0 0 0 := by unfold gaA; rw [hput]; rfl
    rw [hA1, hM1] at cG
    cases h : alR Z with
    | none =>
      have hA2 : gaA Z = alA 0 0 0 0 := by unfold gaA; rw [h]
      have hM2 : gaM Z = rdN := by unfold gaM; rw [h]
      rw [hA2, hM2] at cG2
      have cD := refGet_ct3 Z hb (by omega) h
      have cB := fun b => bad_e b true
      first | (have FRx := FR; clear FRx) | (have FR : Sm (¬ ((1 : Nat) = 0)) := Sm.mk Nat.one_ne_zero)
      repeat' first
        | (refine Sm.mk ?_; try simp -dsimp only [ZK, rvc, drawF, headN, pureH, stp, dvc, calleeOf, gcall, pev, eff, newB, okd, og, ogs, ogo, ogp, slv, bltv, opd, litv, strip, one, both, putE, St.put, look, gdOf, gdv, picka, pickv, pickw, binv, bini, bins, binb, binp, bina, shp, eqCells, unv, convv, nilv, faddv, addp, idxav, idxp, load1, load1m, loadn, loadnm, loadv, hget, hset, hrep, hdel, slicev, bnd, shift1, lenv, IntKind.bits, extractv, fieldv, indexv, min2v, max2v, mkiv, cellsA, fillA, buildv, stC, oneC, rowMB, intsA, plN, appE, appZ, appC, appNZ, appNC, VwL, srcC, srcZ, srcM, isBoolT, isPtrT, isSliceT, uOk, Value.oneCell', Nat.reducePow, Int.reducePow, Nat.reduceAdd, Nat.reduceMul, Nat.reduceSub, Nat.reduceLT, Nat.reduceLeDiff, Nat.reduceEqDiff, Nat.reduceBEq, Nat.reduceDiv, Nat.reduceMod, ↓reduceIte, reduceCtorEq, Int.reduceToNat, Int.reduceLT, Int.reduceLE, TFAmG, SeqQ, BlkQ, LoopQ, BodyQ, d, tkl, y9, y2, y0, yy, fe32, FR.out])
        | (first | refine CallV.fn (awake_ct) (Sm.out ?_) | refine ExF.mk (awake_ct) (Sm.out ?_) | refine ExG.mk (fun _ => awake_ct) (Sm.out ?_) | refine ExG.mkJ (fun _ => awake_ct) (Sm.out ?_) | refine ExG.mkI (Ob.out ?_) (fun _ => awake_ct) (Sm.out ?_))
        | (refine CallV.updN (perm1 (by simp only [hget, hdel, ↓reduceIte, FR.out, d, tkl, y9, y2, y0, yy, fe32]; first | done | rfl)) (cP nb2) (Sm.out ?_))
        | (refine CallV.row (by simp only [hget, ↓reduceIte, FR.out, d, tkl, y9, y2, y0, yy, fe32]; first | done | rfl) (new_cr D) (Sm.out ?_))
        | (refine CallV.mkrow (new_cr D) (Sm.out ?_))
        | (refine CallV.upd (by simp only [hget, ↓reduceIte, FR.out, d, tkl, y9, y2, y0, yy, fe32]; first | done | rfl) (new_cr D) (Sm.out ?_))
        | (refine CallV.mkobj (new_cr D) (Sm.out ?_))
        | (first | refine CallV.fn (new_cr D) (Sm.out ?_) | refine ExF.mk (new_cr D) (Sm.out ?_) | refine ExG.mk (fun _ => new_cr D) (Sm.out ?_) | refine ExG.mkJ (fun _ => new_cr D) (Sm.out ?_) | refine ExG.mkI (Ob.out ?_) (fun _ => new_cr D) (Sm.out ?_))
        | (refine CallV.updN (perm1 (by simp only [hget, hdel, ↓reduceIte, FR.out, d, tkl, y9, y2, y0, yy, fe32]; first | done | rfl)) (cG nb3) (Sm.out ?_))
        | (first | refine CallV.fn (cR) (Sm.out ?_) | refine ExF.mk (cR) (Sm.out ?_) | refine ExG.mk (fun _ => cR) (Sm.out ?_) | refine ExG.mkJ (fun _ => cR) (Sm.out ?_) | refine ExG.mkI (Ob.out ?_) (fun _ => cR) (Sm.out ?_))
        | (first | refine CallV.fn (cF) (Sm.out ?_) | refine ExF.mk (cF) (Sm.out ?_) | refine ExG.mk (fun _ => cF) (Sm.out ?_) | refine ExG.mkJ (fun _ => cF) (Sm.out ?_) | refine ExG.mkI (Ob.out ?_) (fun _ => cF) (Sm.out ?_))
        | (refine CallV.updN (perm1 (by simp only [hget, hdel, ↓reduceIte, FR.out, d, tkl, y9, y2, y0, yy, fe32]; first | done | rfl)) (cE nb3) (Sm.out ?_))
        | ((first | refine ExF.up ?_ (cE nb3) (Sm.out ?_) | refine ExG.up ?_ (fun _ => cE nb3) (Sm.out ?_) | refine ExG.upJ ?_ (fun _ => cE nb3) (Sm.out ?_) | refine ExG.upI ?_ (fun _ => cE nb3) (Ob.out ?_) (Sm.out ?_)); focus (exact ⟨_, (perm1 (by simp only [hget, hdel, ↓reduceIte, FR.out, d, tkl, y9, y2, y0, yy, fe32]; first | done | rfl))⟩))
        | (refine CallV.row (by simp only [hget, ↓reduceIte, FR.out, d, tkl, y9, y2, y0, yy, fe32]; first | done | rfl) (new_cr Z) (Sm.out ?_))
        | (refine CallV.mkrow (new_cr Z) (Sm.out ?_))
        | (refine CallV.upd (by simp only [hget, ↓reduceIte, FR.out, d, tkl, y9, y2, y0, yy, fe32]; first | done | rfl) (new_cr Z) (Sm.out ?_))
        | (refine CallV.mkobj (new_cr Z) (Sm.out ?_))
        | (first | refine CallV.fn (new_cr Z) (Sm.out ?_) | refine ExF.mk (new_cr Z) (Sm.out ?_) | refine ExG.mk (fun _ => new_cr Z) (Sm.out ?_) | refine ExG.mkJ (fun _ => new_cr Z) (Sm.out ?_) | refine ExG.mkI (Ob.out ?_) (fun _ => new_cr Z) (Sm.out ?_))
        | (refine CallV.updN (perm1 (by simp only [hget, hdel, ↓reduceIte, FR.out, d, tkl, y9, y2, y0, yy, fe32]; first | done | rfl)) (cG2 nb6) (Sm.out ?_))
        | (refine CallV.ex (F := []) (List.Perm.refl _) (cD) (fun g => Sm.out ?_))
        | (refine CallV.updN (perm1 (by simp only [hget, hdel, ↓reduceIte, FR.out, d, tkl, y9, y2, y0, yy, fe32]; first | done | rfl)) (cB nb6) (Sm.out ?_))
        | ((first | refine ExF.up ?_ (cB nb6) (Sm.out ?_) | refine ExG.up ?_ (fun _ => cB nb6) (Sm.out ?_) | refine ExG.upJ ?_ (fun _ => cB nb6) (Sm.out ?_) | refine ExG.upI ?_ (fun _ => cB nb6) (Ob.out ?_) (Sm.out ?_)); focus (exact ⟨_, (perm1 (by simp only [hget, hdel, ↓reduceIte, FR.out, d, tkl, y9, y2, y0, yy, fe32]; first | done | rfl))⟩))
        | (refine WP.seq fun K hK => ?_)
        | (refine WP.region (rvc_sound _ _ (Sm.out ?_)))
        | (refine WP.drawK rfl mixed (by decide +kernel) (Sm.out ?_))
        | (refine Ob.mk ?_; focus (first | assumption | omega | decide | trivial | (intro hob; simp only [hob, ZF]; done) | (intros; (repeat' refine And.intro ?_ ?_) <;> first | assumption | omega | trivial | decide) | (intros; simp only [ZE] at *; (repeat' refine And.intro ?_ ?_) <;> first | assumption | omega | trivial)))
        | (refine And.intro (Ob.out ?_) ?_)
        | (refine WP.block ?_)
        | (refine WP.cond rfl (fun hc => ?_) (fun hc => ?_) <;> (try simp only [ZC, reduceCtorEq, ZD] at hc) <;> (try (exact absurd hc (by decide))) <;> (try (exfalso; omega)))
        | ((first | refine WP.skip ?_ | refine WP.exit ?_); simp only [SeqQ, BlkQ, LoopQ, BodyQ, ↓reduceIte, Nat.reduceEqDiff, reduceCtorEq, look, true_and])
        | (refine WP.ret (Sm.out ?_))
        | (first | refine ExG.no (Sm.out ?_) | refine Or.inl (ExG.no (Sm.out ?_)) | refine Or.inl (And.intro (fun hg => absurd hg (by decide)) (ExG.no (Sm.out ?_))))
        | (refine Rt.mk ?_; refine And.intro ?_ ?_ <;> (intro hg; first | exact absurd hg (by decide) | refine Sm.out ?_))
        | (refine Nu.mk ?_; first | (fail_if_success (have := nb1)); intro nb1 | (fail_if_success (have := nb2)); intro nb2 | (fail_if_success (have := nb3)); intro nb3 | (fail_if_success (have := nb4)); intro nb4 | (fail_if_success (have := nb5)); intro nb5 | (fail_if_success (have := nb6)); intro nb6 | (fail_if_success (have := nb7)); intro nb7 | (fail_if_success (have := nb8)); intro nb8 | (fail_if_success (have := nb9)); intro nb9 | (fail_if_success (have := nb10)); intro nb10 | (fail_if_success (have := nb11)); intro nb11 | (fail_if_success (have := nb12)); intro nb12 | intro nbz)
        | (refine Fr.mk ?_; intro hfr; (first | (have hFRb : _ ≤ _ ∧ _ ≤ _ := And.intro hfr.1 hfr.2.1) | skip); replace FR := Sm.mk (And.intro hfr FR.out); clear hfr; refine Sm.out ?_)
        | (refine Two.mk ?_ ?_)
        | (refine Cs.mk ?_; intro hcs; first | exact False.elim hcs | (exfalso; omega) | (refine Sm.out ?_))
        | (refine OutQ.all ?_ ?_; (focus (simp only [resv, ZK, look, loadv, loadn, loadnm, load1, load1m, hget, ↓reduceIte, Nat.reduceEqDiff, Nat.reduceAdd, Nat.reduceMul, Nat.reduceLeDiff, Nat.reduceLT, reduceCtorEq, TFAmG, d, tkl, y9, y2, y0, yy, fe32, FR.out])); (try simp only [resv, resA, Fn, ZK, look, loadv, loadn, loadnm, load1, load1m, hget, ↓reduceIte, Nat.reduceEqDiff, Nat.reduceAdd, Nat.reduceMul, Nat.reduceLeDiff, Nat.reduceLT, reduceCtorEq, TFAmG, d, tkl, y9, y2, y0, yy, fe32, FR.out]); (try simp [resA, Fn, look, d, tkl, y9, y2, y0, yy, fe32, FR.out]); done)
        | go_step
        | omega
        | (simp only [maxLen_eq]; omega)
        | (refine Or.inr (Rt.mk ?_); refine And.intro ?_ ?_ <;> (intro hg; first | exact absurd hg (by decide) | refine Sm.out ?_))
    | some q =>
      obtain ⟨⟨p2, s2, c2, e2⟩, r2⟩ := q
      have hA2 : gaA Z = alA p2 s2 c2 e2 := by unfold gaA; rw [h]
      have hM2 : gaM Z = rd r2 false := by unfold gaM; rw [h]
      rw [hA2, hM2] at cG2
      have cD := refGet_ct4 Z hb (by omega) _ h
      have cB := fun b => badR b r2 false
      have cL := fun b => leftR b r2
      have hle : r2.length ≤ Z.length := alR_len hb h
      obtain ⟨N, hN⟩ : ∃ N, N = Z.length - r2.length := ⟨_, rfl⟩
      have w1 : IntKind.i64.wrap ((Z.length : Int) - (N : Int)) = (r2.length : Int) := by rw [wrap_i64 (by omega) (by omega)]; omega
      have cD : ACt Try.prog 20 [.slz .u8 Z, iv .i64 0] [] (Fn (.tup [alA p2 s2 c2 e2, iv .i64 (N : Int), bv true])) := by rw [hN]; exact cD
      clear h
      first | (have FRx := FR; clear FRx) | (have FR : Sm (¬ ((1 : Nat) = 0)) := Sm.mk Nat.one_ne_zero)
      repeat' first
        | (refine Sm.mk ?_; try simp -dsimp only [ZK, rvc, drawF, headN, pureH, stp, dvc, calleeOf, gcall, pev, eff, newB, okd, og, ogs, ogo, ogp, slv, bltv, opd, litv, strip, one, both, putE, St.put, look, gdOf, gdv, picka, pickv, pickw, binv, bini, bins, binb, binp, bina, shp, eqCells, unv, convv, nilv, faddv, addp, idxav, idxp, load1, load1m, loadn, loadnm, loadv, hget, hset, hrep, hdel, slicev, bnd, shift1, lenv, IntKind.bits, extractv, fieldv, indexv, min2v, max2v, mkiv, cellsA, fillA, buildv, stC, oneC, rowMB, intsA, plN, appE, appZ, appC, appNZ, appNC, VwL, srcC, srcZ, srcM, isBoolT, isPtrT, isSliceT, uOk, Value.oneCell', Nat.reducePow, Int.reducePow, Nat.reduceAdd, Nat.reduceMul, Nat.reduceSub, Nat.reduceLT, Nat.reduceLeDiff, Nat.reduceEqDiff, Nat.reduceBEq, Nat.reduceDiv, Nat.reduceMod, ↓reduceIte, reduceCtorEq, Int.reduceToNat, Int.reduceLT, Int.reduceLE, TFAmG, SeqQ, BlkQ, LoopQ, BodyQ, d, tkl, y9, y2, y0, yy, w1, fe32, FR.out])
        | (first | refine CallV.fn (awake_ct) (Sm.out ?_) | refine ExF.mk (awake_ct) (Sm.out ?_) | refine ExG.mk (fun _ => awake_ct) (Sm.out ?_) | refine ExG.mkJ (fun _ => awake_ct) (Sm.out ?_) | refine ExG.mkI (Ob.out ?_) (fun _ => awake_ct) (Sm.out ?_))
        | (refine CallV.updN (perm1 (by simp only [hget, hdel, ↓reduceIte, FR.out, d, tkl, y9, y2, y0, yy, w1, fe32]; first | done | rfl)) (cP nb2) (Sm.out ?_))
        | (refine CallV.row (by simp only [hget, ↓reduceIte, FR.out, d, tkl, y9, y2, y0, yy, w1, fe32]; first | done | rfl) (new_cr D) (Sm.out ?_))
        | (refine CallV.mkrow (new_cr D) (Sm.out ?_))
        | (refine CallV.upd (by simp only [hget, ↓reduceIte, FR.out, d, tkl, y9, y2, y0, yy, w1, fe32]; first | done | rfl) (new_cr D) (Sm.out ?_))
        | (refine CallV.mkobj (new_cr D) (Sm.out ?_))
        | (first | refine CallV.fn (new_cr D) (Sm.out ?_) | refine ExF.mk (new_cr D) (Sm.out ?_) | refine ExG.mk (fun _ => new_cr D) (Sm.out ?_) | refine ExG.mkJ (fun _ => new_cr D) (Sm.out ?_) | refine ExG.mkI (Ob.out ?_) (fun _ => new_cr D) (Sm.out ?_))
        | (refine CallV.updN (perm1 (by simp only [hget, hdel, ↓reduceIte, FR.out, d, tkl, y9, y2, y0, yy, w1, fe32]; first | done | rfl)) (cG nb3) (Sm.out ?_))
        | (first | refine CallV.fn (cR) (Sm.out ?_) | refine ExF.mk (cR) (Sm.out ?_) | refine ExG.mk (fun _ => cR) (Sm.out ?_) | refine ExG.mkJ (fun _ => cR) (Sm.out ?_) | refine ExG.mkI (Ob.out ?_) (fun _ => cR) (Sm.out ?_))
        | (first | refine CallV.fn (cF) (Sm.out ?_) | refine ExF.mk (cF) (Sm.out ?_) | refine ExG.mk (fun _ => cF) (Sm.out ?_) | refine ExG.mkJ (fun _ => cF) (Sm.out ?_) | refine ExG.mkI (Ob.out ?_) (fun _ => cF) (Sm.out ?_))
        | (refine CallV.updN (perm1 (by simp only [hget, hdel, ↓reduceIte, FR.out, d, tkl, y9, y2, y0, yy, w1, fe32]; first | done | rfl)) (cE nb3) (Sm.out ?_))
        | ((first | refine ExF.up ?_ (cE nb3) (Sm.out ?_) | refine ExG.up ?_ (fun _ => cE nb3) (Sm.out ?_) | refine ExG.upJ ?_ (fun _ => cE nb3) (Sm.out ?_) | refine ExG.upI ?_ (fun _ => cE nb3) (Ob.out ?_) (Sm.out ?_)); focus (exact ⟨_, (perm1 (by simp only [hget, hdel, ↓reduceIte, FR.out, d, tkl, y9, y2, y0, yy, w1, fe32]; first | done | rfl))⟩))
        | (refine CallV.row (by simp only [hget, ↓reduceIte, FR.out, d, tkl, y9, y2, y0, yy, w1, fe32]; first | done | rfl) (new_cr Z) (Sm.out ?_))
        | (refine CallV.mkrow (new_cr Z) (Sm.out ?_))
        | (refine CallV.upd (by simp only [hget, ↓reduceIte, FR.out, d, tkl, y9, y2, y0, yy, w1, fe32]; first | done | rfl) (new_cr Z) (Sm.out ?_))
        | (refine CallV.mkobj (new_cr Z) (Sm.out ?_))
        | (first | refine CallV.fn (new_cr Z) (Sm.out ?_) | refine ExF.mk (new_cr Z) (Sm.out ?_) | refine ExG.mk (fun _ => new_cr Z) (Sm.out ?_) | refine ExG.mkJ (fun _ => new_cr Z) (Sm.out ?_) | refine ExG.mkI (Ob.out ?_) (fun _ => new_cr Z) (Sm.out ?_))
        | (refine CallV.updN (perm1 (by simp only [hget, hdel, ↓reduceIte, FR.out, d, tkl, y9, y2, y0, yy, w1, fe32]; first | done | rfl)) (cG2 nb6) (Sm.out ?_))
        | (first | refine CallV.fn (cD) (Sm.out ?_) | refine ExF.mk (cD) (Sm.out ?_) | refine ExG.mk (fun _ => cD) (Sm.out ?_) | refine ExG.mkJ (fun _ => cD) (Sm.out ?_) | refine ExG.mkI (Ob.out ?_) (fun _ => cD) (Sm.out ?_))
        | (refine CallV.updN (perm1 (by simp only [hget, hdel, ↓reduceIte, FR.out, d, tkl, y9, y2, y0, yy, w1, fe32]; first | done | rfl)) (cB nb6) (Sm.out ?_))
        | ((first | refine ExF.up ?_ (cB nb6) (Sm.out ?_) | refine ExG.up ?_ (fun _ => cB nb6) (Sm.out ?_) | refine ExG.upJ ?_ (fun _ => cB nb6) (Sm.out ?_) | refine ExG.upI ?_ (fun _ => cB nb6) (Ob.out ?_) (Sm.out ?_)); focus (exact ⟨_, (perm1 (by simp only [hget, hdel, ↓reduceIte, FR.out, d, tkl, y9, y2, y0, yy, w1, fe32]; first | done | rfl))⟩))
        | (refine CallV.updN (perm1 (by simp only [hget, hdel, ↓reduceIte, FR.out, d, tkl, y9, y2, y0, yy, w1, fe32]; first | done | rfl)) (cL nb6) (Sm.out ?_))
        | ((first | refine ExF.up ?_ (cL nb6) (Sm.out ?_) | refine ExG.up ?_ (fun _ => cL nb6) (Sm.out ?_) | refine ExG.upJ ?_ (fun _ => cL nb6) (Sm.out ?_) | refine ExG.upI ?_ (fun _ => cL nb6) (Ob.out ?_) (Sm.out ?_)); focus (exact ⟨_, (perm1 (by simp only [hget, hdel, ↓reduceIte, FR.out, d, tkl, y9, y2, y0, yy, w1, fe32]; first | done | rfl))⟩))
        | (refine WP.seq fun K hK => ?_)
        | (refine WP.region (rvc_sound _ _ (Sm.out ?_)))
        | (refine WP.drawK rfl mixed (by decide +kernel) (Sm.out ?_))
        | (refine Ob.mk ?_; focus (first | assumption | omega | decide | trivial | (intro hob; simp only [hob, ZF]; done) | (intros; (repeat' refine And.intro ?_ ?_) <;> first | assumption | omega | trivial | decide) | (intros; simp only [ZE] at *; (repeat' refine And.intro ?_ ?_) <;> first | assumption | omega | trivial)))
        | (refine And.intro (Ob.out ?_) ?_)
        | (refine WP.block ?_)
        | (refine WP.cond rfl (fun hc => ?_) (fun hc => ?_) <;> (try simp only [ZC, reduceCtorEq, ZD] at hc) <;> (try (exact absurd hc (by decide))) <;> (try (exfalso; omega)))
        | ((first | refine WP.skip ?_ | refine WP.exit ?_); simp only [SeqQ, BlkQ, LoopQ, BodyQ, ↓reduceIte, Nat.reduceEqDiff, reduceCtorEq, look, true_and])
        | (refine WP.ret (Sm.out ?_))
        | (first | refine ExG.no (Sm.out ?_) | refine Or.inl (ExG.no (Sm.out ?_)) | refine Or.inl (And.intro (fun hg => absurd hg (by decide)) (ExG.no (Sm.out ?_))))
        | (refine Rt.mk ?_; refine And.intro ?_ ?_ <;> (intro hg; first | exact absurd hg (by decide) | refine Sm.out ?_))
        | (refine Nu.mk ?_; first | (fail_if_success (have := nb1)); intro nb1 | (fail_if_success (have := nb2)); intro nb2 | (fail_if_success (have := nb3)); intro nb3 | (fail_if_success (have := nb4)); intro nb4 | (fail_if_success (have := nb5)); intro nb5 | (fail_if_success (have := nb6)); intro nb6 | (fail_if_success (have := nb7)); intro nb7 | (fail_if_success (have := nb8)); intro nb8 | (fail_if_success (have := nb9)); intro nb9 | (fail_if_success (have := nb10)); intro nb10 | (fail_if_success (have := nb11)); intro nb11 | (fail_if_success (have := nb12)); intro nb12 | intro nbz)
        | (refine Fr.mk ?_; intro hfr; (first | (have hFRb : _ ≤ _ ∧ _ ≤ _ := And.intro hfr.1 hfr.2.1) | skip); replace FR := Sm.mk (And.intro hfr FR.out); clear hfr; refine Sm.out ?_)
        | (refine Two.mk ?_ ?_)
        | (refine Cs.mk ?_; intro hcs; first | exact False.elim hcs | (exfalso; omega) | (refine Sm.out ?_))
        | (refine OutQ.all ?_ ?_; (focus (simp only [resv, ZK, look, loadv, loadn, loadnm, load1, load1m, hget, ↓reduceIte, Nat.reduceEqDiff, Nat.reduceAdd, Nat.reduceMul, Nat.reduceLeDiff, Nat.reduceLT, reduceCtorEq, TFAmG, d, tkl, y9, y2, y0, yy, w1, fe32, FR.out])); (try simp only [resv, resA, Fn, ZK, look, loadv, loadn, loadnm, load1, load1m, hget, ↓reduceIte, Nat.reduceEqDiff, Nat.reduceAdd, Nat.reduceMul, Nat.reduceLeDiff, Nat.reduceLT, reduceCtorEq, TFAmG, d, tkl, y9, y2, y0, yy, w1, fe32, FR.out]); (try simp [resA, Fn, look, d, tkl, y9, y2, y0, yy, w1, fe32, FR.out]); done)
        | go_step
        | omega
        | (simp only [maxLen_eq]; omega)
        | (refine Or.inr (Rt.mk ?_); refine And.intro ?_ ?_ <;> (intro hg; first | exact absurd hg (by decide) | refine Sm.out ?_))
theorem bytes_law {xs : List AV} (bs : List UInt8) (hx : Shp alTy xs) : ACt Try.prog 6 [.agg xs, .slz .u8 (ub bs)] [] (fun r _ => r = bv true) := by
  obtain ⟨p, s, c, e, h⟩ := al_shp hx
  rw [h]
  refine bytes_ct p s c e (ub bs) fun x hx => ?_
  simp only [ub, List.mem_map] at hx
  obtain ⟨b, _, rfl⟩ := hx
  have := b.toNat_lt
  omega
end Go.Proofs.Ytljfldoekamccaa
