/-
  The walks and the laws that the statement leans on, part 13.
-/
import Derived.Test.YtbnkmhlnoaebcaaZ12
namespace Go.Proofs.Ytbnkmhlnoaebcaa
open Go Wi
set_option linter.unusedVariables false
set_option linter.unusedSimpArgs false
theorem TFRhK : (((((((type_of% tyc0) ∧ (type_of% tyc2)) ∧ ((type_of% zmb2) ∧ (type_of% tyc3))) ∧ (((type_of% zmb3) ∧ (type_of% tyc4)) ∧ ((type_of% zmb4) ∧ (type_of% tyc5)))) ∧ ((((type_of% zmb5) ∧ (type_of% tyc35)) ∧ ((type_of% zmb35) ∧ (type_of% tyc36))) ∧ (((type_of% elt36) ∧ (type_of% mkz36)) ∧ ((type_of% mkc36) ∧ (type_of% apT36))))) ∧ (((((type_of% elk36) ∧ (type_of% zmb36)) ∧ ((type_of% tyc38) ∧ (type_of% foff38_0))) ∧ (((type_of% fpart38_0) ∧ (type_of% foff38_1)) ∧ ((type_of% fpart38_1) ∧ (type_of% foff38_2)))) ∧ ((((type_of% fpart38_2) ∧ (type_of% foff38_3)) ∧ ((type_of% fpart38_3) ∧ (type_of% zmb38))) ∧ (((type_of% bldT38) ∧ (type_of% tyc41)) ∧ ((type_of% zmb41) ∧ ((type_of% tyc43) ∧ (type_of% foff43_0))))))) ∧ ((((((type_of% fpart43_0) ∧ (type_of% foff43_1)) ∧ ((type_of% fpart43_1) ∧ (type_of% fe43))) ∧ (((type_of% zmb43) ∧ (type_of% bldT43)) ∧ ((type_of% tyc50) ∧ (type_of% elt50)))) ∧ ((((type_of% mkz50) ∧ (type_of% apT50)) ∧ ((type_of% elk50) ∧ (type_of% zmb50))) ∧ (((type_of% tyc70) ∧ (type_of% foff70_0)) ∧ ((type_of% fpart70_0) ∧ (type_of% foff70_1))))) ∧ (((((type_of% fpart70_1) ∧ (type_of% zmb70)) ∧ ((type_of% bldT70) ∧ (type_of% tyc79))) ∧ (((type_of% Try.underlying0) ∧ (type_of% Try.underlying2)) ∧ ((type_of% Try.underlying3) ∧ (type_of% Try.underlying4)))) ∧ ((((type_of% Try.underlying5) ∧ (type_of% Try.underlying35)) ∧ ((type_of% Try.underlying36) ∧ (type_of% Try.underlying38))) ∧ (((type_of% Try.underlying41) ∧ (type_of% Try.underlying43)) ∧ ((type_of% Try.underlying50) ∧ ((type_of% Try.underlying70) ∧ (type_of% Try.underlying79)))))))) :=
  ⟨⟨⟨⟨⟨⟨tyc0, tyc2⟩, ⟨zmb2, tyc3⟩⟩, ⟨⟨zmb3, tyc4⟩, ⟨zmb4, tyc5⟩⟩⟩, ⟨⟨⟨zmb5, tyc35⟩, ⟨zmb35, tyc36⟩⟩, ⟨⟨elt36, mkz36⟩, ⟨mkc36, apT36⟩⟩⟩⟩, ⟨⟨⟨⟨elk36, zmb36⟩, ⟨tyc38, foff38_0⟩⟩, ⟨⟨fpart38_0, foff38_1⟩, ⟨fpart38_1, foff38_2⟩⟩⟩, ⟨⟨⟨fpart38_2, foff38_3⟩, ⟨fpart38_3, zmb38⟩⟩, ⟨⟨bldT38, tyc41⟩, ⟨zmb41, ⟨tyc43, foff43_0⟩⟩⟩⟩⟩⟩, ⟨⟨⟨⟨⟨fpart43_0, foff43_1⟩, ⟨fpart43_1, fe43⟩⟩, ⟨⟨zmb43, bldT43⟩, ⟨tyc50, elt50⟩⟩⟩, ⟨⟨⟨mkz50, apT50⟩, ⟨elk50, zmb50⟩⟩, ⟨⟨tyc70, foff70_0⟩, ⟨fpart70_0, foff70_1⟩⟩⟩⟩, ⟨⟨⟨⟨fpart70_1, zmb70⟩, ⟨bldT70, tyc79⟩⟩, ⟨⟨Try.underlying0, Try.underlying2⟩, ⟨Try.underlying3, Try.underlying4⟩⟩⟩, ⟨⟨⟨Try.underlying5, Try.underlying35⟩, ⟨Try.underlying36, Try.underlying38⟩⟩, ⟨⟨Try.underlying41, Try.underlying43⟩, ⟨Try.underlying50, ⟨Try.underlying70, Try.underlying79⟩⟩⟩⟩⟩⟩⟩
theorem pme {α : Type} (H : List α) : H.Perm ([] ++ H) := .refl _
set_option maxRecDepth 8000 in
set_option maxHeartbeats 8000000 in
theorem refGet_none (Z : List Int) (W G k w now : Nat) (hb : By Z) (hz : Z.length ≤ 2000) (hg : goP W G) (hgo : GoOk W G k w) (hn : now ≤ 253402300799)
    (hres : rdE w k now k [] Z = none) :
    ACt Try.prog 25 [.slz .u8 Z, iv .i64 0, iv .i64 W, iv .i64 G, iv .i64 now] [] (fun r F' => ∃ n : Int, r = .tup [.lit (.pointer none), iv .i64 n, bv false] ∧ F' = []) := by
  refine ACt.intro Try.func25 rfl (by kernel_rfl) (by simp [Try.ntmps25]) (fun cx => ?_)
  simp only [argE, Try.ntmps25, Try.results25]
  have hk1 := hgo.k1
  have hk2 := hgo.k2
  have hw := hgo.w0
  obtain ⟨b, hbb, cG⟩ := Go_ct W G (by have := hgo.w2; omega) (by have := hgo.g2; omega)
  obtain rfl := hbb.2 hg
  have c1 := Tick_ct now
  rw [show (decide ((now : Int) ≥ 0) && decide ((now : Int) ≤ 253402300799)) = true by simp; omega] at c1
  have c2 := Buckets_ct W G hg
  rw [← hgo.hk] at c2
  have n1' : ¬ (k : Int) = 0 := by omega
  have n2' : ¬ (w : Int) = 0 := by omega
  have hW := hgo.w2
  have f1 : (W : Int).tdiv (k : Int) = (w : Int) := by rw [hgo.hw, Int.tdiv_eq_ediv_of_nonneg (by omega)]; simp
  have hwW : w ≤ W := by rw [hgo.hw]; exact Nat.div_le_self _ _
  have f2 : IntKind.i64.wrap (w : Int) = (w : Int) := wrap_i64_nat (by omega)
  obtain ⟨ne, hnn⟩ : ∃ ne, ne = now / w := ⟨_, rfl⟩
  have hnel : ne ≤ 253402300799 := by rw [hnn]; exact Nat.le_trans (Nat.div_le_self _ _) hn
  have hnw : ne * w ≤ now := by rw [hnn]; exact Nat.div_mul_le_self _ _
  have f3 : (now : Int).tdiv (w : Int) = (ne : Int) := by rw [hnn, Int.tdiv_eq_ediv_of_nonneg (by omega)]; simp
  have f4 : IntKind.i64.wrap (ne : Int) = (ne : Int) := wrap_i64_nat (by omega)
  have eT1 : sT (winP now w k) [] = 0 := rfl
  have y0 : ((0 : Nat) : Int) = 0 := rfl
  first | (have FRx := FR; clear FRx) | (have FR : Sm (¬ ((1 : Nat) = 0)) := Sm.mk Nat.one_ne_zero)
  repeat' first
    | (refine Sm.mk ?_; try simp -dsimp only [ZK, rvc, drawF, headN, pureH, stp, dvc, calleeOf, gcall, pev, eff, newB, okd, og, ogs, ogo, ogp, slv, bltv, opd, litv, strip, one, both, putE, St.put, look, gdOf, gdv, picka, pickv, pickw, binv, bini, bins, binb, binp, bina, shp, eqCells, unv, convv, nilv, faddv, addp, idxav, idxp, load1, load1m, loadn, loadnm, loadv, hget, hset, hrep, hdel, slicev, bnd, shift1, lenv, IntKind.bits, extractv, fieldv, indexv, min2v, max2v, mkiv, cellsA, fillA, buildv, stC, oneC, rowMB, intsA, plN, appE, appZ, appC, appNZ, appNC, VwL, srcC, srcZ, srcM, isBoolT, isPtrT, isSliceT, uOk, Value.oneCell', Nat.reducePow, Int.reducePow, Nat.reduceAdd, Nat.reduceMul, Nat.reduceSub, Nat.reduceLT, Nat.reduceLeDiff, Nat.reduceEqDiff, Nat.reduceBEq, Nat.reduceDiv, Nat.reduceMod, ↓reduceIte, reduceCtorEq, Int.reduceToNat, Int.reduceLT, Int.reduceLE, drawMF, mkS, TFRhK, SeqQ, BlkQ, LoopQ, BodyQ, f1, f2, n1', FR.out])
    | (first | refine CallV.fn (cG) (Sm.out ?_) | refine ExF.mk (cG) (Sm.out ?_) | refine ExG.mk (fun _ => cG) (Sm.out ?_) | refine ExG.mkJ (fun _ => cG) (Sm.out ?_) | refine ExG.mkI (Ob.out ?_) (fun _ => cG) (Sm.out ?_))
    | (first | refine CallV.fn (c1) (Sm.out ?_) | refine ExF.mk (c1) (Sm.out ?_) | refine ExG.mk (fun _ => c1) (Sm.out ?_) | refine ExG.mkJ (fun _ => c1) (Sm.out ?_) | refine ExG.mkI (Ob.out ?_) (fun _ => c1) (Sm.out ?_))
    | (first | refine CallV.fn (c2) (Sm.out ?_) | refine ExF.mk (c2) (Sm.out ?_) | refine ExG.mk (fun _ => c2) (Sm.out ?_) | refine ExG.mkJ (fun _ => c2) (Sm.out ?_) | refine ExG.mkI (Ob.out ?_) (fun _ => c2) (Sm.out ?_))
    | (refine WP.seq fun K hK => ?_)
    | (refine WP.region (rvc_sound _ _ (Sm.out ?_)))
    | (refine WP.drawMk (ia := 10) (k := 11) mixed (by decide +kernel) (by decide +kernel) (by decide +kernel) (by decide +kernel) (Sm.out ?_))
    | (refine WP.drawK rfl mixed (by decide +kernel) (Sm.out ?_))
    | (refine Ob.mk ?_; focus (first | assumption | omega | decide | trivial | (intro hob; simp only [hob, ZF]; done) | (intros; (repeat' refine And.intro ?_ ?_) <;> first | assumption | omega | trivial | decide) | (intros; simp only [ZE] at *; (repeat' refine And.intro ?_ ?_) <;> first | assumption | omega | trivial)))
    | (refine And.intro (Ob.out ?_) ?_)
    | (refine WP.block ?_)
    | (refine WP.cond rfl (fun hc => ?_) (fun hc => ?_) <;> (try simp only [ZC, reduceCtorEq, ZD] at hc) <;> (try (exact absurd hc (by decide))) <;> (try (exfalso; omega)))
    | ((first | refine WP.skip ?_ | refine WP.exit ?_); simp only [SeqQ, BlkQ, LoopQ, BodyQ, ↓reduceIte, Nat.reduceEqDiff, reduceCtorEq, look, true_and])
    | (refine WP.ret (Sm.out ?_))
    | (first | refine ExG.no (Sm.out ?_) | refine Or.inl (ExG.no (Sm.out ?_)) | refine Or.inl (And.intro (fun hg => absurd hg (by decide)) (ExG.no (Sm.out ?_))))
    | (refine Rt.mk ?_; refine And.intro ?_ ?_ <;> (intro hg; first | exact absurd hg (by decide) | refine Sm.out ?_))
    | (refine Nu.mk ?_; first | (fail_if_success (have := nb1)); intro nb1 | (fail_if_success (have := nb2)); intro nb2 | (fail_if_success (have := nb3)); intro nb3 | (fail_if_success (have := nb4)); intro nb4 | (fail_if_success (have := nb5)); intro nb5 | (fail_if_success (have := nb6)); intro nb6 | intro nbz)
    | (refine Fr.mk ?_; intro hfr; (first | (have hFRb : _ ≤ _ ∧ _ ≤ _ := And.intro hfr.1 hfr.2.1) | skip); replace FR := Sm.mk (And.intro hfr FR.out); clear hfr; refine Sm.out ?_)
    | (refine Two.mk ?_ ?_)
    | (refine Cs.mk ?_; intro hcs; first | exact False.elim hcs | (exfalso; omega) | (refine Sm.out ?_))
    | go_step
    | omega
    | (simp only [maxLen_eq]; omega)
    | (refine Or.inr (Rt.mk ?_); refine And.intro ?_ ?_ <;> (intro hg; first | exact absurd hg (by decide) | refine Sm.out ?_))
  refine WP.loop (Γ := UG3) (fun q => ⟨[(17, iv .i64 q.i), (14, iv .i64 k), (15, iv .i64 w), (13, pt nb1 0), (16, pt nb2 0), (0, .slz .u8 Z), (1, iv .i64 q.a), (4, iv .i64 now)],
      (nb1, mM W G now (evL q.E q.o)) :: (nb2, .cells [iv .u64 0, nu (sT (winP now w k) q.E)] 2 43) :: evB q.E q.o⟩)
    (fun q => q.i ≤ k ∧ RI w k now q.i q.E ∧ evOk q.E q.o ∧ q.a ≤ Z.length ∧ rdE w k now (k - q.i) q.E (Z.drop q.a) = none) (fun q => k - q.i) ⟨0, [], none, 0⟩
    ⟨by simp, RI.zero w k now, rfl, by simp, by simpa using hres⟩ (Sub.pick (by simp [pickB, hget, hdel, FR.out, eT1, y0, evL, evB]) (by simp [look, eT1, y0, evL, evB])) ?_
  intro ⟨i, E, o, a⟩ ⟨hi, hR, ho, ha, hres⟩
  simp only at hi hR ho ha hres ⊢
  obtain ⟨ST, hST⟩ : ∃ ST, ST = sT (winP now w k) E := ⟨_, rfl⟩
  by_cases hlt : i < k
  · have k1 : decide ((i : Int) < (k : Int)) = true := by simp; omega
    have w1 : IntKind.i64.wrap ((i : Int) + 1) = ((i + 1 : Nat) : Int) := by rw [wrap_i64 (by omega) (by omega)]; omega
    have wa : IntKind.i64.wrap ((ne : Int) - (k : Int)) = (ne : Int) - (k : Int) := wrap_i64 (by omega) (by omega)
    have wb : IntKind.i64.wrap ((ne : Int) - (k : Int) + 1) = (ne : Int) - (k : Int) + 1 := wrap_i64 (by omega) (by omega)
    have wc : IntKind.i64.wrap ((ne : Int) - (k : Int) + 1 + (i : Int)) = (ne : Int) + 1 + i - k := by rw [wrap_i64 (by omega) (by omega)]; omega
    obtain ⟨j, hj⟩ : ∃ j, k - i = j + 1 := ⟨k - i - 1, by omega⟩
    rw [hj] at hres
    have hki : k - (j + 1) = i := by omega
    have hj2 : k - (i + 1) = j := by omega
    have hh := rdE_none hres
    rw [hki] at hh
    clear hres
    rw [← hST]
    rcases hh with n1 | ⟨g, z1, n1, hh⟩
    · have x1 := number_bad Z a ha hb hz n1
      first | (have FRx := FR; clear FRx) | (have FR : Sm (¬ ((1 : Nat) = 0)) := Sm.mk Nat.one_ne_zero)
      repeat' first
        | (refine Sm.mk ?_; try simp -dsimp only [ZK, rvc, drawF, headN, pureH, stp, dvc, calleeOf, gcall, pev, eff, newB, okd, og, ogs, ogo, ogp, slv, bltv, opd, litv, strip, one, both, putE, St.put, look, gdOf, gdv, picka, pickv, pickw, binv, bini, bins, binb, binp, bina, shp, eqCells, unv, convv, nilv, faddv, addp, idxav, idxp, load1, load1m, loadn, loadnm, loadv, hget, hset, hrep, hdel, slicev, bnd, shift1, lenv, IntKind.bits, extractv, fieldv, indexv, min2v, max2v, mkiv, cellsA, fillA, buildv, stC, oneC, rowMB, intsA, plN, appE, appZ, appC, appNZ, appNC, VwL, srcC, srcZ, srcM, isBoolT, isPtrT, isSliceT, uOk, Value.oneCell', Nat.reducePow, Int.reducePow, Nat.reduceAdd, Nat.reduceMul, Nat.reduceSub, Nat.reduceLT, Nat.reduceLeDiff, Nat.reduceEqDiff, Nat.reduceBEq, Nat.reduceDiv, Nat.reduceMod, ↓reduceIte, reduceCtorEq, Int.reduceToNat, Int.reduceLT, Int.reduceLE, drawMF, mkS, TFRhK, SeqQ, BlkQ, LoopQ, BodyQ, k1, FR.out])
        | (refine CallV.ex (F := []) (List.Perm.refl _) (x1) (fun g => Sm.out ?_))
        | (refine WP.seq fun K hK => ?_)
        | (refine WP.region (rvc_sound _ _ (Sm.out ?_)))
        | (refine WP.drawMk (ia := 10) (k := 11) mixed (by decide +kernel) (by decide +kernel) (by decide +kernel) (by decide +kernel) (Sm.out ?_))
        | (refine WP.drawK rfl mixed (by decide +kernel) (Sm.out ?_))
        | (refine Ob.mk ?_; focus (first | assumption | omega | decide | trivial | (intro hob; simp only [hob, ZF]; done) | (intros; (repeat' refine And.intro ?_ ?_) <;> first | assumption | omega | trivial | decide) | (intros; simp only [ZE] at *; (repeat' refine And.intro ?_ ?_) <;> first | assumption | omega | trivial)))
        | (refine And.intro (Ob.out ?_) ?_)
        | (refine WP.block ?_)
        | (refine WP.cond rfl (fun hc => ?_) (fun hc => ?_) <;> (try simp only [ZC, reduceCtorEq, ZD] at hc) <;> (try (exact absurd hc (by decide))) <;> (try (exfalso; omega)))
        | ((first | refine WP.skip ?_ | refine WP.exit ?_); simp only [SeqQ, BlkQ, LoopQ, BodyQ, ↓reduceIte, Nat.reduceEqDiff, reduceCtorEq, look, true_and])
        | (refine WP.ret (Sm.out ?_))
        | (first | refine ExG.no (Sm.out ?_) | refine Or.inl (ExG.no (Sm.out ?_)) | refine Or.inl (And.intro (fun hg => absurd hg (by decide)) (ExG.no (Sm.out ?_))))
        | (refine Rt.mk ?_; refine And.intro ?_ ?_ <;> (intro hg; first | exact absurd hg (by decide) | refine Sm.out ?_))
        | (refine Nu.mk ?_; first | (fail_if_success (have := nb1)); intro nb1 | (fail_if_success (have := nb2)); intro nb2 | (fail_if_success (have := nb3)); intro nb3 | (fail_if_success (have := nb4)); intro nb4 | (fail_if_success (have := nb5)); intro nb5 | (fail_if_success (have := nb6)); intro nb6 | intro nbz)
        | (refine Fr.mk ?_; intro hfr; (first | (have hFRb : _ ≤ _ ∧ _ ≤ _ := And.intro hfr.1 hfr.2.1) | skip); replace FR := Sm.mk (And.intro hfr FR.out); clear hfr; refine Sm.out ?_)
        | (refine Two.mk ?_ ?_)
        | (refine Cs.mk ?_; intro hcs; first | exact False.elim hcs | (exfalso; omega) | (refine Sm.out ?_))
        | go_step
        | omega
        | (simp only [maxLen_eq]; omega)
        | (refine Or.inr (Rt.mk ?_); refine And.intro ?_ ?_ <;> (intro hg; first | exact absurd hg (by decide) | refine Sm.out ?_))
      (refine OutQ.drop _ _ (pme _) (by simp only [resv, ZK, look, loadv, loadn, loadnm, load1, load1m, hget, ↓reduceIte, Nat.reduceEqDiff, Nat.reduceAdd, Nat.reduceMul, Nat.reduceLeDiff, Nat.reduceLT, reduceCtorEq, TFRhK, FR.out]) ⟨0, (by simp only [resv, resA, ZK, look, loadv, loadn, loadnm, load1, load1m, hget, ↓reduceIte, Nat.reduceEqDiff, Nat.reduceAdd, Nat.reduceMul, Nat.reduceLeDiff, Nat.reduceLT, reduceCtorEq, TFRhK, FR.out]; first | done | rfl), rfl⟩)
    obtain ⟨hg64, hb1, hl1⟩ := nF_len (hb.drop a) n1
    obtain ⟨s1, s2⟩ := drop_next hb n1
    have x1 := number_good Z z1 a g ha hb hz n1
    rcases hh with n2 | ⟨t, z2, n2, hh⟩
    · rw [← s1] at n2
      have x2 := number_bad Z (Z.length - z1.length) (by omega) hb hz n2
      obtain ⟨A1, hA1⟩ : ∃ A1, A1 = Z.length - z1.length := ⟨_, rfl⟩
      rw [← hA1] at x1 x2
      first | (have FRx := FR; clear FRx) | (have FR : Sm (¬ ((1 : Nat) = 0)) := Sm.mk Nat.one_ne_zero)
      repeat' first
        | (refine Sm.mk ?_; try simp -dsimp only [ZK, rvc, drawF, headN, pureH, stp, dvc, calleeOf, gcall, pev, eff, newB, okd, og, ogs, ogo, ogp, slv, bltv, opd, litv, strip, one, both, putE, St.put, look, gdOf, gdv, picka, pickv, pickw, binv, bini, bins, binb, binp, bina, shp, eqCells, unv, convv, nilv, faddv, addp, idxav, idxp, load1, load1m, loadn, loadnm, loadv, hget, hset, hrep, hdel, slicev, bnd, shift1, lenv, IntKind.bits, extractv, fieldv, indexv, min2v, max2v, mkiv, cellsA, fillA, buildv, stC, oneC, rowMB, intsA, plN, appE, appZ, appC, appNZ, appNC, VwL, srcC, srcZ, srcM, isBoolT, isPtrT, isSliceT, uOk, Value.oneCell', Nat.reducePow, Int.reducePow, Nat.reduceAdd, Nat.reduceMul, Nat.reduceSub, Nat.reduceLT, Nat.reduceLeDiff, Nat.reduceEqDiff, Nat.reduceBEq, Nat.reduceDiv, Nat.reduceMod, ↓reduceIte, reduceCtorEq, Int.reduceToNat, Int.reduceLT, Int.reduceLE, drawMF, mkS, TFRhK, SeqQ, BlkQ, LoopQ, BodyQ, k1, f3, f4, wa, wb, wc, n2', FR.out])
        | (first | refine CallV.fn (x1) (Sm.out ?_) | refine ExF.mk (x1) (Sm.out ?_) | refine ExG.mk (fun _ => x1) (Sm.out ?_) | refine ExG.mkJ (fun _ => x1) (Sm.out ?_) | refine ExG.mkI (Ob.out ?_) (fun _ => x1) (Sm.out ?_))
        | (refine CallV.ex (F := []) (List.Perm.refl _) (x2) (fun g => Sm.out ?_))
        | (refine WP.seq fun K hK => ?_)
        | (refine WP.region (rvc_sound _ _ (Sm.out ?_)))
        | (refine WP.drawMk (ia := 10) (k := 11) mixed (by decide +kernel) (by decide +kernel) (by decide +kernel) (by decide +kernel) (Sm.out ?_))
        | (refine WP.drawK rfl mixed (by decide +kernel) (Sm.out ?_))
        | (refine Ob.mk ?_; focus (first | assumption | omega | decide | trivial | (intro hob; simp only [hob, ZF]; done) | (intros; (repeat' refine And.intro ?_ ?_) <;> first | assumption | omega | trivial | decide) | (intros; simp only [ZE] at *; (repeat' refine And.intro ?_ ?_) <;> first | assumption | omega | trivial)))
        | (refine And.intro (Ob.out ?_) ?_)
        | (refine WP.block ?_)
        | (refine WP.cond rfl (fun hc => ?_) (fun hc => ?_) <;> (try simp only [ZC, reduceCtorEq, ZD] at hc) <;> (try (exact absurd hc (by decide))) <;> (try (exfalso; omega)))
        | ((first | refine WP.skip ?_ | refine WP.exit ?_); simp only [SeqQ, BlkQ, LoopQ, BodyQ, ↓reduceIte, Nat.reduceEqDiff, reduceCtorEq, look, true_and])
        | (refine WP.ret (Sm.out ?_))
        | (first | refine ExG.no (Sm.out ?_) | refine Or.inl (ExG.no (Sm.out ?_)) | refine Or.inl (And.intro (fun hg => absurd hg (by decide)) (ExG.no (Sm.out ?_))))
        | (refine Rt.mk ?_; refine And.intro ?_ ?_ <;> (intro hg; first | exact absurd hg (by decide) | refine Sm.out ?_))
        | (refine Nu.mk ?_; first | (fail_if_success (have := nb1)); intro nb1 | (fail_if_success (have := nb2)); intro nb2 | (fail_if_success (have := nb3)); intro nb3 | (fail_if_success (have := nb4)); intro nb4 | (fail_if_success (have := nb5)); intro nb5 | (fail_if_success (have := nb6)); intro nb6 | intro nbz)
        | (refine Fr.mk ?_; intro hfr; (first | (have hFRb : _ ≤ _ ∧ _ ≤ _ := And.intro hfr.1 hfr.2.1) | skip); replace FR := Sm.mk (And.intro hfr FR.out); clear hfr; refine Sm.out ?_)
        | (refine Two.mk ?_ ?_)
        | (refine Cs.mk ?_; intro hcs; first | exact False.elim hcs | (exfalso; omega) | (refine Sm.out ?_))
        | go_step
        | omega
        | (simp only [maxLen_eq]; omega)
        | (refine Or.inr (Rt.mk ?_); refine And.intro ?_ ?_ <;> (intro hg; first | exact absurd hg (by decide) | refine Sm.out ?_))
      (refine OutQ.drop _ _ (pme _) (by simp only [resv, ZK, look, loadv, loadn, loadnm, load1, load1m, hget, ↓reduceIte, Nat.reduceEqDiff, Nat.reduceAdd, Nat.reduceMul, Nat.reduceLeDiff, Nat.reduceLT, reduceCtorEq, TFRhK, FR.out]) ⟨0, (by simp only [resv, resA, ZK, look, loadv, loadn, loadnm, load1, load1m, hget, ↓reduceIte, Nat.reduceEqDiff, Nat.reduceAdd, Nat.reduceMul, Nat.reduceLeDiff, Nat.reduceLT, reduceCtorEq, TFRhK, FR.out]; first | done | rfl), rfl⟩)
    obtain ⟨ht64, hb2, hl2⟩ := nF_len hb1 n2
    have n2b := n2
    rw [← s1] at n2b
    obtain ⟨s3, s4⟩ := drop_next hb n2b
    have x2 := number_good Z z2 (Z.length - z1.length) t (by omega) hb hz n2b
    obtain ⟨A1, hA1⟩ : ∃ A1, A1 = Z.length - z1.length := ⟨_, rfl⟩
    obtain ⟨A2, hA2⟩ : ∃ A2, A2 = Z.length - z2.length := ⟨_, rfl⟩
    rw [← hA1] at x1 x2
    rw [← hA2] at x2 s3
    have x3 := Over_ct 0 ST g t ht64
    rcases hh with hgt | ⟨hgt, hh⟩
    · have d3 : decide ((g : Int) > (t : Int)) = true := by simp; omega
      first | (have FRx := FR; clear FRx) | (have FR : Sm (¬ ((1 : Nat) = 0)) := Sm.mk Nat.one_ne_zero)
      repeat' first
        | (refine Sm.mk ?_; try simp -dsimp only [ZK, rvc, drawF, headN, pureH, stp, dvc, calleeOf, gcall, pev, eff, newB, okd, og, ogs, ogo, ogp, slv, bltv, opd, litv, strip, one, both, putE, St.put, look, gdOf, gdv, picka, pickv, pickw, binv, bini, bins, binb, binp, bina, shp, eqCells, unv, convv, nilv, faddv, addp, idxav, idxp, load1, load1m, loadn, loadnm, loadv, hget, hset, hrep, hdel, slicev, bnd, shift1, lenv, IntKind.bits, extractv, fieldv, indexv, min2v, max2v, mkiv, cellsA, fillA, buildv, stC, oneC, rowMB, intsA, plN, appE, appZ, appC, appNZ, appNC, VwL, srcC, srcZ, srcM, isBoolT, isPtrT, isSliceT, uOk, Value.oneCell', Nat.reducePow, Int.reducePow, Nat.reduceAdd, Nat.reduceMul, Nat.reduceSub, Nat.reduceLT, Nat.reduceLeDiff, Nat.reduceEqDiff, Nat.reduceBEq, Nat.reduceDiv, Nat.reduceMod, ↓reduceIte, reduceCtorEq, Int.reduceToNat, Int.reduceLT, Int.reduceLE, drawMF, mkS, TFRhK, SeqQ, BlkQ, LoopQ, BodyQ, k1, wa, wb, wc, d3, f3, f4, n2', FR.out])
        | (first | refine CallV.fn (x1) (Sm.out ?_) | refine ExF.mk (x1) (Sm.out ?_) | refine ExG.mk (fun _ => x1) (Sm.out ?_) | refine ExG.mkJ (fun _ => x1) (Sm.out ?_) | refine ExG.mkI (Ob.out ?_) (fun _ => x1) (Sm.out ?_))
        | (first | refine CallV.fn (x2) (Sm.out ?_) | refine ExF.mk (x2) (Sm.out ?_) | refine ExG.mk (fun _ => x2) (Sm.out ?_) | refine ExG.mkJ (fun _ => x2) (Sm.out ?_) | refine ExG.mkI (Ob.out ?_) (fun _ => x2) (Sm.out ?_))
        | (refine WP.seq fun K hK => ?_)
        | (refine WP.region (rvc_sound _ _ (Sm.out ?_)))
        | (refine WP.drawMk (ia := 10) (k := 11) mixed (by decide +kernel) (by decide +kernel) (by decide +kernel) (by decide +kernel) (Sm.out ?_))
        | (refine WP.drawK rfl mixed (by decide +kernel) (Sm.out ?_))
        | (refine Ob.mk ?_; focus (first | assumption | omega | decide | trivial | (intro hob; simp only [hob, ZF]; done) | (intros; (repeat' refine And.intro ?_ ?_) <;> first | assumption | omega | trivial | decide) | (intros; simp only [ZE] at *; (repeat' refine And.intro ?_ ?_) <;> first | assumption | omega | trivial)))
        | (refine And.intro (Ob.out ?_) ?_)
        | (refine WP.block ?_)
        | (refine WP.cond rfl (fun hc => ?_) (fun hc => ?_) <;> (try simp only [ZC, reduceCtorEq, ZD] at hc) <;> (try (exact absurd hc (by decide))) <;> (try (exfalso; omega)))
        | ((first | refine WP.skip ?_ | refine WP.exit ?_); simp only [SeqQ, BlkQ, LoopQ, BodyQ, ↓reduceIte, Nat.reduceEqDiff, reduceCtorEq, look, true_and])
        | (refine WP.ret (Sm.out ?_))
        | (first | refine ExG.no (Sm.out ?_) | refine Or.inl (ExG.no (Sm.out ?_)) | refine Or.inl (And.intro (fun hg => absurd hg (by decide)) (ExG.no (Sm.out ?_))))
        | (refine Rt.mk ?_; refine And.intro ?_ ?_ <;> (intro hg; first | exact absurd hg (by decide) | refine Sm.out ?_))
        | (refine Nu.mk ?_; first | (fail_if_success (have := nb1)); intro nb1 | (fail_if_success (have := nb2)); intro nb2 | (fail_if_success (have := nb3)); intro nb3 | (fail_if_success (have := nb4)); intro nb4 | (fail_if_success (have := nb5)); intro nb5 | (fail_if_success (have := nb6)); intro nb6 | intro nbz)
        | (refine Fr.mk ?_; intro hfr; (first | (have hFRb : _ ≤ _ ∧ _ ≤ _ := And.intro hfr.1 hfr.2.1) | skip); replace FR := Sm.mk (And.intro hfr FR.out); clear hfr; refine Sm.out ?_)
        | (refine Two.mk ?_ ?_)
        | (refine Cs.mk ?_; intro hcs; first | exact False.elim hcs | (exfalso; omega) | (refine Sm.out ?_))
        | go_step
        | omega
        | (simp only [maxLen_eq]; omega)
        | (refine Or.inr (Rt.mk ?_); refine And.intro ?_ ?_ <;> (intro hg; first | exact absurd hg (by decide) | refine Sm.out ?_))
      (refine OutQ.drop _ _ (pme _) (by simp only [resv, ZK, look, loadv, loadn, loadnm, load1, load1m, hget, ↓reduceIte, Nat.reduceEqDiff, Nat.reduceAdd, Nat.reduceMul, Nat.reduceLeDiff, Nat.reduceLT, reduceCtorEq, TFRhK, FR.out]) ⟨0, (by simp only [resv, resA, ZK, look, loadv, loadn, loadnm, load1, load1m, hget, ↓reduceIte, Nat.reduceEqDiff, Nat.reduceAdd, Nat.reduceMul, Nat.reduceLeDiff, Nat.reduceLT, reduceCtorEq, TFRhK, FR.out]; first | done | rfl), rfl⟩)
    have d3 : decide ((g : Int) > (t : Int)) = false := by simp; omega
    rcases hh with hov | ⟨hov, hh⟩
    · rw [decide_eq_true (show 9223372036854775807 < ST + t by rw [hST]; exact hov)] at x3
      have x3 : ACt Try.prog 45 [.agg [iv .u64 0, nu ST], cnt g t] [] (Fn (bv true)) := x3
      first | (have FRx := FR; clear FRx) | (have FR : Sm (¬ ((1 : Nat) = 0)) := Sm.mk Nat.one_ne_zero)
      repeat' first
        | (refine Sm.mk ?_; try simp -dsimp only [ZK, rvc, drawF, headN, pureH, stp, dvc, calleeOf, gcall, pev, eff, newB, okd, og, ogs, ogo, ogp, slv, bltv, opd, litv, strip, one, both, putE, St.put, look, gdOf, gdv, picka, pickv, pickw, binv, bini, bins, binb, binp, bina, shp, eqCells, unv, convv, nilv, faddv, addp, idxav, idxp, load1, load1m, loadn, loadnm, loadv, hget, hset, hrep, hdel, slicev, bnd, shift1, lenv, IntKind.bits, extractv, fieldv, indexv, min2v, max2v, mkiv, cellsA, fillA, buildv, stC, oneC, rowMB, intsA, plN, appE, appZ, appC, appNZ, appNC, VwL, srcC, srcZ, srcM, isBoolT, isPtrT, isSliceT, uOk, Value.oneCell', Nat.reducePow, Int.reducePow, Nat.reduceAdd, Nat.reduceMul, Nat.reduceSub, Nat.reduceLT, Nat.reduceLeDiff, Nat.reduceEqDiff, Nat.reduceBEq, Nat.reduceDiv, Nat.reduceMod, ↓reduceIte, reduceCtorEq, Int.reduceToNat, Int.reduceLT, Int.reduceLE, drawMF, mkS, TFRhK, SeqQ, BlkQ, LoopQ, BodyQ, k1, wa, wb, wc, d3, f3, f4, n2', FR.out])
        | (first | refine CallV.fn (x1) (Sm.out ?_) | refine ExF.mk (x1) (Sm.out ?_) | refine ExG.mk (fun _ => x1) (Sm.out ?_) | refine ExG.mkJ (fun _ => x1) (Sm.out ?_) | refine ExG.mkI (Ob.out ?_) (fun _ => x1) (Sm.out ?_))
        | (first | refine CallV.fn (x2) (Sm.out ?_) | refine ExF.mk (x2) (Sm.out ?_) | refine ExG.mk (fun _ => x2) (Sm.out ?_) | refine ExG.mkJ (fun _ => x2) (Sm.out ?_) | refine ExG.mkI (Ob.out ?_) (fun _ => x2) (Sm.out ?_))
        | (first | refine CallV.fn (x3) (Sm.out ?_) | refine ExF.mk (x3) (Sm.out ?_) | refine ExG.mk (fun _ => x3) (Sm.out ?_) | refine ExG.mkJ (fun _ => x3) (Sm.out ?_) | refine ExG.mkI (Ob.out ?_) (fun _ => x3) (Sm.out ?_))
        | (refine WP.seq fun K hK => ?_)
        | (refine WP.region (rvc_sound _ _ (Sm.out ?_)))
        | (refine WP.drawMk (ia := 10) (k := 11) mixed (by decide +kernel) (by decide +kernel) (by decide +kernel) (by decide +kernel) (Sm.out ?_))
        | (refine WP.drawK rfl mixed (by decide +kernel) (Sm.out ?_))
        | (refine Ob.mk ?_; focus (first | assumption | omega | decide | trivial | (intro hob; simp only [hob, ZF]; done) | (intros; (repeat' refine And.intro ?_ ?_) <;> first | assumption | omega | trivial | decide) | (intros; simp only [ZE] at *; (repeat' refine And.intro ?_ ?_) <;> first | assumption | omega | trivial)))
        | (refine And.intro (Ob.out ?_) ?_)
        | (refine WP.block ?_)
        | (refine WP.cond rfl (fun hc => ?_) (fun hc => ?_) <;> (try simp only [ZC, reduceCtorEq, ZD] at hc) <;> (try (exact absurd hc (by decide))) <;> (try (exfalso; omega)))
        | ((first | refine WP.skip ?_ | refine WP.exit ?_); simp only [SeqQ, BlkQ, LoopQ, BodyQ, ↓reduceIte, Nat.reduceEqDiff, reduceCtorEq, look, true_and])
        | (refine WP.ret (Sm.out ?_))
        | (first | refine ExG.no (Sm.out ?_) | refine Or.inl (ExG.no (Sm.out ?_)) | refine Or.inl (And.intro (fun hg => absurd hg (by decide)) (ExG.no (Sm.out ?_))))
        | (refine Rt.mk ?_; refine And.intro ?_ ?_ <;> (intro hg; first | exact absurd hg (by decide) | refine Sm.out ?_))
        | (refine Nu.mk ?_; first | (fail_if_success (have := nb1)); intro nb1 | (fail_if_success (have := nb2)); intro nb2 | (fail_if_success (have := nb3)); intro nb3 | (fail_if_success (have := nb4)); intro nb4 | (fail_if_success (have := nb5)); intro nb5 | (fail_if_success (have := nb6)); intro nb6 | intro nbz)
        | (refine Fr.mk ?_; intro hfr; (first | (have hFRb : _ ≤ _ ∧ _ ≤ _ := And.intro hfr.1 hfr.2.1) | skip); replace FR := Sm.mk (And.intro hfr FR.out); clear hfr; refine Sm.out ?_)
        | (refine Two.mk ?_ ?_)
        | (refine Cs.mk ?_; intro hcs; first | exact False.elim hcs | (exfalso; omega) | (refine Sm.out ?_))
        | go_step
        | omega
        | (simp only [maxLen_eq]; omega)
        | (refine Or.inr (Rt.mk ?_); refine And.intro ?_ ?_ <;> (intro hg; first | exact absurd hg (by decide) | refine Sm.out ?_))
      (refine OutQ.drop _ _ (pme _) (by simp only [resv, ZK, look, loadv, loadn, loadnm, load1, load1m, hget, ↓reduceIte, Nat.reduceEqDiff, Nat.reduceAdd, Nat.reduceMul, Nat.reduceLeDiff, Nat.reduceLT, reduceCtorEq, TFRhK, FR.out]) ⟨0, (by simp only [resv, resA, ZK, look, loadv, loadn, loadnm, load1, load1m, hget, ↓reduceIte, Nat.reduceEqDiff, Nat.reduceAdd, Nat.reduceMul, Nat.reduceLeDiff, Nat.reduceLT, reduceCtorEq, TFRhK, FR.out]; first | done | rfl), rfl⟩)
    rw [decide_eq_false (show ¬ 9223372036854775807 < ST + t by rw [hST]; omega)] at x3
    have wt : IntKind.u64.wrap ((ST : Int) + (t : Int)) = ((ST + t : Nat) : Int) := by rw [wrap_u64 (by omega) (by rw [hST]; omega)]; omega
    have x3 : ACt Try.prog 45 [.agg [iv .u64 0, nu ST], cnt g t] [] (Fn (bv false)) := x3
    by_cases hk : k ≤ ne + 1 + i
    · have hh := (hh.resolve_right (fun h => h.1 (by rw [← hnn]; exact hk))).2
      obtain ⟨m, hm⟩ : ∃ m, m = ne + 1 + i - k := ⟨_, rfl⟩
      have em : now / w + 1 + i - k = m := by rw [← hnn, hm]
      have hmw : m * w ≤ now := Nat.le_trans (Nat.mul_le_mul_right w (show m ≤ ne by omega)) hnw
      have wd : (ne : Int) + 1 + i - k = (m : Int) := by omega
      rw [em] at hh
      rw [wd] at wc
      have d1 : decide ((m : Int) < 0) = false := by simp
      have d2 : decide ((m : Int) ≥ 0) = true := by simp
      have hR' := hR.add hw hlt (by rw [← hnn]; exact hk) hgt hov
      rw [em] at hR'
      have we : IntKind.i64.wrap ((m : Int) * (w : Int)) = ((m * w : Nat) : Int) := by rw [← Int.natCast_mul]; exact wrap_i64_nat (by omega)
      have hwin : winP now w k (m * w) = true := by
        have : m * w / w = m := Nat.mul_div_cancel _ (by omega)
        simp only [winP, this, ← hnn, decide_eq_true_eq]; omega
      have hS' : sT (winP now w k) (E ++ [⟨m * w, g, t⟩]) = ST + t := by
        rw [sT_app, hST]; simp [sT, hwin]
      obtain ⟨MW, hMW⟩ : ∃ MW, MW = m * w := ⟨_, rfl⟩
      rw [← hMW] at we hmw hR' hh hS'
      clear hwin hMW
      have hCl := evC_len E
      have hlE := hR.len
      obtain ⟨C2, hC2⟩ : ∃ C2, evC (E ++ [⟨MW, g, t⟩]) = C2 := ⟨_, rfl⟩
      have s5 : evC E ++ [iv .i64 MW, nu g, nu t] = C2 := by rw [← hC2, evC_app]; rfl
      have lE' : (E ++ [(⟨MW, g, t⟩ : Ev)]).length = E.length + 1 := by simp
      have hw8 : (ne : Int) = ne := rfl
      cases o with
      | none =>
        have hE0 : E = [] := ho
        have hlen : E.length = 0 := by rw [hE0]; rfl
        have s6 : [iv .i64 MW, nu g, nu t] = C2 := by rw [← s5, hE0]; rfl
        simp only [evL, evB]
        (refine WP.nd fun hnd => ?_; simp only [ndF, fresh_cons, fresh_nil, and_true, ne_eq] at hnd; replace FR := Sm.mk (And.intro hnd FR.out); clear hnd)
        clear hST hnn
        first | (have FRx := FR; clear FRx) | (have FR : Sm (¬ ((1 : Nat) = 0)) := Sm.mk Nat.one_ne_zero)
        repeat' first
          | (refine Sm.mk ?_; try simp -dsimp only [ZK, rvc, drawF, headN, pureH, stp, dvc, calleeOf, gcall, pev, eff, newB, okd, og, ogs, ogo, ogp, slv, bltv, opd, litv, strip, one, both, putE, St.put, look, gdOf, gdv, picka, pickv, pickw, binv, bini, bins, binb, binp, bina, shp, eqCells, unv, convv, nilv, faddv, addp, idxav, idxp, load1, load1m, loadn, loadnm, loadv, hget, hset, hrep, hdel, slicev, bnd, shift1, lenv, IntKind.bits, extractv, fieldv, indexv, min2v, max2v, mkiv, cellsA, fillA, buildv, stC, oneC, rowMB, intsA, plN, appE, appZ, appC, appNZ, appNC, VwL, srcC, srcZ, srcM, isBoolT, isPtrT, isSliceT, uOk, Value.oneCell', Nat.reducePow, Int.reducePow, Nat.reduceAdd, Nat.reduceMul, Nat.reduceSub, Nat.reduceLT, Nat.reduceLeDiff, Nat.reduceEqDiff, Nat.reduceBEq, Nat.reduceDiv, Nat.reduceMod, ↓reduceIte, reduceCtorEq, Int.reduceToNat, Int.reduceLT, Int.reduceLE, drawMF, mkS, TFRhK, SeqQ, BlkQ, LoopQ, BodyQ, k1, w1, wa, wb, wc, we, wt, d1, d2, d3, f3, f4, n2', List.append_nil, FR.out])
          | (first | refine CallV.fn (x1) (Sm.out ?_) | refine ExF.mk (x1) (Sm.out ?_) | refine ExG.mk (fun _ => x1) (Sm.out ?_) | refine ExG.mkJ (fun _ => x1) (Sm.out ?_) | refine ExG.mkI (Ob.out ?_) (fun _ => x1) (Sm.out ?_))
          | (first | refine CallV.fn (x2) (Sm.out ?_) | refine ExF.mk (x2) (Sm.out ?_) | refine ExG.mk (fun _ => x2) (Sm.out ?_) | refine ExG.mkJ (fun _ => x2) (Sm.out ?_) | refine ExG.mkI (Ob.out ?_) (fun _ => x2) (Sm.out ?_))
          | (first | refine CallV.fn (x3) (Sm.out ?_) | refine ExF.mk (x3) (Sm.out ?_) | refine ExG.mk (fun _ => x3) (Sm.out ?_) | refine ExG.mkJ (fun _ => x3) (Sm.out ?_) | refine ExG.mkI (Ob.out ?_) (fun _ => x3) (Sm.out ?_))
          | (refine WP.seq fun K hK => ?_)
          | (refine WP.region (rvc_sound _ _ (Sm.out ?_)))
          | (refine WP.drawMk (ia := 10) (k := 11) mixed (by decide +kernel) (by decide +kernel) (by decide +kernel) (by decide +kernel) (Sm.out ?_))
          | (refine WP.drawK rfl mixed (by decide +kernel) (Sm.out ?_))
          | (refine Ob.mk ?_; focus (first | assumption | omega | decide | trivial | (intro hob; simp only [hob, ZF]; done) | (intros; (repeat' refine And.intro ?_ ?_) <;> first | assumption | omega | trivial | decide) | (intros; simp only [ZE] at *; (repeat' refine And.intro ?_ ?_) <;> first | assumption | omega | trivial)))
          | (refine And.intro (Ob.out ?_) ?_)
          | (refine WP.block ?_)
          | (refine WP.cond rfl (fun hc => ?_) (fun hc => ?_) <;> (try simp only [ZC, reduceCtorEq, ZD] at hc) <;> (try (exact absurd hc (by decide))) <;> (try (exfalso; omega)))
          | ((first | refine WP.skip ?_ | refine WP.exit ?_); simp only [SeqQ, BlkQ, LoopQ, BodyQ, ↓reduceIte, Nat.reduceEqDiff, reduceCtorEq, look, true_and])
          | (refine WP.ret (Sm.out ?_))
          | (first | refine ExG.no (Sm.out ?_) | refine Or.inl (ExG.no (Sm.out ?_)) | refine Or.inl (And.intro (fun hg => absurd hg (by decide)) (ExG.no (Sm.out ?_))))
          | (refine Rt.mk ?_; refine And.intro ?_ ?_ <;> (intro hg; first | exact absurd hg (by decide) | refine Sm.out ?_))
          | (refine Nu.mk ?_; first | (fail_if_success (have := nb1)); intro nb1 | (fail_if_success (have := nb2)); intro nb2 | (fail_if_success (have := nb3)); intro nb3 | (fail_if_success (have := nb4)); intro nb4 | (fail_if_success (have := nb5)); intro nb5 | (fail_if_success (have := nb6)); intro nb6 | intro nbz)
          | (refine Fr.mk ?_; intro hfr; (first | (have hFRb : _ ≤ _ ∧ _ ≤ _ := And.intro hfr.1 hfr.2.1) | skip); replace FR := Sm.mk (And.intro hfr FR.out); clear hfr; refine Sm.out ?_)
          | (refine Two.mk ?_ ?_)
          | (refine Cs.mk ?_; intro hcs; first | exact False.elim hcs | (exfalso; omega) | (refine Sm.out ?_))
          | go_step
          | omega
          | (simp only [maxLen_eq]; omega)
          | (refine Or.inr (Rt.mk ?_); refine And.intro ?_ ?_ <;> (intro hg; first | exact absurd hg (by decide) | refine Sm.out ?_))
        exact ⟨⟨i + 1, E ++ [⟨MW, g, t⟩], some (nb5, nb6), A2⟩, ⟨by simp only; omega, hR', by simp only [evOk, lE', hlen]; omega, by simp only; omega, by simp only; rw [hj2, s3]; exact hh⟩, by simp only; omega, by simp only [evL, evB, lE', hC2, hS', ← s6, hlen]; exact (Sub.pick (by simp [pickB, hget, hdel, FR.out]) (by simp [look]))⟩
      | some p =>
        obtain ⟨b, cap⟩ := p
        obtain ⟨ho1, ho2⟩ := ho
        simp only [evL, evB]
        (refine WP.nd fun hnd => ?_; simp only [ndF, fresh_cons, fresh_nil, and_true, ne_eq] at hnd; replace FR := Sm.mk (And.intro hnd FR.out); clear hnd)
        obtain ⟨C, hC⟩ : ∃ C, C = evC E := ⟨_, rfl⟩
        rw [← hC] at s5 hCl ⊢
        clear hST hnn hC
        first | (have FRx := FR; clear FRx) | (have FR : Sm (¬ ((1 : Nat) = 0)) := Sm.mk Nat.one_ne_zero)
        repeat' first
          | (refine Sm.mk ?_; try simp -dsimp only [ZK, rvc, drawF, headN, pureH, stp, dvc, calleeOf, gcall, pev, eff, newB, okd, og, ogs, ogo, ogp, slv, bltv, opd, litv, strip, one, both, putE, St.put, look, gdOf, gdv, picka, pickv, pickw, binv, bini, bins, binb, binp, bina, shp, eqCells, unv, convv, nilv, faddv, addp, idxav, idxp, load1, load1m, loadn, loadnm, loadv, hget, hset, hrep, hdel, slicev, bnd, shift1, lenv, IntKind.bits, extractv, fieldv, indexv, min2v, max2v, mkiv, cellsA, fillA, buildv, stC, oneC, rowMB, intsA, plN, appE, appZ, appC, appNZ, appNC, VwL, srcC, srcZ, srcM, isBoolT, isPtrT, isSliceT, uOk, Value.oneCell', Nat.reducePow, Int.reducePow, Nat.reduceAdd, Nat.reduceMul, Nat.reduceSub, Nat.reduceLT, Nat.reduceLeDiff, Nat.reduceEqDiff, Nat.reduceBEq, Nat.reduceDiv, Nat.reduceMod, ↓reduceIte, reduceCtorEq, Int.reduceToNat, Int.reduceLT, Int.reduceLE, drawMF, mkS, TFRhK, SeqQ, BlkQ, LoopQ, BodyQ, k1, w1, wa, wb, wc, we, wt, d1, d2, d3, f3, f4, n2', hCl, s5, FR.out])
          | (first | refine CallV.fn (x1) (Sm.out ?_) | refine ExF.mk (x1) (Sm.out ?_) | refine ExG.mk (fun _ => x1) (Sm.out ?_) | refine ExG.mkJ (fun _ => x1) (Sm.out ?_) | refine ExG.mkI (Ob.out ?_) (fun _ => x1) (Sm.out ?_))
          | (first | refine CallV.fn (x2) (Sm.out ?_) | refine ExF.mk (x2) (Sm.out ?_) | refine ExG.mk (fun _ => x2) (Sm.out ?_) | refine ExG.mkJ (fun _ => x2) (Sm.out ?_) | refine ExG.mkI (Ob.out ?_) (fun _ => x2) (Sm.out ?_))
          | (first | refine CallV.fn (x3) (Sm.out ?_) | refine ExF.mk (x3) (Sm.out ?_) | refine ExG.mk (fun _ => x3) (Sm.out ?_) | refine ExG.mkJ (fun _ => x3) (Sm.out ?_) | refine ExG.mkI (Ob.out ?_) (fun _ => x3) (Sm.out ?_))
          | (refine WP.seq fun K hK => ?_)
          | (refine WP.region (rvc_sound _ _ (Sm.out ?_)))
          | (refine WP.drawMk (ia := 10) (k := 11) mixed (by decide +kernel) (by decide +kernel) (by decide +kernel) (by decide +kernel) (Sm.out ?_))
          | (refine WP.drawK rfl mixed (by decide +kernel) (Sm.out ?_))
          | (refine Ob.mk ?_; focus (first | assumption | omega | decide | trivial | (intro hob; simp only [hob, ZF]; done) | (intros; (repeat' refine And.intro ?_ ?_) <;> first | assumption | omega | trivial | decide) | (intros; simp only [ZE] at *; (repeat' refine And.intro ?_ ?_) <;> first | assumption | omega | trivial)))
          | (refine And.intro (Ob.out ?_) ?_)
          | (refine WP.block ?_)
          | (refine WP.cond rfl (fun hc => ?_) (fun hc => ?_) <;> (try simp only [ZC, reduceCtorEq, ZD] at hc) <;> (try (exact absurd hc (by decide))) <;> (try (exfalso; omega)))
          | ((first | refine WP.skip ?_ | refine WP.exit ?_); simp only [SeqQ, BlkQ, LoopQ, BodyQ, ↓reduceIte, Nat.reduceEqDiff, reduceCtorEq, look, true_and])
          | (refine WP.ret (Sm.out ?_))
          | (first | refine ExG.no (Sm.out ?_) | refine Or.inl (ExG.no (Sm.out ?_)) | refine Or.inl (And.intro (fun hg => absurd hg (by decide)) (ExG.no (Sm.out ?_))))
          | (refine Rt.mk ?_; refine And.intro ?_ ?_ <;> (intro hg; first | exact absurd hg (by decide) | refine Sm.out ?_))
          | (refine Nu.mk ?_; first | (fail_if_success (have := nb1)); intro nb1 | (fail_if_success (have := nb2)); intro nb2 | (fail_if_success (have := nb3)); intro nb3 | (fail_if_success (have := nb4)); intro nb4 | (fail_if_success (have := nb5)); intro nb5 | (fail_if_success (have := nb6)); intro nb6 | intro nbz)
          | (refine Fr.mk ?_; intro hfr; (first | (have hFRb : _ ≤ _ ∧ _ ≤ _ := And.intro hfr.1 hfr.2.1) | skip); replace FR := Sm.mk (And.intro hfr FR.out); clear hfr; refine Sm.out ?_)
          | (refine Two.mk ?_ ?_)
          | (refine Cs.mk ?_; intro hcs; first | exact False.elim hcs | (exfalso; omega) | (refine Sm.out ?_))
          | go_step
          | omega
          | (simp only [maxLen_eq]; omega)
          | (refine Or.inr (Rt.mk ?_); refine And.intro ?_ ?_ <;> (intro hg; first | exact absurd hg (by decide) | refine Sm.out ?_))
        all_goals exact ⟨⟨i + 1, E ++ [⟨MW, g, t⟩], some (nb5, nb6), A2⟩, ⟨by simp only; omega, hR', by simp only [evOk, lE']; omega, by simp only; omega, by simp only; rw [hj2, s3]; exact hh⟩, by simp only; omega, by simp only [evL, evB, lE', hC2, hS']; exact (Sub.pick (by simp [pickB, hget, hdel, FR.out]) (by simp [look]))⟩
    · have hh := (hh.resolve_left (fun h => hk (by rw [hnn]; exact h.1))).2
      have d1 : decide ((ne : Int) + 1 + i - k < 0) = true := by simp; omega
      have d2 : decide ((ne : Int) + 1 + i - k ≥ 0) = false := by simp; omega
      rcases hh with h0 | ⟨h0, h9⟩
      · have zz : ((g : Int) == 0 && (t : Int) == 0) = false := by
          rw [Bool.and_eq_false_iff, beq_eq_false_iff_ne, beq_eq_false_iff_ne]; omega
        first | (have FRx := FR; clear FRx) | (have FR : Sm (¬ ((1 : Nat) = 0)) := Sm.mk Nat.one_ne_zero)
        repeat' first
          | (refine Sm.mk ?_; try simp -dsimp only [ZK, rvc, drawF, headN, pureH, stp, dvc, calleeOf, gcall, pev, eff, newB, okd, og, ogs, ogo, ogp, slv, bltv, opd, litv, strip, one, both, putE, St.put, look, gdOf, gdv, picka, pickv, pickw, binv, bini, bins, binb, binp, bina, shp, eqCells, unv, convv, nilv, faddv, addp, idxav, idxp, load1, load1m, loadn, loadnm, loadv, hget, hset, hrep, hdel, slicev, bnd, shift1, lenv, IntKind.bits, extractv, fieldv, indexv, min2v, max2v, mkiv, cellsA, fillA, buildv, stC, oneC, rowMB, intsA, plN, appE, appZ, appC, appNZ, appNC, VwL, srcC, srcZ, srcM, isBoolT, isPtrT, isSliceT, uOk, Value.oneCell', Nat.reducePow, Int.reducePow, Nat.reduceAdd, Nat.reduceMul, Nat.reduceSub, Nat.reduceLT, Nat.reduceLeDiff, Nat.reduceEqDiff, Nat.reduceBEq, Nat.reduceDiv, Nat.reduceMod, ↓reduceIte, reduceCtorEq, Int.reduceToNat, Int.reduceLT, Int.reduceLE, drawMF, mkS, TFRhK, SeqQ, BlkQ, LoopQ, BodyQ, k1, wa, wb, wc, d1, d2, d3, f3, f4, n2', zz, fe43, FR.out])
          | (first | refine CallV.fn (x1) (Sm.out ?_) | refine ExF.mk (x1) (Sm.out ?_) | refine ExG.mk (fun _ => x1) (Sm.out ?_) | refine ExG.mkJ (fun _ => x1) (Sm.out ?_) | refine ExG.mkI (Ob.out ?_) (fun _ => x1) (Sm.out ?_))
          | (first | refine CallV.fn (x2) (Sm.out ?_) | refine ExF.mk (x2) (Sm.out ?_) | refine ExG.mk (fun _ => x2) (Sm.out ?_) | refine ExG.mkJ (fun _ => x2) (Sm.out ?_) | refine ExG.mkI (Ob.out ?_) (fun _ => x2) (Sm.out ?_))
          | (first | refine CallV.fn (x3) (Sm.out ?_) | refine ExF.mk (x3) (Sm.out ?_) | refine ExG.mk (fun _ => x3) (Sm.out ?_) | refine ExG.mkJ (fun _ => x3) (Sm.out ?_) | refine ExG.mkI (Ob.out ?_) (fun _ => x3) (Sm.out ?_))
          | (refine WP.seq fun K hK => ?_)
          | (refine WP.region (rvc_sound _ _ (Sm.out ?_)))
          | (refine WP.drawMk (ia := 10) (k := 11) mixed (by decide +kernel) (by decide +kernel) (by decide +kernel) (by decide +kernel) (Sm.out ?_))
          | (refine WP.drawK rfl mixed (by decide +kernel) (Sm.out ?_))
          | (refine Ob.mk ?_; focus (first | assumption | omega | decide | trivial | (intro hob; simp only [hob, ZF]; done) | (intros; (repeat' refine And.intro ?_ ?_) <;> first | assumption | omega | trivial | decide) | (intros; simp only [ZE] at *; (repeat' refine And.intro ?_ ?_) <;> first | assumption | omega | trivial)))
          | (refine And.intro (Ob.out ?_) ?_)
          | (refine WP.block ?_)
          | (refine WP.cond rfl (fun hc => ?_) (fun hc => ?_) <;> (try simp only [ZC, reduceCtorEq, ZD] at hc) <;> (try (exact absurd hc (by decide))) <;> (try (exfalso; omega)))
          | ((first | refine WP.skip ?_ | refine WP.exit ?_); simp only [SeqQ, BlkQ, LoopQ, BodyQ, ↓reduceIte, Nat.reduceEqDiff, reduceCtorEq, look, true_and])
          | (refine WP.ret (Sm.out ?_))
          | (first | refine ExG.no (Sm.out ?_) | refine Or.inl (ExG.no (Sm.out ?_)) | refine Or.inl (And.intro (fun hg => absurd hg (by decide)) (ExG.no (Sm.out ?_))))
          | (refine Rt.mk ?_; refine And.intro ?_ ?_ <;> (intro hg; first | exact absurd hg (by decide) | refine Sm.out ?_))
          | (refine Nu.mk ?_; first | (fail_if_success (have := nb1)); intro nb1 | (fail_if_success (have := nb2)); intro nb2 | (fail_if_success (have := nb3)); intro nb3 | (fail_if_success (have := nb4)); intro nb4 | (fail_if_success (have := nb5)); intro nb5 | (fail_if_success (have := nb6)); intro nb6 | intro nbz)
          | (refine Fr.mk ?_; intro hfr; (first | (have hFRb : _ ≤ _ ∧ _ ≤ _ := And.intro hfr.1 hfr.2.1) | skip); replace FR := Sm.mk (And.intro hfr FR.out); clear hfr; refine Sm.out ?_)
          | (refine Two.mk ?_ ?_)
          | (refine Cs.mk ?_; intro hcs; first | exact False.elim hcs | (exfalso; omega) | (refine Sm.out ?_))
          | go_step
          | omega
          | (simp only [maxLen_eq]; omega)
          | (refine Or.inr (Rt.mk ?_); refine And.intro ?_ ?_ <;> (intro hg; first | exact absurd hg (by decide) | refine Sm.out ?_))
        (refine OutQ.drop _ _ (pme _) (by simp only [resv, ZK, look, loadv, loadn, loadnm, load1, load1m, hget, ↓reduceIte, Nat.reduceEqDiff, Nat.reduceAdd, Nat.reduceMul, Nat.reduceLeDiff, Nat.reduceLT, reduceCtorEq, TFRhK, FR.out]) ⟨0, (by simp only [resv, resA, ZK, look, loadv, loadn, loadnm, load1, load1m, hget, ↓reduceIte, Nat.reduceEqDiff, Nat.reduceAdd, Nat.reduceMul, Nat.reduceLeDiff, Nat.reduceLT, reduceCtorEq, TFRhK, FR.out]; first | done | rfl), rfl⟩)
      obtain ⟨rfl, rfl⟩ := h0
      have z5 : ((0 : Int) == 0) = true := by decide
      have wt : IntKind.u64.wrap ((ST : Int) + 0) = (ST : Int) := by rw [wrap_u64 (by omega) (by rw [hST]; omega)]; omega
      have x1 : ACt Try.prog 44 [.slz .u8 Z, iv .i64 (a : Int)] [] (Fn (.tup [iv .u64 0, iv .i64 (A1 : Int), bv true])) := x1
      have x2 : ACt Try.prog 44 [.slz .u8 Z, iv .i64 (A1 : Int)] [] (Fn (.tup [iv .u64 0, iv .i64 (A2 : Int), bv true])) := x2
      have x3 : ACt Try.prog 45 [.agg [iv .u64 0, nu ST], .agg [iv .u64 0, iv .u64 0]] [] (Fn (bv false)) := x3
      first | (have FRx := FR; clear FRx) | (have FR : Sm (¬ ((1 : Nat) = 0)) := Sm.mk Nat.one_ne_zero)
      repeat' first
        | (refine Sm.mk ?_; try simp -dsimp only [ZK, rvc, drawF, headN, pureH, stp, dvc, calleeOf, gcall, pev, eff, newB, okd, og, ogs, ogo, ogp, slv, bltv, opd, litv, strip, one, both, putE, St.put, look, gdOf, gdv, picka, pickv, pickw, binv, bini, bins, binb, binp, bina, shp, eqCells, unv, convv, nilv, faddv, addp, idxav, idxp, load1, load1m, loadn, loadnm, loadv, hget, hset, hrep, hdel, slicev, bnd, shift1, lenv, IntKind.bits, extractv, fieldv, indexv, min2v, max2v, mkiv, cellsA, fillA, buildv, stC, oneC, rowMB, intsA, plN, appE, appZ, appC, appNZ, appNC, VwL, srcC, srcZ, srcM, isBoolT, isPtrT, isSliceT, uOk, Value.oneCell', Nat.reducePow, Int.reducePow, Nat.reduceAdd, Nat.reduceMul, Nat.reduceSub, Nat.reduceLT, Nat.reduceLeDiff, Nat.reduceEqDiff, Nat.reduceBEq, Nat.reduceDiv, Nat.reduceMod, ↓reduceIte, reduceCtorEq, Int.reduceToNat, Int.reduceLT, Int.reduceLE, drawMF, mkS, TFRhK, SeqQ, BlkQ, LoopQ, BodyQ, k1, w1, wa, wb, wc, wt, d1, d2, d3, f3, f4, n2', z5, fe43, FR.out])
        | (first | refine CallV.fn (x1) (Sm.out ?_) | refine ExF.mk (x1) (Sm.out ?_) | refine ExG.mk (fun _ => x1) (Sm.out ?_) | refine ExG.mkJ (fun _ => x1) (Sm.out ?_) | refine ExG.mkI (Ob.out ?_) (fun _ => x1) (Sm.out ?_))
        | (first | refine CallV.fn (x2) (Sm.out ?_) | refine ExF.mk (x2) (Sm.out ?_) | refine ExG.mk (fun _ => x2) (Sm.out ?_) | refine ExG.mkJ (fun _ => x2) (Sm.out ?_) | refine ExG.mkI (Ob.out ?_) (fun _ => x2) (Sm.out ?_))
        | (first | refine CallV.fn (x3) (Sm.out ?_) | refine ExF.mk (x3) (Sm.out ?_) | refine ExG.mk (fun _ => x3) (Sm.out ?_) | refine ExG.mkJ (fun _ => x3) (Sm.out ?_) | refine ExG.mkI (Ob.out ?_) (fun _ => x3) (Sm.out ?_))
        | (refine WP.seq fun K hK => ?_)
        | (refine WP.region (rvc_sound _ _ (Sm.out ?_)))
        | (refine WP.drawMk (ia := 10) (k := 11) mixed (by decide +kernel) (by decide +kernel) (by decide +kernel) (by decide +kernel) (Sm.out ?_))
        | (refine WP.drawK rfl mixed (by decide +kernel) (Sm.out ?_))
        | (refine Ob.mk ?_; focus (first | assumption | omega | decide | trivial | (intro hob; simp only [hob, ZF]; done) | (intros; (repeat' refine And.intro ?_ ?_) <;> first | assumption | omega | trivial | decide) | (intros; simp only [ZE] at *; (repeat' refine And.intro ?_ ?_) <;> first | assumption | omega | trivial)))
        | (refine And.intro (Ob.out ?_) ?_)
        | (refine WP.block ?_)
        | (refine WP.cond rfl (fun hc => ?_) (fun hc => ?_) <;> (try simp only [ZC, reduceCtorEq, ZD] at hc) <;> (try (exact absurd hc (by decide))) <;> (try (exfalso; omega)))
        | ((first | refine WP.skip ?_ | refine WP.exit ?_); simp only [SeqQ, BlkQ, LoopQ, BodyQ, ↓reduceIte, Nat.reduceEqDiff, reduceCtorEq, look, true_and])
        | (refine WP.ret (Sm.out ?_))
        | (first | refine ExG.no (Sm.out ?_) | refine Or.inl (ExG.no (Sm.out ?_)) | refine Or.inl (And.intro (fun hg => absurd hg (by decide)) (ExG.no (Sm.out ?_))))
        | (refine Rt.mk ?_; refine And.intro ?_ ?_ <;> (intro hg; first | exact absurd hg (by decide) | refine Sm.out ?_))
        | (refine Nu.mk ?_; first | (fail_if_success (have := nb1)); intro nb1 | (fail_if_success (have := nb2)); intro nb2 | (fail_if_success (have := nb3)); intro nb3 | (fail_if_success (have := nb4)); intro nb4 | (fail_if_success (have := nb5)); intro nb5 | (fail_if_success (have := nb6)); intro nb6 | intro nbz)
        | (refine Fr.mk ?_; intro hfr; (first | (have hFRb : _ ≤ _ ∧ _ ≤ _ := And.intro hfr.1 hfr.2.1) | skip); replace FR := Sm.mk (And.intro hfr FR.out); clear hfr; refine Sm.out ?_)
        | (refine Two.mk ?_ ?_)
        | (refine Cs.mk ?_; intro hcs; first | exact False.elim hcs | (exfalso; omega) | (refine Sm.out ?_))
        | go_step
        | omega
        | (simp only [maxLen_eq]; omega)
        | (refine Or.inr (Rt.mk ?_); refine And.intro ?_ ?_ <;> (intro hg; first | exact absurd hg (by decide) | refine Sm.out ?_))
      exact ⟨⟨i + 1, E, o, A2⟩, ⟨by simp only; omega, hR.next, ho, by simp only; omega, by simp only; rw [hj2, s3]; exact h9⟩, by simp only; omega, Sub.of_env [_] (by simp only [← hST]; exact pmm3 _ _ _ _) (by simp [look])⟩
  · obtain rfl : i = k := by omega
    have k1 : decide ((i : Int) < (i : Int)) = false := by simp
    rw [Nat.sub_self] at hres
    simp [rdE] at hres
end Go.Proofs.Ytbnkmhlnoaebcaa
namespace Go.Proofs.Ytbnkmhlnoaebcaa
open Go Wi
set_option linter.unusedVariables false
set_option linter.unusedSimpArgs false
theorem TFRhL : ((((((type_of% tyc2) ∧ ((type_of% zmb2) ∧ (type_of% tyc3))) ∧ ((type_of% zmb3) ∧ ((type_of% tyc4) ∧ (type_of% zmb4)))) ∧ (((type_of% tyc5) ∧ ((type_of% zmb5) ∧ (type_of% tyc9))) ∧ ((type_of% zmb9) ∧ ((type_of% tyc26) ∧ (type_of% mth26_30))))) ∧ ((((type_of% mth26_39) ∧ ((type_of% mth26_38) ∧ (type_of% con26))) ∧ ((type_of% zmb26) ∧ ((type_of% tyc35) ∧ (type_of% zmb35)))) ∧ (((type_of% tyc50) ∧ ((type_of% elt50) ∧ (type_of% mkz50))) ∧ ((type_of% apT50) ∧ ((type_of% elk50) ∧ (type_of% zmb50)))))) ∧ (((((type_of% tyc54) ∧ ((type_of% mth54_53) ∧ (type_of% mth54_50))) ∧ ((type_of% mth54_54) ∧ ((type_of% con54) ∧ (type_of% zmb54)))) ∧ (((type_of% tyc56) ∧ ((type_of% tyc78) ∧ (type_of% foff78_0))) ∧ ((type_of% fpart78_0) ∧ ((type_of% foff78_1) ∧ (type_of% fpart78_1))))) ∧ ((((type_of% zmb78) ∧ ((type_of% bldT78) ∧ (type_of% Try.underlying2))) ∧ ((type_of% Try.underlying3) ∧ ((type_of% Try.underlying4) ∧ (type_of% Try.underlying5)))) ∧ (((type_of% Try.underlying9) ∧ ((type_of% Try.underlying26) ∧ (type_of% Try.underlying35))) ∧ (((type_of% Try.underlying50) ∧ (type_of% Try.underlying54)) ∧ ((type_of% Try.underlying56) ∧ (type_of% Try.underlying78))))))) :=
  ⟨⟨⟨⟨⟨tyc2, ⟨zmb2, tyc3⟩⟩, ⟨zmb3, ⟨tyc4, zmb4⟩⟩⟩, ⟨⟨tyc5, ⟨zmb5, tyc9⟩⟩, ⟨zmb9, ⟨tyc26, mth26_30⟩⟩⟩⟩, ⟨⟨⟨mth26_39, ⟨mth26_38, con26⟩⟩, ⟨zmb26, ⟨tyc35, zmb35⟩⟩⟩, ⟨⟨tyc50, ⟨elt50, mkz50⟩⟩, ⟨apT50, ⟨elk50, zmb50⟩⟩⟩⟩⟩, ⟨⟨⟨⟨tyc54, ⟨mth54_53, mth54_50⟩⟩, ⟨mth54_54, ⟨con54, zmb54⟩⟩⟩, ⟨⟨tyc56, ⟨tyc78, foff78_0⟩⟩, ⟨fpart78_0, ⟨foff78_1, fpart78_1⟩⟩⟩⟩, ⟨⟨⟨zmb78, ⟨bldT78, Try.underlying2⟩⟩, ⟨Try.underlying3, ⟨Try.underlying4, Try.underlying5⟩⟩⟩, ⟨⟨Try.underlying9, ⟨Try.underlying26, Try.underlying35⟩⟩, ⟨⟨Try.underlying50, Try.underlying54⟩, ⟨Try.underlying56, Try.underlying78⟩⟩⟩⟩⟩⟩
theorem new_cr (zs : List Int) : ACt Try.prog 24 [.slz .u8 zs] [] (NewC 78 [.slz .u8 zs, bv false]) := by
  refine ACt.intro Try.func24 rfl (by kernel_rfl) (by simp [Try.ntmps24]) (fun cx => ?_)
  simp only [argE, Try.ntmps24, Try.results24]
  first | (have FRx := FR; clear FRx) | (have FR : ¬ ((1 : Nat) = 0) := Nat.one_ne_zero)
  repeat' first
    | (refine Sm.mk ?_; try simp -dsimp only [ZK, rvc, drawF, headN, pureH, stp, dvc, calleeOf, gcall, pev, eff, newB, okd, og, ogs, ogo, ogp, slv, bltv, opd, litv, strip, one, both, putE, St.put, look, gdOf, gdv, picka, pickv, pickw, binv, bini, bins, binb, binp, bina, shp, eqCells, unv, convv, nilv, faddv, addp, idxav, idxp, load1, load1m, loadn, loadnm, loadv, hget, hset, hrep, hdel, slicev, bnd, shift1, lenv, IntKind.bits, extractv, fieldv, indexv, min2v, max2v, mkiv, cellsA, fillA, buildv, stC, oneC, rowMB, intsA, plN, appE, appZ, appC, appNZ, appNC, VwL, srcC, srcZ, srcM, isBoolT, isPtrT, isSliceT, uOk, Value.oneCell', Nat.reducePow, Int.reducePow, Nat.reduceAdd, Nat.reduceMul, Nat.reduceSub, Nat.reduceLT, Nat.reduceLeDiff, Nat.reduceEqDiff, Nat.reduceBEq, Nat.reduceDiv, Nat.reduceMod, ↓reduceIte, reduceCtorEq, Int.reduceToNat, Int.reduceLT, Int.reduceLE, TFRhL, SeqQ, BlkQ, LoopQ, BodyQ, FR])
    | (refine WP.seq fun K hK => ?_)
    | (refine WP.region (rvc_sound _ _ (Sm.out ?_)))
    | (refine WP.drawK rfl mixed (by decide +kernel) (Sm.out ?_))
    | (refine Ob.mk ?_; focus (first | assumption | omega | decide | trivial | (intro hob; simp only [hob, ZF]; done) | (intros; (repeat' refine And.intro ?_ ?_) <;> first | assumption | omega | trivial | decide) | (intros; simp only [ZE] at *; (repeat' refine And.intro ?_ ?_) <;> first | assumption | omega | trivial)))
    | (refine And.intro (Ob.out ?_) ?_)
    | (refine WP.block ?_)
    | (refine WP.cond rfl (fun hc => ?_) (fun hc => ?_) <;> (try simp only [ZC, reduceCtorEq, ZD] at hc) <;> (try (exact absurd hc (by decide))) <;> (try (exfalso; omega)))
    | ((first | refine WP.skip ?_ | refine WP.exit ?_); simp only [SeqQ, BlkQ, LoopQ, BodyQ, ↓reduceIte, Nat.reduceEqDiff, reduceCtorEq, look, true_and])
    | (refine WP.ret (Sm.out ?_))
    | (first | refine ExG.no (Sm.out ?_) | refine Or.inl (ExG.no (Sm.out ?_)) | refine Or.inl (And.intro (fun hg => absurd hg (by decide)) (ExG.no (Sm.out ?_))))
    | (refine Rt.mk ?_; refine And.intro ?_ ?_ <;> (intro hg; first | exact absurd hg (by decide) | refine Sm.out ?_))
    | (refine Nu.mk ?_; first | (fail_if_success (have := nb1)); intro nb1 | (fail_if_success (have := nb2)); intro nb2 | (fail_if_success (have := nb3)); intro nb3 | intro nbz)
    | (refine Fr.mk ?_; intro hfr; replace FR := And.intro hfr FR; clear hfr; refine Sm.out ?_)
    | (refine Two.mk ?_ ?_)
    | (refine Cs.mk ?_; intro hcs; first | exact False.elim hcs | (exfalso; omega) | (refine Sm.out ?_))
    | go_step
    | omega
    | (simp only [maxLen_eq]; omega)
    | (refine Or.inr (Rt.mk ?_); refine And.intro ?_ ?_ <;> (intro hg; first | exact absurd hg (by decide) | refine Sm.out ?_))
  (refine OutQ.newC (by simp only [resv, ZK, look, loadv, loadn, loadnm, load1, load1m, hget, ↓reduceIte, Nat.reduceEqDiff, Nat.reduceAdd, Nat.reduceMul, Nat.reduceLeDiff, Nat.reduceLT, reduceCtorEq, TFRhL, FR]) (by simp only [resv, resA, ZK, look, loadv, loadn, loadnm, load1, load1m, hget, ↓reduceIte, Nat.reduceEqDiff, Nat.reduceAdd, Nat.reduceMul, Nat.reduceLeDiff, Nat.reduceLT, reduceCtorEq, TFRhL, FR]; first | done | rfl) (by simp only [hget, ↓reduceIte, if_true, if_false, FR]; first | done | rfl) ?_ ?_ <;> first | exact rfl | (simp only [ZK, look, loadv, loadn, loadnm, load1, load1m, hget, ↓reduceIte, Nat.reduceEqDiff, Nat.reduceAdd, Nat.reduceMul, Nat.reduceLeDiff, Nat.reduceLT, reduceCtorEq, TFRhL, FR]; done) | skip)
theorem put_look (rb lb w k n : Nat) (s : RS) (o : Option (Nat × Nat)) (zs : List Int) (h : Inv w k n s) (hne : rb ≠ lb ∧ lb ≠ rb) (hk1 : 1 ≤ k) (hk : k ≤ 60) (hz : zs.length ≤ 1000) (ho : okO o zs.length) :
    ACt Try.prog 22 [pt rb 0, slO o zs.length] ((rb, R1 lb w k s.E s.now) :: (lb, L1 w k s.E s.now) :: hpO o zs)
      (fun r F' => r = .slz .u8 (zs ++ pdS w k s) ∧ F' = [(rb, R1 lb w k s.E s.now), (lb, L1 w k s.E s.now)]) := by
  have h0 := h.now
  have c := Buckets_row rb lb w k (s.now / w) s.now (sG (winP s.now w k) s.E) (sT (winP s.now w k) s.E) (slG (s.now / w) w k s.E) (slT (s.now / w) w k s.E) hne hk1 hk (Nat.le_trans (Nat.div_le_self _ _) h0)
  exact ACt.fz (Put_ct rb lb k _ _ _ _ o zs hne hk1 hk (bk_lt w k n s h hk1) hz ho c)
theorem pmq {α : Type} (r l x m : α) (T : List α) : (r :: l :: x :: m :: T).Perm (([r, l, m] ++ T) ++ [x]) := by
  refine .cons r (.cons l ?_)
  show (x :: m :: T).Perm ((m :: T) ++ [x])
  exact List.perm_append_comm (l₁ := [x])
theorem pms {α : Type} (r l x m : α) (T : List α) : (m :: (T ++ [r, l, x])).Perm (r :: l :: x :: m :: T) := by
  show ((m :: T) ++ [r, l, x]).Perm ([r, l, x] ++ (m :: T))
  exact List.perm_append_comm
set_option maxRecDepth 8000 in
set_option maxHeartbeats 8000000 in
theorem reads_ct (Z : List Int) (W G now : Int) (hb : By Z) (h1 : -9223372036854775808 ≤ W ∧ W ≤ 9223372036854775807) (h2 : -9223372036854775808 ≤ G ∧ G ≤ 9223372036854775807) :
    ACt Try.prog 6 [.slz .u8 Z, iv .i64 W, iv .i64 G, iv .i64 now] [] (fun r _ => r = bv true) := by
  refine ACt.intro Try.func6 rfl (by kernel_rfl) (by simp [Try.ntmps6]) (fun cx => ?_)
  simp only [argE, Try.ntmps6, Try.results6]
  by_cases hz : Z.length ≤ 2000
  case neg =>
    have d : decide ((Z.length : Int) > 2000) = true := by simp; omega
    first | (have FRx := FR; clear FRx) | (have FR : ¬ ((1 : Nat) = 0) := Nat.one_ne_zero)
    repeat' first
      | (refine Sm.mk ?_; try simp -dsimp only [ZK, rvc, drawF, headN, pureH, stp, dvc, calleeOf, gcall, pev, eff, newB, okd, og, ogs, ogo, ogp, slv, bltv, opd, litv, strip, one, both, putE, St.put, look, gdOf, gdv, picka, pickv, pickw, binv, bini, bins, binb, binp, bina, shp, eqCells, unv, convv, nilv, faddv, addp, idxav, idxp, load1, load1m, loadn, loadnm, loadv, hget, hset, hrep, hdel, slicev, bnd, shift1, lenv, IntKind.bits, extractv, fieldv, indexv, min2v, max2v, mkiv, cellsA, fillA, buildv, stC, oneC, rowMB, intsA, plN, appE, appZ, appC, appNZ, appNC, VwL, srcC, srcZ, srcM, isBoolT, isPtrT, isSliceT, uOk, Value.oneCell', Nat.reducePow, Int.reducePow, Nat.reduceAdd, Nat.reduceMul, Nat.reduceSub, Nat.reduceLT, Nat.reduceLeDiff, Nat.reduceEqDiff, Nat.reduceBEq, Nat.reduceDiv, Nat.reduceMod, ↓reduceIte, reduceCtorEq, Int.reduceToNat, Int.reduceLT, Int.reduceLE, TFRhL, SeqQ, BlkQ, LoopQ, BodyQ, d, FR])
      | (first | refine CallV.fn (awake_ct) (Sm.out ?_) | refine ExF.mk (awake_ct) (Sm.out ?_) | refine ExG.mk (fun _ => awake_ct) (Sm.out ?_) | refine ExG.mkJ (fun _ => awake_ct) (Sm.out ?_) | refine ExG.mkI (Ob.out ?_) (fun _ => awake_ct) (Sm.out ?_))
      | (refine WP.seq fun K hK => ?_)
      | (refine WP.region (rvc_sound _ _ (Sm.out ?_)))
      | (refine WP.drawK rfl mixed (by decide +kernel) (Sm.out ?_))
      | (refine Ob.mk ?_; focus (first | assumption | omega | decide | trivial | (intro hob; simp only [hob, ZF]; done) | (intros; (repeat' refine And.intro ?_ ?_) <;> first | assumption | omega | trivial | decide) | (intros; simp only [ZE] at *; (repeat' refine And.intro ?_ ?_) <;> first | assumption | omega | trivial)))
      | (refine And.intro (Ob.out ?_) ?_)
      | (refine WP.block ?_)
      | (refine WP.cond rfl (fun hc => ?_) (fun hc => ?_) <;> (try simp only [ZC, reduceCtorEq, ZD] at hc) <;> (try (exact absurd hc (by decide))) <;> (try (exfalso; omega)))
      | ((first | refine WP.skip ?_ | refine WP.exit ?_); simp only [SeqQ, BlkQ, LoopQ, BodyQ, ↓reduceIte, Nat.reduceEqDiff, reduceCtorEq, look, true_and])
      | (refine WP.ret (Sm.out ?_))
      | (first | refine ExG.no (Sm.out ?_) | refine Or.inl (ExG.no (Sm.out ?_)) | refine Or.inl (And.intro (fun hg => absurd hg (by decide)) (ExG.no (Sm.out ?_))))
      | (refine Rt.mk ?_; refine And.intro ?_ ?_ <;> (intro hg; first | exact absurd hg (by decide) | refine Sm.out ?_))
      | (refine Nu.mk ?_; first | (fail_if_success (have := nb1)); intro nb1 | (fail_if_success (have := nb2)); intro nb2 | (fail_if_success (have := nb3)); intro nb3 | intro nbz)
      | (refine Fr.mk ?_; intro hfr; replace FR := And.intro hfr FR; clear hfr; refine Sm.out ?_)
      | (refine Two.mk ?_ ?_)
      | (refine Cs.mk ?_; intro hcs; first | exact False.elim hcs | (exfalso; omega) | (refine Sm.out ?_))
      | (refine OutQ.all ?_ ?_; (focus (simp only [resv, ZK, look, loadv, loadn, loadnm, load1, load1m, hget, ↓reduceIte, Nat.reduceEqDiff, Nat.reduceAdd, Nat.reduceMul, Nat.reduceLeDiff, Nat.reduceLT, reduceCtorEq, TFRhL, d, FR])); (try simp only [resv, resA, Fn, ZK, look, loadv, loadn, loadnm, load1, load1m, hget, ↓reduceIte, Nat.reduceEqDiff, Nat.reduceAdd, Nat.reduceMul, Nat.reduceLeDiff, Nat.reduceLT, reduceCtorEq, TFRhL, d, FR]); (try simp [resA, Fn, look, d, FR]); done)
      | go_step
      | omega
      | (simp only [maxLen_eq]; omega)
      | (refine Or.inr (Rt.mk ?_); refine And.intro ?_ ?_ <;> (intro hg; first | exact absurd hg (by decide) | refine Sm.out ?_))
  have d : decide ((Z.length : Int) > 2000) = false := by simp; omega
  have cN := new_cr Z
  by_cases hg : goP W G
  case neg =>
    have c1 := fun xb => Get_bad xb W G now Z hb (by omega) h1 h2 hg
    have c2 := refGet_bad Z W G now h1 h2 (.inl hg)
    have c3 := fun xb => bad_e xb true
    first | (have FRx := FR; clear FRx) | (have FR : ¬ ((1 : Nat) = 0) := Nat.one_ne_zero)
    repeat' first
      | (refine Sm.mk ?_; try simp -dsimp only [ZK, rvc, drawF, headN, pureH, stp, dvc, calleeOf, gcall, pev, eff, newB, okd, og, ogs, ogo, ogp, slv, bltv, opd, litv, strip, one, both, putE, St.put, look, gdOf, gdv, picka, pickv, pickw, binv, bini, bins, binb, binp, bina, shp, eqCells, unv, convv, nilv, faddv, addp, idxav, idxp, load1, load1m, loadn, loadnm, loadv, hget, hset, hrep, hdel, slicev, bnd, shift1, lenv, IntKind.bits, extractv, fieldv, indexv, min2v, max2v, mkiv, cellsA, fillA, buildv, stC, oneC, rowMB, intsA, plN, appE, appZ, appC, appNZ, appNC, VwL, srcC, srcZ, srcM, isBoolT, isPtrT, isSliceT, uOk, Value.oneCell', Nat.reducePow, Int.reducePow, Nat.reduceAdd, Nat.reduceMul, Nat.reduceSub, Nat.reduceLT, Nat.reduceLeDiff, Nat.reduceEqDiff, Nat.reduceBEq, Nat.reduceDiv, Nat.reduceMod, ↓reduceIte, reduceCtorEq, Int.reduceToNat, Int.reduceLT, Int.reduceLE, TFRhL, SeqQ, BlkQ, LoopQ, BodyQ, d, FR])
      | (first | refine CallV.fn (awake_ct) (Sm.out ?_) | refine ExF.mk (awake_ct) (Sm.out ?_) | refine ExG.mk (fun _ => awake_ct) (Sm.out ?_) | refine ExG.mkJ (fun _ => awake_ct) (Sm.out ?_) | refine ExG.mkI (Ob.out ?_) (fun _ => awake_ct) (Sm.out ?_))
      | (refine CallV.row (by simp only [hget, ↓reduceIte, FR, d]; first | done | rfl) (new_cr Z) (Sm.out ?_))
      | (refine CallV.mkrow (new_cr Z) (Sm.out ?_))
      | (refine CallV.upd (by simp only [hget, ↓reduceIte, FR, d]; first | done | rfl) (new_cr Z) (Sm.out ?_))
      | (refine CallV.mkobj (new_cr Z) (Sm.out ?_))
      | (first | refine CallV.fn (new_cr Z) (Sm.out ?_) | refine ExF.mk (new_cr Z) (Sm.out ?_) | refine ExG.mk (fun _ => new_cr Z) (Sm.out ?_) | refine ExG.mkJ (fun _ => new_cr Z) (Sm.out ?_) | refine ExG.mkI (Ob.out ?_) (fun _ => new_cr Z) (Sm.out ?_))
      | (refine CallV.updN (perm1 (by simp only [hget, hdel, ↓reduceIte, FR, d]; first | done | rfl)) (c1 nb1) (Sm.out ?_))
      | (first | refine CallV.fn (c2) (Sm.out ?_) | refine ExF.mk (c2) (Sm.out ?_) | refine ExG.mk (fun _ => c2) (Sm.out ?_) | refine ExG.mkJ (fun _ => c2) (Sm.out ?_) | refine ExG.mkI (Ob.out ?_) (fun _ => c2) (Sm.out ?_))
      | (refine CallV.updN (perm1 (by simp only [hget, hdel, ↓reduceIte, FR, d]; first | done | rfl)) (c3 nb1) (Sm.out ?_))
      | ((first | refine ExF.up ?_ (c3 nb1) (Sm.out ?_) | refine ExG.up ?_ (fun _ => c3 nb1) (Sm.out ?_) | refine ExG.upJ ?_ (fun _ => c3 nb1) (Sm.out ?_) | refine ExG.upI ?_ (fun _ => c3 nb1) (Ob.out ?_) (Sm.out ?_)); focus (exact ⟨_, (perm1 (by simp only [hget, hdel, ↓reduceIte, FR, d]; first | done | rfl))⟩))
      | (refine WP.seq fun K hK => ?_)
      | (refine WP.region (rvc_sound _ _ (Sm.out ?_)))
      | (refine WP.drawK rfl mixed (by decide +kernel) (Sm.out ?_))
      | (refine Ob.mk ?_; focus (first | assumption | omega | decide | trivial | (intro hob; simp only [hob, ZF]; done) | (intros; (repeat' refine And.intro ?_ ?_) <;> first | assumption | omega | trivial | decide) | (intros; simp only [ZE] at *; (repeat' refine And.intro ?_ ?_) <;> first | assumption | omega | trivial)))
      | (refine And.intro (Ob.out ?_) ?_)
      | (refine WP.block ?_)
      | (refine WP.cond rfl (fun hc => ?_) (fun hc => ?_) <;> (try simp only [ZC, reduceCtorEq, ZD] at hc) <;> (try (exact absurd hc (by decide))) <;> (try (exfalso; omega)))
      | ((first | refine WP.skip ?_ | refine WP.exit ?_); simp only [SeqQ, BlkQ, LoopQ, BodyQ, ↓reduceIte, Nat.reduceEqDiff, reduceCtorEq, look, true_and])
      | (refine WP.ret (Sm.out ?_))
      | (first | refine ExG.no (Sm.out ?_) | refine Or.inl (ExG.no (Sm.out ?_)) | refine Or.inl (And.intro (fun hg => absurd hg (by decide)) (ExG.no (Sm.out ?_))))
      | (refine Rt.mk ?_; refine And.intro ?_ ?_ <;> (intro hg; first | exact absurd hg (by decide) | refine Sm.out ?_))
      | (refine Nu.mk ?_; first | (fail_if_success (have := nb1)); intro nb1 | (fail_if_success (have := nb2)); intro nb2 | (fail_if_success (have := nb3)); intro nb3 | intro nbz)
      | (refine Fr.mk ?_; intro hfr; replace FR := And.intro hfr FR; clear hfr; refine Sm.out ?_)
      | (refine Two.mk ?_ ?_)
      | (refine Cs.mk ?_; intro hcs; first | exact False.elim hcs | (exfalso; omega) | (refine Sm.out ?_))
      | (refine OutQ.all ?_ ?_; (focus (simp only [resv, ZK, look, loadv, loadn, loadnm, load1, load1m, hget, ↓reduceIte, Nat.reduceEqDiff, Nat.reduceAdd, Nat.reduceMul, Nat.reduceLeDiff, Nat.reduceLT, reduceCtorEq, TFRhL, d, FR])); (try simp only [resv, resA, Fn, ZK, look, loadv, loadn, loadnm, load1, load1m, hget, ↓reduceIte, Nat.reduceEqDiff, Nat.reduceAdd, Nat.reduceMul, Nat.reduceLeDiff, Nat.reduceLT, reduceCtorEq, TFRhL, d, FR]); (try simp [resA, Fn, look, d, FR]); done)
      | go_step
      | omega
      | (simp only [maxLen_eq]; omega)
      | (refine Or.inr (Rt.mk ?_); refine And.intro ?_ ?_ <;> (intro hg; first | exact absurd hg (by decide) | refine Sm.out ?_))
  obtain ⟨W, rfl⟩ := Int.eq_ofNat_of_zero_le (show 0 ≤ W from by have := hg.2.2.1; omega)
  obtain ⟨G, rfl⟩ := Int.eq_ofNat_of_zero_le (show 0 ≤ G from by have := hg.1; omega)
  obtain ⟨k, w, h⟩ : ∃ k w, GoOk W G k w := ⟨_, _, goOk hg⟩
  by_cases hn : 0 ≤ now ∧ now ≤ 253402300799
  case neg =>
    have c1 := fun xb => Get_range xb W G k w now Z hb (by omega) hg h hn
    have c2 := refGet_bad Z W G now h1 h2 (.inr hn)
    have c3 := fun xb => bad_e xb true
    first | (have FRx := FR; clear FRx) | (have FR : ¬ ((1 : Nat) = 0) := Nat.one_ne_zero)
    repeat' first
      | (refine Sm.mk ?_; try simp -dsimp only [ZK, rvc, drawF, headN, pureH, stp, dvc, calleeOf, gcall, pev, eff, newB, okd, og, ogs, ogo, ogp, slv, bltv, opd, litv, strip, one, both, putE, St.put, look, gdOf, gdv, picka, pickv, pickw, binv, bini, bins, binb, binp, bina, shp, eqCells, unv, convv, nilv, faddv, addp, idxav, idxp, load1, load1m, loadn, loadnm, loadv, hget, hset, hrep, hdel, slicev, bnd, shift1, lenv, IntKind.bits, extractv, fieldv, indexv, min2v, max2v, mkiv, cellsA, fillA, buildv, stC, oneC, rowMB, intsA, plN, appE, appZ, appC, appNZ, appNC, VwL, srcC, srcZ, srcM, isBoolT, isPtrT, isSliceT, uOk, Value.oneCell', Nat.reducePow, Int.reducePow, Nat.reduceAdd, Nat.reduceMul, Nat.reduceSub, Nat.reduceLT, Nat.reduceLeDiff, Nat.reduceEqDiff, Nat.reduceBEq, Nat.reduceDiv, Nat.reduceMod, ↓reduceIte, reduceCtorEq, Int.reduceToNat, Int.reduceLT, Int.reduceLE, TFRhL, SeqQ, BlkQ, LoopQ, BodyQ, d, FR])
      | (first | refine CallV.fn (awake_ct) (Sm.out ?_) | refine ExF.mk (awake_ct) (Sm.out ?_) | refine ExG.mk (fun _ => awake_ct) (Sm.out ?_) | refine ExG.mkJ (fun _ => awake_ct) (Sm.out ?_) | refine ExG.mkI (Ob.out ?_) (fun _ => awake_ct) (Sm.out ?_))
      | (refine CallV.row (by simp only [hget, ↓reduceIte, FR, d]; first | done | rfl) (new_cr Z) (Sm.out ?_))
      | (refine CallV.mkrow (new_cr Z) (Sm.out ?_))
      | (refine CallV.upd (by simp only [hget, ↓reduceIte, FR, d]; first | done | rfl) (new_cr Z) (Sm.out ?_))
      | (refine CallV.mkobj (new_cr Z) (Sm.out ?_))
      | (first | refine CallV.fn (new_cr Z) (Sm.out ?_) | refine ExF.mk (new_cr Z) (Sm.out ?_) | refine ExG.mk (fun _ => new_cr Z) (Sm.out ?_) | refine ExG.mkJ (fun _ => new_cr Z) (Sm.out ?_) | refine ExG.mkI (Ob.out ?_) (fun _ => new_cr Z) (Sm.out ?_))
      | (refine CallV.updN (perm1 (by simp only [hget, hdel, ↓reduceIte, FR, d]; first | done | rfl)) (c1 nb1) (Sm.out ?_))
      | (first | refine CallV.fn (c2) (Sm.out ?_) | refine ExF.mk (c2) (Sm.out ?_) | refine ExG.mk (fun _ => c2) (Sm.out ?_) | refine ExG.mkJ (fun _ => c2) (Sm.out ?_) | refine ExG.mkI (Ob.out ?_) (fun _ => c2) (Sm.out ?_))
      | (refine CallV.updN (perm1 (by simp only [hget, hdel, ↓reduceIte, FR, d]; first | done | rfl)) (c3 nb1) (Sm.out ?_))
      | ((first | refine ExF.up ?_ (c3 nb1) (Sm.out ?_) | refine ExG.up ?_ (fun _ => c3 nb1) (Sm.out ?_) | refine ExG.upJ ?_ (fun _ => c3 nb1) (Sm.out ?_) | refine ExG.upI ?_ (fun _ => c3 nb1) (Ob.out ?_) (Sm.out ?_)); focus (exact ⟨_, (perm1 (by simp only [hget, hdel, ↓reduceIte, FR, d]; first | done | rfl))⟩))
      | (refine WP.seq fun K hK => ?_)
      | (refine WP.region (rvc_sound _ _ (Sm.out ?_)))
      | (refine WP.drawK rfl mixed (by decide +kernel) (Sm.out ?_))
      | (refine Ob.mk ?_; focus (first | assumption | omega | decide | trivial | (intro hob; simp only [hob, ZF]; done) | (intros; (repeat' refine And.intro ?_ ?_) <;> first | assumption | omega | trivial | decide) | (intros; simp only [ZE] at *; (repeat' refine And.intro ?_ ?_) <;> first | assumption | omega | trivial)))
      | (refine And.intro (Ob.out ?_) ?_)
      | (refine WP.block ?_)
      | (refine WP.cond rfl (fun hc => ?_) (fun hc => ?_) <;> (try simp only [ZC, reduceCtorEq, ZD] at hc) <;> (try (exact absurd hc (by decide))) <;> (try (exfalso; omega)))
      | ((first | refine WP.skip ?_ | refine WP.exit ?_); simp only [SeqQ, BlkQ, LoopQ, BodyQ, ↓reduceIte, Nat.reduceEqDiff, reduceCtorEq, look, true_and])
      | (refine WP.ret (Sm.out ?_))
      | (first | refine ExG.no (Sm.out ?_) | refine Or.inl (ExG.no (Sm.out ?_)) | refine Or.inl (And.intro (fun hg => absurd hg (by decide)) (ExG.no (Sm.out ?_))))
      | (refine Rt.mk ?_; refine And.intro ?_ ?_ <;> (intro hg; first | exact absurd hg (by decide) | refine Sm.out ?_))
      | (refine Nu.mk ?_; first | (fail_if_success (have := nb1)); intro nb1 | (fail_if_success (have := nb2)); intro nb2 | (fail_if_success (have := nb3)); intro nb3 | intro nbz)
      | (refine Fr.mk ?_; intro hfr; replace FR := And.intro hfr FR; clear hfr; refine Sm.out ?_)
      | (refine Two.mk ?_ ?_)
      | (refine Cs.mk ?_; intro hcs; first | exact False.elim hcs | (exfalso; omega) | (refine Sm.out ?_))
      | (refine OutQ.all ?_ ?_; (focus (simp only [resv, ZK, look, loadv, loadn, loadnm, load1, load1m, hget, ↓reduceIte, Nat.reduceEqDiff, Nat.reduceAdd, Nat.reduceMul, Nat.reduceLeDiff, Nat.reduceLT, reduceCtorEq, TFRhL, d, FR])); (try simp only [resv, resA, Fn, ZK, look, loadv, loadn, loadnm, load1, load1m, hget, ↓reduceIte, Nat.reduceEqDiff, Nat.reduceAdd, Nat.reduceMul, Nat.reduceLeDiff, Nat.reduceLT, reduceCtorEq, TFRhL, d, FR]); (try simp [resA, Fn, look, d, FR]); done)
      | go_step
      | omega
      | (simp only [maxLen_eq]; omega)
      | (refine Or.inr (Rt.mk ?_); refine And.intro ?_ ?_ <;> (intro hg; first | exact absurd hg (by decide) | refine Sm.out ?_))
  obtain ⟨now, rfl⟩ := Int.eq_ofNat_of_zero_le hn.1
  have hn : now ≤ 253402300799 := by omega
  have hk1 := h.k1
  have hk2 := h.k2
  have hw := h.w0
  cases hres : rdE w k now k [] Z with
  | none =>
    have c1 := fun xb => Get_none xb W G k w now Z hb (by omega) hg h hn hres
    have c2 := refGet_none Z W G k w now hb hz hg h hn hres
    have c3 := fun xb => bad_e xb true
    first | (have FRx := FR; clear FRx) | (have FR : ¬ ((1 : Nat) = 0) := Nat.one_ne_zero)
    repeat' first
      | (refine Sm.mk ?_; try simp -dsimp only [ZK, rvc, drawF, headN, pureH, stp, dvc, calleeOf, gcall, pev, eff, newB, okd, og, ogs, ogo, ogp, slv, bltv, opd, litv, strip, one, both, putE, St.put, look, gdOf, gdv, picka, pickv, pickw, binv, bini, bins, binb, binp, bina, shp, eqCells, unv, convv, nilv, faddv, addp, idxav, idxp, load1, load1m, loadn, loadnm, loadv, hget, hset, hrep, hdel, slicev, bnd, shift1, lenv, IntKind.bits, extractv, fieldv, indexv, min2v, max2v, mkiv, cellsA, fillA, buildv, stC, oneC, rowMB, intsA, plN, appE, appZ, appC, appNZ, appNC, VwL, srcC, srcZ, srcM, isBoolT, isPtrT, isSliceT, uOk, Value.oneCell', Nat.reducePow, Int.reducePow, Nat.reduceAdd, Nat.reduceMul, Nat.reduceSub, Nat.reduceLT, Nat.reduceLeDiff, Nat.reduceEqDiff, Nat.reduceBEq, Nat.reduceDiv, Nat.reduceMod, ↓reduceIte, reduceCtorEq, Int.reduceToNat, Int.reduceLT, Int.reduceLE, TFRhL, SeqQ, BlkQ, LoopQ, BodyQ, d, FR])
      | (first | refine CallV.fn (awake_ct) (Sm.out ?_) | refine ExF.mk (awake_ct) (Sm.out ?_) | refine ExG.mk (fun _ => awake_ct) (Sm.out ?_) | refine ExG.mkJ (fun _ => awake_ct) (Sm.out ?_) | refine ExG.mkI (Ob.out ?_) (fun _ => awake_ct) (Sm.out ?_))
      | (refine CallV.row (by simp only [hget, ↓reduceIte, FR, d]; first | done | rfl) (new_cr Z) (Sm.out ?_))
      | (refine CallV.mkrow (new_cr Z) (Sm.out ?_))
      | (refine CallV.upd (by simp only [hget, ↓reduceIte, FR, d]; first | done | rfl) (new_cr Z) (Sm.out ?_))
      | (refine CallV.mkobj (new_cr Z) (Sm.out ?_))
      | (first | refine CallV.fn (new_cr Z) (Sm.out ?_) | refine ExF.mk (new_cr Z) (Sm.out ?_) | refine ExG.mk (fun _ => new_cr Z) (Sm.out ?_) | refine ExG.mkJ (fun _ => new_cr Z) (Sm.out ?_) | refine ExG.mkI (Ob.out ?_) (fun _ => new_cr Z) (Sm.out ?_))
      | (refine CallV.updN (perm1 (by simp only [hget, hdel, ↓reduceIte, FR, d]; first | done | rfl)) (c1 nb1) (Sm.out ?_))
      | (refine CallV.ex (F := []) (List.Perm.refl _) (c2) (fun g => Sm.out ?_))
      | (refine CallV.updN (perm1 (by simp only [hget, hdel, ↓reduceIte, FR, d]; first | done | rfl)) (c3 nb1) (Sm.out ?_))
      | ((first | refine ExF.up ?_ (c3 nb1) (Sm.out ?_) | refine ExG.up ?_ (fun _ => c3 nb1) (Sm.out ?_) | refine ExG.upJ ?_ (fun _ => c3 nb1) (Sm.out ?_) | refine ExG.upI ?_ (fun _ => c3 nb1) (Ob.out ?_) (Sm.out ?_)); focus (exact ⟨_, (perm1 (by simp only [hget, hdel, ↓reduceIte, FR, d]; first | done | rfl))⟩))
      | (refine WP.seq fun K hK => ?_)
      | (refine WP.region (rvc_sound _ _ (Sm.out ?_)))
      | (refine WP.drawK rfl mixed (by decide +kernel) (Sm.out ?_))
      | (refine Ob.mk ?_; focus (first | assumption | omega | decide | trivial | (intro hob; simp only [hob, ZF]; done) | (intros; (repeat' refine And.intro ?_ ?_) <;> first | assumption | omega | trivial | decide) | (intros; simp only [ZE] at *; (repeat' refine And.intro ?_ ?_) <;> first | assumption | omega | trivial)))
      | (refine And.intro (Ob.out ?_) ?_)
      | (refine WP.block ?_)
      | (refine WP.cond rfl (fun hc => ?_) (fun hc => ?_) <;> (try simp only [ZC, reduceCtorEq, ZD] at hc) <;> (try (exact absurd hc (by decide))) <;> (try (exfalso; omega)))
      | ((first | refine WP.skip ?_ | refine WP.exit ?_); simp only [SeqQ, BlkQ, LoopQ, BodyQ, ↓reduceIte, Nat.reduceEqDiff, reduceCtorEq, look, true_and])
      | (refine WP.ret (Sm.out ?_))
      | (first | refine ExG.no (Sm.out ?_) | refine Or.inl (ExG.no (Sm.out ?_)) | refine Or.inl (And.intro (fun hg => absurd hg (by decide)) (ExG.no (Sm.out ?_))))
      | (refine Rt.mk ?_; refine And.intro ?_ ?_ <;> (intro hg; first | exact absurd hg (by decide) | refine Sm.out ?_))
      | (refine Nu.mk ?_; first | (fail_if_success (have := nb1)); intro nb1 | (fail_if_success (have := nb2)); intro nb2 | (fail_if_success (have := nb3)); intro nb3 | intro nbz)
      | (refine Fr.mk ?_; intro hfr; replace FR := And.intro hfr FR; clear hfr; refine Sm.out ?_)
      | (refine Two.mk ?_ ?_)
      | (refine Cs.mk ?_; intro hcs; first | exact False.elim hcs | (exfalso; omega) | (refine Sm.out ?_))
      | (refine OutQ.all ?_ ?_; (focus (simp only [resv, ZK, look, loadv, loadn, loadnm, load1, load1m, hget, ↓reduceIte, Nat.reduceEqDiff, Nat.reduceAdd, Nat.reduceMul, Nat.reduceLeDiff, Nat.reduceLT, reduceCtorEq, TFRhL, d, FR])); (try simp only [resv, resA, Fn, ZK, look, loadv, loadn, loadnm, load1, load1m, hget, ↓reduceIte, Nat.reduceEqDiff, Nat.reduceAdd, Nat.reduceMul, Nat.reduceLeDiff, Nat.reduceLT, reduceCtorEq, TFRhL, d, FR]); (try simp [resA, Fn, look, d, FR]); done)
      | go_step
      | omega
      | (simp only [maxLen_eq]; omega)
      | (refine Or.inr (Rt.mk ?_); refine And.intro ?_ ?_ <;> (intro hg; first | exact absurd hg (by decide) | refine Sm.out ?_))
  | some p =>
    obtain ⟨E, zs⟩ := p
    have c1 := fun xb => Get_some xb W G k w now Z E zs hb (by omega) hg h hn hres
    have c2 := refGet_some Z W G k w now E zs hb hz hg h hn hres
    obtain ⟨hRI, hsp⟩ := rdE_spec hw k [] Z E zs (Nat.le_refl k) (by rw [Nat.sub_self]; exact RI.zero w k now) hb hres
    rw [Nat.sub_self] at hsp
    have hsp : pdL (bkG w k now E) (bkT w k now E) k ++ zs = Z := hsp
    have hle : zs.length ≤ Z.length := by rw [← hsp]; simp
    have hInv : ∀ o, evOk E o → Inv w k 60 ⟨E, now, o⟩ := fun o ho => ⟨hn, hRI.at_, hRI.gt, by have := hRI.len; simp only; omega, hRI.sum, ho⟩
    obtain ⟨N, hN⟩ : ∃ N, N = Z.length - zs.length := ⟨_, rfl⟩
    have ht : Z.take N = pdL (bkG w k now E) (bkT w k now E) k := by
      have hlen : N = (pdL (bkG w k now E) (bkT w k now E) k).length := by rw [hN, ← hsp]; simp
      rw [hlen, ← hsp, List.take_left]
    have w1 : IntKind.i64.wrap ((Z.length : Int) - (N : Int)) = (zs.length : Int) := by rw [wrap_i64 (by omega) (by omega)]; omega
    rw [← hN] at c2
    first | (have FRx := FR; clear FRx) | (have FR : ¬ ((1 : Nat) = 0) := Nat.one_ne_zero)
    repeat' first
      | (refine Sm.mk ?_; try simp -dsimp only [ZK, rvc, drawF, headN, pureH, stp, dvc, calleeOf, gcall, pev, eff, newB, okd, og, ogs, ogo, ogp, slv, bltv, opd, litv, strip, one, both, putE, St.put, look, gdOf, gdv, picka, pickv, pickw, binv, bini, bins, binb, binp, bina, shp, eqCells, unv, convv, nilv, faddv, addp, idxav, idxp, load1, load1m, loadn, loadnm, loadv, hget, hset, hrep, hdel, slicev, bnd, shift1, lenv, IntKind.bits, extractv, fieldv, indexv, min2v, max2v, mkiv, cellsA, fillA, buildv, stC, oneC, rowMB, intsA, plN, appE, appZ, appC, appNZ, appNC, VwL, srcC, srcZ, srcM, isBoolT, isPtrT, isSliceT, uOk, Value.oneCell', Nat.reducePow, Int.reducePow, Nat.reduceAdd, Nat.reduceMul, Nat.reduceSub, Nat.reduceLT, Nat.reduceLeDiff, Nat.reduceEqDiff, Nat.reduceBEq, Nat.reduceDiv, Nat.reduceMod, ↓reduceIte, reduceCtorEq, Int.reduceToNat, Int.reduceLT, Int.reduceLE, TFRhL, SeqQ, BlkQ, LoopQ, BodyQ, d, FR])
      | (first | refine CallV.fn (awake_ct) (Sm.out ?_) | refine ExF.mk (awake_ct) (Sm.out ?_) | refine ExG.mk (fun _ => awake_ct) (Sm.out ?_) | refine ExG.mkJ (fun _ => awake_ct) (Sm.out ?_) | refine ExG.mkI (Ob.out ?_) (fun _ => awake_ct) (Sm.out ?_))
      | (refine CallV.row (by simp only [hget, ↓reduceIte, FR, d]; first | done | rfl) (new_cr Z) (Sm.out ?_))
      | (refine CallV.mkrow (new_cr Z) (Sm.out ?_))
      | (refine CallV.upd (by simp only [hget, ↓reduceIte, FR, d]; first | done | rfl) (new_cr Z) (Sm.out ?_))
      | (refine CallV.mkobj (new_cr Z) (Sm.out ?_))
      | (first | refine CallV.fn (new_cr Z) (Sm.out ?_) | refine ExF.mk (new_cr Z) (Sm.out ?_) | refine ExG.mk (fun _ => new_cr Z) (Sm.out ?_) | refine ExG.mkJ (fun _ => new_cr Z) (Sm.out ?_) | refine ExG.mkI (Ob.out ?_) (fun _ => new_cr Z) (Sm.out ?_))
      | (refine CallV.new2 (F := [_]) (perm1 (by simp only [hget, hdel, ↓reduceIte, FR, d]; first | done | rfl)) (c1 nb1) rfl (Sm.out ?_))
      | (refine CallV.ex (F := []) (List.Perm.refl _) (c2) (fun g => Sm.out ?_))
      | (refine WP.seq fun K hK => ?_)
      | ((fail_if_success (show WP _ _ _ (.region 8 _ _) _ _)); refine WP.region (rvc_sound _ _ (Sm.out ?_)))
      | ((fail_if_success (show WP _ _ _ (.region 8 _ _) _ _)); refine WP.drawK rfl mixed (by decide +kernel) (Sm.out ?_))
      | (refine Ob.mk ?_; focus (first | assumption | omega | decide | trivial | (intro hob; simp only [hob, ZF]; done) | (intros; (repeat' refine And.intro ?_ ?_) <;> first | assumption | omega | trivial | decide) | (intros; simp only [ZE] at *; (repeat' refine And.intro ?_ ?_) <;> first | assumption | omega | trivial)))
      | (refine And.intro (Ob.out ?_) ?_)
      | (refine WP.block ?_)
      | (refine WP.cond rfl (fun hc => ?_) (fun hc => ?_) <;> (try simp only [ZC, reduceCtorEq, ZD] at hc) <;> (try (exact absurd hc (by decide))) <;> (try (exfalso; omega)))
      | ((first | refine WP.skip ?_ | refine WP.exit ?_); simp only [SeqQ, BlkQ, LoopQ, BodyQ, ↓reduceIte, Nat.reduceEqDiff, reduceCtorEq, look, true_and])
      | (refine WP.ret (Sm.out ?_))
      | (first | refine ExG.no (Sm.out ?_) | refine Or.inl (ExG.no (Sm.out ?_)) | refine Or.inl (And.intro (fun hg => absurd hg (by decide)) (ExG.no (Sm.out ?_))))
      | (refine Rt.mk ?_; refine And.intro ?_ ?_ <;> (intro hg; first | exact absurd hg (by decide) | refine Sm.out ?_))
      | (refine Nu.mk ?_; first | (fail_if_success (have := nb1)); intro nb1 | (fail_if_success (have := nb2)); intro nb2 | (fail_if_success (have := nb3)); intro nb3 | intro nbz)
      | (refine Fr.mk ?_; intro hfr; replace FR := And.intro hfr FR; clear hfr; refine Sm.out ?_)
      | (refine Two.mk ?_ ?_)
      | (refine Cs.mk ?_; intro hcs; first | exact False.elim hcs | (exfalso; omega) | (refine Sm.out ?_))
      | go_step
      | omega
      | (simp only [maxLen_eq]; omega)
      | (refine Or.inr (Rt.mk ?_); refine And.intro ?_ ?_ <;> (intro hg; first | exact absurd hg (by decide) | refine Sm.out ?_))
    have hgm := g.2.2
    have hgo := g.2.1
    refine WP.sub (s' := ⟨[(0, .slz .u8 Z), (9, pt nb1 0), (10, pt nb2 0), (11, pt g.1.1 0), (12, iv .i64 (N : Int)), (13, bv true)], (nb2, R1 nb3 w k E now) :: (nb3, L1 w k E now) :: (nb1, rd zs false) :: (g.1.1, mM W G now (evL E g.1.2)) :: evB E g.1.2⟩) (Sub.of_env [] (by rw [List.append_nil]; exact pms _ _ _ _ _) (by simp [look])) ?_
    (refine WP.nd fun hnd => ?_; simp only [ndF, fresh_cons, fresh_nil, and_true, ne_eq] at hnd; replace FR := And.intro hnd FR; clear hnd)
    have hI := hInv g.1.2 hgo
    have c3 := badR nb1 zs false
    have c4 := leftR nb1 zs
    have c5 := same_ct nb2 nb3 g.1.1 W G k w 60 ⟨E, now, g.1.2⟩ hI (by omega) hg h hgm (by omega)
    unfold blk at c5
    have c6 : ACt Try.prog 22 [pt nb2 0, nilS] [(nb2, R1 nb3 w k E now), (nb3, L1 w k E now)] (fun r F' => r = .slz .u8 (pdL (bkG w k now E) (bkT w k now E) k) ∧ F' = [(nb2, R1 nb3 w k E now), (nb3, L1 w k E now)]) :=
      put_look nb2 nb3 w k 60 ⟨E, now, g.1.2⟩ none [] hI (by omega) hk1 hk2 (by simp) rfl
    rw [← ht] at c6
    obtain ⟨D, hD⟩ : ∃ D, Z.take N = D := ⟨_, rfl⟩
    rw [hD] at c6
    have hN2 : N ≤ Z.length := by omega
    obtain ⟨RB, hRB⟩ : ∃ RB, RB = R1 nb3 w k E now := ⟨_, rfl⟩
    obtain ⟨LB, hLB⟩ : ∃ LB, LB = L1 w k E now := ⟨_, rfl⟩
    obtain ⟨MM, hMM⟩ : ∃ MM, MM = mM W G now (evL E g.1.2) := ⟨_, rfl⟩
    simp only at c5
    rw [← hRB, ← hLB, ← hMM] at c5
    rw [← hRB, ← hLB] at c6
    rw [← hRB, ← hLB, ← hMM]
    have y1 : ((zs.length : Int) == (zs.length : Int)) = true := beq_self_eq_true _
    have y2 : ((bstr D).toList == (bstr D).toList) = true := beq_self_eq_true _
    clear hsp hres ht
    first | (have FRx := FR; clear FRx) | (have FR : ¬ ((1 : Nat) = 0) := Nat.one_ne_zero)
    repeat' first
      | (refine Sm.mk ?_; try simp -dsimp only [ZK, rvc, drawF, headN, pureH, stp, dvc, calleeOf, gcall, pev, eff, newB, okd, og, ogs, ogo, ogp, slv, bltv, opd, litv, strip, one, both, putE, St.put, look, gdOf, gdv, picka, pickv, pickw, binv, bini, bins, binb, binp, bina, shp, eqCells, unv, convv, nilv, faddv, addp, idxav, idxp, load1, load1m, loadn, loadnm, loadv, hget, hset, hrep, hdel, slicev, bnd, shift1, lenv, IntKind.bits, extractv, fieldv, indexv, min2v, max2v, mkiv, cellsA, fillA, buildv, stC, oneC, rowMB, intsA, plN, appE, appZ, appC, appNZ, appNC, VwL, srcC, srcZ, srcM, isBoolT, isPtrT, isSliceT, uOk, Value.oneCell', Nat.reducePow, Int.reducePow, Nat.reduceAdd, Nat.reduceMul, Nat.reduceSub, Nat.reduceLT, Nat.reduceLeDiff, Nat.reduceEqDiff, Nat.reduceBEq, Nat.reduceDiv, Nat.reduceMod, ↓reduceIte, reduceCtorEq, Int.reduceToNat, Int.reduceLT, Int.reduceLE, TFRhL, SeqQ, BlkQ, LoopQ, BodyQ, w1, y1, y2, hD, hN2, FR])
      | (refine CallV.updN (perm1 (by simp only [hget, hdel, ↓reduceIte, FR, w1, y1, y2, hD, hN2]; first | done | rfl)) (c3) (Sm.out ?_))
      | ((first | refine ExF.up ?_ (c3) (Sm.out ?_) | refine ExG.up ?_ (fun _ => c3) (Sm.out ?_) | refine ExG.upJ ?_ (fun _ => c3) (Sm.out ?_) | refine ExG.upI ?_ (fun _ => c3) (Ob.out ?_) (Sm.out ?_)); focus (exact ⟨_, (perm1 (by simp only [hget, hdel, ↓reduceIte, FR, w1, y1, y2, hD, hN2]; first | done | rfl))⟩))
      | (refine CallV.updN (perm1 (by simp only [hget, hdel, ↓reduceIte, FR, w1, y1, y2, hD, hN2]; first | done | rfl)) (c4) (Sm.out ?_))
      | ((first | refine ExF.up ?_ (c4) (Sm.out ?_) | refine ExG.up ?_ (fun _ => c4) (Sm.out ?_) | refine ExG.upJ ?_ (fun _ => c4) (Sm.out ?_) | refine ExG.upI ?_ (fun _ => c4) (Ob.out ?_) (Sm.out ?_)); focus (exact ⟨_, (perm1 (by simp only [hget, hdel, ↓reduceIte, FR, w1, y1, y2, hD, hN2]; first | done | rfl))⟩))
      | (refine CallV.updN (pmq _ _ _ _ _) (c5) (Sm.out ?_))
      | ((first | refine ExF.up ?_ (c5) (Sm.out ?_) | refine ExG.up ?_ (fun _ => c5) (Sm.out ?_) | refine ExG.upJ ?_ (fun _ => c5) (Sm.out ?_) | refine ExG.upI ?_ (fun _ => c5) (Ob.out ?_) (Sm.out ?_)); focus (exact ⟨_, (pmq _ _ _ _ _)⟩))
      | (refine CallV.updN (perm2 (by simp only [hget, hdel, ↓reduceIte, FR, w1, y1, y2, hD, hN2]; first | done | rfl) (by simp only [hget, hdel, ↓reduceIte, FR, w1, y1, y2, hD, hN2]; first | done | rfl)) (c6) (Sm.out ?_))
      | ((first | refine ExF.up ?_ (c6) (Sm.out ?_) | refine ExG.up ?_ (fun _ => c6) (Sm.out ?_) | refine ExG.upJ ?_ (fun _ => c6) (Sm.out ?_) | refine ExG.upI ?_ (fun _ => c6) (Ob.out ?_) (Sm.out ?_)); focus (exact ⟨_, (perm2 (by simp only [hget, hdel, ↓reduceIte, FR, w1, y1, y2, hD, hN2]; first | done | rfl) (by simp only [hget, hdel, ↓reduceIte, FR, w1, y1, y2, hD, hN2]; first | done | rfl))⟩))
      | (refine WP.seq fun K hK => ?_)
      | (refine WP.region (rvc_sound _ _ (Sm.out ?_)))
      | (refine WP.drawK rfl mixed (by decide +kernel) (Sm.out ?_))
      | (refine Ob.mk ?_; focus (first | assumption | omega | decide | trivial | (intro hob; simp only [hob, ZF]; done) | (intros; (repeat' refine And.intro ?_ ?_) <;> first | assumption | omega | trivial | decide) | (intros; simp only [ZE] at *; (repeat' refine And.intro ?_ ?_) <;> first | assumption | omega | trivial)))
      | (refine And.intro (Ob.out ?_) ?_)
      | (refine WP.block ?_)
      | (refine WP.cond rfl (fun hc => ?_) (fun hc => ?_) <;> (try simp only [ZC, reduceCtorEq, ZD] at hc) <;> (try (exact absurd hc (by decide))) <;> (try (exfalso; omega)))
      | ((first | refine WP.skip ?_ | refine WP.exit ?_); simp only [SeqQ, BlkQ, LoopQ, BodyQ, ↓reduceIte, Nat.reduceEqDiff, reduceCtorEq, look, true_and])
      | (refine WP.ret (Sm.out ?_))
      | (first | refine ExG.no (Sm.out ?_) | refine Or.inl (ExG.no (Sm.out ?_)) | refine Or.inl (And.intro (fun hg => absurd hg (by decide)) (ExG.no (Sm.out ?_))))
      | (refine Rt.mk ?_; refine And.intro ?_ ?_ <;> (intro hg; first | exact absurd hg (by decide) | refine Sm.out ?_))
      | (refine Nu.mk ?_; first | (fail_if_success (have := nb1)); intro nb1 | (fail_if_success (have := nb2)); intro nb2 | (fail_if_success (have := nb3)); intro nb3 | intro nbz)
      | (refine Fr.mk ?_; intro hfr; replace FR := And.intro hfr FR; clear hfr; refine Sm.out ?_)
      | (refine Two.mk ?_ ?_)
      | (refine Cs.mk ?_; intro hcs; first | exact False.elim hcs | (exfalso; omega) | (refine Sm.out ?_))
      | (refine OutQ.all ?_ ?_; (focus (simp only [resv, ZK, look, loadv, loadn, loadnm, load1, load1m, hget, ↓reduceIte, Nat.reduceEqDiff, Nat.reduceAdd, Nat.reduceMul, Nat.reduceLeDiff, Nat.reduceLT, reduceCtorEq, TFRhL, w1, y1, y2, hD, hN2, FR])); (try simp only [resv, resA, Fn, ZK, look, loadv, loadn, loadnm, load1, load1m, hget, ↓reduceIte, Nat.reduceEqDiff, Nat.reduceAdd, Nat.reduceMul, Nat.reduceLeDiff, Nat.reduceLT, reduceCtorEq, TFRhL, w1, y1, y2, hD, hN2, FR]); (try simp [resA, Fn, look, w1, y1, y2, hD, hN2, FR]); done)
      | go_step
      | omega
      | (simp only [maxLen_eq]; omega)
      | (refine Or.inr (Rt.mk ?_); refine And.intro ?_ ?_ <;> (intro hg; first | exact absurd hg (by decide) | refine Sm.out ?_))
theorem reads_law (bs : List UInt8) (W G now : Int) (h1 : -9223372036854775808 ≤ W ∧ W ≤ 9223372036854775807) (h2 : -9223372036854775808 ≤ G ∧ G ≤ 9223372036854775807) :
    ACt Try.prog 6 [.slz .u8 (ub bs), iv .i64 W, iv .i64 G, iv .i64 now] [] (fun r _ => r = bv true) := by
  refine reads_ct (ub bs) W G now (fun x hx => ?_) h1 h2
  simp only [ub, List.mem_map] at hx
  obtain ⟨b, _, rfl⟩ := hx
  have := b.toNat_lt
  omega
end Go.Proofs.Ytbnkmhlnoaebcaa
