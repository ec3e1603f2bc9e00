/-
  The walks and the laws that the statement leans on, part 11.
-/
import Derived.Test.YtbnkmhlnoaebcaaZ10
namespace Go.Proofs.Ytbnkmhlnoaebcaa.Wi
open Go
set_option linter.unusedVariables false
set_option linter.unusedSimpArgs false
theorem TFWiZ : ((((((type_of% tyc0) ∧ ((type_of% tyc2) ∧ (type_of% zmb2))) ∧ ((type_of% tyc3) ∧ ((type_of% zmb3) ∧ (type_of% tyc4)))) ∧ (((type_of% zmb4) ∧ ((type_of% tyc5) ∧ (type_of% zmb5))) ∧ ((type_of% tyc9) ∧ ((type_of% zmb9) ∧ (type_of% tyc41))))) ∧ ((((type_of% zmb41) ∧ ((type_of% tyc50) ∧ (type_of% elt50))) ∧ ((type_of% mkz50) ∧ ((type_of% apT50) ∧ (type_of% elk50)))) ∧ (((type_of% zmb50) ∧ ((type_of% tyc90) ∧ (type_of% foff90_0))) ∧ ((type_of% fpart90_0) ∧ ((type_of% foff90_1) ∧ (type_of% fpart90_1)))))) ∧ (((((type_of% foff90_2) ∧ ((type_of% fpart90_2) ∧ (type_of% foff90_3))) ∧ ((type_of% fpart90_3) ∧ ((type_of% fe90) ∧ (type_of% zmb90)))) ∧ (((type_of% bldT90) ∧ ((type_of% tyc94) ∧ (type_of% foff94_0))) ∧ ((type_of% fpart94_0) ∧ ((type_of% foff94_1) ∧ (type_of% fpart94_1))))) ∧ ((((type_of% fe94) ∧ ((type_of% zmb94) ∧ (type_of% bldT94))) ∧ ((type_of% Try.underlying0) ∧ ((type_of% Try.underlying2) ∧ (type_of% Try.underlying3)))) ∧ (((type_of% Try.underlying4) ∧ ((type_of% Try.underlying5) ∧ (type_of% Try.underlying9))) ∧ (((type_of% Try.underlying41) ∧ (type_of% Try.underlying50)) ∧ ((type_of% Try.underlying90) ∧ (type_of% Try.underlying94))))))) :=
  ⟨⟨⟨⟨⟨tyc0, ⟨tyc2, zmb2⟩⟩, ⟨tyc3, ⟨zmb3, tyc4⟩⟩⟩, ⟨⟨zmb4, ⟨tyc5, zmb5⟩⟩, ⟨tyc9, ⟨zmb9, tyc41⟩⟩⟩⟩, ⟨⟨⟨zmb41, ⟨tyc50, elt50⟩⟩, ⟨mkz50, ⟨apT50, elk50⟩⟩⟩, ⟨⟨zmb50, ⟨tyc90, foff90_0⟩⟩, ⟨fpart90_0, ⟨foff90_1, fpart90_1⟩⟩⟩⟩⟩, ⟨⟨⟨⟨foff90_2, ⟨fpart90_2, foff90_3⟩⟩, ⟨fpart90_3, ⟨fe90, zmb90⟩⟩⟩, ⟨⟨bldT90, ⟨tyc94, foff94_0⟩⟩, ⟨fpart94_0, ⟨foff94_1, fpart94_1⟩⟩⟩⟩, ⟨⟨⟨fe94, ⟨zmb94, bldT94⟩⟩, ⟨Try.underlying0, ⟨Try.underlying2, Try.underlying3⟩⟩⟩, ⟨⟨Try.underlying4, ⟨Try.underlying5, Try.underlying9⟩⟩, ⟨⟨Try.underlying41, Try.underlying50⟩, ⟨Try.underlying90, Try.underlying94⟩⟩⟩⟩⟩⟩
set_option maxRecDepth 8000 in
set_option maxHeartbeats 8000000 in
theorem refG_goodF (Z t : List Int) (at_ m KK : Nat) (kind most : Int) (h : Z.drop at_ = (m : Int) :: t) (hb : By t) (hz : Z.length ≤ 2000) (h3 : kind ≠ 3) (hm : m < 256) (hH : HeadK kind m KK false)
    (hk : KK ≤ 8 ∧ KK ≤ t.length ∧ (KK = 0 ∨ t.getD 0 0 ≠ 0)) (hm1 : -9223372036854775808 ≤ most) (hm2 : most ≤ 9223372036854775807) :
    ACt Try.prog 51 [.slz .u8 Z, iv .i64 (at_ : Int), .agg [iv .i64 kind, iv .i64 most]] [] (Post3 Z.length (tailF kind most false (valL (t.take KK)) (t.drop KK))) := by
  obtain ⟨h1, h2, h3', h4, h5⟩ := drop_facts h
  have h50 := h5 0
  rw [Nat.add_zero] at h50
  obtain ⟨N, hN⟩ : ∃ N, N = valL (t.take KK) := ⟨_, rfl⟩
  obtain ⟨r, hr⟩ : ∃ r, r = t.drop KK := ⟨_, rfl⟩
  have hrl : r.length = t.length - KK := by rw [hr]; simp
  have hlt : ∀ j, j ≤ KK → valL (t.take j) < 256 ^ j := fun j hj => by
    have := valL_lt (hb.take j)
    rwa [show (t.take j).length = j by simp; omega] at this
  have hNlt : N < 18446744073709551616 := by
    have := hlt KK (Nat.le_refl _)
    have h8 : (256 : Nat) ^ KK ≤ 256 ^ 8 := Nat.pow_le_pow_right (by omega) hk.1
    omega
  have hZr : Z.drop (at_ + 1 + KK) = r := by rw [hr, h2, List.drop_drop]
  rw [← hN, ← hr]
  have hT := tailF kind most false N r
  refine ACt.intro Try.func51 rfl (by kernel_rfl) (by simp [Try.ntmps51]) (fun cx => ?_)
  simp only [argE, Try.ntmps51, Try.results51]
  have d : decide ((at_ : Int) ≥ (Z.length : Int)) = false := by simp; omega
  have z : (kind == 3) = false := beq_eq_false_iff_ne.2 h3
  have w : IntKind.i64.wrap ((at_ : Int) + 1) = ((at_ + 1 : Nat) : Int) := by rw [wrap_i64 (by omega) (by omega)]; omega
  have w1 : IntKind.i64.wrap (m : Int) = (m : Int) := wrap_i64_nat (by omega)
  have w2 : IntKind.i64.wrap ((Z.length : Int) - at_) = ((t.length + 1 : Nat) : Int) := by rw [wrap_i64 (by omega) (by omega)]; omega
  have w3 : IntKind.i64.wrap (((t.length + 1 : Nat) : Int) - 1) = (t.length : Int) := by rw [wrap_i64 (by omega) (by omega)]; omega
  have e1 : (m : Int).tdiv 16 = ((m / 16 : Nat) : Int) := by rw [Int.tdiv_eq_ediv_of_nonneg (by omega)]; simp
  have e2 : IntKind.i64.wrap ((m / 16 : Nat) : Int) = ((m / 16 : Nat) : Int) := wrap_i64_nat (by omega)
  have e3 : ((m / 16 : Nat) : Int).tmod 2 = ((m / 16 % 2 : Nat) : Int) := by rw [Int.tmod_eq_emod_of_nonneg (by omega)]; simp
  have e4 : IntKind.i64.wrap ((m / 16 % 2 : Nat) : Int) = ((m / 16 % 2 : Nat) : Int) := wrap_i64_nat (by omega)
  have g1 : decide ((KK : Int) > 8) = false := by simp; omega
  have g2 : decide ((KK : Int) > (t.length : Int)) = false := by simp; omega
  have q : ∃ q2 : Bool, (((m / 16 % 2 : Nat) : Int) == 1) = q2 ∧ ((kind == 1) && q2) = false ∧ m = KK := by
    rcases hH with ⟨p1, p2, p3⟩ | ⟨p1, p0, p2, p3⟩ | ⟨p1, p0, p2, p3⟩
    · exact ⟨_, rfl, by rw [show (kind == 1) = false from beq_eq_false_iff_ne.2 p1]; rfl, p2.symm⟩
    · exact ⟨_, rfl, by rw [show (((m / 16 % 2 : Nat) : Int) == 1) = false from beq_eq_false_iff_ne.2 (by omega), Bool.and_false], p2.symm⟩
    · cases p3
  obtain ⟨q2, f2, f3, f4⟩ := q
  obtain rfl : KK = m := f4.symm
  clear hH
  first | (have FRx := FR; clear FRx) | (have FR : ¬ ((1 : Nat) = 0) := Nat.one_ne_zero)
  repeat' first
    | (refine Sm.mk ?_; try simp -dsimp only [ZK, rvc, drawF, headN, pureH, stp, dvc, calleeOf, gcall, pev, eff, newB, okd, og, ogs, ogo, ogp, slv, bltv, opd, litv, strip, one, both, putE, St.put, look, gdOf, gdv, picka, pickv, pickw, binv, bini, bins, binb, binp, bina, shp, eqCells, unv, convv, nilv, faddv, addp, idxav, idxp, load1, load1m, loadn, loadnm, loadv, hget, hset, hrep, hdel, slicev, bnd, shift1, lenv, IntKind.bits, extractv, fieldv, indexv, min2v, max2v, mkiv, cellsA, fillA, buildv, stC, oneC, rowMB, intsA, plN, appE, appZ, appC, appNZ, appNC, VwL, srcC, srcZ, srcM, isBoolT, isPtrT, isSliceT, uOk, Value.oneCell', Nat.reducePow, Int.reducePow, Nat.reduceAdd, Nat.reduceMul, Nat.reduceSub, Nat.reduceLT, Nat.reduceLeDiff, Nat.reduceEqDiff, Nat.reduceBEq, Nat.reduceDiv, Nat.reduceMod, ↓reduceIte, reduceCtorEq, Int.reduceToNat, Int.reduceLT, Int.reduceLE, drawSF, hdel, TFWiZ, SeqQ, BlkQ, LoopQ, BodyQ, d, z, w, w1, w2, w3, e1, e2, e3, e4, f2, f3, h4, h50, g1, g2, FR])
    | (refine WP.seq fun K hK => ?_)
    | (refine WP.region (rvc_sound _ _ (Sm.out ?_)))
    | (refine WP.drawS (is := 13) (k := 16) mixed (by decide +kernel) (by decide +kernel) (Sm.out ?_))
    | (refine WP.drawK rfl mixed (by decide +kernel) (Sm.out ?_))
    | (refine Ob.mk ?_; focus (first | assumption | omega | decide | trivial | (intro hob; simp only [hob, ZF]; done) | (intros; (repeat' refine And.intro ?_ ?_) <;> first | assumption | omega | trivial | decide) | (intros; simp only [ZE] at *; (repeat' refine And.intro ?_ ?_) <;> first | assumption | omega | trivial)))
    | (refine And.intro (Ob.out ?_) ?_)
    | (refine WP.block ?_)
    | (refine WP.cond rfl (fun hc => ?_) (fun hc => ?_) <;> (try simp only [ZC, reduceCtorEq, ZD] at hc) <;> (try (exact absurd hc (by decide))) <;> (try (exfalso; omega)))
    | ((first | refine WP.skip ?_ | refine WP.exit ?_); simp only [SeqQ, BlkQ, LoopQ, BodyQ, ↓reduceIte, Nat.reduceEqDiff, reduceCtorEq, look, true_and])
    | (refine WP.ret (Sm.out ?_))
    | (first | refine ExG.no (Sm.out ?_) | refine Or.inl (ExG.no (Sm.out ?_)) | refine Or.inl (And.intro (fun hg => absurd hg (by decide)) (ExG.no (Sm.out ?_))))
    | (refine Rt.mk ?_; refine And.intro ?_ ?_ <;> (intro hg; first | exact absurd hg (by decide) | refine Sm.out ?_))
    | (refine Nu.mk ?_; first | (fail_if_success (have := nb1)); intro nb1 | (fail_if_success (have := nb2)); intro nb2 | (fail_if_success (have := nb3)); intro nb3 | intro nbz)
    | (refine Fr.mk ?_; intro hfr; replace FR := And.intro hfr FR; clear hfr; refine Sm.out ?_)
    | (refine Two.mk ?_ ?_)
    | (refine Cs.mk ?_; intro hcs; first | exact False.elim hcs | (exfalso; omega) | (refine Sm.out ?_))
    | go_step
    | omega
    | (simp only [maxLen_eq]; omega)
  clear g1 g2 e1 e2 e3 e4 w2 w3
  refine WP.loop (Γ := GG) (fun g => ⟨[(13, iv .i64 g.j), (10, iv .i64 KK), (12, nu (valL (t.take g.j))), (0, .slz .u8 Z), (1, iv .i64 at_), (11, bv false), (5, pt nb1 0), (6, pt nb2 0), (9, pt nb3 0)],
    [(nb1, .cells [iv .i64 kind, iv .i64 most] 2 94), (nb2, .cells [iv .u64 0, iv .i64 0, eS, bv false] 4 90), (nb3, .cells [iv .u64 0, iv .i64 0, eS, bv false] 4 90)]⟩) (fun g => g.j ≤ KK) (fun g => KK - g.j) ⟨0⟩ (by simp) (Sub.pick (by simp [pickB, hget, hdel, FR, valL]) (by simp [look, valL])) ?_
  intro ⟨j⟩ hj
  simp only at hj ⊢
  (refine WP.nd fun hnd => ?_; simp only [ndF, fresh_cons, fresh_nil, and_true, ne_eq] at hnd; replace FR := And.intro hnd FR; clear hnd)
  by_cases hjk : j < KK
  · have k1 : decide ((j : Int) < KK) = true := by simp; omega
    obtain ⟨c, hc0⟩ : ∃ c : Nat, t.getD j 0 = (c : Int) ∧ c ≤ 255 := by
      have hjt : j < t.length := by omega
      have := hb (t.getD j 0) (by rw [List.getD_eq_getElem?_getD, List.getElem?_eq_getElem hjt, Option.getD_some]; exact List.getElem_mem hjt)
      obtain ⟨c, hc⟩ := Int.eq_ofNat_of_zero_le this.1
      exact ⟨c, hc, by omega⟩
    have vj := valL_take (l := t) (i := j) (by omega)
    rw [hc0.1, Int.toNat_natCast] at vj
    have hv1 := hlt j (by omega)
    have h8 : (256 : Nat) ^ j ≤ 256 ^ 7 := Nat.pow_le_pow_right (by omega) (by omega)
    obtain ⟨V, hV⟩ : ∃ V, V = valL (t.take j) := ⟨_, rfl⟩
    rw [← hV] at vj hv1 ⊢
    have a1 : IntKind.u64.wrap (256 * (V : Int)) = ((256 * V : Nat) : Int) := by rw [show 256 * (V : Int) = ((256 * V : Nat) : Int) by simp, wrap_u64_nat (by omega)]
    have a2 : IntKind.i64.wrap (((at_ + 1 : Nat) : Int) + (j : Int)) = ((at_ + 1 + j : Nat) : Int) := by rw [wrap_i64 (by omega) (by omega)]; omega
    have a3 : Z.getD (at_ + 1 + j) 0 = (c : Int) := by rw [h5, hc0.1]
    have a4 : IntKind.u64.wrap (c : Int) = (c : Int) := wrap_u64_nat (by omega)
    have a5 : IntKind.u64.wrap (((256 * V : Nat) : Int) + (c : Int)) = ((V * 256 + c : Nat) : Int) := by rw [wrap_u64 (by omega) (by omega)]; omega
    have a6 : IntKind.i64.wrap ((j : Int) + 1) = ((j + 1 : Nat) : Int) := by rw [wrap_i64 (by omega) (by omega)]; omega
    first | (have FRx := FR; clear FRx) | (have FR : ¬ ((1 : Nat) = 0) := Nat.one_ne_zero)
    repeat' first
      | (refine Sm.mk ?_; try simp -dsimp only [ZK, rvc, drawF, headN, pureH, stp, dvc, calleeOf, gcall, pev, eff, newB, okd, og, ogs, ogo, ogp, slv, bltv, opd, litv, strip, one, both, putE, St.put, look, gdOf, gdv, picka, pickv, pickw, binv, bini, bins, binb, binp, bina, shp, eqCells, unv, convv, nilv, faddv, addp, idxav, idxp, load1, load1m, loadn, loadnm, loadv, hget, hset, hrep, hdel, slicev, bnd, shift1, lenv, IntKind.bits, extractv, fieldv, indexv, min2v, max2v, mkiv, cellsA, fillA, buildv, stC, oneC, rowMB, intsA, plN, appE, appZ, appC, appNZ, appNC, VwL, srcC, srcZ, srcM, isBoolT, isPtrT, isSliceT, uOk, Value.oneCell', Nat.reducePow, Int.reducePow, Nat.reduceAdd, Nat.reduceMul, Nat.reduceSub, Nat.reduceLT, Nat.reduceLeDiff, Nat.reduceEqDiff, Nat.reduceBEq, Nat.reduceDiv, Nat.reduceMod, ↓reduceIte, reduceCtorEq, Int.reduceToNat, Int.reduceLT, Int.reduceLE, drawSF, hdel, TFWiZ, SeqQ, BlkQ, LoopQ, BodyQ, k1, w, a1, a2, a3, a4, a5, a6, FR])
      | (refine WP.seq fun K hK => ?_)
      | (refine WP.region (rvc_sound _ _ (Sm.out ?_)))
      | (refine WP.drawS (is := 13) (k := 16) mixed (by decide +kernel) (by decide +kernel) (Sm.out ?_))
      | (refine WP.drawK rfl mixed (by decide +kernel) (Sm.out ?_))
      | (refine Ob.mk ?_; focus (first | assumption | omega | decide | trivial | (intro hob; simp only [hob, ZF]; done) | (intros; (repeat' refine And.intro ?_ ?_) <;> first | assumption | omega | trivial | decide) | (intros; simp only [ZE] at *; (repeat' refine And.intro ?_ ?_) <;> first | assumption | omega | trivial)))
      | (refine And.intro (Ob.out ?_) ?_)
      | (refine WP.block ?_)
      | (refine WP.cond rfl (fun hc => ?_) (fun hc => ?_) <;> (try simp only [ZC, reduceCtorEq, ZD] at hc) <;> (try (exact absurd hc (by decide))) <;> (try (exfalso; omega)))
      | ((first | refine WP.skip ?_ | refine WP.exit ?_); simp only [SeqQ, BlkQ, LoopQ, BodyQ, ↓reduceIte, Nat.reduceEqDiff, reduceCtorEq, look, true_and])
      | (refine WP.ret (Sm.out ?_))
      | (first | refine ExG.no (Sm.out ?_) | refine Or.inl (ExG.no (Sm.out ?_)) | refine Or.inl (And.intro (fun hg => absurd hg (by decide)) (ExG.no (Sm.out ?_))))
      | (refine Rt.mk ?_; refine And.intro ?_ ?_ <;> (intro hg; first | exact absurd hg (by decide) | refine Sm.out ?_))
      | (refine Nu.mk ?_; first | (fail_if_success (have := nb1)); intro nb1 | (fail_if_success (have := nb2)); intro nb2 | (fail_if_success (have := nb3)); intro nb3 | intro nbz)
      | (refine Fr.mk ?_; intro hfr; replace FR := And.intro hfr FR; clear hfr; refine Sm.out ?_)
      | (refine Two.mk ?_ ?_)
      | (refine Cs.mk ?_; intro hcs; first | exact False.elim hcs | (exfalso; omega) | (refine Sm.out ?_))
      | go_step
      | omega
      | (simp only [maxLen_eq]; omega)
    exact ⟨⟨j + 1⟩, by simp only; omega, by simp only; omega, (Sub.pick (by simp [pickB, hget, hdel, FR, vj]) (by simp [look, vj]))⟩
  · have k1 : decide ((j : Int) < KK) = false := by simp; omega
    obtain rfl : j = KK := by omega
    have wn : IntKind.i64.wrap (((at_ + 1 : Nat) : Int) + (j : Int)) = ((at_ + 1 + j : Nat) : Int) := by rw [wrap_i64 (by omega) (by omega)]; omega
    have wl : IntKind.i64.wrap ((Z.length : Int) - ((at_ + 1 + j : Nat) : Int)) = (r.length : Int) := by rw [wrap_i64 (by omega) (by omega)]; omega
    have wr : IntKind.u64.wrap (r.length : Int) = (r.length : Int) := wrap_u64_nat (by omega)
    have hN' := hN.symm
    have hneg : N ≤ 9223372036854775808 → IntKind.i64.wrap (IntKind.u64.wrap (0 - (N : Int))) = -(N : Int) := fun hN9 => by
      rw [wrap_u64_mod]; simp only [IntKind.wrap, IntKind.bits, IntKind.signed]; simp; omega
    by_cases kk1 : kind = 1
    · have f1 : (kind == 1) = true := by rw [kk1]; rfl
      have k0 : (kind == 0) = false := by rw [kk1]; rfl
      first | (have FRx := FR; clear FRx) | (have FR : ¬ ((1 : Nat) = 0) := Nat.one_ne_zero)
      repeat' first
        | (refine Sm.mk ?_; try simp -dsimp only [ZK, rvc, drawF, headN, pureH, stp, dvc, calleeOf, gcall, pev, eff, newB, okd, og, ogs, ogo, ogp, slv, bltv, opd, litv, strip, one, both, putE, St.put, look, gdOf, gdv, picka, pickv, pickw, binv, bini, bins, binb, binp, bina, shp, eqCells, unv, convv, nilv, faddv, addp, idxav, idxp, load1, load1m, loadn, loadnm, loadv, hget, hset, hrep, hdel, slicev, bnd, shift1, lenv, IntKind.bits, extractv, fieldv, indexv, min2v, max2v, mkiv, cellsA, fillA, buildv, stC, oneC, rowMB, intsA, plN, appE, appZ, appC, appNZ, appNC, VwL, srcC, srcZ, srcM, isBoolT, isPtrT, isSliceT, uOk, Value.oneCell', Nat.reducePow, Int.reducePow, Nat.reduceAdd, Nat.reduceMul, Nat.reduceSub, Nat.reduceLT, Nat.reduceLeDiff, Nat.reduceEqDiff, Nat.reduceBEq, Nat.reduceDiv, Nat.reduceMod, ↓reduceIte, reduceCtorEq, Int.reduceToNat, Int.reduceLT, Int.reduceLE, drawSF, hdel, TFWiZ, SeqQ, BlkQ, LoopQ, BodyQ, k1, w, wn, wl, wr, hN', k0, f1, FR])
        | (refine WP.seq fun K hK => ?_)
        | (refine WP.region (rvc_sound _ _ (Sm.out ?_)))
        | (refine WP.drawS (is := 13) (k := 16) mixed (by decide +kernel) (by decide +kernel) (Sm.out ?_))
        | (refine WP.drawK rfl mixed (by decide +kernel) (Sm.out ?_))
        | (refine Ob.mk ?_; focus (first | assumption | omega | decide | trivial | (intro hob; simp only [hob, ZF]; done) | (intros; (repeat' refine And.intro ?_ ?_) <;> first | assumption | omega | trivial | decide) | (intros; simp only [ZE] at *; (repeat' refine And.intro ?_ ?_) <;> first | assumption | omega | trivial)))
        | (refine And.intro (Ob.out ?_) ?_)
        | (refine WP.block ?_)
        | (refine WP.cond rfl (fun hc => ?_) (fun hc => ?_) <;> (try simp only [ZC, reduceCtorEq, ZD] at hc) <;> (try (exact absurd hc (by decide))) <;> (try (exfalso; omega)))
        | ((first | refine WP.skip ?_ | refine WP.exit ?_); simp only [SeqQ, BlkQ, LoopQ, BodyQ, ↓reduceIte, Nat.reduceEqDiff, reduceCtorEq, look, true_and])
        | (refine WP.ret (Sm.out ?_))
        | (first | refine ExG.no (Sm.out ?_) | refine Or.inl (ExG.no (Sm.out ?_)) | refine Or.inl (And.intro (fun hg => absurd hg (by decide)) (ExG.no (Sm.out ?_))))
        | (refine Rt.mk ?_; refine And.intro ?_ ?_ <;> (intro hg; first | exact absurd hg (by decide) | refine Sm.out ?_))
        | (refine Nu.mk ?_; first | (fail_if_success (have := nb1)); intro nb1 | (fail_if_success (have := nb2)); intro nb2 | (fail_if_success (have := nb3)); intro nb3 | intro nbz)
        | (refine Fr.mk ?_; intro hfr; replace FR := And.intro hfr FR; clear hfr; refine Sm.out ?_)
        | (refine Two.mk ?_ ?_)
        | (refine Cs.mk ?_; intro hcs; first | exact False.elim hcs | (exfalso; omega) | (refine Sm.out ?_))
        | go_step
        | omega
        | (simp only [maxLen_eq]; omega)
      all_goals clear h5 hlt
      all_goals (refine OutQ.all ?_ ?_; (focus (simp only [resv, ZK, look, loadv, loadn, loadnm, load1, load1m, hget, ↓reduceIte, Nat.reduceEqDiff, Nat.reduceAdd, Nat.reduceMul, Nat.reduceLeDiff, Nat.reduceLT, reduceCtorEq, TFWiZ, FR])); (simp only [resv, resA, ZK, look, loadv, loadn, loadnm, load1, load1m, hget, ↓reduceIte, Nat.reduceEqDiff, Nat.reduceAdd, Nat.reduceMul, Nat.reduceLeDiff, Nat.reduceLT, reduceCtorEq, TFWiZ, FR]))
      all_goals (unfold tailF; (repeat' split) <;> first | (exfalso; omega) | (exact absurd (show true = true from rfl) (by assumption)) | (exact absurd (show false = true by assumption) (by decide)) | exact bad3_mk (by first | rfl | (simp; omega)) | exact good3_mk rfl (by first | omega | (simp only [List.length_drop]; omega)) (by first | rfl | (simp; omega)) | exact good3_mk (by first | (rw [wrap_i64 (by omega) (by omega)]; done) | (rw [wrap_i64 (by omega) (by omega)]; rfl)) (by omega) (by first | rfl | (simp; omega)) | exact good3_mk (by first | (rw [hneg (by omega)]; done) | (rw [hneg (by omega)]; rfl)) (by omega) (by first | rfl | (simp; omega)) | trace_state)
    by_cases kk0 : kind = 0
    · have k0 : (kind == 0) = true := by rw [kk0]; rfl
      first | (have FRx := FR; clear FRx) | (have FR : ¬ ((1 : Nat) = 0) := Nat.one_ne_zero)
      repeat' first
        | (refine Sm.mk ?_; try simp -dsimp only [ZK, rvc, drawF, headN, pureH, stp, dvc, calleeOf, gcall, pev, eff, newB, okd, og, ogs, ogo, ogp, slv, bltv, opd, litv, strip, one, both, putE, St.put, look, gdOf, gdv, picka, pickv, pickw, binv, bini, bins, binb, binp, bina, shp, eqCells, unv, convv, nilv, faddv, addp, idxav, idxp, load1, load1m, loadn, loadnm, loadv, hget, hset, hrep, hdel, slicev, bnd, shift1, lenv, IntKind.bits, extractv, fieldv, indexv, min2v, max2v, mkiv, cellsA, fillA, buildv, stC, oneC, rowMB, intsA, plN, appE, appZ, appC, appNZ, appNC, VwL, srcC, srcZ, srcM, isBoolT, isPtrT, isSliceT, uOk, Value.oneCell', Nat.reducePow, Int.reducePow, Nat.reduceAdd, Nat.reduceMul, Nat.reduceSub, Nat.reduceLT, Nat.reduceLeDiff, Nat.reduceEqDiff, Nat.reduceBEq, Nat.reduceDiv, Nat.reduceMod, ↓reduceIte, reduceCtorEq, Int.reduceToNat, Int.reduceLT, Int.reduceLE, drawSF, hdel, TFWiZ, SeqQ, BlkQ, LoopQ, BodyQ, k1, w, wn, wl, wr, hN', k0, FR])
        | (refine WP.seq fun K hK => ?_)
        | (refine WP.region (rvc_sound _ _ (Sm.out ?_)))
        | (refine WP.drawS (is := 13) (k := 16) mixed (by decide +kernel) (by decide +kernel) (Sm.out ?_))
        | (refine WP.drawK rfl mixed (by decide +kernel) (Sm.out ?_))
        | (refine Ob.mk ?_; focus (first | assumption | omega | decide | trivial | (intro hob; simp only [hob, ZF]; done) | (intros; (repeat' refine And.intro ?_ ?_) <;> first | assumption | omega | trivial | decide) | (intros; simp only [ZE] at *; (repeat' refine And.intro ?_ ?_) <;> first | assumption | omega | trivial)))
        | (refine And.intro (Ob.out ?_) ?_)
        | (refine WP.block ?_)
        | (refine WP.cond rfl (fun hc => ?_) (fun hc => ?_) <;> (try simp only [ZC, reduceCtorEq, ZD] at hc) <;> (try (exact absurd hc (by decide))) <;> (try (exfalso; omega)))
        | ((first | refine WP.skip ?_ | refine WP.exit ?_); simp only [SeqQ, BlkQ, LoopQ, BodyQ, ↓reduceIte, Nat.reduceEqDiff, reduceCtorEq, look, true_and])
        | (refine WP.ret (Sm.out ?_))
        | (first | refine ExG.no (Sm.out ?_) | refine Or.inl (ExG.no (Sm.out ?_)) | refine Or.inl (And.intro (fun hg => absurd hg (by decide)) (ExG.no (Sm.out ?_))))
        | (refine Rt.mk ?_; refine And.intro ?_ ?_ <;> (intro hg; first | exact absurd hg (by decide) | refine Sm.out ?_))
        | (refine Nu.mk ?_; first | (fail_if_success (have := nb1)); intro nb1 | (fail_if_success (have := nb2)); intro nb2 | (fail_if_success (have := nb3)); intro nb3 | intro nbz)
        | (refine Fr.mk ?_; intro hfr; replace FR := And.intro hfr FR; clear hfr; refine Sm.out ?_)
        | (refine Two.mk ?_ ?_)
        | (refine Cs.mk ?_; intro hcs; first | exact False.elim hcs | (exfalso; omega) | (refine Sm.out ?_))
        | go_step
        | omega
        | (simp only [maxLen_eq]; omega)
      all_goals clear h5 hlt
      all_goals (refine OutQ.all ?_ ?_; (focus (simp only [resv, ZK, look, loadv, loadn, loadnm, load1, load1m, hget, ↓reduceIte, Nat.reduceEqDiff, Nat.reduceAdd, Nat.reduceMul, Nat.reduceLeDiff, Nat.reduceLT, reduceCtorEq, TFWiZ, FR])); (simp only [resv, resA, ZK, look, loadv, loadn, loadnm, load1, load1m, hget, ↓reduceIte, Nat.reduceEqDiff, Nat.reduceAdd, Nat.reduceMul, Nat.reduceLeDiff, Nat.reduceLT, reduceCtorEq, TFWiZ, FR]))
      all_goals (unfold tailF; (repeat' split) <;> first | (exfalso; omega) | (exact absurd (show true = true from rfl) (by assumption)) | (exact absurd (show false = true by assumption) (by decide)) | exact bad3_mk (by first | rfl | (simp; omega)) | exact good3_mk rfl (by first | omega | (simp only [List.length_drop]; omega)) (by first | rfl | (simp; omega)) | exact good3_mk (by first | (rw [wrap_i64 (by omega) (by omega)]; done) | (rw [wrap_i64 (by omega) (by omega)]; rfl)) (by omega) (by first | rfl | (simp; omega)) | exact good3_mk (by first | (rw [hneg (by omega)]; done) | (rw [hneg (by omega)]; rfl)) (by omega) (by first | rfl | (simp; omega)) | trace_state)
    have f1 : (kind == 1) = false := beq_eq_false_iff_ne.2 kk1
    have k0 : (kind == 0) = false := beq_eq_false_iff_ne.2 kk0
    by_cases hnm : most < (N : Int)
    · by_cases h0 : most < 0
      · have m0 : decide (most < 0) = true := decide_eq_true h0
        first | (have FRx := FR; clear FRx) | (have FR : ¬ ((1 : Nat) = 0) := Nat.one_ne_zero)
        repeat' first
          | (refine Sm.mk ?_; try simp -dsimp only [ZK, rvc, drawF, headN, pureH, stp, dvc, calleeOf, gcall, pev, eff, newB, okd, og, ogs, ogo, ogp, slv, bltv, opd, litv, strip, one, both, putE, St.put, look, gdOf, gdv, picka, pickv, pickw, binv, bini, bins, binb, binp, bina, shp, eqCells, unv, convv, nilv, faddv, addp, idxav, idxp, load1, load1m, loadn, loadnm, loadv, hget, hset, hrep, hdel, slicev, bnd, shift1, lenv, IntKind.bits, extractv, fieldv, indexv, min2v, max2v, mkiv, cellsA, fillA, buildv, stC, oneC, rowMB, intsA, plN, appE, appZ, appC, appNZ, appNC, VwL, srcC, srcZ, srcM, isBoolT, isPtrT, isSliceT, uOk, Value.oneCell', Nat.reducePow, Int.reducePow, Nat.reduceAdd, Nat.reduceMul, Nat.reduceSub, Nat.reduceLT, Nat.reduceLeDiff, Nat.reduceEqDiff, Nat.reduceBEq, Nat.reduceDiv, Nat.reduceMod, ↓reduceIte, reduceCtorEq, Int.reduceToNat, Int.reduceLT, Int.reduceLE, drawSF, hdel, TFWiZ, SeqQ, BlkQ, LoopQ, BodyQ, k1, w, wn, wl, wr, hN', k0, f1, m0, FR])
          | (refine WP.seq fun K hK => ?_)
          | (refine WP.region (rvc_sound _ _ (Sm.out ?_)))
          | (refine WP.drawS (is := 13) (k := 16) mixed (by decide +kernel) (by decide +kernel) (Sm.out ?_))
          | (refine WP.drawK rfl mixed (by decide +kernel) (Sm.out ?_))
          | (refine Ob.mk ?_; focus (first | assumption | omega | decide | trivial | (intro hob; simp only [hob, ZF]; done) | (intros; (repeat' refine And.intro ?_ ?_) <;> first | assumption | omega | trivial | decide) | (intros; simp only [ZE] at *; (repeat' refine And.intro ?_ ?_) <;> first | assumption | omega | trivial)))
          | (refine And.intro (Ob.out ?_) ?_)
          | (refine WP.block ?_)
          | (refine WP.cond rfl (fun hc => ?_) (fun hc => ?_) <;> (try simp only [ZC, reduceCtorEq, ZD] at hc) <;> (try (exact absurd hc (by decide))) <;> (try (exfalso; omega)))
          | ((first | refine WP.skip ?_ | refine WP.exit ?_); simp only [SeqQ, BlkQ, LoopQ, BodyQ, ↓reduceIte, Nat.reduceEqDiff, reduceCtorEq, look, true_and])
          | (refine WP.ret (Sm.out ?_))
          | (first | refine ExG.no (Sm.out ?_) | refine Or.inl (ExG.no (Sm.out ?_)) | refine Or.inl (And.intro (fun hg => absurd hg (by decide)) (ExG.no (Sm.out ?_))))
          | (refine Rt.mk ?_; refine And.intro ?_ ?_ <;> (intro hg; first | exact absurd hg (by decide) | refine Sm.out ?_))
          | (refine Nu.mk ?_; first | (fail_if_success (have := nb1)); intro nb1 | (fail_if_success (have := nb2)); intro nb2 | (fail_if_success (have := nb3)); intro nb3 | intro nbz)
          | (refine Fr.mk ?_; intro hfr; replace FR := And.intro hfr FR; clear hfr; refine Sm.out ?_)
          | (refine Two.mk ?_ ?_)
          | (refine Cs.mk ?_; intro hcs; first | exact False.elim hcs | (exfalso; omega) | (refine Sm.out ?_))
          | go_step
          | omega
          | (simp only [maxLen_eq]; omega)
        all_goals clear h5 hlt
        all_goals (refine OutQ.all ?_ ?_; (focus (simp only [resv, ZK, look, loadv, loadn, loadnm, load1, load1m, hget, ↓reduceIte, Nat.reduceEqDiff, Nat.reduceAdd, Nat.reduceMul, Nat.reduceLeDiff, Nat.reduceLT, reduceCtorEq, TFWiZ, FR])); (simp only [resv, resA, ZK, look, loadv, loadn, loadnm, load1, load1m, hget, ↓reduceIte, Nat.reduceEqDiff, Nat.reduceAdd, Nat.reduceMul, Nat.reduceLeDiff, Nat.reduceLT, reduceCtorEq, TFWiZ, FR]))
        all_goals (unfold tailF; (repeat' split) <;> first | (exfalso; omega) | (exact absurd (show true = true from rfl) (by assumption)) | (exact absurd (show false = true by assumption) (by decide)) | exact bad3_mk (by first | rfl | (simp; omega)) | exact good3_mk rfl (by first | omega | (simp only [List.length_drop]; omega)) (by first | rfl | (simp; omega)) | exact good3_mk (by first | (rw [wrap_i64 (by omega) (by omega)]; done) | (rw [wrap_i64 (by omega) (by omega)]; rfl)) (by omega) (by first | rfl | (simp; omega)) | exact good3_mk (by first | (rw [hneg (by omega)]; done) | (rw [hneg (by omega)]; rfl)) (by omega) (by first | rfl | (simp; omega)) | trace_state)
      · have m0 : decide (most < 0) = false := decide_eq_false h0
        have m1 : decide ((N : Int) > IntKind.u64.wrap most) = true := by rw [wrap_u64 (by omega) (by omega)]; simp; omega
        first | (have FRx := FR; clear FRx) | (have FR : ¬ ((1 : Nat) = 0) := Nat.one_ne_zero)
        repeat' first
          | (refine Sm.mk ?_; try simp -dsimp only [ZK, rvc, drawF, headN, pureH, stp, dvc, calleeOf, gcall, pev, eff, newB, okd, og, ogs, ogo, ogp, slv, bltv, opd, litv, strip, one, both, putE, St.put, look, gdOf, gdv, picka, pickv, pickw, binv, bini, bins, binb, binp, bina, shp, eqCells, unv, convv, nilv, faddv, addp, idxav, idxp, load1, load1m, loadn, loadnm, loadv, hget, hset, hrep, hdel, slicev, bnd, shift1, lenv, IntKind.bits, extractv, fieldv, indexv, min2v, max2v, mkiv, cellsA, fillA, buildv, stC, oneC, rowMB, intsA, plN, appE, appZ, appC, appNZ, appNC, VwL, srcC, srcZ, srcM, isBoolT, isPtrT, isSliceT, uOk, Value.oneCell', Nat.reducePow, Int.reducePow, Nat.reduceAdd, Nat.reduceMul, Nat.reduceSub, Nat.reduceLT, Nat.reduceLeDiff, Nat.reduceEqDiff, Nat.reduceBEq, Nat.reduceDiv, Nat.reduceMod, ↓reduceIte, reduceCtorEq, Int.reduceToNat, Int.reduceLT, Int.reduceLE, drawSF, hdel, TFWiZ, SeqQ, BlkQ, LoopQ, BodyQ, k1, w, wn, wl, wr, hN', k0, f1, m0, m1, FR])
          | (refine WP.seq fun K hK => ?_)
          | (refine WP.region (rvc_sound _ _ (Sm.out ?_)))
          | (refine WP.drawS (is := 13) (k := 16) mixed (by decide +kernel) (by decide +kernel) (Sm.out ?_))
          | (refine WP.drawK rfl mixed (by decide +kernel) (Sm.out ?_))
          | (refine Ob.mk ?_; focus (first | assumption | omega | decide | trivial | (intro hob; simp only [hob, ZF]; done) | (intros; (repeat' refine And.intro ?_ ?_) <;> first | assumption | omega | trivial | decide) | (intros; simp only [ZE] at *; (repeat' refine And.intro ?_ ?_) <;> first | assumption | omega | trivial)))
          | (refine And.intro (Ob.out ?_) ?_)
          | (refine WP.block ?_)
          | (refine WP.cond rfl (fun hc => ?_) (fun hc => ?_) <;> (try simp only [ZC, reduceCtorEq, ZD] at hc) <;> (try (exact absurd hc (by decide))) <;> (try (exfalso; omega)))
          | ((first | refine WP.skip ?_ | refine WP.exit ?_); simp only [SeqQ, BlkQ, LoopQ, BodyQ, ↓reduceIte, Nat.reduceEqDiff, reduceCtorEq, look, true_and])
          | (refine WP.ret (Sm.out ?_))
          | (first | refine ExG.no (Sm.out ?_) | refine Or.inl (ExG.no (Sm.out ?_)) | refine Or.inl (And.intro (fun hg => absurd hg (by decide)) (ExG.no (Sm.out ?_))))
          | (refine Rt.mk ?_; refine And.intro ?_ ?_ <;> (intro hg; first | exact absurd hg (by decide) | refine Sm.out ?_))
          | (refine Nu.mk ?_; first | (fail_if_success (have := nb1)); intro nb1 | (fail_if_success (have := nb2)); intro nb2 | (fail_if_success (have := nb3)); intro nb3 | intro nbz)
          | (refine Fr.mk ?_; intro hfr; replace FR := And.intro hfr FR; clear hfr; refine Sm.out ?_)
          | (refine Two.mk ?_ ?_)
          | (refine Cs.mk ?_; intro hcs; first | exact False.elim hcs | (exfalso; omega) | (refine Sm.out ?_))
          | go_step
          | omega
          | (simp only [maxLen_eq]; omega)
        all_goals clear h5 hlt
        all_goals (refine OutQ.all ?_ ?_; (focus (simp only [resv, ZK, look, loadv, loadn, loadnm, load1, load1m, hget, ↓reduceIte, Nat.reduceEqDiff, Nat.reduceAdd, Nat.reduceMul, Nat.reduceLeDiff, Nat.reduceLT, reduceCtorEq, TFWiZ, FR])); (simp only [resv, resA, ZK, look, loadv, loadn, loadnm, load1, load1m, hget, ↓reduceIte, Nat.reduceEqDiff, Nat.reduceAdd, Nat.reduceMul, Nat.reduceLeDiff, Nat.reduceLT, reduceCtorEq, TFWiZ, FR]))
        all_goals (unfold tailF; (repeat' split) <;> first | (exfalso; omega) | (exact absurd (show true = true from rfl) (by assumption)) | (exact absurd (show false = true by assumption) (by decide)) | exact bad3_mk (by first | rfl | (simp; omega)) | exact good3_mk rfl (by first | omega | (simp only [List.length_drop]; omega)) (by first | rfl | (simp; omega)) | exact good3_mk (by first | (rw [wrap_i64 (by omega) (by omega)]; done) | (rw [wrap_i64 (by omega) (by omega)]; rfl)) (by omega) (by first | rfl | (simp; omega)) | exact good3_mk (by first | (rw [hneg (by omega)]; done) | (rw [hneg (by omega)]; rfl)) (by omega) (by first | rfl | (simp; omega)) | trace_state)
    · have m0 : decide (most < 0) = false := by simp; omega
      have m1 : decide ((N : Int) > IntKind.u64.wrap most) = false := by rw [wrap_u64 (by omega) (by omega)]; simp; omega
      have wN : IntKind.i64.wrap (N : Int) = (N : Int) := wrap_i64_nat (by omega)
      by_cases hnr : r.length < N
      · have m2 : decide ((N : Int) > (r.length : Int)) = true := by simp; omega
        first | (have FRx := FR; clear FRx) | (have FR : ¬ ((1 : Nat) = 0) := Nat.one_ne_zero)
        repeat' first
          | (refine Sm.mk ?_; try simp -dsimp only [ZK, rvc, drawF, headN, pureH, stp, dvc, calleeOf, gcall, pev, eff, newB, okd, og, ogs, ogo, ogp, slv, bltv, opd, litv, strip, one, both, putE, St.put, look, gdOf, gdv, picka, pickv, pickw, binv, bini, bins, binb, binp, bina, shp, eqCells, unv, convv, nilv, faddv, addp, idxav, idxp, load1, load1m, loadn, loadnm, loadv, hget, hset, hrep, hdel, slicev, bnd, shift1, lenv, IntKind.bits, extractv, fieldv, indexv, min2v, max2v, mkiv, cellsA, fillA, buildv, stC, oneC, rowMB, intsA, plN, appE, appZ, appC, appNZ, appNC, VwL, srcC, srcZ, srcM, isBoolT, isPtrT, isSliceT, uOk, Value.oneCell', Nat.reducePow, Int.reducePow, Nat.reduceAdd, Nat.reduceMul, Nat.reduceSub, Nat.reduceLT, Nat.reduceLeDiff, Nat.reduceEqDiff, Nat.reduceBEq, Nat.reduceDiv, Nat.reduceMod, ↓reduceIte, reduceCtorEq, Int.reduceToNat, Int.reduceLT, Int.reduceLE, drawSF, hdel, TFWiZ, SeqQ, BlkQ, LoopQ, BodyQ, k1, w, wn, wl, wr, hN', k0, f1, m0, m1, m2, FR])
          | (refine WP.seq fun K hK => ?_)
          | (refine WP.region (rvc_sound _ _ (Sm.out ?_)))
          | (refine WP.drawS (is := 13) (k := 16) mixed (by decide +kernel) (by decide +kernel) (Sm.out ?_))
          | (refine WP.drawK rfl mixed (by decide +kernel) (Sm.out ?_))
          | (refine Ob.mk ?_; focus (first | assumption | omega | decide | trivial | (intro hob; simp only [hob, ZF]; done) | (intros; (repeat' refine And.intro ?_ ?_) <;> first | assumption | omega | trivial | decide) | (intros; simp only [ZE] at *; (repeat' refine And.intro ?_ ?_) <;> first | assumption | omega | trivial)))
          | (refine And.intro (Ob.out ?_) ?_)
          | (refine WP.block ?_)
          | (refine WP.cond rfl (fun hc => ?_) (fun hc => ?_) <;> (try simp only [ZC, reduceCtorEq, ZD] at hc) <;> (try (exact absurd hc (by decide))) <;> (try (exfalso; omega)))
          | ((first | refine WP.skip ?_ | refine WP.exit ?_); simp only [SeqQ, BlkQ, LoopQ, BodyQ, ↓reduceIte, Nat.reduceEqDiff, reduceCtorEq, look, true_and])
          | (refine WP.ret (Sm.out ?_))
          | (first | refine ExG.no (Sm.out ?_) | refine Or.inl (ExG.no (Sm.out ?_)) | refine Or.inl (And.intro (fun hg => absurd hg (by decide)) (ExG.no (Sm.out ?_))))
          | (refine Rt.mk ?_; refine And.intro ?_ ?_ <;> (intro hg; first | exact absurd hg (by decide) | refine Sm.out ?_))
          | (refine Nu.mk ?_; first | (fail_if_success (have := nb1)); intro nb1 | (fail_if_success (have := nb2)); intro nb2 | (fail_if_success (have := nb3)); intro nb3 | intro nbz)
          | (refine Fr.mk ?_; intro hfr; replace FR := And.intro hfr FR; clear hfr; refine Sm.out ?_)
          | (refine Two.mk ?_ ?_)
          | (refine Cs.mk ?_; intro hcs; first | exact False.elim hcs | (exfalso; omega) | (refine Sm.out ?_))
          | go_step
          | omega
          | (simp only [maxLen_eq]; omega)
        all_goals clear h5 hlt
        all_goals (refine OutQ.all ?_ ?_; (focus (simp only [resv, ZK, look, loadv, loadn, loadnm, load1, load1m, hget, ↓reduceIte, Nat.reduceEqDiff, Nat.reduceAdd, Nat.reduceMul, Nat.reduceLeDiff, Nat.reduceLT, reduceCtorEq, TFWiZ, FR])); (simp only [resv, resA, ZK, look, loadv, loadn, loadnm, load1, load1m, hget, ↓reduceIte, Nat.reduceEqDiff, Nat.reduceAdd, Nat.reduceMul, Nat.reduceLeDiff, Nat.reduceLT, reduceCtorEq, TFWiZ, FR]))
        all_goals (unfold tailF; (repeat' split) <;> first | (exfalso; omega) | (exact absurd (show true = true from rfl) (by assumption)) | (exact absurd (show false = true by assumption) (by decide)) | exact bad3_mk (by first | rfl | (simp; omega)) | exact good3_mk rfl (by first | omega | (simp only [List.length_drop]; omega)) (by first | rfl | (simp; omega)) | exact good3_mk (by first | (rw [wrap_i64 (by omega) (by omega)]; done) | (rw [wrap_i64 (by omega) (by omega)]; rfl)) (by omega) (by first | rfl | (simp; omega)) | exact good3_mk (by first | (rw [hneg (by omega)]; done) | (rw [hneg (by omega)]; rfl)) (by omega) (by first | rfl | (simp; omega)) | trace_state)
      · have m2 : decide ((N : Int) > (r.length : Int)) = false := by simp; omega
        have wx : IntKind.i64.wrap (((at_ + 1 + j : Nat) : Int) + (N : Int)) = ((at_ + 1 + j + N : Nat) : Int) := by rw [wrap_i64 (by omega) (by omega)]; omega
        have ht : (Z.take (at_ + 1 + j + N)).drop (at_ + 1 + j) = r.take N := by
          rw [List.drop_take, hZr]; congr 1; omega
        have ht2 : (Z.drop (at_ + 1 + j)).take (at_ + 1 + j + N - (at_ + 1 + j)) = r.take N := by
          rw [hZr]; congr 1; omega
        first | (have FRx := FR; clear FRx) | (have FR : ¬ ((1 : Nat) = 0) := Nat.one_ne_zero)
        repeat' first
          | (refine Sm.mk ?_; try simp -dsimp only [ZK, rvc, drawF, headN, pureH, stp, dvc, calleeOf, gcall, pev, eff, newB, okd, og, ogs, ogo, ogp, slv, bltv, opd, litv, strip, one, both, putE, St.put, look, gdOf, gdv, picka, pickv, pickw, binv, bini, bins, binb, binp, bina, shp, eqCells, unv, convv, nilv, faddv, addp, idxav, idxp, load1, load1m, loadn, loadnm, loadv, hget, hset, hrep, hdel, slicev, bnd, shift1, lenv, IntKind.bits, extractv, fieldv, indexv, min2v, max2v, mkiv, cellsA, fillA, buildv, stC, oneC, rowMB, intsA, plN, appE, appZ, appC, appNZ, appNC, VwL, srcC, srcZ, srcM, isBoolT, isPtrT, isSliceT, uOk, Value.oneCell', Nat.reducePow, Int.reducePow, Nat.reduceAdd, Nat.reduceMul, Nat.reduceSub, Nat.reduceLT, Nat.reduceLeDiff, Nat.reduceEqDiff, Nat.reduceBEq, Nat.reduceDiv, Nat.reduceMod, ↓reduceIte, reduceCtorEq, Int.reduceToNat, Int.reduceLT, Int.reduceLE, drawSF, hdel, TFWiZ, SeqQ, BlkQ, LoopQ, BodyQ, k1, w, wn, wl, wr, hN', k0, f1, m0, m1, m2, wN, wx, ht, ht2, FR])
          | (refine WP.seq fun K hK => ?_)
          | (refine WP.region (rvc_sound _ _ (Sm.out ?_)))
          | (refine WP.drawS (is := 13) (k := 16) mixed (by decide +kernel) (by decide +kernel) (Sm.out ?_))
          | (refine WP.drawK rfl mixed (by decide +kernel) (Sm.out ?_))
          | (refine Ob.mk ?_; focus (first | assumption | omega | decide | trivial | (intro hob; simp only [hob, ZF]; done) | (intros; (repeat' refine And.intro ?_ ?_) <;> first | assumption | omega | trivial | decide) | (intros; simp only [ZE] at *; (repeat' refine And.intro ?_ ?_) <;> first | assumption | omega | trivial)))
          | (refine And.intro (Ob.out ?_) ?_)
          | (refine WP.block ?_)
          | (refine WP.cond rfl (fun hc => ?_) (fun hc => ?_) <;> (try simp only [ZC, reduceCtorEq, ZD] at hc) <;> (try (exact absurd hc (by decide))) <;> (try (exfalso; omega)))
          | ((first | refine WP.skip ?_ | refine WP.exit ?_); simp only [SeqQ, BlkQ, LoopQ, BodyQ, ↓reduceIte, Nat.reduceEqDiff, reduceCtorEq, look, true_and])
          | (refine WP.ret (Sm.out ?_))
          | (first | refine ExG.no (Sm.out ?_) | refine Or.inl (ExG.no (Sm.out ?_)) | refine Or.inl (And.intro (fun hg => absurd hg (by decide)) (ExG.no (Sm.out ?_))))
          | (refine Rt.mk ?_; refine And.intro ?_ ?_ <;> (intro hg; first | exact absurd hg (by decide) | refine Sm.out ?_))
          | (refine Nu.mk ?_; first | (fail_if_success (have := nb1)); intro nb1 | (fail_if_success (have := nb2)); intro nb2 | (fail_if_success (have := nb3)); intro nb3 | intro nbz)
          | (refine Fr.mk ?_; intro hfr; replace FR := And.intro hfr FR; clear hfr; refine Sm.out ?_)
          | (refine Two.mk ?_ ?_)
          | (refine Cs.mk ?_; intro hcs; first | exact False.elim hcs | (exfalso; omega) | (refine Sm.out ?_))
          | go_step
          | omega
          | (simp only [maxLen_eq]; omega)
        all_goals clear h5 hlt
        all_goals (refine OutQ.all ?_ ?_; (focus (simp only [resv, ZK, look, loadv, loadn, loadnm, load1, load1m, hget, ↓reduceIte, Nat.reduceEqDiff, Nat.reduceAdd, Nat.reduceMul, Nat.reduceLeDiff, Nat.reduceLT, reduceCtorEq, TFWiZ, FR])); (simp only [resv, resA, ZK, look, loadv, loadn, loadnm, load1, load1m, hget, ↓reduceIte, Nat.reduceEqDiff, Nat.reduceAdd, Nat.reduceMul, Nat.reduceLeDiff, Nat.reduceLT, reduceCtorEq, TFWiZ, FR]))
        all_goals (unfold tailF; (repeat' split) <;> first | (exfalso; omega) | (exact absurd (show true = true from rfl) (by assumption)) | (exact absurd (show false = true by assumption) (by decide)) | exact bad3_mk (by first | rfl | (simp; omega)) | exact good3_mk rfl (by first | omega | (simp only [List.length_drop]; omega)) (by first | rfl | (simp; omega)) | exact good3_mk (by first | (rw [wrap_i64 (by omega) (by omega)]; done) | (rw [wrap_i64 (by omega) (by omega)]; rfl)) (by omega) (by first | rfl | (simp; omega)) | exact good3_mk (by first | (rw [hneg (by omega)]; done) | (rw [hneg (by omega)]; rfl)) (by omega) (by first | rfl | (simp; omega)) | trace_state)
end Go.Proofs.Ytbnkmhlnoaebcaa.Wi
namespace Go.Proofs.Ytbnkmhlnoaebcaa.Wi
open Go
set_option linter.unusedVariables false
set_option linter.unusedSimpArgs false
theorem gF_eq {sgn S : Int} {m : Int} {K : Nat} (t : List Int) (h2 : ibit .andNot .u8 m sgn = (K : Int)) (h1 : ibit .and .u8 m sgn = S) :
    gF sgn (m :: t) = if 8 < K ∨ t.length < K ∨ (0 < K ∧ t.getD 0 0 = 0) then none else some (S, valL (t.take K), t.drop K) := by
  rw [gF, h1, h2, Int.toNat_natCast]
theorem rdF_none {kind most : Int} {zs : List Int} (h3 : kind ≠ 3) (h0 : gF (if kind = 1 then 16 else 0) zs = none) : rdF kind most zs = none := by
  unfold rdF
  rw [if_neg h3]
  by_cases h1 : kind = 1
  · rw [if_pos h1] at h0 ⊢
    simp only [iF, h0]; rfl
  · rw [if_neg h1] at h0 ⊢
    have hn : nF zs = none := by unfold nF; rw [h0]; rfl
    have hc : cF most zs = none := by unfold cF; rw [hn]
    have ht : tF most zs = none := by unfold tF; rw [hc]
    rw [hn, hc, ht]
    split
    · rfl
    · split <;> rfl
theorem rdF_tail {kind most : Int} {zs r : List Int} {N : Nat} {ng : Bool} (h3 : kind ≠ 3) (hng : ng = true → kind = 1) (h0 : gF (if kind = 1 then 16 else 0) zs = some (if ng then 16 else 0, N, r)) : rdF kind most zs = tailF kind most ng N r := by
  unfold rdF tailF
  rw [if_neg h3]
  by_cases h1 : kind = 1
  · rw [if_pos h1] at h0 ⊢
    rw [if_pos h1]
    simp only [iF, h0]
    cases ng
    · simp only [Bool.false_eq_true, if_false, ne_eq, not_true_eq_false, false_and, true_and, false_or]
      split <;> rfl
    · simp only [if_true]
      by_cases hc : N = 0 ∨ 9223372036854775808 < N
      · rw [if_pos (.inl ⟨by decide, hc⟩), if_pos hc]; rfl
      · rw [if_neg hc, if_neg (by rintro (⟨_, h⟩ | ⟨h, _⟩); exact hc h; cases h), if_pos (by decide)]; rfl
  · rw [if_neg h1] at h0 ⊢
    rw [if_neg h1]
    have hn : nF zs = some (N, r) := by unfold nF; rw [h0]; rfl
    by_cases hk0 : kind = 0
    · rw [if_pos hk0, if_pos hk0, hn]; rfl
    · rw [if_neg hk0, if_neg hk0]
      by_cases hm : most < 0 ∨ most < (N : Int)
      · have hc : cF most zs = none := by unfold cF; rw [hn]; simp only; rw [if_pos hm]
        have ht : tF most zs = none := by unfold tF; rw [hc]
        rw [if_pos hm, hc, ht]
        split <;> rfl
      · have hc : cF most zs = some (N, r) := by unfold cF; rw [hn]; simp only; rw [if_neg hm]
        rw [if_neg hm, hc]
        by_cases hk4 : kind = 4
        · rw [if_pos hk4, if_pos hk4]; rfl
        · rw [if_neg hk4, if_neg hk4]
          unfold tF
          rw [hc]
          simp only
          split <;> rfl
theorem refGet_ct (Z : List Int) (at_ : Nat) (kind most : Int) (hat : at_ ≤ Z.length) (hb : By Z) (hz : Z.length ≤ 2000) (hm1 : -9223372036854775808 ≤ most) (hm2 : most ≤ 9223372036854775807) :
    ACt Try.prog 51 [.slz .u8 Z, iv .i64 (at_ : Int), .agg [iv .i64 kind, iv .i64 most]] [] (Post3 Z.length (rdF kind most (Z.drop at_))) := by
  cases hd : Z.drop at_ with
  | nil =>
    have he : at_ = Z.length := by
      have : (Z.drop at_).length = 0 := by rw [hd]; rfl
      simp at this; omega
    have hn : rdF kind most [] = none := by
      by_cases h3 : kind = 3
      · subst h3; rfl
      · exact rdF_none h3 rfl
    rw [hn, he]
    exact refG_end Z kind most
  | cons m t =>
    have hbt : By (m :: t) := by rw [← hd]; exact hb.drop _
    have hm := hbt m (List.mem_cons_self ..)
    obtain ⟨m, rfl⟩ := Int.eq_ofNat_of_zero_le hm.1
    obtain ⟨h1, h2, h3', h4, h5⟩ := drop_facts hd
    by_cases h3 : kind = 3
    · subst h3
      have hf : rdF 3 most ((m : Int) :: t) = (fF ((m : Int) :: t)).map fun p => (.agg [nu 0, iv .i64 0, eS, bv p.1], p.2) := rfl
      have hF : fF ((m : Int) :: t) = if 1 < (m : Int) then none else some ((m : Int) == 1, t) := rfl
      rw [hf, hF]
      by_cases hm2 : 1 < (m : Int)
      · rw [if_pos hm2]
        exact refG_flagB Z t at_ m most hd hz (by omega)
      · rw [if_neg hm2]
        have := refG_flag Z t at_ m most hd hz (by omega)
        rw [show at_ + 1 = Z.length - t.length by omega] at this
        exact this
    · obtain ⟨k, s, hk, a1, a2, a5, a6, a3, a4⟩ := and256 m (by omega)
      obtain ⟨K, ng, hH, hKm, e2, e1, hng⟩ : ∃ (K : Nat) (ng : Bool), HeadK kind m K ng ∧ K ≤ 255 ∧ ibit .andNot .u8 (m : Int) (if kind = 1 then 16 else 0) = (K : Int) ∧ ibit .and .u8 (m : Int) (if kind = 1 then 16 else 0) = (if ng then 16 else 0) ∧ (ng = true → kind = 1) := by
        by_cases hk1 : kind = 1
        · simp only [if_pos hk1]
          by_cases hs : m / 16 % 2 = 1
          · rw [if_pos hs] at a5 a6
            exact ⟨m - 16, true, .inr (.inr ⟨hk1, hs, rfl, rfl⟩), by omega, by rw [a1, a5], by rw [a2, a6]; rfl, fun _ => hk1⟩
          · rw [if_neg hs] at a5 a6
            exact ⟨m, false, .inr (.inl ⟨hk1, hs, rfl, rfl⟩), by omega, by rw [a1, a5], by rw [a2, a6]; rfl, fun h => by cases h⟩
        · simp only [if_neg hk1]
          exact ⟨m, false, .inl ⟨hk1, rfl, rfl⟩, by omega, a3, by rw [a4]; rfl, fun h => by cases h⟩
      have hg := gF_eq t e2 e1
      by_cases hbad : 8 < K ∨ t.length < K ∨ (0 < K ∧ t.getD 0 0 = 0)
      · rw [if_pos hbad] at hg
        rw [rdF_none h3 hg]
        exact refG_bad Z t at_ m K ng kind most hd hz h3 (by omega) hH hbad
      · rw [if_neg hbad] at hg
        rw [rdF_tail h3 hng hg]
        have hgood : K ≤ 8 ∧ K ≤ t.length ∧ (K = 0 ∨ t.getD 0 0 ≠ 0) := by
          refine ⟨by omega, by omega, ?_⟩
          by_cases h0 : K = 0
          · exact .inl h0
          · exact .inr fun h => hbad (.inr (.inr ⟨by omega, h⟩))
        cases ng
        · exact refG_goodF Z t at_ m K kind most hd hbt.tail hz h3 (by omega) hH hgood hm1 hm2
        · exact refG_goodT Z t at_ m K kind most hd hbt.tail hz h3 (by omega) hH hgood hm1 hm2
end Go.Proofs.Ytbnkmhlnoaebcaa.Wi
namespace Go.Proofs.Ytbnkmhlnoaebcaa
open Go Wi
set_option linter.unusedVariables false
set_option linter.unusedSimpArgs false
/-- the buckets, written one behind the other -/
def pdL (A B : Nat → Nat) : Nat → List Int
  | 0 => []
  | k + 1 => pdL A B k ++ (putL 0 (A k) ++ putL 0 (B k))
theorem pdL_len (A B : Nat → Nat) : ∀ k, (∀ i, i < k → A i < 18446744073709551616 ∧ B i < 18446744073709551616) → (pdL A B k).length ≤ 18 * k
  | 0, _ => by simp [pdL]
  | k + 1, h => by
    have h1 := pdL_len A B k fun i hi => h i (by omega)
    have h2 := Wi.putL_len 0 (A k) (h k (by omega)).1
    have h3 := Wi.putL_len 0 (B k) (h k (by omega)).2
    simp only [pdL, List.length_append]; omega
end Go.Proofs.Ytbnkmhlnoaebcaa
namespace Go.Proofs.Ytbnkmhlnoaebcaa
open Go Wi
set_option linter.unusedVariables false
set_option linter.unusedSimpArgs false
theorem bk_lt (w k n : Nat) (s : RS) (h : Inv w k n s) (hk1 : 1 ≤ k) : ∀ i, i < k → bkA (slG (s.now / w) w k s.E) k (s.now / w) i < 18446744073709551616 ∧ bkA (slT (s.now / w) w k s.E) k (s.now / w) i < 18446744073709551616 := by
  intro i hi
  have hs := h.sum
  have hgs : sG (winP s.now w k) s.E ≤ sT (winP s.now w k) s.E := sG_le_sT h.gt
  have hG := slG_sum (s.now / w) w k hk1 s.E
  have hT := slT_sum (s.now / w) w k hk1 s.E
  unfold bkA
  split
  · have hj : (s.now / w + 1 + i - k) % k < k := Nat.mod_lt _ (by omega)
    have h1 := sumN_ge (slG (s.now / w) w k s.E) hj
    have h2 := sumN_ge (slT (s.now / w) w k s.E) hj
    rw [hG] at h1
    rw [hT] at h2
    exact ⟨Nat.lt_of_le_of_lt (Nat.le_trans h1 (Nat.le_trans hgs hs)) (by omega), Nat.lt_of_le_of_lt (Nat.le_trans h2 hs) (by omega)⟩
  · exact ⟨by omega, by omega⟩
abbrev pdS (w k : Nat) (s : RS) : List Int := pdL (bkA (slG (s.now / w) w k s.E) k (s.now / w)) (bkA (slT (s.now / w) w k s.E) k (s.now / w)) k
end Go.Proofs.Ytbnkmhlnoaebcaa
namespace Go.Proofs.Ytbnkmhlnoaebcaa.Wi
open Go
set_option linter.unusedVariables false
set_option linter.unusedSimpArgs false
theorem TFRhC : ((((((type_of% tyc0) ∧ (type_of% tyc3)) ∧ ((type_of% zmb3) ∧ ((type_of% tyc4) ∧ (type_of% zmb4)))) ∧ (((type_of% tyc5) ∧ ((type_of% zmb5) ∧ (type_of% tyc41))) ∧ ((type_of% zmb41) ∧ ((type_of% tyc50) ∧ (type_of% elt50))))) ∧ ((((type_of% mkz50) ∧ (type_of% apT50)) ∧ ((type_of% elk50) ∧ ((type_of% zmb50) ∧ (type_of% tyc90)))) ∧ (((type_of% foff90_0) ∧ ((type_of% fpart90_0) ∧ (type_of% foff90_1))) ∧ ((type_of% fpart90_1) ∧ ((type_of% foff90_2) ∧ (type_of% fpart90_2)))))) ∧ (((((type_of% foff90_3) ∧ (type_of% fpart90_3)) ∧ ((type_of% fe90) ∧ ((type_of% zmb90) ∧ (type_of% bldT90)))) ∧ (((type_of% tyc91) ∧ ((type_of% tyc94) ∧ (type_of% foff94_0))) ∧ ((type_of% fpart94_0) ∧ ((type_of% foff94_1) ∧ (type_of% fpart94_1))))) ∧ ((((type_of% fe94) ∧ ((type_of% zmb94) ∧ (type_of% bldT94))) ∧ ((type_of% Try.underlying0) ∧ ((type_of% Try.underlying3) ∧ (type_of% Try.underlying4)))) ∧ (((type_of% Try.underlying5) ∧ ((type_of% Try.underlying41) ∧ (type_of% Try.underlying50))) ∧ ((type_of% Try.underlying90) ∧ ((type_of% Try.underlying91) ∧ (type_of% Try.underlying94))))))) :=
  ⟨⟨⟨⟨⟨tyc0, tyc3⟩, ⟨zmb3, ⟨tyc4, zmb4⟩⟩⟩, ⟨⟨tyc5, ⟨zmb5, tyc41⟩⟩, ⟨zmb41, ⟨tyc50, elt50⟩⟩⟩⟩, ⟨⟨⟨mkz50, apT50⟩, ⟨elk50, ⟨zmb50, tyc90⟩⟩⟩, ⟨⟨foff90_0, ⟨fpart90_0, foff90_1⟩⟩, ⟨fpart90_1, ⟨foff90_2, fpart90_2⟩⟩⟩⟩⟩, ⟨⟨⟨⟨foff90_3, fpart90_3⟩, ⟨fe90, ⟨zmb90, bldT90⟩⟩⟩, ⟨⟨tyc91, ⟨tyc94, foff94_0⟩⟩, ⟨fpart94_0, ⟨foff94_1, fpart94_1⟩⟩⟩⟩, ⟨⟨⟨fe94, ⟨zmb94, bldT94⟩⟩, ⟨Try.underlying0, ⟨Try.underlying3, Try.underlying4⟩⟩⟩, ⟨⟨Try.underlying5, ⟨Try.underlying41, Try.underlying50⟩⟩, ⟨Try.underlying90, ⟨Try.underlying91, Try.underlying94⟩⟩⟩⟩⟩⟩
set_option maxRecDepth 8000 in
theorem number_good (Z r : List Int) (at_ n : Nat) (hat : at_ ≤ Z.length) (hb : By Z) (hz : Z.length ≤ 2000) (h : nF (Z.drop at_) = some (n, r)) :
    ACt Try.prog 44 [.slz .u8 Z, iv .i64 (at_ : Int)] [] (Fn (.tup [nu n, iv .i64 ((Z.length - r.length : Nat) : Int), bv true])) := by
  have c := refGet_ct Z at_ 0 0 hat hb hz (by omega) (by omega)
  have e : rdF 0 0 (Z.drop at_) = some (.agg [nu n, iv .i64 0, eS, bv false], r) := by
    show (nF (Z.drop at_)).map _ = _
    rw [h]; rfl
  rw [e] at c
  have c1 : ACt Try.prog 51 [.slz .u8 Z, iv .i64 (at_ : Int), .agg [iv .i64 0, iv .i64 0]] [] (Fn (.tup [.agg [nu n, iv .i64 0, eS, bv false], iv .i64 ((Z.length - r.length : Nat) : Int), bv true])) := c
  refine ACt.intro Try.func44 rfl (by kernel_rfl) (by simp [Try.ntmps44]) (fun cx => ?_)
  simp only [argE, Try.ntmps44, Try.results44]
  first | (have FRx := FR; clear FRx) | (have FR : ¬ ((1 : Nat) = 0) := Nat.one_ne_zero)
  repeat' first
    | (refine Sm.mk ?_; try simp -dsimp only [ZK, rvc, drawF, headN, pureH, stp, dvc, calleeOf, gcall, pev, eff, newB, okd, og, ogs, ogo, ogp, slv, bltv, opd, litv, strip, one, both, putE, St.put, look, gdOf, gdv, picka, pickv, pickw, binv, bini, bins, binb, binp, bina, shp, eqCells, unv, convv, nilv, faddv, addp, idxav, idxp, load1, load1m, loadn, loadnm, loadv, hget, hset, hrep, hdel, slicev, bnd, shift1, lenv, IntKind.bits, extractv, fieldv, indexv, min2v, max2v, mkiv, cellsA, fillA, buildv, stC, oneC, rowMB, intsA, plN, appE, appZ, appC, appNZ, appNC, VwL, srcC, srcZ, srcM, isBoolT, isPtrT, isSliceT, uOk, Value.oneCell', Nat.reducePow, Int.reducePow, Nat.reduceAdd, Nat.reduceMul, Nat.reduceSub, Nat.reduceLT, Nat.reduceLeDiff, Nat.reduceEqDiff, Nat.reduceBEq, Nat.reduceDiv, Nat.reduceMod, ↓reduceIte, reduceCtorEq, Int.reduceToNat, Int.reduceLT, Int.reduceLE, TFRhC, SeqQ, BlkQ, LoopQ, BodyQ, FR])
    | (first | refine CallV.fn (c1) (Sm.out ?_) | refine ExF.mk (c1) (Sm.out ?_) | refine ExG.mk (fun _ => c1) (Sm.out ?_) | refine ExG.mkJ (fun _ => c1) (Sm.out ?_) | refine ExG.mkI (Ob.out ?_) (fun _ => c1) (Sm.out ?_))
    | (refine WP.seq fun K hK => ?_)
    | (refine WP.region (rvc_sound _ _ (Sm.out ?_)))
    | (refine WP.drawK rfl mixed (by decide +kernel) (Sm.out ?_))
    | (refine Ob.mk ?_; focus (first | assumption | omega | decide | trivial | (intro hob; simp only [hob, ZF]; done) | (intros; (repeat' refine And.intro ?_ ?_) <;> first | assumption | omega | trivial | decide) | (intros; simp only [ZE] at *; (repeat' refine And.intro ?_ ?_) <;> first | assumption | omega | trivial)))
    | (refine And.intro (Ob.out ?_) ?_)
    | (refine WP.block ?_)
    | (refine WP.cond rfl (fun hc => ?_) (fun hc => ?_) <;> (try simp only [ZC, reduceCtorEq, ZD] at hc) <;> (try (exact absurd hc (by decide))) <;> (try (exfalso; omega)))
    | ((first | refine WP.skip ?_ | refine WP.exit ?_); simp only [SeqQ, BlkQ, LoopQ, BodyQ, ↓reduceIte, Nat.reduceEqDiff, reduceCtorEq, look, true_and])
    | (refine WP.ret (Sm.out ?_))
    | (first | refine ExG.no (Sm.out ?_) | refine Or.inl (ExG.no (Sm.out ?_)) | refine Or.inl (And.intro (fun hg => absurd hg (by decide)) (ExG.no (Sm.out ?_))))
    | (refine Rt.mk ?_; refine And.intro ?_ ?_ <;> (intro hg; first | exact absurd hg (by decide) | refine Sm.out ?_))
    | (refine Nu.mk ?_; first | (fail_if_success (have := nb1)); intro nb1 | (fail_if_success (have := nb2)); intro nb2 | (fail_if_success (have := nb3)); intro nb3 | intro nbz)
    | (refine Fr.mk ?_; intro hfr; replace FR := And.intro hfr FR; clear hfr; refine Sm.out ?_)
    | (refine Two.mk ?_ ?_)
    | (refine Cs.mk ?_; intro hcs; first | exact False.elim hcs | (exfalso; omega) | (refine Sm.out ?_))
    | (refine OutQ.all ?_ ?_; (focus (simp only [resv, ZK, look, loadv, loadn, loadnm, load1, load1m, hget, ↓reduceIte, Nat.reduceEqDiff, Nat.reduceAdd, Nat.reduceMul, Nat.reduceLeDiff, Nat.reduceLT, reduceCtorEq, TFRhC, FR])); (try simp only [resv, resA, Fn, ZK, look, loadv, loadn, loadnm, load1, load1m, hget, ↓reduceIte, Nat.reduceEqDiff, Nat.reduceAdd, Nat.reduceMul, Nat.reduceLeDiff, Nat.reduceLT, reduceCtorEq, TFRhC, FR]); (try simp [resA, Fn, look, FR]); done)
    | go_step
    | omega
    | (simp only [maxLen_eq]; omega)
theorem pmn {α : Type} (H : List α) : H.Perm ([] ++ H) := .refl _
set_option maxRecDepth 8000 in
theorem number_bad (Z : List Int) (at_ : Nat) (hat : at_ ≤ Z.length) (hb : By Z) (hz : Z.length ≤ 2000) (h : nF (Z.drop at_) = none) :
    ACt Try.prog 44 [.slz .u8 Z, iv .i64 (at_ : Int)] [] (fun r F' => ∃ g : Int × Int, r = .tup [iv .u64 g.1, iv .i64 g.2, bv false] ∧ F' = []) := by
  have c := refGet_ct Z at_ 0 0 hat hb hz (by omega) (by omega)
  have e : rdF 0 0 (Z.drop at_) = none := by
    show (nF (Z.drop at_)).map _ = _
    rw [h]; rfl
  rw [e] at c
  have c1 : ACt Try.prog 51 [.slz .u8 Z, iv .i64 (at_ : Int), .agg [iv .i64 0, iv .i64 0]] [] (fun r F' => ∃ g, r = gt3 g ∧ F' = []) := c
  refine ACt.intro Try.func44 rfl (by kernel_rfl) (by simp [Try.ntmps44]) (fun cx => ?_)
  simp only [argE, Try.ntmps44, Try.results44]
  first | (have FRx := FR; clear FRx) | (have FR : ¬ ((1 : Nat) = 0) := Nat.one_ne_zero)
  repeat' first
    | (refine Sm.mk ?_; try simp -dsimp only [ZK, rvc, drawF, headN, pureH, stp, dvc, calleeOf, gcall, pev, eff, newB, okd, og, ogs, ogo, ogp, slv, bltv, opd, litv, strip, one, both, putE, St.put, look, gdOf, gdv, picka, pickv, pickw, binv, bini, bins, binb, binp, bina, shp, eqCells, unv, convv, nilv, faddv, addp, idxav, idxp, load1, load1m, loadn, loadnm, loadv, hget, hset, hrep, hdel, slicev, bnd, shift1, lenv, IntKind.bits, extractv, fieldv, indexv, min2v, max2v, mkiv, cellsA, fillA, buildv, stC, oneC, rowMB, intsA, plN, appE, appZ, appC, appNZ, appNC, VwL, srcC, srcZ, srcM, isBoolT, isPtrT, isSliceT, uOk, Value.oneCell', Nat.reducePow, Int.reducePow, Nat.reduceAdd, Nat.reduceMul, Nat.reduceSub, Nat.reduceLT, Nat.reduceLeDiff, Nat.reduceEqDiff, Nat.reduceBEq, Nat.reduceDiv, Nat.reduceMod, ↓reduceIte, reduceCtorEq, Int.reduceToNat, Int.reduceLT, Int.reduceLE, TFRhC, SeqQ, BlkQ, LoopQ, BodyQ, FR])
    | (refine CallV.ex (F := []) (List.Perm.refl _) (c1) (fun g => Sm.out ?_))
    | (refine WP.seq fun K hK => ?_)
    | (refine WP.region (rvc_sound _ _ (Sm.out ?_)))
    | (refine WP.drawK rfl mixed (by decide +kernel) (Sm.out ?_))
    | (refine Ob.mk ?_; focus (first | assumption | omega | decide | trivial | (intro hob; simp only [hob, ZF]; done) | (intros; (repeat' refine And.intro ?_ ?_) <;> first | assumption | omega | trivial | decide) | (intros; simp only [ZE] at *; (repeat' refine And.intro ?_ ?_) <;> first | assumption | omega | trivial)))
    | (refine And.intro (Ob.out ?_) ?_)
    | (refine WP.block ?_)
    | (refine WP.cond rfl (fun hc => ?_) (fun hc => ?_) <;> (try simp only [ZC, reduceCtorEq, ZD] at hc) <;> (try (exact absurd hc (by decide))) <;> (try (exfalso; omega)))
    | ((first | refine WP.skip ?_ | refine WP.exit ?_); simp only [SeqQ, BlkQ, LoopQ, BodyQ, ↓reduceIte, Nat.reduceEqDiff, reduceCtorEq, look, true_and])
    | (refine WP.ret (Sm.out ?_))
    | (first | refine ExG.no (Sm.out ?_) | refine Or.inl (ExG.no (Sm.out ?_)) | refine Or.inl (And.intro (fun hg => absurd hg (by decide)) (ExG.no (Sm.out ?_))))
    | (refine Rt.mk ?_; refine And.intro ?_ ?_ <;> (intro hg; first | exact absurd hg (by decide) | refine Sm.out ?_))
    | (refine Nu.mk ?_; first | (fail_if_success (have := nb1)); intro nb1 | (fail_if_success (have := nb2)); intro nb2 | (fail_if_success (have := nb3)); intro nb3 | intro nbz)
    | (refine Fr.mk ?_; intro hfr; replace FR := And.intro hfr FR; clear hfr; refine Sm.out ?_)
    | (refine Two.mk ?_ ?_)
    | (refine Cs.mk ?_; intro hcs; first | exact False.elim hcs | (exfalso; omega) | (refine Sm.out ?_))
    | go_step
    | omega
    | (simp only [maxLen_eq]; omega)
  (refine OutQ.drop _ _ (pmn _) (by simp only [resv, ZK, look, loadv, loadn, loadnm, load1, load1m, hget, ↓reduceIte, Nat.reduceEqDiff, Nat.reduceAdd, Nat.reduceMul, Nat.reduceLeDiff, Nat.reduceLT, reduceCtorEq, TFRhC, FR]) ⟨(g.1, g.2.2.2.2), (by simp only [resv, resA, ZK, look, loadv, loadn, loadnm, load1, load1m, hget, ↓reduceIte, Nat.reduceEqDiff, Nat.reduceAdd, Nat.reduceMul, Nat.reduceLeDiff, Nat.reduceLT, reduceCtorEq, TFRhC, FR]; first | done | rfl), rfl⟩)
end Go.Proofs.Ytbnkmhlnoaebcaa.Wi
namespace Go.Proofs.Ytbnkmhlnoaebcaa.Wi
open Go
set_option linter.unusedVariables false
set_option linter.unusedSimpArgs false
theorem TFRhD : (((((type_of% tyc3) ∧ (type_of% zmb3)) ∧ ((type_of% tyc26) ∧ (type_of% mth26_30))) ∧ (((type_of% mth26_39) ∧ (type_of% mth26_38)) ∧ ((type_of% con26) ∧ (type_of% zmb26)))) ∧ ((((type_of% tyc54) ∧ (type_of% mth54_53)) ∧ ((type_of% mth54_50) ∧ (type_of% mth54_54))) ∧ (((type_of% con54) ∧ (type_of% zmb54)) ∧ ((type_of% Try.underlying3) ∧ ((type_of% Try.underlying26) ∧ (type_of% Try.underlying54)))))) :=
  ⟨⟨⟨⟨tyc3, zmb3⟩, ⟨tyc26, mth26_30⟩⟩, ⟨⟨mth26_39, mth26_38⟩, ⟨con26, zmb26⟩⟩⟩, ⟨⟨⟨tyc54, mth54_53⟩, ⟨mth54_50, mth54_54⟩⟩, ⟨⟨con54, zmb54⟩, ⟨Try.underlying3, ⟨Try.underlying26, Try.underlying54⟩⟩⟩⟩⟩
theorem spoil_n (b : Nat) : ACt Try.prog 41 [pt b 0] [(b, rdN)] (fun r F' => r = .lit (.pointer none) ∧ F' = [(b, rdN)]) := by
  refine ACt.intro Try.func41 rfl (by kernel_rfl) (by simp [Try.ntmps41]) (fun cx => ?_)
  simp only [argE, Try.ntmps41, Try.results41]
  have c := countN b (-1) (by omega) (by omega)
  first | (have FRx := FR; clear FRx) | (have FR : ¬ ((1 : Nat) = 0) := Nat.one_ne_zero)
  repeat' first
    | (refine Sm.mk ?_; try simp -dsimp only [ZK, rvc, drawF, headN, pureH, stp, dvc, calleeOf, gcall, pev, eff, newB, okd, og, ogs, ogo, ogp, slv, bltv, opd, litv, strip, one, both, putE, St.put, look, gdOf, gdv, picka, pickv, pickw, binv, bini, bins, binb, binp, bina, shp, eqCells, unv, convv, nilv, faddv, addp, idxav, idxp, load1, load1m, loadn, loadnm, loadv, hget, hset, hrep, hdel, slicev, bnd, shift1, lenv, IntKind.bits, extractv, fieldv, indexv, min2v, max2v, mkiv, cellsA, fillA, buildv, stC, oneC, rowMB, intsA, plN, appE, appZ, appC, appNZ, appNC, VwL, srcC, srcZ, srcM, isBoolT, isPtrT, isSliceT, uOk, Value.oneCell', Nat.reducePow, Int.reducePow, Nat.reduceAdd, Nat.reduceMul, Nat.reduceSub, Nat.reduceLT, Nat.reduceLeDiff, Nat.reduceEqDiff, Nat.reduceBEq, Nat.reduceDiv, Nat.reduceMod, ↓reduceIte, reduceCtorEq, Int.reduceToNat, Int.reduceLT, Int.reduceLE, TFRhD, SeqQ, BlkQ, LoopQ, BodyQ, FR])
    | (refine CallV.upd (by simp only [hget, ↓reduceIte, FR]; first | done | rfl) (c) (Sm.out ?_))
    | (refine WP.seq fun K hK => ?_)
    | (refine WP.region (rvc_sound _ _ (Sm.out ?_)))
    | (refine WP.drawK rfl mixed (by decide +kernel) (Sm.out ?_))
    | (refine Ob.mk ?_; focus (first | assumption | omega | decide | trivial | (intro hob; simp only [hob, ZF]; done) | (intros; (repeat' refine And.intro ?_ ?_) <;> first | assumption | omega | trivial | decide) | (intros; simp only [ZE] at *; (repeat' refine And.intro ?_ ?_) <;> first | assumption | omega | trivial)))
    | (refine And.intro (Ob.out ?_) ?_)
    | (refine WP.block ?_)
    | (refine WP.cond rfl (fun hc => ?_) (fun hc => ?_) <;> (try simp only [ZC, reduceCtorEq, ZD] at hc) <;> (try (exact absurd hc (by decide))) <;> (try (exfalso; omega)))
    | ((first | refine WP.skip ?_ | refine WP.exit ?_); simp only [SeqQ, BlkQ, LoopQ, BodyQ, ↓reduceIte, Nat.reduceEqDiff, reduceCtorEq, look, true_and])
    | (refine WP.ret (Sm.out ?_))
    | (first | refine ExG.no (Sm.out ?_) | refine Or.inl (ExG.no (Sm.out ?_)) | refine Or.inl (And.intro (fun hg => absurd hg (by decide)) (ExG.no (Sm.out ?_))))
    | (refine Rt.mk ?_; refine And.intro ?_ ?_ <;> (intro hg; first | exact absurd hg (by decide) | refine Sm.out ?_))
    | (refine Nu.mk ?_; first | (fail_if_success (have := nb1)); intro nb1 | (fail_if_success (have := nb2)); intro nb2 | (fail_if_success (have := nb3)); intro nb3 | intro nbz)
    | (refine Fr.mk ?_; intro hfr; replace FR := And.intro hfr FR; clear hfr; refine Sm.out ?_)
    | (refine Two.mk ?_ ?_)
    | (refine Cs.mk ?_; intro hcs; first | exact False.elim hcs | (exfalso; omega) | (refine Sm.out ?_))
    | go_step
    | omega
    | (simp only [maxLen_eq]; omega)
  (refine OutQ.upd (by simp only [resv, ZK, look, loadv, loadn, loadnm, load1, load1m, hget, ↓reduceIte, Nat.reduceEqDiff, Nat.reduceAdd, Nat.reduceMul, Nat.reduceLeDiff, Nat.reduceLT, reduceCtorEq, TFRhD, FR]) (by simp only [resv, resA, ZK, look, loadv, loadn, loadnm, load1, load1m, hget, ↓reduceIte, Nat.reduceEqDiff, Nat.reduceAdd, Nat.reduceMul, Nat.reduceLeDiff, Nat.reduceLT, reduceCtorEq, TFRhD, FR]; first | done | rfl) (by simp only [hget, ↓reduceIte, if_true, if_false, FR]; first | done | rfl) ?_ <;> first | exact rfl | (simp only [ZK, look, loadv, loadn, loadnm, load1, load1m, hget, ↓reduceIte, Nat.reduceEqDiff, Nat.reduceAdd, Nat.reduceMul, Nat.reduceLeDiff, Nat.reduceLT, reduceCtorEq, TFRhD, FR]; done) | skip)
theorem spoil_x (b : Nat) (zs : List Int) (hb : By zs) (hz : zs.length ≤ 10000) : ACt Try.prog 41 [pt b 0] [(b, rd zs false)] (fun r F' => r = .lit (.pointer none) ∧ F' = [(b, rdN)]) := by
  refine ACt.intro Try.func41 rfl (by kernel_rfl) (by simp [Try.ntmps41]) (fun cx => ?_)
  simp only [argE, Try.ntmps41, Try.results41]
  have c := countX b zs (-1) hb hz (by omega) (by omega)
  have e : cF (-1) zs = none := by
    unfold cF
    split <;> simp
  rw [e] at c
  have c1 : ACt Try.prog 49 [pt b 0, iv .i64 (-1)] [(b, rd zs false)] (fun r F' => r = iv .i64 0 ∧ F' = [(b, rdN)]) := c
  first | (have FRx := FR; clear FRx) | (have FR : ¬ ((1 : Nat) = 0) := Nat.one_ne_zero)
  repeat' first
    | (refine Sm.mk ?_; try simp -dsimp only [ZK, rvc, drawF, headN, pureH, stp, dvc, calleeOf, gcall, pev, eff, newB, okd, og, ogs, ogo, ogp, slv, bltv, opd, litv, strip, one, both, putE, St.put, look, gdOf, gdv, picka, pickv, pickw, binv, bini, bins, binb, binp, bina, shp, eqCells, unv, convv, nilv, faddv, addp, idxav, idxp, load1, load1m, loadn, loadnm, loadv, hget, hset, hrep, hdel, slicev, bnd, shift1, lenv, IntKind.bits, extractv, fieldv, indexv, min2v, max2v, mkiv, cellsA, fillA, buildv, stC, oneC, rowMB, intsA, plN, appE, appZ, appC, appNZ, appNC, VwL, srcC, srcZ, srcM, isBoolT, isPtrT, isSliceT, uOk, Value.oneCell', Nat.reducePow, Int.reducePow, Nat.reduceAdd, Nat.reduceMul, Nat.reduceSub, Nat.reduceLT, Nat.reduceLeDiff, Nat.reduceEqDiff, Nat.reduceBEq, Nat.reduceDiv, Nat.reduceMod, ↓reduceIte, reduceCtorEq, Int.reduceToNat, Int.reduceLT, Int.reduceLE, TFRhD, SeqQ, BlkQ, LoopQ, BodyQ, FR])
    | (refine CallV.upd (by simp only [hget, ↓reduceIte, FR]; first | done | rfl) (c1) (Sm.out ?_))
    | (refine WP.seq fun K hK => ?_)
    | (refine WP.region (rvc_sound _ _ (Sm.out ?_)))
    | (refine WP.drawK rfl mixed (by decide +kernel) (Sm.out ?_))
    | (refine Ob.mk ?_; focus (first | assumption | omega | decide | trivial | (intro hob; simp only [hob, ZF]; done) | (intros; (repeat' refine And.intro ?_ ?_) <;> first | assumption | omega | trivial | decide) | (intros; simp only [ZE] at *; (repeat' refine And.intro ?_ ?_) <;> first | assumption | omega | trivial)))
    | (refine And.intro (Ob.out ?_) ?_)
    | (refine WP.block ?_)
    | (refine WP.cond rfl (fun hc => ?_) (fun hc => ?_) <;> (try simp only [ZC, reduceCtorEq, ZD] at hc) <;> (try (exact absurd hc (by decide))) <;> (try (exfalso; omega)))
    | ((first | refine WP.skip ?_ | refine WP.exit ?_); simp only [SeqQ, BlkQ, LoopQ, BodyQ, ↓reduceIte, Nat.reduceEqDiff, reduceCtorEq, look, true_and])
    | (refine WP.ret (Sm.out ?_))
    | (first | refine ExG.no (Sm.out ?_) | refine Or.inl (ExG.no (Sm.out ?_)) | refine Or.inl (And.intro (fun hg => absurd hg (by decide)) (ExG.no (Sm.out ?_))))
    | (refine Rt.mk ?_; refine And.intro ?_ ?_ <;> (intro hg; first | exact absurd hg (by decide) | refine Sm.out ?_))
    | (refine Nu.mk ?_; first | (fail_if_success (have := nb1)); intro nb1 | (fail_if_success (have := nb2)); intro nb2 | (fail_if_success (have := nb3)); intro nb3 | intro nbz)
    | (refine Fr.mk ?_; intro hfr; replace FR := And.intro hfr FR; clear hfr; refine Sm.out ?_)
    | (refine Two.mk ?_ ?_)
    | (refine Cs.mk ?_; intro hcs; first | exact False.elim hcs | (exfalso; omega) | (refine Sm.out ?_))
    | go_step
    | omega
    | (simp only [maxLen_eq]; omega)
  (refine OutQ.upd (by simp only [resv, ZK, look, loadv, loadn, loadnm, load1, load1m, hget, ↓reduceIte, Nat.reduceEqDiff, Nat.reduceAdd, Nat.reduceMul, Nat.reduceLeDiff, Nat.reduceLT, reduceCtorEq, TFRhD, FR]) (by simp only [resv, resA, ZK, look, loadv, loadn, loadnm, load1, load1m, hget, ↓reduceIte, Nat.reduceEqDiff, Nat.reduceAdd, Nat.reduceMul, Nat.reduceLeDiff, Nat.reduceLT, reduceCtorEq, TFRhD, FR]; first | done | rfl) (by simp only [hget, ↓reduceIte, if_true, if_false, FR]; first | done | rfl) ?_ <;> first | exact rfl | (simp only [ZK, look, loadv, loadn, loadnm, load1, load1m, hget, ↓reduceIte, Nat.reduceEqDiff, Nat.reduceAdd, Nat.reduceMul, Nat.reduceLeDiff, Nat.reduceLT, reduceCtorEq, TFRhD, FR]; done) | skip)
end Go.Proofs.Ytbnkmhlnoaebcaa.Wi
namespace Go.Proofs.Ytbnkmhlnoaebcaa.Wi
open Go
set_option linter.unusedVariables false
set_option linter.unusedSimpArgs false
theorem By.app {a b : List Int} (ha : By a) (hb : By b) : By (a ++ b) := fun x hx => by
  rcases List.mem_append.1 hx with h | h
  · exact ha x h
  · exact hb x h
theorem nF_canon {zs r : List Int} {n : Nat} (hb : By zs) (h : nF zs = some (n, r)) : zs = putL 0 n ++ r := by
  have hbd := nF_bd hb h
  cases zs with
  | nil => cases h
  | cons c t =>
    have hc := hb c (List.mem_cons_self ..)
    obtain ⟨m, rfl⟩ := Int.eq_ofNat_of_zero_le hc.1
    obtain ⟨_, _, _, _, _, _, _, a1, a2⟩ := and256 m (by omega)
    unfold nF at h
    simp only [gF, a1, a2, Int.toNat_natCast] at h
    split at h
    · cases h
    rename_i hg
    simp only [Option.map_some, Option.some.injEq, Prod.mk.injEq] at h
    obtain ⟨rfl, rfl⟩ := h
    have hbt := hb.tail.take m
    have hlen : (t.take m).length = m := by simp; omega
    have hs := valL_size hbt (by
      by_cases h0 : m = 0
      · subst h0; left; rfl
      · right
        intro h1
        have : (t.take m).getD 0 0 = t.getD 0 0 := by
          simp only [List.getD_eq_getElem?_getD]
          rw [List.getElem?_take_of_lt (by omega)]
        rw [this] at h1
        exact hg (.inr (.inr ⟨by omega, h1⟩)))
    have hv := byteL_valL hbt
    rw [hlen] at hs hv
    unfold putL
    rw [← hs, hv, or0 m (by omega), List.cons_append, List.take_append_drop]
end Go.Proofs.Ytbnkmhlnoaebcaa.Wi
namespace Go.Proofs.Ytbnkmhlnoaebcaa
open Go Wi
set_option linter.unusedVariables false
set_option linter.unusedSimpArgs false
theorem TFRhE : ((((((type_of% tyc0) ∧ (type_of% tyc3)) ∧ ((type_of% zmb3) ∧ ((type_of% tyc5) ∧ (type_of% zmb5)))) ∧ (((type_of% tyc26) ∧ (type_of% mth26_30)) ∧ ((type_of% mth26_39) ∧ ((type_of% mth26_38) ∧ (type_of% con26))))) ∧ ((((type_of% zmb26) ∧ (type_of% tyc32)) ∧ ((type_of% elt32) ∧ ((type_of% mkz32) ∧ (type_of% mkc32)))) ∧ (((type_of% apT32) ∧ ((type_of% elk32) ∧ (type_of% zmb32))) ∧ ((type_of% tyc41) ∧ ((type_of% zmb41) ∧ (type_of% tyc43)))))) ∧ (((((type_of% foff43_0) ∧ (type_of% fpart43_0)) ∧ ((type_of% foff43_1) ∧ ((type_of% fpart43_1) ∧ (type_of% fe43)))) ∧ (((type_of% zmb43) ∧ (type_of% bldT43)) ∧ ((type_of% tyc50) ∧ ((type_of% elt50) ∧ (type_of% mkz50))))) ∧ ((((type_of% apT50) ∧ (type_of% elk50)) ∧ ((type_of% zmb50) ∧ ((type_of% Try.underlying0) ∧ (type_of% Try.underlying3)))) ∧ (((type_of% Try.underlying5) ∧ ((type_of% Try.underlying26) ∧ (type_of% Try.underlying32))) ∧ ((type_of% Try.underlying41) ∧ ((type_of% Try.underlying43) ∧ (type_of% Try.underlying50))))))) :=
  ⟨⟨⟨⟨⟨tyc0, tyc3⟩, ⟨zmb3, ⟨tyc5, zmb5⟩⟩⟩, ⟨⟨tyc26, mth26_30⟩, ⟨mth26_39, ⟨mth26_38, con26⟩⟩⟩⟩, ⟨⟨⟨zmb26, tyc32⟩, ⟨elt32, ⟨mkz32, mkc32⟩⟩⟩, ⟨⟨apT32, ⟨elk32, zmb32⟩⟩, ⟨tyc41, ⟨zmb41, tyc43⟩⟩⟩⟩⟩, ⟨⟨⟨⟨foff43_0, fpart43_0⟩, ⟨foff43_1, ⟨fpart43_1, fe43⟩⟩⟩, ⟨⟨zmb43, bldT43⟩, ⟨tyc50, ⟨elt50, mkz50⟩⟩⟩⟩, ⟨⟨⟨apT50, elk50⟩, ⟨zmb50, ⟨Try.underlying0, Try.underlying3⟩⟩⟩, ⟨⟨Try.underlying5, ⟨Try.underlying26, Try.underlying32⟩⟩, ⟨Try.underlying41, ⟨Try.underlying43, Try.underlying50⟩⟩⟩⟩⟩⟩
/-- bytes that are there, or none at all -/
def slO (o : Option (Nat × Nat)) (n : Nat) : AV :=
  match o with
  | none => nilS
  | some p => ms p.1 0 n p.2
def hpO (o : Option (Nat × Nat)) (zs : List Int) : Hp :=
  match o with
  | none => []
  | some p => [(p.1, .zs .u8 zs p.2 5)]
def okO (o : Option (Nat × Nat)) (n : Nat) : Prop :=
  match o with
  | none => n = 0
  | some p => n ≤ p.2 ∧ p.2 ≤ 9223372036854775807
def pzL (zs : List Int) (A B : Nat → Nat) (i : Nat) : List Int := zs ++ pdL A B i
structure OG where
  i : Nat
  o : Option (Nat × Nat)
set_option maxRecDepth 8000 in
set_option maxHeartbeats 4000000 in
theorem Put_ct (rb lb k : Nat) (R L : MB) (A B : Nat → Nat) (o : Option (Nat × Nat)) (zs : List Int) (hne : rb ≠ lb ∧ lb ≠ rb) (hk1 : 1 ≤ k) (hk : k ≤ 60) (hA : ∀ i, i < k → A i < 18446744073709551616 ∧ B i < 18446744073709551616)
    (hz : zs.length ≤ 1000) (ho : okO o zs.length)
    (cL : ACt Try.prog 14 [pt rb 0] [(rb, R), (lb, L)] (fun r F' => r = .sl k (lC k A B) ∧ F' = [(rb, R), (lb, L)])) :
    ACt Try.prog 22 [pt rb 0, slO o zs.length] ((rb, R) :: (lb, L) :: hpO o zs)
      (fun r F' => ∃ q : Gm (pzL zs A B k).length, r = ms q.1.1 0 (pzL zs A B k).length q.1.2 ∧ F' = [(q.1.1, .zs .u8 (pzL zs A B k) q.1.2 5), (rb, R), (lb, L)]) := by
  refine ACt.intro Try.func22 rfl (by kernel_rfl) (by simp [Try.ntmps22]) (fun cx => ?_)
  simp only [argE, Try.ntmps22, Try.results22]
  have hdr := lC_drop A B k
  have hCl := lC_len A B k
  obtain ⟨C, hC⟩ : ∃ C, C = lC k A B := ⟨_, rfl⟩
  rw [← hC] at cL hdr hCl
  have e0 : pzL zs A B 0 = zs := by simp [pzL, pdL]
  first | (have FRx := FR; clear FRx) | (have FR : ¬ ((1 : Nat) = 0) := Nat.one_ne_zero)
  repeat' first
    | (refine Sm.mk ?_; try simp -dsimp only [ZK, rvc, drawF, headN, pureH, stp, dvc, calleeOf, gcall, pev, eff, newB, okd, og, ogs, ogo, ogp, slv, bltv, opd, litv, strip, one, both, putE, St.put, look, gdOf, gdv, picka, pickv, pickw, binv, bini, bins, binb, binp, bina, shp, eqCells, unv, convv, nilv, faddv, addp, idxav, idxp, load1, load1m, loadn, loadnm, loadv, hget, hset, hrep, hdel, slicev, bnd, shift1, lenv, IntKind.bits, extractv, fieldv, indexv, min2v, max2v, mkiv, cellsA, fillA, buildv, stC, oneC, rowMB, intsA, plN, appE, appZ, appC, appNZ, appNC, VwL, srcC, srcZ, srcM, isBoolT, isPtrT, isSliceT, uOk, Value.oneCell', Nat.reducePow, Int.reducePow, Nat.reduceAdd, Nat.reduceMul, Nat.reduceSub, Nat.reduceLT, Nat.reduceLeDiff, Nat.reduceEqDiff, Nat.reduceBEq, Nat.reduceDiv, Nat.reduceMod, ↓reduceIte, reduceCtorEq, Int.reduceToNat, Int.reduceLT, Int.reduceLE, drawWF, splitH, calleeV, putE, hdel, TFRhE, SeqQ, BlkQ, LoopQ, BodyQ, hne, FR])
    | (refine CallV.updN (perm2 (by simp only [hget, hdel, ↓reduceIte, FR, hne]; first | done | rfl) (by simp only [hget, hdel, ↓reduceIte, FR, hne]; first | done | rfl)) (cL) (Sm.out ?_))
    | ((first | refine ExF.up ?_ (cL) (Sm.out ?_) | refine ExG.up ?_ (fun _ => cL) (Sm.out ?_) | refine ExG.upJ ?_ (fun _ => cL) (Sm.out ?_) | refine ExG.upI ?_ (fun _ => cL) (Ob.out ?_) (Sm.out ?_)); focus (exact ⟨_, (perm2 (by simp only [hget, hdel, ↓reduceIte, FR, hne]; first | done | rfl) (by simp only [hget, hdel, ↓reduceIte, FR, hne]; first | done | rfl))⟩))
    | (refine WP.seq fun K hK => ?_)
    | (refine WP.region (rvc_sound _ _ (Sm.out ?_)))
    | (refine WP.drawW (c := 3) (k := 6) (bs := [b]) mixed (by decide +kernel) (by decide +kernel) (Sm.out ?_))
    | (refine WP.drawW (c := 3) (k := 6) (bs := []) mixed (by decide +kernel) (by decide +kernel) (Sm.out ?_))
    | (refine WP.drawK rfl mixed (by decide +kernel) (Sm.out ?_))
    | (refine Ob.mk ?_; focus (first | assumption | omega | decide | trivial | (intro hob; simp only [hob, ZF]; done) | (intros; (repeat' refine And.intro ?_ ?_) <;> first | assumption | omega | trivial | decide) | (intros; simp only [ZE] at *; (repeat' refine And.intro ?_ ?_) <;> first | assumption | omega | trivial)))
    | (refine And.intro (Ob.out ?_) ?_)
    | (refine WP.block ?_)
    | (refine WP.cond rfl (fun hc => ?_) (fun hc => ?_) <;> (try simp only [ZC, reduceCtorEq, ZD] at hc) <;> (try (exact absurd hc (by decide))) <;> (try (exfalso; omega)))
    | ((first | refine WP.skip ?_ | refine WP.exit ?_); simp only [SeqQ, BlkQ, LoopQ, BodyQ, ↓reduceIte, Nat.reduceEqDiff, reduceCtorEq, look, true_and])
    | (refine WP.ret (Sm.out ?_))
    | (first | refine ExG.no (Sm.out ?_) | refine Or.inl (ExG.no (Sm.out ?_)) | refine Or.inl (And.intro (fun hg => absurd hg (by decide)) (ExG.no (Sm.out ?_))))
    | (refine Rt.mk ?_; refine And.intro ?_ ?_ <;> (intro hg; first | exact absurd hg (by decide) | refine Sm.out ?_))
    | (refine Nu.mk ?_; first | (fail_if_success (have := nb1)); intro nb1 | (fail_if_success (have := nb2)); intro nb2 | (fail_if_success (have := nb3)); intro nb3 | (fail_if_success (have := nb4)); intro nb4 | (fail_if_success (have := nb5)); intro nb5 | intro nbz)
    | (refine Fr.mk ?_; intro hfr; replace FR := And.intro hfr FR; clear hfr; refine Sm.out ?_)
    | (refine Two.mk ?_ ?_)
    | (refine Cs.mk ?_; intro hcs; first | exact False.elim hcs | (exfalso; omega) | (refine Sm.out ?_))
    | go_step
    | omega
    | (simp only [maxLen_eq]; omega)
    | (refine Or.inr (Rt.mk ?_); refine And.intro ?_ ?_ <;> (intro hg; first | exact absurd hg (by decide) | refine Sm.out ?_))
  refine WP.loop (Γ := OG) (fun q => ⟨[(10, iv .i64 q.i), (9, iv .i64 k), (8, .sl k C), (1, slO q.o (pzL zs A B q.i).length)], (rb, R) :: (lb, L) :: hpO q.o (pzL zs A B q.i)⟩)
    (fun q => q.i ≤ k ∧ okO q.o (pzL zs A B q.i).length ∧ (q.o = none → q.i = 0)) (fun q => k - q.i) ⟨0, o⟩ ⟨by simp, by rw [e0]; exact ho, fun _ => rfl⟩
    (Sub.of_env [] (by rw [e0]; exact pmz _) (by rw [e0]; simp [look])) ?_
  intro ⟨i, o⟩ ⟨hi, q1, q2⟩
  simp only at hi q1 q2 ⊢
  have hl := pdL_len A B i fun j hj => hA j (by omega)
  by_cases hlt : i < k
  · have k1 : decide ((i : Int) < (k : Int)) = true := by simp; omega
    have w1 : IntKind.i64.wrap ((i : Int) + 1) = ((i + 1 : Nat) : Int) := by rw [wrap_i64 (by omega) (by omega)]; omega
    obtain ⟨rr, hd⟩ := hdr i hlt
    have q4 : i * 2 + 2 ≤ C.length := by omega
    clear hdr
    have lD : (pzL zs A B i).length ≤ 2080 := by unfold pzL; rw [List.length_append]; omega
    have hAi := (hA i hlt).1
    have hBi := (hA i hlt).2
    have e3 : pzL zs A B (i + 1) = pzL zs A B i ++ putL 0 (A i) ++ putL 0 (B i) := by unfold pzL; rw [pdL, List.append_assoc, List.append_assoc]
    have l1 := Wi.putL_len 0 (A i) (hA i hlt).1
    cases o with
    | some p =>
      obtain ⟨b, cap⟩ := p
      simp only [slO, hpO, okO] at q1 ⊢
      (refine WP.nd fun hnd => ?_; simp only [ndF, fresh_cons, fresh_nil, and_true, ne_eq] at hnd; replace FR := And.intro hnd FR; clear hnd)
      have c1 := num_ct b cap (pzL zs A B i) (A i) (by omega) (by omega) (by omega) hAi
      have c2 := fun b' cap' h1 h2 => num_ct b' cap' ((pzL zs A B i) ++ putL 0 (A i)) (B i) (by rw [List.length_append]; omega) h1 h2 hBi
      obtain ⟨D, hD⟩ : ∃ D, D = pzL zs A B i := ⟨_, rfl⟩
      rw [← hD] at q1 c1 c2 e3 lD ⊢
      obtain ⟨D1, hD1⟩ : ∃ D1, D1 = D ++ putL 0 (A i) := ⟨_, rfl⟩
      rw [← hD1] at c1 c2 e3
      obtain ⟨D2, hD2⟩ : ∃ D2, D2 = D1 ++ putL 0 (B i) := ⟨_, rfl⟩
      rw [← hD2] at c2 e3
      first | (have FRx := FR; clear FRx) | (have FR : ¬ ((1 : Nat) = 0) := Nat.one_ne_zero)
      repeat' first
        | (refine Sm.mk ?_; try simp -dsimp only [ZK, rvc, drawF, headN, pureH, stp, dvc, calleeOf, gcall, pev, eff, newB, okd, og, ogs, ogo, ogp, slv, bltv, opd, litv, strip, one, both, putE, St.put, look, gdOf, gdv, picka, pickv, pickw, binv, bini, bins, binb, binp, bina, shp, eqCells, unv, convv, nilv, faddv, addp, idxav, idxp, load1, load1m, loadn, loadnm, loadv, hget, hset, hrep, hdel, slicev, bnd, shift1, lenv, IntKind.bits, extractv, fieldv, indexv, min2v, max2v, mkiv, cellsA, fillA, buildv, stC, oneC, rowMB, intsA, plN, appE, appZ, appC, appNZ, appNC, VwL, srcC, srcZ, srcM, isBoolT, isPtrT, isSliceT, uOk, Value.oneCell', Nat.reducePow, Int.reducePow, Nat.reduceAdd, Nat.reduceMul, Nat.reduceSub, Nat.reduceLT, Nat.reduceLeDiff, Nat.reduceEqDiff, Nat.reduceBEq, Nat.reduceDiv, Nat.reduceMod, ↓reduceIte, reduceCtorEq, Int.reduceToNat, Int.reduceLT, Int.reduceLE, drawWF, splitH, calleeV, putE, hdel, TFRhE, SeqQ, BlkQ, LoopQ, BodyQ, k1, w1, hd, q4, hne, FR])
        | (refine WCt.row (by simp only [hget, ↓reduceIte, FR, k1, w1, hd, q4, hne]; first | done | rfl) (c1) (Sm.out ?_))
        | (refine WCt.mkrow (c1) (Sm.out ?_))
        | (refine CallV.row (by simp only [hget, ↓reduceIte, FR, k1, w1, hd, q4, hne]; first | done | rfl) (c1) (Sm.out ?_))
        | (refine CallV.mkrow (c1) (Sm.out ?_))
        | (refine CallV.upd (by simp only [hget, ↓reduceIte, FR, k1, w1, hd, q4, hne]; first | done | rfl) (c1) (Sm.out ?_))
        | (refine CallV.mkobj (c1) (Sm.out ?_))
        | (first | refine CallV.fn (c1) (Sm.out ?_) | refine ExF.mk (c1) (Sm.out ?_) | refine ExG.mk (fun _ => c1) (Sm.out ?_) | refine ExG.mkJ (fun _ => c1) (Sm.out ?_) | refine ExG.mkI (Ob.out ?_) (fun _ => c1) (Sm.out ?_))
        | (refine WCt.row (by simp only [hget, ↓reduceIte, FR, k1, w1, hd, q4, hne]; first | done | rfl) (c2 nb2 nb3 (by omega) (by omega)) (Sm.out ?_))
        | (refine WCt.mkrow (c2 nb2 nb3 (by omega) (by omega)) (Sm.out ?_))
        | (refine CallV.row (by simp only [hget, ↓reduceIte, FR, k1, w1, hd, q4, hne]; first | done | rfl) (c2 nb2 nb3 (by omega) (by omega)) (Sm.out ?_))
        | (refine CallV.mkrow (c2 nb2 nb3 (by omega) (by omega)) (Sm.out ?_))
        | (refine CallV.upd (by simp only [hget, ↓reduceIte, FR, k1, w1, hd, q4, hne]; first | done | rfl) (c2 nb2 nb3 (by omega) (by omega)) (Sm.out ?_))
        | (refine CallV.mkobj (c2 nb2 nb3 (by omega) (by omega)) (Sm.out ?_))
        | (first | refine CallV.fn (c2 nb2 nb3 (by omega) (by omega)) (Sm.out ?_) | refine ExF.mk (c2 nb2 nb3 (by omega) (by omega)) (Sm.out ?_) | refine ExG.mk (fun _ => c2 nb2 nb3 (by omega) (by omega)) (Sm.out ?_) | refine ExG.mkJ (fun _ => c2 nb2 nb3 (by omega) (by omega)) (Sm.out ?_) | refine ExG.mkI (Ob.out ?_) (fun _ => c2 nb2 nb3 (by omega) (by omega)) (Sm.out ?_))
        | (refine WP.seq fun K hK => ?_)
        | (refine WP.region (rvc_sound _ _ (Sm.out ?_)))
        | (refine WP.drawW (c := 3) (k := 6) (bs := [b]) mixed (by decide +kernel) (by decide +kernel) (Sm.out ?_))
        | (refine WP.drawW (c := 3) (k := 6) (bs := []) mixed (by decide +kernel) (by decide +kernel) (Sm.out ?_))
        | (refine WP.drawK rfl mixed (by decide +kernel) (Sm.out ?_))
        | (refine Ob.mk ?_; focus (first | assumption | omega | decide | trivial | (intro hob; simp only [hob, ZF]; done) | (intros; (repeat' refine And.intro ?_ ?_) <;> first | assumption | omega | trivial | decide) | (intros; simp only [ZE] at *; (repeat' refine And.intro ?_ ?_) <;> first | assumption | omega | trivial)))
        | (refine And.intro (Ob.out ?_) ?_)
        | (refine WP.block ?_)
        | (refine WP.cond rfl (fun hc => ?_) (fun hc => ?_) <;> (try simp only [ZC, reduceCtorEq, ZD] at hc) <;> (try (exact absurd hc (by decide))) <;> (try (exfalso; omega)))
        | ((first | refine WP.skip ?_ | refine WP.exit ?_); simp only [SeqQ, BlkQ, LoopQ, BodyQ, ↓reduceIte, Nat.reduceEqDiff, reduceCtorEq, look, true_and])
        | (refine WP.ret (Sm.out ?_))
        | (first | refine ExG.no (Sm.out ?_) | refine Or.inl (ExG.no (Sm.out ?_)) | refine Or.inl (And.intro (fun hg => absurd hg (by decide)) (ExG.no (Sm.out ?_))))
        | (refine Rt.mk ?_; refine And.intro ?_ ?_ <;> (intro hg; first | exact absurd hg (by decide) | refine Sm.out ?_))
        | (refine Nu.mk ?_; first | (fail_if_success (have := nb1)); intro nb1 | (fail_if_success (have := nb2)); intro nb2 | (fail_if_success (have := nb3)); intro nb3 | (fail_if_success (have := nb4)); intro nb4 | (fail_if_success (have := nb5)); intro nb5 | intro nbz)
        | (refine Fr.mk ?_; intro hfr; replace FR := And.intro hfr FR; clear hfr; refine Sm.out ?_)
        | (refine Two.mk ?_ ?_)
        | (refine Cs.mk ?_; intro hcs; first | exact False.elim hcs | (exfalso; omega) | (refine Sm.out ?_))
        | go_step
        | omega
        | (simp only [maxLen_eq]; omega)
        | (refine Or.inr (Rt.mk ?_); refine And.intro ?_ ?_ <;> (intro hg; first | exact absurd hg (by decide) | refine Sm.out ?_))
      all_goals exact ⟨⟨i + 1, some (nb4, nb5)⟩, ⟨by simp only; omega, by simp only [okO, e3]; omega, fun h => by cases h⟩, by simp only; omega, by simp only [slO, hpO, e3]; exact (Sub.pick (by simp [pickB, hget, hdel, FR, hne]) (by simp [look, hne]))⟩
    | none =>
      obtain rfl := q2 rfl
      have y1 : IntKind.i64.wrap 1 = 1 := by decide
      simp only [slO, hpO, okO] at q1 ⊢
      have ez : pzL zs A B 0 = [] := List.eq_nil_of_length_eq_zero q1
      rw [ez, List.nil_append] at e3
      have c1 := num_nil (A 0) hAi
      have c2 := fun b' cap' h1 h2 => num_ct b' cap' (putL 0 (A 0)) (B 0) (by omega) h1 h2 hBi
      obtain ⟨D1, hD1⟩ : ∃ D1, D1 = putL 0 (A 0) := ⟨_, rfl⟩
      rw [← hD1] at c1 c2 e3
      obtain ⟨D2, hD2⟩ : ∃ D2, D2 = D1 ++ putL 0 (B 0) := ⟨_, rfl⟩
      rw [← hD2] at c2 e3
      first | (have FRx := FR; clear FRx) | (have FR : ¬ ((1 : Nat) = 0) := Nat.one_ne_zero)
      repeat' first
        | (refine Sm.mk ?_; try simp -dsimp only [ZK, rvc, drawF, headN, pureH, stp, dvc, calleeOf, gcall, pev, eff, newB, okd, og, ogs, ogo, ogp, slv, bltv, opd, litv, strip, one, both, putE, St.put, look, gdOf, gdv, picka, pickv, pickw, binv, bini, bins, binb, binp, bina, shp, eqCells, unv, convv, nilv, faddv, addp, idxav, idxp, load1, load1m, loadn, loadnm, loadv, hget, hset, hrep, hdel, slicev, bnd, shift1, lenv, IntKind.bits, extractv, fieldv, indexv, min2v, max2v, mkiv, cellsA, fillA, buildv, stC, oneC, rowMB, intsA, plN, appE, appZ, appC, appNZ, appNC, VwL, srcC, srcZ, srcM, isBoolT, isPtrT, isSliceT, uOk, Value.oneCell', Nat.reducePow, Int.reducePow, Nat.reduceAdd, Nat.reduceMul, Nat.reduceSub, Nat.reduceLT, Nat.reduceLeDiff, Nat.reduceEqDiff, Nat.reduceBEq, Nat.reduceDiv, Nat.reduceMod, ↓reduceIte, reduceCtorEq, Int.reduceToNat, Int.reduceLT, Int.reduceLE, drawWF, splitH, calleeV, putE, hdel, TFRhE, SeqQ, BlkQ, LoopQ, BodyQ, k1, w1, hd, q4, hne, FR])
        | (refine WCt.row (by simp only [hget, ↓reduceIte, FR, k1, w1, hd, q4, hne]; first | done | rfl) (c1) (Sm.out ?_))
        | (refine WCt.mkrow (c1) (Sm.out ?_))
        | (refine CallV.row (by simp only [hget, ↓reduceIte, FR, k1, w1, hd, q4, hne]; first | done | rfl) (c1) (Sm.out ?_))
        | (refine CallV.mkrow (c1) (Sm.out ?_))
        | (refine CallV.upd (by simp only [hget, ↓reduceIte, FR, k1, w1, hd, q4, hne]; first | done | rfl) (c1) (Sm.out ?_))
        | (refine CallV.mkobj (c1) (Sm.out ?_))
        | (first | refine CallV.fn (c1) (Sm.out ?_) | refine ExF.mk (c1) (Sm.out ?_) | refine ExG.mk (fun _ => c1) (Sm.out ?_) | refine ExG.mkJ (fun _ => c1) (Sm.out ?_) | refine ExG.mkI (Ob.out ?_) (fun _ => c1) (Sm.out ?_))
        | (refine WCt.row (by simp only [hget, ↓reduceIte, FR, k1, w1, hd, q4, hne]; first | done | rfl) (c2 nb2 nb3 (by omega) (by omega)) (Sm.out ?_))
        | (refine WCt.mkrow (c2 nb2 nb3 (by omega) (by omega)) (Sm.out ?_))
        | (refine CallV.row (by simp only [hget, ↓reduceIte, FR, k1, w1, hd, q4, hne]; first | done | rfl) (c2 nb2 nb3 (by omega) (by omega)) (Sm.out ?_))
        | (refine CallV.mkrow (c2 nb2 nb3 (by omega) (by omega)) (Sm.out ?_))
        | (refine CallV.upd (by simp only [hget, ↓reduceIte, FR, k1, w1, hd, q4, hne]; first | done | rfl) (c2 nb2 nb3 (by omega) (by omega)) (Sm.out ?_))
        | (refine CallV.mkobj (c2 nb2 nb3 (by omega) (by omega)) (Sm.out ?_))
        | (first | refine CallV.fn (c2 nb2 nb3 (by omega) (by omega)) (Sm.out ?_) | refine ExF.mk (c2 nb2 nb3 (by omega) (by omega)) (Sm.out ?_) | refine ExG.mk (fun _ => c2 nb2 nb3 (by omega) (by omega)) (Sm.out ?_) | refine ExG.mkJ (fun _ => c2 nb2 nb3 (by omega) (by omega)) (Sm.out ?_) | refine ExG.mkI (Ob.out ?_) (fun _ => c2 nb2 nb3 (by omega) (by omega)) (Sm.out ?_))
        | (refine WP.seq fun K hK => ?_)
        | (refine WP.region (rvc_sound _ _ (Sm.out ?_)))
        | (refine WP.drawW (c := 3) (k := 6) (bs := [b]) mixed (by decide +kernel) (by decide +kernel) (Sm.out ?_))
        | (refine WP.drawW (c := 3) (k := 6) (bs := []) mixed (by decide +kernel) (by decide +kernel) (Sm.out ?_))
        | (refine WP.drawK rfl mixed (by decide +kernel) (Sm.out ?_))
        | (refine Ob.mk ?_; focus (first | assumption | omega | decide | trivial | (intro hob; simp only [hob, ZF]; done) | (intros; (repeat' refine And.intro ?_ ?_) <;> first | assumption | omega | trivial | decide) | (intros; simp only [ZE] at *; (repeat' refine And.intro ?_ ?_) <;> first | assumption | omega | trivial)))
        | (refine And.intro (Ob.out ?_) ?_)
        | (refine WP.block ?_)
        | (refine WP.cond rfl (fun hc => ?_) (fun hc => ?_) <;> (try simp only [ZC, reduceCtorEq, ZD] at hc) <;> (try (exact absurd hc (by decide))) <;> (try (exfalso; omega)))
        | ((first | refine WP.skip ?_ | refine WP.exit ?_); simp only [SeqQ, BlkQ, LoopQ, BodyQ, ↓reduceIte, Nat.reduceEqDiff, reduceCtorEq, look, true_and])
        | (refine WP.ret (Sm.out ?_))
        | (first | refine ExG.no (Sm.out ?_) | refine Or.inl (ExG.no (Sm.out ?_)) | refine Or.inl (And.intro (fun hg => absurd hg (by decide)) (ExG.no (Sm.out ?_))))
        | (refine Rt.mk ?_; refine And.intro ?_ ?_ <;> (intro hg; first | exact absurd hg (by decide) | refine Sm.out ?_))
        | (refine Nu.mk ?_; first | (fail_if_success (have := nb1)); intro nb1 | (fail_if_success (have := nb2)); intro nb2 | (fail_if_success (have := nb3)); intro nb3 | (fail_if_success (have := nb4)); intro nb4 | (fail_if_success (have := nb5)); intro nb5 | intro nbz)
        | (refine Fr.mk ?_; intro hfr; replace FR := And.intro hfr FR; clear hfr; refine Sm.out ?_)
        | (refine Two.mk ?_ ?_)
        | (refine Cs.mk ?_; intro hcs; first | exact False.elim hcs | (exfalso; omega) | (refine Sm.out ?_))
        | go_step
        | omega
        | (simp only [maxLen_eq]; omega)
        | (refine Or.inr (Rt.mk ?_); refine And.intro ?_ ?_ <;> (intro hg; first | exact absurd hg (by decide) | refine Sm.out ?_))
      all_goals exact ⟨⟨0 + 1, some (nb4, nb5)⟩, ⟨by simp only; omega, by simp only [okO, e3]; omega, fun h => by cases h⟩, by simp only; omega, by simp only [slO, hpO, e3]; exact (Sub.pick (by simp [pickB, hget, hdel, FR, hne, y1]) (by simp [look, hne, y1]))⟩
  · obtain rfl : i = k := by omega
    have k1 : decide ((i : Int) < (i : Int)) = false := by simp
    cases o with
    | none => have := q2 rfl; omega
    | some p =>
      obtain ⟨b, cap⟩ := p
      simp only [slO, hpO, okO] at q1 ⊢
      (refine WP.nd fun hnd => ?_; simp only [ndF, fresh_cons, fresh_nil, and_true, ne_eq] at hnd; replace FR := And.intro hnd FR; clear hnd)
      obtain ⟨D, hD⟩ : ∃ D, D = pzL zs A B i := ⟨_, rfl⟩
      rw [← hD] at q1 ⊢
      first | (have FRx := FR; clear FRx) | (have FR : ¬ ((1 : Nat) = 0) := Nat.one_ne_zero)
      repeat' first
        | (refine Sm.mk ?_; try simp -dsimp only [ZK, rvc, drawF, headN, pureH, stp, dvc, calleeOf, gcall, pev, eff, newB, okd, og, ogs, ogo, ogp, slv, bltv, opd, litv, strip, one, both, putE, St.put, look, gdOf, gdv, picka, pickv, pickw, binv, bini, bins, binb, binp, bina, shp, eqCells, unv, convv, nilv, faddv, addp, idxav, idxp, load1, load1m, loadn, loadnm, loadv, hget, hset, hrep, hdel, slicev, bnd, shift1, lenv, IntKind.bits, extractv, fieldv, indexv, min2v, max2v, mkiv, cellsA, fillA, buildv, stC, oneC, rowMB, intsA, plN, appE, appZ, appC, appNZ, appNC, VwL, srcC, srcZ, srcM, isBoolT, isPtrT, isSliceT, uOk, Value.oneCell', Nat.reducePow, Int.reducePow, Nat.reduceAdd, Nat.reduceMul, Nat.reduceSub, Nat.reduceLT, Nat.reduceLeDiff, Nat.reduceEqDiff, Nat.reduceBEq, Nat.reduceDiv, Nat.reduceMod, ↓reduceIte, reduceCtorEq, Int.reduceToNat, Int.reduceLT, Int.reduceLE, drawWF, splitH, calleeV, putE, hdel, TFRhE, SeqQ, BlkQ, LoopQ, BodyQ, k1, FR])
        | (refine WP.seq fun K hK => ?_)
        | (refine WP.region (rvc_sound _ _ (Sm.out ?_)))
        | (refine WP.drawW (c := 3) (k := 6) (bs := [b]) mixed (by decide +kernel) (by decide +kernel) (Sm.out ?_))
        | (refine WP.drawW (c := 3) (k := 6) (bs := []) mixed (by decide +kernel) (by decide +kernel) (Sm.out ?_))
        | (refine WP.drawK rfl mixed (by decide +kernel) (Sm.out ?_))
        | (refine Ob.mk ?_; focus (first | assumption | omega | decide | trivial | (intro hob; simp only [hob, ZF]; done) | (intros; (repeat' refine And.intro ?_ ?_) <;> first | assumption | omega | trivial | decide) | (intros; simp only [ZE] at *; (repeat' refine And.intro ?_ ?_) <;> first | assumption | omega | trivial)))
        | (refine And.intro (Ob.out ?_) ?_)
        | (refine WP.block ?_)
        | (refine WP.cond rfl (fun hc => ?_) (fun hc => ?_) <;> (try simp only [ZC, reduceCtorEq, ZD] at hc) <;> (try (exact absurd hc (by decide))) <;> (try (exfalso; omega)))
        | ((first | refine WP.skip ?_ | refine WP.exit ?_); simp only [SeqQ, BlkQ, LoopQ, BodyQ, ↓reduceIte, Nat.reduceEqDiff, reduceCtorEq, look, true_and])
        | (refine WP.ret (Sm.out ?_))
        | (first | refine ExG.no (Sm.out ?_) | refine Or.inl (ExG.no (Sm.out ?_)) | refine Or.inl (And.intro (fun hg => absurd hg (by decide)) (ExG.no (Sm.out ?_))))
        | (refine Rt.mk ?_; refine And.intro ?_ ?_ <;> (intro hg; first | exact absurd hg (by decide) | refine Sm.out ?_))
        | (refine Nu.mk ?_; first | (fail_if_success (have := nb1)); intro nb1 | (fail_if_success (have := nb2)); intro nb2 | (fail_if_success (have := nb3)); intro nb3 | (fail_if_success (have := nb4)); intro nb4 | (fail_if_success (have := nb5)); intro nb5 | intro nbz)
        | (refine Fr.mk ?_; intro hfr; replace FR := And.intro hfr FR; clear hfr; refine Sm.out ?_)
        | (refine Two.mk ?_ ?_)
        | (refine Cs.mk ?_; intro hcs; first | exact False.elim hcs | (exfalso; omega) | (refine Sm.out ?_))
        | go_step
        | omega
        | (simp only [maxLen_eq]; omega)
        | (refine Or.inr (Rt.mk ?_); refine And.intro ?_ ?_ <;> (intro hg; first | exact absurd hg (by decide) | refine Sm.out ?_))
      rw [← hD]
      (refine OutQ.drop _ _ (perm3 (by simp only [hget, hdel, ↓reduceIte, if_true, if_false, FR, hne]; first | done | rfl) (by simp only [hget, hdel, ↓reduceIte, if_true, if_false, FR, hne]; first | done | rfl) (by simp only [hget, hdel, ↓reduceIte, if_true, if_false, FR, hne]; first | done | rfl)) (by simp only [resv, ZK, look, loadv, loadn, loadnm, load1, load1m, hget, ↓reduceIte, Nat.reduceEqDiff, Nat.reduceAdd, Nat.reduceMul, Nat.reduceLeDiff, Nat.reduceLT, reduceCtorEq, TFRhE, FR, hne]) ⟨⟨(b, cap), by simp only; omega⟩, (by simp only [resv, resA, ZK, look, loadv, loadn, loadnm, load1, load1m, hget, ↓reduceIte, Nat.reduceEqDiff, Nat.reduceAdd, Nat.reduceMul, Nat.reduceLeDiff, Nat.reduceLT, reduceCtorEq, TFRhE, FR, hne]; first | done | rfl), rfl⟩)
end Go.Proofs.Ytbnkmhlnoaebcaa
namespace Go.Proofs.Ytbnkmhlnoaebcaa
open Go Wi
set_option linter.unusedVariables false
set_option linter.unusedSimpArgs false
/-- buckets, one behind the other, as events -/
def rdE (w k now : Nat) : Nat → List Ev → List Int → Option (List Ev × List Int)
  | 0, E, zs => some (E, zs)
  | j + 1, E, zs => match nF zs with
    | none => none
    | some (g, z1) => match nF z1 with
      | none => none
      | some (t, z2) =>
        if t < g ∨ 9223372036854775807 < sT (winP now w k) E + t then none
        else if k ≤ now / w + 1 + (k - (j + 1)) then rdE w k now j (E ++ [⟨(now / w + 1 + (k - (j + 1)) - k) * w, g, t⟩]) z2
        else if g = 0 ∧ t = 0 then rdE w k now j E z2 else none
/-- what is known of the events of so many buckets -/
structure RI (w k now i : Nat) (E : List Ev) : Prop where
  at_ : ∀ e ∈ E, e.at_ ≤ now
  gt : ∀ e ∈ E, e.g ≤ e.t
  len : E.length ≤ i
  sum : sT (winP now w k) E ≤ 9223372036854775807
  cls : ∀ e ∈ E, e.at_ / w + k < now / w + 1 + i ∧ now / w < e.at_ / w + k
theorem RI.zero (w k now : Nat) : RI w k now 0 [] := ⟨fun e he => (by cases he), fun e he => (by cases he), by simp, by simp [sT], fun e he => (by cases he)⟩
theorem RI.next {w k now i : Nat} {E : List Ev} (h : RI w k now i E) : RI w k now (i + 1) E := ⟨h.at_, h.gt, by have := h.len; omega, h.sum, fun e he => by have := h.cls e he; omega⟩
theorem RI.add {w k now i g t : Nat} {E : List Ev} (hw : 1 ≤ w) (h : RI w k now i E) (hi : i < k) (hk : k ≤ now / w + 1 + i) (hgt : g ≤ t) (hs : sT (winP now w k) E + t ≤ 9223372036854775807) :
    RI w k now (i + 1) (E ++ [⟨(now / w + 1 + i - k) * w, g, t⟩]) := by
  have hm : (now / w + 1 + i - k) * w / w = now / w + 1 + i - k := Nat.mul_div_cancel _ (by omega)
  have hle : (now / w + 1 + i - k) * w ≤ now := Nat.le_trans (Nat.mul_le_mul_right w (show now / w + 1 + i - k ≤ now / w by omega)) (Nat.div_mul_le_self now w)
  refine ⟨?_, ?_, by have := h.len; simp; omega, ?_, ?_⟩
  · intro e he
    rcases List.mem_append.1 he with he | he
    · exact h.at_ e he
    · rw [List.mem_singleton.1 he]; exact hle
  · intro e he
    rcases List.mem_append.1 he with he | he
    · exact h.gt e he
    · rw [List.mem_singleton.1 he]; exact hgt
  · rw [sT_app]
    have : sT (winP now w k) [⟨(now / w + 1 + i - k) * w, g, t⟩] ≤ t := by unfold sT; split <;> simp [sT]
    omega
  · intro e he
    rcases List.mem_append.1 he with he | he
    · have := h.cls e he; omega
    · rw [List.mem_singleton.1 he]; simp only [hm]; omega
theorem mod_ne {a b k : Nat} (h1 : a < b) (h2 : b < a + k) : a % k ≠ b % k := by
  intro h
  have h3 := Nat.sub_mod_eq_zero_of_mod_eq h.symm
  have h4 : (b - a) % k = b - a := Nat.mod_eq_of_lt (by omega)
  omega
abbrev bkG (w k now : Nat) (E : List Ev) : Nat → Nat := bkA (slG (now / w) w k E) k (now / w)
abbrev bkT (w k now : Nat) (E : List Ev) : Nat → Nat := bkA (slT (now / w) w k E) k (now / w)
theorem bk_zero {w k now i j : Nat} {E : List Ev} (h : RI w k now i E) (hij : i ≤ j) (hj : j < k) : bkG w k now E j = 0 ∧ bkT w k now E j = 0 := by
  unfold bkG bkT bkA
  by_cases hk : k ≤ now / w + 1 + j
  · rw [if_pos hk, if_pos hk]
    have key : ∀ e ∈ E, slP (now / w) w k ((now / w + 1 + j - k) % k) e.at_ = false := by
      intro e he
      have := h.cls e he
      unfold slP
      have hne := mod_ne (a := e.at_ / w) (b := now / w + 1 + j - k) (k := k) (by omega) (by omega)
      simp [hne]
    exact ⟨sG_none key, sT_none key⟩
  · rw [if_neg hk, if_neg hk]; exact ⟨rfl, rfl⟩
theorem bk_add {w k now i g t : Nat} {E : List Ev} (hw : 1 ≤ w) (h : RI w k now i E) (hi : i < k) (hk : k ≤ now / w + 1 + i) : ∀ j, j < k →
    bkG w k now (E ++ [⟨(now / w + 1 + i - k) * w, g, t⟩]) j = (if j = i then g else bkG w k now E j) ∧ bkT w k now (E ++ [⟨(now / w + 1 + i - k) * w, g, t⟩]) j = (if j = i then t else bkT w k now E j) := by
  intro j hj
  have hm : (now / w + 1 + i - k) * w / w = now / w + 1 + i - k := Nat.mul_div_cancel _ (by omega)
  have a1 := add_slG (ne := now / w) (w := w) (k := k) (m := (now / w + 1 + i - k) * w) (g := g) (t := t) (E := E) (by rw [hm]; omega)
  have a2 := add_slT (ne := now / w) (w := w) (k := k) (m := (now / w + 1 + i - k) * w) (g := g) (t := t) (E := E) (by rw [hm]; omega)
  rw [hm] at a1 a2
  have z := bk_zero h (Nat.le_refl i) hi
  unfold bkG bkT bkA at z ⊢
  rw [if_pos hk, if_pos hk] at z
  rw [a1, a2, z.1, z.2]
  by_cases hji : j = i
  · subst hji
    simp [upd, hk]
  · rw [if_neg hji, if_neg hji]
    by_cases hkj : k ≤ now / w + 1 + j
    · rw [if_pos hkj, if_pos hkj, if_pos hkj, if_pos hkj]
      have hne : (now / w + 1 + j - k) % k ≠ (now / w + 1 + i - k) % k := by
        rcases Nat.lt_or_gt_of_ne hji with hlt | hlt
        · exact mod_ne (by omega) (by omega)
        · exact (mod_ne (by omega) (by omega)).symm
      unfold upd
      rw [if_neg hne, if_neg hne]
      exact ⟨rfl, rfl⟩
    · rw [if_neg hkj, if_neg hkj, if_neg hkj, if_neg hkj]; exact ⟨rfl, rfl⟩
theorem pdL_congr {A B A' B' : Nat → Nat} : ∀ {k : Nat}, (∀ j, j < k → A j = A' j ∧ B j = B' j) → pdL A B k = pdL A' B' k
  | 0, _ => rfl
  | k + 1, h => by rw [pdL, pdL, pdL_congr fun j hj => h j (by omega), (h k (by omega)).1, (h k (by omega)).2]
theorem rdE_spec {w k now : Nat} (hw : 1 ≤ w) : ∀ (j : Nat) (E : List Ev) (zs : List Int) (E' : List Ev) (zs' : List Int), j ≤ k → RI w k now (k - j) E → By zs → rdE w k now j E zs = some (E', zs') →
    RI w k now k E' ∧ pdL (bkG w k now E') (bkT w k now E') k ++ zs' = pdL (bkG w k now E) (bkT w k now E) (k - j) ++ zs
  | 0, E, zs, E', zs', hj, hR, hb, h => by
    simp only [rdE, Option.some.injEq, Prod.mk.injEq] at h
    obtain ⟨rfl, rfl⟩ := h
    exact ⟨hR, rfl⟩
  | j + 1, E, zs, E', zs', hj, hR, hb, h => by
    rw [rdE] at h
    cases h1 : nF zs with
    | none => rw [h1] at h; cases h
    | some p =>
      obtain ⟨g, z1⟩ := p
      rw [h1] at h
      simp only at h
      have n1 := nF_canon hb h1
      have b1 := (nF_bd hb h1).2.1
      cases h2 : nF z1 with
      | none => rw [h2] at h; cases h
      | some p =>
        obtain ⟨t, z2⟩ := p
        rw [h2] at h
        simp only at h
        have n2 := nF_canon b1 h2
        have b2 := (nF_bd b1 h2).2.1
        obtain ⟨i, hi⟩ : ∃ i, i = k - (j + 1) := ⟨_, rfl⟩
        rw [← hi] at h hR ⊢
        have hi1 : k - j = i + 1 := by omega
        split at h
        · cases h
        rename_i hg
        simp only [not_or, Nat.not_lt] at hg
        have hz : zs = putL 0 g ++ (putL 0 t ++ z2) := by rw [n1, n2]
        split at h
        · rename_i hk
          have hR' := hR.add hw (by omega) hk hg.1 hg.2
          have ba := bk_add (g := g) (t := t) hw hR (by omega) hk
          obtain ⟨r1, r2⟩ := rdE_spec hw j _ z2 E' zs' (by omega) (by rw [hi1]; exact hR') b2 h
          refine ⟨r1, ?_⟩
          rw [r2, hi1, hz, pdL, pdL_congr (A' := bkG w k now E) (B' := bkT w k now E) (fun x hx => by
            have := ba x (by omega)
            rw [if_neg (by omega), if_neg (by omega)] at this
            exact this)]
          have := ba i (by omega)
          rw [if_pos rfl, if_pos rfl] at this
          rw [this.1, this.2]
          simp only [List.append_assoc]
        · rename_i hk
          split at h
          · rename_i h0
            obtain ⟨rfl, rfl⟩ := h0
            obtain ⟨r1, r2⟩ := rdE_spec hw j _ z2 E' zs' (by omega) (by rw [hi1]; exact hR.next) b2 h
            refine ⟨r1, ?_⟩
            have := bk_zero hR (Nat.le_refl i) (by omega)
            rw [r2, hi1, hz, pdL, this.1, this.2]
            simp only [List.append_assoc]
          · cases h
end Go.Proofs.Ytbnkmhlnoaebcaa
namespace Go.Proofs.Ytbnkmhlnoaebcaa
open Go Wi
set_option linter.unusedVariables false
set_option linter.unusedSimpArgs false
theorem TFRhG : (((((((type_of% tyc0) ∧ (type_of% tyc2)) ∧ ((type_of% zmb2) ∧ (type_of% tyc3))) ∧ (((type_of% zmb3) ∧ (type_of% tyc4)) ∧ ((type_of% zmb4) ∧ (type_of% tyc23)))) ∧ ((((type_of% zmb23) ∧ (type_of% tyc26)) ∧ ((type_of% mth26_30) ∧ (type_of% mth26_39))) ∧ (((type_of% mth26_38) ∧ (type_of% con26)) ∧ ((type_of% zmb26) ∧ (type_of% tyc27))))) ∧ (((((type_of% tyc32) ∧ (type_of% elt32)) ∧ ((type_of% mkz32) ∧ (type_of% mkc32))) ∧ (((type_of% apT32) ∧ (type_of% elk32)) ∧ ((type_of% zmb32) ∧ (type_of% tyc41)))) ∧ ((((type_of% zmb41) ∧ (type_of% tyc43)) ∧ ((type_of% foff43_0) ∧ (type_of% fpart43_0))) ∧ (((type_of% foff43_1) ∧ (type_of% fpart43_1)) ∧ ((type_of% fe43) ∧ ((type_of% zmb43) ∧ (type_of% bldT43))))))) ∧ ((((((type_of% tyc54) ∧ (type_of% mth54_53)) ∧ ((type_of% mth54_50) ∧ (type_of% mth54_54))) ∧ (((type_of% con54) ∧ (type_of% zmb54)) ∧ ((type_of% tyc64) ∧ (type_of% foff64_0)))) ∧ ((((type_of% fpart64_0) ∧ (type_of% foff64_1)) ∧ ((type_of% fpart64_1) ∧ (type_of% foff64_2))) ∧ (((type_of% fpart64_2) ∧ (type_of% foff64_3)) ∧ ((type_of% fpart64_3) ∧ ((type_of% foff64_4) ∧ (type_of% fpart64_4)))))) ∧ (((((type_of% zmb64) ∧ (type_of% bldT64)) ∧ ((type_of% tyc65) ∧ (type_of% zmb65))) ∧ (((type_of% Try.underlying0) ∧ (type_of% Try.underlying2)) ∧ ((type_of% Try.underlying3) ∧ (type_of% Try.underlying4)))) ∧ ((((type_of% Try.underlying23) ∧ (type_of% Try.underlying26)) ∧ ((type_of% Try.underlying27) ∧ (type_of% Try.underlying32))) ∧ (((type_of% Try.underlying41) ∧ (type_of% Try.underlying43)) ∧ ((type_of% Try.underlying54) ∧ ((type_of% Try.underlying64) ∧ (type_of% Try.underlying65)))))))) :=
  ⟨⟨⟨⟨⟨⟨tyc0, tyc2⟩, ⟨zmb2, tyc3⟩⟩, ⟨⟨zmb3, tyc4⟩, ⟨zmb4, tyc23⟩⟩⟩, ⟨⟨⟨zmb23, tyc26⟩, ⟨mth26_30, mth26_39⟩⟩, ⟨⟨mth26_38, con26⟩, ⟨zmb26, tyc27⟩⟩⟩⟩, ⟨⟨⟨⟨tyc32, elt32⟩, ⟨mkz32, mkc32⟩⟩, ⟨⟨apT32, elk32⟩, ⟨zmb32, tyc41⟩⟩⟩, ⟨⟨⟨zmb41, tyc43⟩, ⟨foff43_0, fpart43_0⟩⟩, ⟨⟨foff43_1, fpart43_1⟩, ⟨fe43, ⟨zmb43, bldT43⟩⟩⟩⟩⟩⟩, ⟨⟨⟨⟨⟨tyc54, mth54_53⟩, ⟨mth54_50, mth54_54⟩⟩, ⟨⟨con54, zmb54⟩, ⟨tyc64, foff64_0⟩⟩⟩, ⟨⟨⟨fpart64_0, foff64_1⟩, ⟨fpart64_1, foff64_2⟩⟩, ⟨⟨fpart64_2, foff64_3⟩, ⟨fpart64_3, ⟨foff64_4, fpart64_4⟩⟩⟩⟩⟩, ⟨⟨⟨⟨zmb64, bldT64⟩, ⟨tyc65, zmb65⟩⟩, ⟨⟨Try.underlying0, Try.underlying2⟩, ⟨Try.underlying3, Try.underlying4⟩⟩⟩, ⟨⟨⟨Try.underlying23, Try.underlying26⟩, ⟨Try.underlying27, Try.underlying32⟩⟩, ⟨⟨Try.underlying41, Try.underlying43⟩, ⟨Try.underlying54, ⟨Try.underlying64, Try.underlying65⟩⟩⟩⟩⟩⟩⟩
theorem rdE_some {w k now j : Nat} {E : List Ev} {zs : List Int} {p : List Ev × List Int} (h : rdE w k now (j + 1) E zs = some p) :
    ∃ g z1 t z2, nF zs = some (g, z1) ∧ nF z1 = some (t, z2) ∧ g ≤ t ∧ sT (winP now w k) E + t ≤ 9223372036854775807 ∧
      ((k ≤ now / w + 1 + (k - (j + 1)) ∧ rdE w k now j (E ++ [⟨(now / w + 1 + (k - (j + 1)) - k) * w, g, t⟩]) z2 = some p) ∨
        (¬ k ≤ now / w + 1 + (k - (j + 1)) ∧ g = 0 ∧ t = 0 ∧ rdE w k now j E z2 = some p)) := by
  rw [rdE] at h
  cases h1 : nF zs with
  | none => rw [h1] at h; cases h
  | some a =>
    obtain ⟨g, z1⟩ := a
    rw [h1] at h
    simp only at h
    cases h2 : nF z1 with
    | none => rw [h2] at h; cases h
    | some b =>
      obtain ⟨t, z2⟩ := b
      rw [h2] at h
      simp only at h
      split at h
      · cases h
      rename_i hg
      refine ⟨g, z1, t, z2, rfl, h2, by omega, by omega, ?_⟩
      split at h
      · rename_i hk; exact .inl ⟨hk, h⟩
      · rename_i hk
        split at h
        · rename_i h0; exact .inr ⟨hk, h0.1, h0.2, h⟩
        · cases h
theorem rdE_none {w k now j : Nat} {E : List Ev} {zs : List Int} (h : rdE w k now (j + 1) E zs = none) :
    nF zs = none ∨ ∃ g z1, nF zs = some (g, z1) ∧ (nF z1 = none ∨ ∃ t z2, nF z1 = some (t, z2) ∧ (t < g ∨ g ≤ t ∧ (9223372036854775807 < sT (winP now w k) E + t ∨ sT (winP now w k) E + t ≤ 9223372036854775807 ∧
      ((k ≤ now / w + 1 + (k - (j + 1)) ∧ rdE w k now j (E ++ [⟨(now / w + 1 + (k - (j + 1)) - k) * w, g, t⟩]) z2 = none) ∨
        (¬ k ≤ now / w + 1 + (k - (j + 1)) ∧ (¬ (g = 0 ∧ t = 0) ∨ (g = 0 ∧ t = 0) ∧ rdE w k now j E z2 = none)))))) := by
  rw [rdE] at h
  cases h1 : nF zs with
  | none => exact .inl rfl
  | some a =>
    obtain ⟨g, z1⟩ := a
    rw [h1] at h
    simp only at h
    refine .inr ⟨g, z1, rfl, ?_⟩
    cases h2 : nF z1 with
    | none => exact .inl rfl
    | some b =>
      obtain ⟨t, z2⟩ := b
      rw [h2] at h
      simp only at h
      refine .inr ⟨t, z2, rfl, ?_⟩
      by_cases h3 : t < g
      · exact .inl h3
      refine .inr ⟨by omega, ?_⟩
      by_cases h4 : 9223372036854775807 < sT (winP now w k) E + t
      · exact .inl h4
      refine .inr ⟨by omega, ?_⟩
      rw [if_neg (by omega)] at h
      split at h
      · rename_i hk; exact .inl ⟨hk, h⟩
      · rename_i hk
        refine .inr ⟨hk, ?_⟩
        split at h
        · rename_i h0; exact .inr ⟨h0, h⟩
        · rename_i h0; exact .inl h0
theorem grow_step (rb lb w k now m i g t : Nat) (E : List Ev) (hne : rb ≠ lb ∧ lb ≠ rb) (hw : 1 ≤ w) (hk1 : 1 ≤ k) (hk2 : k ≤ 60) (hnow : now ≤ 253402300799) (h : RI w k now i E) (hgt : g ≤ t) (hs : sT (winP now w k) E + t ≤ 9223372036854775807) (hm : now / w < m + k) :
    ACt Try.prog 39 [pt rb 0, pt lb (m % k * 2), cnt g t] [(rb, rbM lb w k (now / w) now (sG (winP now w k) E) (sT (winP now w k) E)), (lb, lbM k (slG (now / w) w k E) (slT (now / w) w k E))]
      (fun r F' => r = .tup [] ∧ F' = [(rb, rbM lb w k (now / w) now (sG (winP now w k) (E ++ [⟨m * w, g, t⟩])) (sT (winP now w k) (E ++ [⟨m * w, g, t⟩]))), (lb, lbM k (slG (now / w) w k (E ++ [⟨m * w, g, t⟩])) (slT (now / w) w k (E ++ [⟨m * w, g, t⟩])))]) := by
  have hg : sG (winP now w k) E ≤ sT (winP now w k) E := sG_le_sT h.gt
  have hj : m % k < k := Nat.mod_lt _ (by omega)
  have hmw : m * w / w = m := Nat.mul_div_cancel _ (by omega)
  have hG := sumN_ge (slG (now / w) w k E) hj
  have hT := sumN_ge (slT (now / w) w k E) hj
  rw [slG_sum _ _ _ hk1] at hG
  rw [slT_sum _ _ _ hk1] at hT
  have hG : slG (now / w) w k E (m % k) ≤ sG (winP now w k) E := hG
  have hT : slT (now / w) w k E (m % k) ≤ sT (winP now w k) E := hT
  have c := grow_ct rb lb w k (now / w) now (sG (winP now w k) E) (sT (winP now w k) E) (m % k) g t (slG (now / w) w k E) (slT (now / w) w k E) hne hj hk2 (by omega) (by omega) (by omega) (by omega)
  have a1 := add_slG (ne := now / w) (w := w) (k := k) (m := m * w) (g := g) (t := t) (E := E) (by rw [hmw]; exact hm)
  have a2 := add_slT (ne := now / w) (w := w) (k := k) (m := m * w) (g := g) (t := t) (E := E) (by rw [hmw]; exact hm)
  rw [hmw] at a1 a2
  have e1 : sG (winP now w k) (E ++ [⟨m * w, g, t⟩]) = sG (winP now w k) E + g := by
    rw [sG_app]; simp [sG, winP, hmw, hm]
  have e2 : sT (winP now w k) (E ++ [⟨m * w, g, t⟩]) = sT (winP now w k) E + t := by
    rw [sT_app]; simp [sT, winP, hmw, hm]
  rw [a1, a2, e1, e2]
  exact c
structure TG where
  i : Nat
  E : List Ev
  zs : List Int
abbrev nilP : AV := .lit (.pointer none)
theorem nF_len {zs q : List Int} {n : Nat} (hb : By zs) (h : nF zs = some (n, q)) : n < 18446744073709551616 ∧ By q ∧ q.length ≤ zs.length := by
  have := nF_bd hb h
  exact ⟨this.1, this.2.1, by omega⟩
set_option maxRecDepth 8000 in
set_option maxHeartbeats 4000000 in
theorem Get_bad (xb : Nat) (W G now : Int) (zs : List Int) (hb : By zs) (hz : zs.length ≤ 10000) (h1 : -9223372036854775808 ≤ W ∧ W ≤ 9223372036854775807) (h2 : -9223372036854775808 ≤ G ∧ G ≤ 9223372036854775807)
    (hg : ¬ goP W G) : ACt Try.prog 23 [pt xb 0, iv .i64 W, iv .i64 G, iv .i64 now] [(xb, rd zs false)] (fun r F' => r = nilP ∧ F' = [(xb, rdN)]) := by
  refine ACt.intro Try.func23 rfl (by kernel_rfl) (by simp [Try.ntmps23]) (fun cx => ?_)
  simp only [argE, Try.ntmps23, Try.results23]
  have c1 := New_bad W G h1 h2 hg
  have c2 := spoil_x xb zs hb hz
  have z : ((2 : Int) != 0) = true := by decide
  first | (have FRx := FR; clear FRx) | (have FR : ¬ ((1 : Nat) = 0) := Nat.one_ne_zero)
  repeat' first
    | (refine Sm.mk ?_; try simp -dsimp only [ZK, rvc, drawF, headN, pureH, stp, dvc, calleeOf, gcall, pev, eff, newB, okd, og, ogs, ogo, ogp, slv, bltv, opd, litv, strip, one, both, putE, St.put, look, gdOf, gdv, picka, pickv, pickw, binv, bini, bins, binb, binp, bina, shp, eqCells, unv, convv, nilv, faddv, addp, idxav, idxp, load1, load1m, loadn, loadnm, loadv, hget, hset, hrep, hdel, slicev, bnd, shift1, lenv, IntKind.bits, extractv, fieldv, indexv, min2v, max2v, mkiv, cellsA, fillA, buildv, stC, oneC, rowMB, intsA, plN, appE, appZ, appC, appNZ, appNC, VwL, srcC, srcZ, srcM, isBoolT, isPtrT, isSliceT, uOk, Value.oneCell', Nat.reducePow, Int.reducePow, Nat.reduceAdd, Nat.reduceMul, Nat.reduceSub, Nat.reduceLT, Nat.reduceLeDiff, Nat.reduceEqDiff, Nat.reduceBEq, Nat.reduceDiv, Nat.reduceMod, ↓reduceIte, reduceCtorEq, Int.reduceToNat, Int.reduceLT, Int.reduceLE, drawCF, xvc, xst, splitH, calleeV, putE, hdel, TFRhG, SeqQ, BlkQ, LoopQ, BodyQ, z, FR])
    | (first | refine CallV.fn (c1) (Sm.out ?_) | refine ExF.mk (c1) (Sm.out ?_) | refine ExG.mk (fun _ => c1) (Sm.out ?_) | refine ExG.mkJ (fun _ => c1) (Sm.out ?_) | refine ExG.mkI (Ob.out ?_) (fun _ => c1) (Sm.out ?_))
    | (refine CallV.upd (by simp only [hget, ↓reduceIte, FR, z]; first | done | rfl) (c2) (Sm.out ?_))
    | (refine WP.seq fun K hK => ?_)
    | (refine WP.region (rvc_sound _ _ (Sm.out ?_)))
    | (refine WP.drawC (c := 5) (ws := []) (ls := []) (bs := []) mixed (by decide +kernel) (by decide +kernel) (by decide +kernel) (Sm.out ?_))
    | (refine WP.drawK rfl mixed (by decide +kernel) (Sm.out ?_))
    | (refine Ob.mk ?_; focus (first | assumption | omega | decide | trivial | (intro hob; simp only [hob, ZF]; done) | (intros; (repeat' refine And.intro ?_ ?_) <;> first | assumption | omega | trivial | decide) | (intros; simp only [ZE] at *; (repeat' refine And.intro ?_ ?_) <;> first | assumption | omega | trivial)))
    | (refine And.intro (Ob.out ?_) ?_)
    | (refine WP.block ?_)
    | (refine WP.cond rfl (fun hc => ?_) (fun hc => ?_) <;> (try simp only [ZC, reduceCtorEq, ZD] at hc) <;> (try (exact absurd hc (by decide))) <;> (try (exfalso; omega)))
    | ((first | refine WP.skip ?_ | refine WP.exit ?_); simp only [SeqQ, BlkQ, LoopQ, BodyQ, ↓reduceIte, Nat.reduceEqDiff, reduceCtorEq, look, true_and])
    | (refine WP.ret (Sm.out ?_))
    | (first | refine ExG.no (Sm.out ?_) | refine Or.inl (ExG.no (Sm.out ?_)) | refine Or.inl (And.intro (fun hg => absurd hg (by decide)) (ExG.no (Sm.out ?_))))
    | (refine Rt.mk ?_; refine And.intro ?_ ?_ <;> (intro hg; first | exact absurd hg (by decide) | refine Sm.out ?_))
    | (refine Nu.mk ?_; first | (fail_if_success (have := nb1)); intro nb1 | (fail_if_success (have := nb2)); intro nb2 | (fail_if_success (have := nb3)); intro nb3 | intro nbz)
    | (refine Fr.mk ?_; intro hfr; replace FR := And.intro hfr FR; clear hfr; refine Sm.out ?_)
    | (refine Two.mk ?_ ?_)
    | (refine Cs.mk ?_; intro hcs; first | exact False.elim hcs | (exfalso; omega) | (refine Sm.out ?_))
    | go_step
    | omega
    | (simp only [maxLen_eq]; omega)
  (refine OutQ.drop _ _ (perm1 (by simp only [hget, hdel, ↓reduceIte, if_true, if_false, FR]; first | done | rfl)) (by simp only [resv, ZK, look, loadv, loadn, loadnm, load1, load1m, hget, ↓reduceIte, Nat.reduceEqDiff, Nat.reduceAdd, Nat.reduceMul, Nat.reduceLeDiff, Nat.reduceLT, reduceCtorEq, TFRhG, FR]) ⟨(by simp only [resv, resA, ZK, look, loadv, loadn, loadnm, load1, load1m, hget, ↓reduceIte, Nat.reduceEqDiff, Nat.reduceAdd, Nat.reduceMul, Nat.reduceLeDiff, Nat.reduceLT, reduceCtorEq, TFRhG, FR]; first | done | rfl), rfl⟩)
set_option maxRecDepth 8000 in
set_option maxHeartbeats 4000000 in
theorem Get_range (xb : Nat) (W G k w : Nat) (now : Int) (zs : List Int) (hb : By zs) (hz : zs.length ≤ 10000) (hg : goP W G) (hgo : GoOk W G k w) (hn : ¬ (0 ≤ now ∧ now ≤ 253402300799)) :
    ACt Try.prog 23 [pt xb 0, iv .i64 W, iv .i64 G, iv .i64 now] [(xb, rd zs false)] (fun r F' => r = nilP ∧ F' = [(xb, rdN)]) := by
  refine ACt.intro Try.func23 rfl (by kernel_rfl) (by simp [Try.ntmps23]) (fun cx => ?_)
  simp only [argE, Try.ntmps23, Try.results23]
  have c1 := New_ok W G k w hg hgo
  have c2 := spoil_x xb zs hb hz
  have c3 := fun rb lb => Move_range rb lb w k 0 0 0 0 z0 z0 now hn
  have z : ((0 : Int) != 0) = false := by decide
  have z8 : ((8 : Int) != 0) = true := by decide
  first | (have FRx := FR; clear FRx) | (have FR : ¬ ((1 : Nat) = 0) := Nat.one_ne_zero)
  repeat' first
    | (refine Sm.mk ?_; try simp -dsimp only [ZK, rvc, drawF, headN, pureH, stp, dvc, calleeOf, gcall, pev, eff, newB, okd, og, ogs, ogo, ogp, slv, bltv, opd, litv, strip, one, both, putE, St.put, look, gdOf, gdv, picka, pickv, pickw, binv, bini, bins, binb, binp, bina, shp, eqCells, unv, convv, nilv, faddv, addp, idxav, idxp, load1, load1m, loadn, loadnm, loadv, hget, hset, hrep, hdel, slicev, bnd, shift1, lenv, IntKind.bits, extractv, fieldv, indexv, min2v, max2v, mkiv, cellsA, fillA, buildv, stC, oneC, rowMB, intsA, plN, appE, appZ, appC, appNZ, appNC, VwL, srcC, srcZ, srcM, isBoolT, isPtrT, isSliceT, uOk, Value.oneCell', Nat.reducePow, Int.reducePow, Nat.reduceAdd, Nat.reduceMul, Nat.reduceSub, Nat.reduceLT, Nat.reduceLeDiff, Nat.reduceEqDiff, Nat.reduceBEq, Nat.reduceDiv, Nat.reduceMod, ↓reduceIte, reduceCtorEq, Int.reduceToNat, Int.reduceLT, Int.reduceLE, drawCF, xvc, xst, splitH, calleeV, putE, hdel, TFRhG, SeqQ, BlkQ, LoopQ, BodyQ, z, z8, FR])
    | (refine CallV.new2 (F := []) (List.Perm.refl _) (c1) rfl (Sm.out ?_))
    | (refine CallV.updN (perm2 (by simp only [hget, hdel, ↓reduceIte, FR, z, z8]; first | done | rfl) (by simp only [hget, hdel, ↓reduceIte, FR, z, z8]; first | done | rfl)) (c3 nb1 nb2) (Sm.out ?_))
    | ((first | refine ExF.up ?_ (c3 nb1 nb2) (Sm.out ?_) | refine ExG.up ?_ (fun _ => c3 nb1 nb2) (Sm.out ?_) | refine ExG.upJ ?_ (fun _ => c3 nb1 nb2) (Sm.out ?_) | refine ExG.upI ?_ (fun _ => c3 nb1 nb2) (Ob.out ?_) (Sm.out ?_)); focus (exact ⟨_, (perm2 (by simp only [hget, hdel, ↓reduceIte, FR, z, z8]; first | done | rfl) (by simp only [hget, hdel, ↓reduceIte, FR, z, z8]; first | done | rfl))⟩))
    | (refine CallV.updN (perm1 (by simp only [hget, hdel, ↓reduceIte, FR, z, z8]; first | done | rfl)) (c2) (Sm.out ?_))
    | (refine ExW.mk (perm1 (by simp only [hget, hdel, ↓reduceIte, FR, z, z8]; first | done | rfl)) (c2) rfl (Sm.out ?_))
    | (refine WP.seq fun K hK => ?_)
    | (refine WP.region (rvc_sound _ _ (Sm.out ?_)))
    | (refine WP.drawC (c := 5) (ws := []) (ls := []) (bs := []) mixed (by decide +kernel) (by decide +kernel) (by decide +kernel) (Sm.out ?_))
    | (refine WP.drawK rfl mixed (by decide +kernel) (Sm.out ?_))
    | (refine Ob.mk ?_; focus (first | assumption | omega | decide | trivial | (intro hob; simp only [hob, ZF]; done) | (intros; (repeat' refine And.intro ?_ ?_) <;> first | assumption | omega | trivial | decide) | (intros; simp only [ZE] at *; (repeat' refine And.intro ?_ ?_) <;> first | assumption | omega | trivial)))
    | (refine And.intro (Ob.out ?_) ?_)
    | (refine WP.block ?_)
    | (refine WP.cond rfl (fun hc => ?_) (fun hc => ?_) <;> (try simp only [ZC, reduceCtorEq, ZD] at hc) <;> (try (exact absurd hc (by decide))) <;> (try (exfalso; omega)))
    | ((first | refine WP.skip ?_ | refine WP.exit ?_); simp only [SeqQ, BlkQ, LoopQ, BodyQ, ↓reduceIte, Nat.reduceEqDiff, reduceCtorEq, look, true_and])
    | (refine WP.ret (Sm.out ?_))
    | (first | refine ExG.no (Sm.out ?_) | refine Or.inl (ExG.no (Sm.out ?_)) | refine Or.inl (And.intro (fun hg => absurd hg (by decide)) (ExG.no (Sm.out ?_))))
    | (refine Rt.mk ?_; refine And.intro ?_ ?_ <;> (intro hg; first | exact absurd hg (by decide) | refine Sm.out ?_))
    | (refine Nu.mk ?_; first | (fail_if_success (have := nb1)); intro nb1 | (fail_if_success (have := nb2)); intro nb2 | (fail_if_success (have := nb3)); intro nb3 | intro nbz)
    | (refine Fr.mk ?_; intro hfr; replace FR := And.intro hfr FR; clear hfr; refine Sm.out ?_)
    | (refine Two.mk ?_ ?_)
    | (refine Cs.mk ?_; intro hcs; first | exact False.elim hcs | (exfalso; omega) | (refine Sm.out ?_))
    | go_step
    | omega
    | (simp only [maxLen_eq]; omega)
  (refine OutQ.drop _ _ (perm1 (by simp only [hget, hdel, ↓reduceIte, if_true, if_false, FR]; first | done | rfl)) (by simp only [resv, ZK, look, loadv, loadn, loadnm, load1, load1m, hget, ↓reduceIte, Nat.reduceEqDiff, Nat.reduceAdd, Nat.reduceMul, Nat.reduceLeDiff, Nat.reduceLT, reduceCtorEq, TFRhG, FR]) ⟨(by simp only [resv, resA, ZK, look, loadv, loadn, loadnm, load1, load1m, hget, ↓reduceIte, Nat.reduceEqDiff, Nat.reduceAdd, Nat.reduceMul, Nat.reduceLeDiff, Nat.reduceLT, reduceCtorEq, TFRhG, FR]; first | done | rfl), rfl⟩)
end Go.Proofs.Ytbnkmhlnoaebcaa
