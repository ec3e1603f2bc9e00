/-
  The walks and the laws that the statement leans on, part 8.
-/
import Derived.Test.YteadenldfaddfaaZ7
namespace Go.Proofs.Yteadenldfaddfaa
open Go
set_option linter.unusedVariables false
set_option linter.unusedSimpArgs false
theorem TFExN : ((((((type_of% tyc0) ∧ (type_of% tyc3)) ∧ ((type_of% zmb3) ∧ (type_of% tyc4))) ∧ (((type_of% zmb4) ∧ (type_of% tyc22)) ∧ ((type_of% zmb22) ∧ ((type_of% tyc24) ∧ (type_of% zmb24))))) ∧ ((((type_of% tyc27) ∧ (type_of% elt27)) ∧ ((type_of% mkz27) ∧ (type_of% mkc27))) ∧ (((type_of% apT27) ∧ (type_of% elk27)) ∧ ((type_of% zmb27) ∧ ((type_of% tyc31) ∧ (type_of% foff31_0)))))) ∧ (((((type_of% fpart31_0) ∧ (type_of% foff31_1)) ∧ ((type_of% fpart31_1) ∧ (type_of% fe31))) ∧ (((type_of% zmb31) ∧ (type_of% bldT31)) ∧ ((type_of% tyc35) ∧ ((type_of% tyc43) ∧ (type_of% tyc58))))) ∧ ((((type_of% Try.underlying0) ∧ (type_of% Try.underlying3)) ∧ ((type_of% Try.underlying4) ∧ ((type_of% Try.underlying22) ∧ (type_of% Try.underlying24)))) ∧ (((type_of% Try.underlying27) ∧ (type_of% Try.underlying31)) ∧ ((type_of% Try.underlying35) ∧ ((type_of% Try.underlying43) ∧ (type_of% Try.underlying58))))))) :=
  ⟨⟨⟨⟨⟨tyc0, tyc3⟩, ⟨zmb3, tyc4⟩⟩, ⟨⟨zmb4, tyc22⟩, ⟨zmb22, ⟨tyc24, zmb24⟩⟩⟩⟩, ⟨⟨⟨tyc27, elt27⟩, ⟨mkz27, mkc27⟩⟩, ⟨⟨apT27, elk27⟩, ⟨zmb27, ⟨tyc31, foff31_0⟩⟩⟩⟩⟩, ⟨⟨⟨⟨fpart31_0, foff31_1⟩, ⟨fpart31_1, fe31⟩⟩, ⟨⟨zmb31, bldT31⟩, ⟨tyc35, ⟨tyc43, tyc58⟩⟩⟩⟩, ⟨⟨⟨Try.underlying0, Try.underlying3⟩, ⟨Try.underlying4, ⟨Try.underlying22, Try.underlying24⟩⟩⟩, ⟨⟨Try.underlying27, Try.underlying31⟩, ⟨Try.underlying35, ⟨Try.underlying43, Try.underlying58⟩⟩⟩⟩⟩⟩
def hiV (n : Nat) : Nat := if n < 340282366920938463463374607431768211456 then n / 18446744073709551616 else 0
def loV (n : Nat) : Nat := if n < 340282366920938463463374607431768211456 then n % 18446744073709551616 else 0
def codeV (n : Nat) : Int := if n < 340282366920938463463374607431768211456 then 0 else 3
abbrev wideV (n : Nat) : AV := .agg [nu (hiV n), nu (loV n)]
theorem hiV_in {n : Nat} (h : n < 340282366920938463463374607431768211456) : hiV n = n / 18446744073709551616 := if_pos h
theorem loV_in {n : Nat} (h : n < 340282366920938463463374607431768211456) : loV n = n % 18446744073709551616 := if_pos h
theorem codeV_in {n : Nat} (h : n < 340282366920938463463374607431768211456) : codeV n = 0 := if_pos h
theorem hiV_out {n : Nat} (h : ¬ n < 340282366920938463463374607431768211456) : hiV n = 0 := if_neg h
theorem loV_out {n : Nat} (h : ¬ n < 340282366920938463463374607431768211456) : loV n = 0 := if_neg h
theorem codeV_out {n : Nat} (h : ¬ n < 340282366920938463463374607431768211456) : codeV n = 3 := if_neg h
theorem add2_ct (ah al bh bl : Nat) (h1 : ah < 18446744073709551616) (h2 : al < 18446744073709551616) (h3 : bh < 18446744073709551616) (h4 : bl < 18446744073709551616) (n : Nat)
    (hn : n = ah * 18446744073709551616 + al + (bh * 18446744073709551616 + bl)) :
    ACt Try.prog 21 [.agg [nu ah, nu al], .agg [nu bh, nu bl]] [] (Fn (.tup [wideV n, iv .i64 (codeV n)])) := by
  refine ACt.intro Try.func21 rfl (by kernel_rfl) (by simp [Try.ntmps21]) (fun cx => ?_)
  simp only [argE, Try.ntmps21, Try.results21]
  have c1 := add64_ct al bl 0 (by omega)
  have c2 := add64_ct ah bh ((al + bl + 0) / 18446744073709551616) (by omega)
  by_cases h : n < 340282366920938463463374607431768211456
  · have zz : ((((ah + bh + (al + bl + 0) / 18446744073709551616) / 18446744073709551616 : Nat) : Int) != 0) = false := by
      rw [show (ah + bh + (al + bl + 0) / 18446744073709551616) / 18446744073709551616 = 0 by omega]; rfl
    have e1 : hiV n = (ah + bh + (al + bl + 0) / 18446744073709551616) % 18446744073709551616 := by rw [hiV_in h]; omega
    have e2 : loV n = (al + bl + 0) % 18446744073709551616 := by rw [loV_in h]; omega
    have e3 := codeV_in h
    first | (have FRx := FR; clear FRx) | (have FR : ¬ ((1 : Nat) = 0) := Nat.one_ne_zero)
    repeat' first
      | (refine Sm.mk ?_; try simp -dsimp only [ZK, rvc, drawF, headN, pureH, stp, dvc, calleeOf, gcall, pev, eff, newB, okd, og, ogs, ogo, ogp, slv, bltv, opd, litv, strip, one, both, putE, St.put, look, gdOf, gdv, picka, pickv, pickw, binv, bini, bins, binb, binp, binq, isSlT, bina, shp, eqCells, unv, convv, nilv, faddv, addp, idxav, idxp, load1, load1m, loadn, loadnm, loadv, hget, hset, hrep, hdel, slicev, bnd, shift1, lenv, capv, IntKind.bits, extractv, fieldv, indexv, min2v, max2v, mkiv, cellsA, fillA, buildv, stC, oneC, rowMB, intsA, plN, appE, appZ, appC, appNZ, appNC, VwL, srcC, srcZ, srcM, isBoolT, isPtrT, isSliceT, uOk, Value.oneCell', Nat.reducePow, Int.reducePow, Nat.reduceAdd, Nat.reduceMul, Nat.reduceSub, Nat.reduceLT, Nat.reduceLeDiff, Nat.reduceEqDiff, Nat.reduceBEq, Nat.reduceDiv, Nat.reduceMod, ↓reduceIte, reduceCtorEq, Int.reduceToNat, Int.reduceLT, Int.reduceLE, TFExN, SeqQ, BlkQ, LoopQ, BodyQ, zz, FR])
      | (first | refine CallV.fn (c1) (Sm.out ?_) | refine ExF.mk (c1) (Sm.out ?_) | refine ExG.mk (fun _ => c1) (Sm.out ?_) | refine ExG.mkJ (fun _ => c1) (Sm.out ?_) | refine ExG.mkI (Ob.out ?_) (fun _ => c1) (Sm.out ?_))
      | (first | refine CallV.fn (c2) (Sm.out ?_) | refine ExF.mk (c2) (Sm.out ?_) | refine ExG.mk (fun _ => c2) (Sm.out ?_) | refine ExG.mkJ (fun _ => c2) (Sm.out ?_) | refine ExG.mkI (Ob.out ?_) (fun _ => c2) (Sm.out ?_))
      | (refine WP.seq fun K hK => ?_)
      | (refine WP.region (rvc_sound _ _ (Sm.out ?_)))
      | (refine WP.drawK rfl mixed (by decide +kernel) (Sm.out ?_))
      | (refine Ob.mk ?_; focus (first | assumption | omega | decide | trivial | (intro hob; simp only [hob, ZF]; done) | (intros; (repeat' refine And.intro ?_ ?_) <;> first | assumption | omega | trivial | decide) | (intros; simp only [ZE] at *; (repeat' refine And.intro ?_ ?_) <;> first | assumption | omega | trivial)))
      | (refine And.intro (Ob.out ?_) ?_)
      | (refine WP.block ?_)
      | (refine WP.cond rfl (fun hc => ?_) (fun hc => ?_) <;> (try simp only [ZC, reduceCtorEq, ZD] at hc) <;> (try (exact absurd hc (by decide))) <;> (try (exfalso; omega)))
      | ((first | refine WP.skip ?_ | refine WP.exit ?_); simp only [SeqQ, BlkQ, LoopQ, BodyQ, ↓reduceIte, Nat.reduceEqDiff, reduceCtorEq, look, true_and])
      | (refine WP.ret (Sm.out ?_))
      | (first | refine ExG.no (Sm.out ?_) | refine Or.inl (ExG.no (Sm.out ?_)) | refine Or.inl (And.intro (fun hg => absurd hg (by decide)) (ExG.no (Sm.out ?_))))
      | (refine Rt.mk ?_; refine And.intro ?_ ?_ <;> (intro hg; first | exact absurd hg (by decide) | refine Sm.out ?_))
      | (refine Nu.mk ?_; first | (fail_if_success (have := nb1)); intro nb1 | (fail_if_success (have := nb2)); intro nb2 | (fail_if_success (have := nb3)); intro nb3 | (fail_if_success (have := nb4)); intro nb4 | intro nbz)
      | (refine Fr.mk ?_; intro hfr; replace FR := And.intro hfr FR; clear hfr; refine Sm.out ?_)
      | (refine Two.mk ?_ ?_)
      | (refine Cs.mk ?_; intro hcs; first | exact False.elim hcs | (exfalso; omega) | (refine Sm.out ?_))
      | go_step
      | omega
      | (simp only [maxLen_eq]; omega)
    (refine OutQ.all ?_ ?_; (focus (simp only [resv, ZK, look, loadv, loadn, loadnm, load1, load1m, hget, ↓reduceIte, Nat.reduceEqDiff, Nat.reduceAdd, Nat.reduceMul, Nat.reduceLeDiff, Nat.reduceLT, reduceCtorEq, TFExN, e1, e2, e3, FR])); (try simp only [resv, resA, Fn, ZK, look, loadv, loadn, loadnm, load1, load1m, hget, ↓reduceIte, Nat.reduceEqDiff, Nat.reduceAdd, Nat.reduceMul, Nat.reduceLeDiff, Nat.reduceLT, reduceCtorEq, TFExN, e1, e2, e3, FR]); (try simp [resA, Fn, look, e1, e2, e3, FR]))
  · have zz : ((((ah + bh + (al + bl + 0) / 18446744073709551616) / 18446744073709551616 : Nat) : Int) != 0) = true := bne_iff_ne.2 (by omega)
    have e1 := hiV_out h
    have e2 := loV_out h
    have e3 := codeV_out h
    first | (have FRx := FR; clear FRx) | (have FR : ¬ ((1 : Nat) = 0) := Nat.one_ne_zero)
    repeat' first
      | (refine Sm.mk ?_; try simp -dsimp only [ZK, rvc, drawF, headN, pureH, stp, dvc, calleeOf, gcall, pev, eff, newB, okd, og, ogs, ogo, ogp, slv, bltv, opd, litv, strip, one, both, putE, St.put, look, gdOf, gdv, picka, pickv, pickw, binv, bini, bins, binb, binp, binq, isSlT, bina, shp, eqCells, unv, convv, nilv, faddv, addp, idxav, idxp, load1, load1m, loadn, loadnm, loadv, hget, hset, hrep, hdel, slicev, bnd, shift1, lenv, capv, IntKind.bits, extractv, fieldv, indexv, min2v, max2v, mkiv, cellsA, fillA, buildv, stC, oneC, rowMB, intsA, plN, appE, appZ, appC, appNZ, appNC, VwL, srcC, srcZ, srcM, isBoolT, isPtrT, isSliceT, uOk, Value.oneCell', Nat.reducePow, Int.reducePow, Nat.reduceAdd, Nat.reduceMul, Nat.reduceSub, Nat.reduceLT, Nat.reduceLeDiff, Nat.reduceEqDiff, Nat.reduceBEq, Nat.reduceDiv, Nat.reduceMod, ↓reduceIte, reduceCtorEq, Int.reduceToNat, Int.reduceLT, Int.reduceLE, TFExN, SeqQ, BlkQ, LoopQ, BodyQ, zz, FR])
      | (first | refine CallV.fn (c1) (Sm.out ?_) | refine ExF.mk (c1) (Sm.out ?_) | refine ExG.mk (fun _ => c1) (Sm.out ?_) | refine ExG.mkJ (fun _ => c1) (Sm.out ?_) | refine ExG.mkI (Ob.out ?_) (fun _ => c1) (Sm.out ?_))
      | (first | refine CallV.fn (c2) (Sm.out ?_) | refine ExF.mk (c2) (Sm.out ?_) | refine ExG.mk (fun _ => c2) (Sm.out ?_) | refine ExG.mkJ (fun _ => c2) (Sm.out ?_) | refine ExG.mkI (Ob.out ?_) (fun _ => c2) (Sm.out ?_))
      | (refine WP.seq fun K hK => ?_)
      | (refine WP.region (rvc_sound _ _ (Sm.out ?_)))
      | (refine WP.drawK rfl mixed (by decide +kernel) (Sm.out ?_))
      | (refine Ob.mk ?_; focus (first | assumption | omega | decide | trivial | (intro hob; simp only [hob, ZF]; done) | (intros; (repeat' refine And.intro ?_ ?_) <;> first | assumption | omega | trivial | decide) | (intros; simp only [ZE] at *; (repeat' refine And.intro ?_ ?_) <;> first | assumption | omega | trivial)))
      | (refine And.intro (Ob.out ?_) ?_)
      | (refine WP.block ?_)
      | (refine WP.cond rfl (fun hc => ?_) (fun hc => ?_) <;> (try simp only [ZC, reduceCtorEq, ZD] at hc) <;> (try (exact absurd hc (by decide))) <;> (try (exfalso; omega)))
      | ((first | refine WP.skip ?_ | refine WP.exit ?_); simp only [SeqQ, BlkQ, LoopQ, BodyQ, ↓reduceIte, Nat.reduceEqDiff, reduceCtorEq, look, true_and])
      | (refine WP.ret (Sm.out ?_))
      | (first | refine ExG.no (Sm.out ?_) | refine Or.inl (ExG.no (Sm.out ?_)) | refine Or.inl (And.intro (fun hg => absurd hg (by decide)) (ExG.no (Sm.out ?_))))
      | (refine Rt.mk ?_; refine And.intro ?_ ?_ <;> (intro hg; first | exact absurd hg (by decide) | refine Sm.out ?_))
      | (refine Nu.mk ?_; first | (fail_if_success (have := nb1)); intro nb1 | (fail_if_success (have := nb2)); intro nb2 | (fail_if_success (have := nb3)); intro nb3 | (fail_if_success (have := nb4)); intro nb4 | intro nbz)
      | (refine Fr.mk ?_; intro hfr; replace FR := And.intro hfr FR; clear hfr; refine Sm.out ?_)
      | (refine Two.mk ?_ ?_)
      | (refine Cs.mk ?_; intro hcs; first | exact False.elim hcs | (exfalso; omega) | (refine Sm.out ?_))
      | go_step
      | omega
      | (simp only [maxLen_eq]; omega)
    (refine OutQ.all ?_ ?_; (focus (simp only [resv, ZK, look, loadv, loadn, loadnm, load1, load1m, hget, ↓reduceIte, Nat.reduceEqDiff, Nat.reduceAdd, Nat.reduceMul, Nat.reduceLeDiff, Nat.reduceLT, reduceCtorEq, TFExN, e1, e2, e3, FR])); (try simp only [resv, resA, Fn, ZK, look, loadv, loadn, loadnm, load1, load1m, hget, ↓reduceIte, Nat.reduceEqDiff, Nat.reduceAdd, Nat.reduceMul, Nat.reduceLeDiff, Nat.reduceLT, reduceCtorEq, TFExN, e1, e2, e3, FR]); (try simp [resA, Fn, look, e1, e2, e3, FR]))
theorem more_ct (h l n : Nat) (hh : h < 18446744073709551616) (hl : l < 18446744073709551616) (hn : n < 18446744073709551616) (m : Nat) (hm : m = (h * 18446744073709551616 + l) * n) :
    ACt Try.prog 20 [.agg [nu h, nu l], nu n] [] (Fn (.tup [wideV m, iv .i64 (codeV m)])) := by
  refine ACt.intro Try.func20 rfl (by kernel_rfl) (by simp [Try.ntmps20]) (fun cx => ?_)
  simp only [argE, Try.ntmps20, Try.results20]
  have c1 := times_ct l n hl hn
  have c2 := times_ct h n hh hn
  have b1 : l * n ≤ 18446744073709551615 * 18446744073709551615 := Nat.mul_le_mul (by omega) (by omega)
  have e : m = h * n * 18446744073709551616 + l * n := by rw [hm, Nat.add_mul, Nat.mul_right_comm]
  obtain ⟨A, hA⟩ : ∃ A, A = l * n := ⟨_, rfl⟩
  obtain ⟨B, hB⟩ : ∃ B, B = h * n := ⟨_, rfl⟩
  rw [← hA] at c1 b1 e
  rw [← hB] at c2 e
  clear hm hA hB
  by_cases hb : B < 18446744073709551616
  · have k : (((B / 18446744073709551616 : Nat) : Int) != 0) = false := by rw [show B / 18446744073709551616 = 0 by omega]; rfl
    have e9 : m = A / 18446744073709551616 * 18446744073709551616 + A % 18446744073709551616 + (B % 18446744073709551616 * 18446744073709551616 + 0) := by
      rw [e, Nat.mod_eq_of_lt hb]; omega
    have c3 : ACt Try.prog 21 [.agg [nu (A / 18446744073709551616), nu (A % 18446744073709551616)], .agg [nu (B % 18446744073709551616), iv .u64 0]] [] (Fn (.tup [wideV m, iv .i64 (codeV m)])) :=
      add2_ct _ _ _ 0 (by omega) (by omega) (by omega) (by omega) m e9
    first | (have FRx := FR; clear FRx) | (have FR : ¬ ((1 : Nat) = 0) := Nat.one_ne_zero)
    repeat' first
      | (refine Sm.mk ?_; try simp -dsimp only [ZK, rvc, drawF, headN, pureH, stp, dvc, calleeOf, gcall, pev, eff, newB, okd, og, ogs, ogo, ogp, slv, bltv, opd, litv, strip, one, both, putE, St.put, look, gdOf, gdv, picka, pickv, pickw, binv, bini, bins, binb, binp, binq, isSlT, bina, shp, eqCells, unv, convv, nilv, faddv, addp, idxav, idxp, load1, load1m, loadn, loadnm, loadv, hget, hset, hrep, hdel, slicev, bnd, shift1, lenv, capv, IntKind.bits, extractv, fieldv, indexv, min2v, max2v, mkiv, cellsA, fillA, buildv, stC, oneC, rowMB, intsA, plN, appE, appZ, appC, appNZ, appNC, VwL, srcC, srcZ, srcM, isBoolT, isPtrT, isSliceT, uOk, Value.oneCell', Nat.reducePow, Int.reducePow, Nat.reduceAdd, Nat.reduceMul, Nat.reduceSub, Nat.reduceLT, Nat.reduceLeDiff, Nat.reduceEqDiff, Nat.reduceBEq, Nat.reduceDiv, Nat.reduceMod, ↓reduceIte, reduceCtorEq, Int.reduceToNat, Int.reduceLT, Int.reduceLE, TFExN, SeqQ, BlkQ, LoopQ, BodyQ, k, FR])
      | (first | refine CallV.fn (c1) (Sm.out ?_) | refine ExF.mk (c1) (Sm.out ?_) | refine ExG.mk (fun _ => c1) (Sm.out ?_) | refine ExG.mkJ (fun _ => c1) (Sm.out ?_) | refine ExG.mkI (Ob.out ?_) (fun _ => c1) (Sm.out ?_))
      | (first | refine CallV.fn (c2) (Sm.out ?_) | refine ExF.mk (c2) (Sm.out ?_) | refine ExG.mk (fun _ => c2) (Sm.out ?_) | refine ExG.mkJ (fun _ => c2) (Sm.out ?_) | refine ExG.mkI (Ob.out ?_) (fun _ => c2) (Sm.out ?_))
      | (first | refine CallV.fn (c3) (Sm.out ?_) | refine ExF.mk (c3) (Sm.out ?_) | refine ExG.mk (fun _ => c3) (Sm.out ?_) | refine ExG.mkJ (fun _ => c3) (Sm.out ?_) | refine ExG.mkI (Ob.out ?_) (fun _ => c3) (Sm.out ?_))
      | (refine WP.seq fun K hK => ?_)
      | (refine WP.region (rvc_sound _ _ (Sm.out ?_)))
      | (refine WP.drawK rfl mixed (by decide +kernel) (Sm.out ?_))
      | (refine Ob.mk ?_; focus (first | assumption | omega | decide | trivial | (intro hob; simp only [hob, ZF]; done) | (intros; (repeat' refine And.intro ?_ ?_) <;> first | assumption | omega | trivial | decide) | (intros; simp only [ZE] at *; (repeat' refine And.intro ?_ ?_) <;> first | assumption | omega | trivial)))
      | (refine And.intro (Ob.out ?_) ?_)
      | (refine WP.block ?_)
      | (refine WP.cond rfl (fun hc => ?_) (fun hc => ?_) <;> (try simp only [ZC, reduceCtorEq, ZD] at hc) <;> (try (exact absurd hc (by decide))) <;> (try (exfalso; omega)))
      | ((first | refine WP.skip ?_ | refine WP.exit ?_); simp only [SeqQ, BlkQ, LoopQ, BodyQ, ↓reduceIte, Nat.reduceEqDiff, reduceCtorEq, look, true_and])
      | (refine WP.ret (Sm.out ?_))
      | (first | refine ExG.no (Sm.out ?_) | refine Or.inl (ExG.no (Sm.out ?_)) | refine Or.inl (And.intro (fun hg => absurd hg (by decide)) (ExG.no (Sm.out ?_))))
      | (refine Rt.mk ?_; refine And.intro ?_ ?_ <;> (intro hg; first | exact absurd hg (by decide) | refine Sm.out ?_))
      | (refine Nu.mk ?_; first | (fail_if_success (have := nb1)); intro nb1 | (fail_if_success (have := nb2)); intro nb2 | (fail_if_success (have := nb3)); intro nb3 | (fail_if_success (have := nb4)); intro nb4 | intro nbz)
      | (refine Fr.mk ?_; intro hfr; replace FR := And.intro hfr FR; clear hfr; refine Sm.out ?_)
      | (refine Two.mk ?_ ?_)
      | (refine Cs.mk ?_; intro hcs; first | exact False.elim hcs | (exfalso; omega) | (refine Sm.out ?_))
      | (refine OutQ.all ?_ ?_; (focus (simp only [resv, ZK, look, loadv, loadn, loadnm, load1, load1m, hget, ↓reduceIte, Nat.reduceEqDiff, Nat.reduceAdd, Nat.reduceMul, Nat.reduceLeDiff, Nat.reduceLT, reduceCtorEq, TFExN, k, FR])); (try simp only [resv, resA, Fn, ZK, look, loadv, loadn, loadnm, load1, load1m, hget, ↓reduceIte, Nat.reduceEqDiff, Nat.reduceAdd, Nat.reduceMul, Nat.reduceLeDiff, Nat.reduceLT, reduceCtorEq, TFExN, k, FR]); (try simp [resA, Fn, look, k, FR]); done)
      | go_step
      | omega
      | (simp only [maxLen_eq]; omega)
  · have k : (((B / 18446744073709551616 : Nat) : Int) != 0) = true := bne_iff_ne.2 (by omega)
    have e1 : hiV m = 0 := hiV_out (by omega)
    have e2 : loV m = 0 := loV_out (by omega)
    have e3 : codeV m = 3 := codeV_out (by omega)
    first | (have FRx := FR; clear FRx) | (have FR : ¬ ((1 : Nat) = 0) := Nat.one_ne_zero)
    repeat' first
      | (refine Sm.mk ?_; try simp -dsimp only [ZK, rvc, drawF, headN, pureH, stp, dvc, calleeOf, gcall, pev, eff, newB, okd, og, ogs, ogo, ogp, slv, bltv, opd, litv, strip, one, both, putE, St.put, look, gdOf, gdv, picka, pickv, pickw, binv, bini, bins, binb, binp, binq, isSlT, bina, shp, eqCells, unv, convv, nilv, faddv, addp, idxav, idxp, load1, load1m, loadn, loadnm, loadv, hget, hset, hrep, hdel, slicev, bnd, shift1, lenv, capv, IntKind.bits, extractv, fieldv, indexv, min2v, max2v, mkiv, cellsA, fillA, buildv, stC, oneC, rowMB, intsA, plN, appE, appZ, appC, appNZ, appNC, VwL, srcC, srcZ, srcM, isBoolT, isPtrT, isSliceT, uOk, Value.oneCell', Nat.reducePow, Int.reducePow, Nat.reduceAdd, Nat.reduceMul, Nat.reduceSub, Nat.reduceLT, Nat.reduceLeDiff, Nat.reduceEqDiff, Nat.reduceBEq, Nat.reduceDiv, Nat.reduceMod, ↓reduceIte, reduceCtorEq, Int.reduceToNat, Int.reduceLT, Int.reduceLE, TFExN, SeqQ, BlkQ, LoopQ, BodyQ, k, FR])
      | (first | refine CallV.fn (c1) (Sm.out ?_) | refine ExF.mk (c1) (Sm.out ?_) | refine ExG.mk (fun _ => c1) (Sm.out ?_) | refine ExG.mkJ (fun _ => c1) (Sm.out ?_) | refine ExG.mkI (Ob.out ?_) (fun _ => c1) (Sm.out ?_))
      | (first | refine CallV.fn (c2) (Sm.out ?_) | refine ExF.mk (c2) (Sm.out ?_) | refine ExG.mk (fun _ => c2) (Sm.out ?_) | refine ExG.mkJ (fun _ => c2) (Sm.out ?_) | refine ExG.mkI (Ob.out ?_) (fun _ => c2) (Sm.out ?_))
      | (refine WP.seq fun K hK => ?_)
      | (refine WP.region (rvc_sound _ _ (Sm.out ?_)))
      | (refine WP.drawK rfl mixed (by decide +kernel) (Sm.out ?_))
      | (refine Ob.mk ?_; focus (first | assumption | omega | decide | trivial | (intro hob; simp only [hob, ZF]; done) | (intros; (repeat' refine And.intro ?_ ?_) <;> first | assumption | omega | trivial | decide) | (intros; simp only [ZE] at *; (repeat' refine And.intro ?_ ?_) <;> first | assumption | omega | trivial)))
      | (refine And.intro (Ob.out ?_) ?_)
      | (refine WP.block ?_)
      | (refine WP.cond rfl (fun hc => ?_) (fun hc => ?_) <;> (try simp only [ZC, reduceCtorEq, ZD] at hc) <;> (try (exact absurd hc (by decide))) <;> (try (exfalso; omega)))
      | ((first | refine WP.skip ?_ | refine WP.exit ?_); simp only [SeqQ, BlkQ, LoopQ, BodyQ, ↓reduceIte, Nat.reduceEqDiff, reduceCtorEq, look, true_and])
      | (refine WP.ret (Sm.out ?_))
      | (first | refine ExG.no (Sm.out ?_) | refine Or.inl (ExG.no (Sm.out ?_)) | refine Or.inl (And.intro (fun hg => absurd hg (by decide)) (ExG.no (Sm.out ?_))))
      | (refine Rt.mk ?_; refine And.intro ?_ ?_ <;> (intro hg; first | exact absurd hg (by decide) | refine Sm.out ?_))
      | (refine Nu.mk ?_; first | (fail_if_success (have := nb1)); intro nb1 | (fail_if_success (have := nb2)); intro nb2 | (fail_if_success (have := nb3)); intro nb3 | (fail_if_success (have := nb4)); intro nb4 | intro nbz)
      | (refine Fr.mk ?_; intro hfr; replace FR := And.intro hfr FR; clear hfr; refine Sm.out ?_)
      | (refine Two.mk ?_ ?_)
      | (refine Cs.mk ?_; intro hcs; first | exact False.elim hcs | (exfalso; omega) | (refine Sm.out ?_))
      | go_step
      | omega
      | (simp only [maxLen_eq]; omega)
    (refine OutQ.all ?_ ?_; (focus (simp only [resv, ZK, look, loadv, loadn, loadnm, load1, load1m, hget, ↓reduceIte, Nat.reduceEqDiff, Nat.reduceAdd, Nat.reduceMul, Nat.reduceLeDiff, Nat.reduceLT, reduceCtorEq, TFExN, e1, e2, e3, FR])); (try simp only [resv, resA, Fn, ZK, look, loadv, loadn, loadnm, load1, load1m, hget, ↓reduceIte, Nat.reduceEqDiff, Nat.reduceAdd, Nat.reduceMul, Nat.reduceLeDiff, Nat.reduceLT, reduceCtorEq, TFExN, e1, e2, e3, FR]); (try simp [resA, Fn, look, e1, e2, e3, FR]))
/-! The document's difference -/
def minusG (a b : List Bool) : Nat → Nat → Nat → List Bool
  | 0, _, _ => []
  | n + 1, i, d => decide ((bitA a i + 2 - bitA b i - d) % 2 = 1) :: minusG a b n (i + 1) (if bitA a i + 2 - bitA b i - d < 2 then 1 else 0)
def minusF (a b : List Bool) : List Bool := minusG a b a.length 0 0
theorem minusG_len (a b : List Bool) : ∀ n i d, (minusG a b n i d).length = n
  | 0, i, d => rfl
  | n + 1, i, d => by simp [minusG, minusG_len a b n]
theorem minusG_val (a b : List Bool) : ∀ n i d, d ≤ 1 → n = a.length - i → ∃ c, valB (minusG a b n i d) + valB (b.drop i) + d = valB (a.drop i) + 2 ^ n * c
  | 0, i, d, h1, h2 => by
    rw [List.drop_eq_nil_of_le (show a.length ≤ i by omega)]
    exact ⟨valB (b.drop i) + d, by simp [minusG, valB]⟩
  | n + 1, i, d, h1, h2 => by
    have ha := bitA_le a i
    have hb := bitA_le b i
    obtain ⟨d', hd'⟩ : ∃ d', d' = if bitA a i + 2 - bitA b i - d < 2 then 1 else 0 := ⟨_, rfl⟩
    obtain ⟨c, hc⟩ := minusG_val a b n (i + 1) d' (by rw [hd']; split <;> omega) (by omega)
    refine ⟨c, ?_⟩
    rw [minusG, ← hd', valB, valB_drop a i, valB_drop b i, Nat.pow_succ]
    generalize valB (minusG a b n (i + 1) d') = r at *
    have e : 2 ^ n * 2 * c = 2 * (2 ^ n * c) := by rw [Nat.mul_comm (2 ^ n) 2, Nat.mul_assoc]
    rw [e]
    generalize bitA a i = p at *
    generalize bitA b i = q at *
    generalize 2 ^ n * c = w at *
    by_cases hh : (p + 2 - q - d) % 2 = 1
    · rw [decide_eq_true hh]
      split at hd' <;> simp only [Bool.toNat_true] <;> omega
    · rw [decide_eq_false hh]
      split at hd' <;> simp only [Bool.toNat_false] <;> omega
theorem minusF_val (a b : List Bool) (h : valB b ≤ valB a) : valB (minusF a b) = valB a - valB b := by
  obtain ⟨c, hc⟩ := minusG_val a b a.length 0 0 (by omega) (by omega)
  rw [List.drop_zero, List.drop_zero] at hc
  have h2 := valB_lt (minusF a b)
  unfold minusF at h2 ⊢
  rw [minusG_len] at h2
  have h3 : c = 0 := by
    apply Nat.eq_zero_of_not_pos
    intro hp
    have : 2 ^ a.length * 1 ≤ 2 ^ a.length * c := Nat.mul_le_mul_left _ hp
    omega
  rw [h3] at hc
  omega
structure MG where
  i : Nat
  d : Nat
  acc : List Bool
  b : Nat
  cap : Nat
set_option maxRecDepth 8000 in
set_option maxHeartbeats 1000000 in
theorem minus_ct (x y : List Bool) (n m : Nat) (hn : x.length = n) (hm : y.length = m) (hx : n ≤ 1000000) (hy : m ≤ 1000000) :
    ACt Try.prog 25 [.sl n (bl x), .sl m (bl y)] [] (Fn (.sl n (bl (minusF x y)))) := by
  subst hn hm
  refine ACt.intro Try.func25 rfl (by kernel_rfl) (by simp [Try.ntmps25]) (fun cx => ?_)
  simp only [argE, Try.ntmps25, Try.results25]
  first | (have FRx := FR; clear FRx) | (have FR : ¬ ((1 : Nat) = 0) := Nat.one_ne_zero)
  repeat' first
    | (refine Sm.mk ?_; try simp -dsimp only [ZK, rvc, drawF, headN, pureH, stp, dvc, calleeOf, gcall, pev, eff, newB, okd, og, ogs, ogo, ogp, slv, bltv, opd, litv, strip, one, both, putE, St.put, look, gdOf, gdv, picka, pickv, pickw, binv, bini, bins, binb, binp, binq, isSlT, bina, shp, eqCells, unv, convv, nilv, faddv, addp, idxav, idxp, load1, load1m, loadn, loadnm, loadv, hget, hset, hrep, hdel, slicev, bnd, shift1, lenv, capv, IntKind.bits, extractv, fieldv, indexv, min2v, max2v, mkiv, cellsA, fillA, buildv, stC, oneC, rowMB, intsA, plN, appE, appZ, appC, appNZ, appNC, VwL, srcC, srcZ, srcM, isBoolT, isPtrT, isSliceT, uOk, Value.oneCell', Nat.reducePow, Int.reducePow, Nat.reduceAdd, Nat.reduceMul, Nat.reduceSub, Nat.reduceLT, Nat.reduceLeDiff, Nat.reduceEqDiff, Nat.reduceBEq, Nat.reduceDiv, Nat.reduceMod, ↓reduceIte, reduceCtorEq, Int.reduceToNat, Int.reduceLT, Int.reduceLE, TFExN, SeqQ, BlkQ, LoopQ, BodyQ, FR])
    | (refine WP.seq fun K hK => ?_)
    | (refine WP.region (rvc_sound _ _ (Sm.out ?_)))
    | (refine WP.drawK rfl mixed (by decide +kernel) (Sm.out ?_))
    | (refine Ob.mk ?_; focus (first | assumption | omega | decide | trivial | (intro hob; simp only [hob, ZF]; done) | (intros; (repeat' refine And.intro ?_ ?_) <;> first | assumption | omega | trivial | decide) | (intros; simp only [ZE] at *; (repeat' refine And.intro ?_ ?_) <;> first | assumption | omega | trivial)))
    | (refine And.intro (Ob.out ?_) ?_)
    | (refine WP.block ?_)
    | (refine WP.cond rfl (fun hc => ?_) (fun hc => ?_) <;> (try simp only [ZC, reduceCtorEq, ZD] at hc) <;> (try (exact absurd hc (by decide))) <;> (try (exfalso; omega)))
    | ((first | refine WP.skip ?_ | refine WP.exit ?_); simp only [SeqQ, BlkQ, LoopQ, BodyQ, ↓reduceIte, Nat.reduceEqDiff, reduceCtorEq, look, true_and])
    | (refine WP.ret (Sm.out ?_))
    | (first | refine ExG.no (Sm.out ?_) | refine Or.inl (ExG.no (Sm.out ?_)) | refine Or.inl (And.intro (fun hg => absurd hg (by decide)) (ExG.no (Sm.out ?_))))
    | (refine Rt.mk ?_; refine And.intro ?_ ?_ <;> (intro hg; first | exact absurd hg (by decide) | refine Sm.out ?_))
    | (refine Nu.mk ?_; first | (fail_if_success (have := nb1)); intro nb1 | (fail_if_success (have := nb2)); intro nb2 | (fail_if_success (have := nb3)); intro nb3 | (fail_if_success (have := nb4)); intro nb4 | intro nbz)
    | (refine Fr.mk ?_; intro hfr; replace FR := And.intro hfr FR; clear hfr; refine Sm.out ?_)
    | (refine Two.mk ?_ ?_)
    | (refine Cs.mk ?_; intro hcs; first | exact False.elim hcs | (exfalso; omega) | (refine Sm.out ?_))
    | go_step
    | omega
    | (simp only [maxLen_eq]; omega)
  refine WP.loop (Γ := MG) (fun g => ⟨[(7, iv .i64 g.i), (6, iv .i64 g.d), (5, ms g.b 0 g.i g.cap), (0, .sl x.length (bl x)), (1, .sl y.length (bl y))], [(g.b, .cells (bl g.acc) g.cap 4)]⟩)
    (fun g => minusF x y = g.acc ++ minusG x y (x.length - g.i) g.i g.d ∧ g.acc.length = g.i ∧ g.d ≤ 1 ∧ g.i ≤ x.length ∧ g.i ≤ g.cap ∧ g.cap ≤ 9223372036854775807) (fun g => x.length - g.i) ⟨0, 0, [], nb1, 0⟩
    ⟨by simp [minusF], by simp, by simp, by simp, by simp, by simp⟩ (Sub.pick (by simp [pickB, hget, hdel, FR, bl]) (by simp [look, bl])) ?_
  intro ⟨i, d, acc, b, cap⟩ ⟨h1, h2, h3, h4, h5, h6⟩
  simp only at h1 h2 h3 h4 h5 h6 ⊢
  (refine WP.nd fun hnd => ?_; simp only [ndF, fresh_cons, fresh_nil, and_true, ne_eq] at hnd; replace FR := And.intro hnd FR; clear hnd)
  have a1 := bitA_le x i
  have a2 := bitA_le y i
  have hbl : (bl acc).length = i := by rw [bl_len, h2]
  by_cases hi : i < x.length
  · have k1 : decide ((i : Int) < x.length) = true := by simp; omega
    have g1 : IntKind.i64.wrap ((i : Int) + 1) = ((i + 1 : Nat) : Int) := by rw [wrap_i64 (by omega) (by omega)]; omega
    obtain ⟨n, hn⟩ : ∃ n, x.length - i = n + 1 := ⟨x.length - i - 1, by omega⟩
    rw [hn, minusG] at h1
    obtain ⟨t, ht⟩ : ∃ t, t = bitA x i + 2 - bitA y i - d := ⟨_, rfl⟩
    rw [← ht] at h1
    have e1 : IntKind.i64.wrap (((bitA x i : Nat) : Int) - ((bitA y i : Nat) : Int)) = ((bitA x i : Nat) : Int) - ((bitA y i : Nat) : Int) := wrap_i64 (by omega) (by omega)
    have e2 : IntKind.i64.wrap (((bitA x i : Nat) : Int) - ((bitA y i : Nat) : Int) - (d : Int)) = (t : Int) - 2 := by rw [wrap_i64 (by omega) (by omega)]; omega
    by_cases hs : t < 2
    · have k2 : decide ((t : Int) - 2 < 0) = true := by simp; omega
      have e3 : IntKind.i64.wrap ((t : Int) - 2 + 2) = (t : Int) := by rw [wrap_i64 (by omega) (by omega)]; omega
      have e4 : ((t : Int) == 1) = decide (t % 2 = 1) := by
        by_cases ha : t % 2 = 1
        · rw [decide_eq_true ha]; exact beq_iff_eq.2 (by omega)
        · rw [decide_eq_false ha]; exact beq_eq_false_iff_ne.2 (by omega)
      rw [if_pos hs] at h1
      obtain ⟨acc', hacc⟩ : ∃ acc', acc' = acc ++ [decide (t % 2 = 1)] := ⟨_, rfl⟩
      have e8 : bl acc ++ [bv (decide (t % 2 = 1))] = bl acc' := by rw [hacc]; simp
      first | (have FRx := FR; clear FRx) | (have FR : ¬ ((1 : Nat) = 0) := Nat.one_ne_zero)
      repeat' first
        | (refine Sm.mk ?_; try simp -dsimp only [ZK, rvc, drawF, headN, pureH, stp, dvc, calleeOf, gcall, pev, eff, newB, okd, og, ogs, ogo, ogp, slv, bltv, opd, litv, strip, one, both, putE, St.put, look, gdOf, gdv, picka, pickv, pickw, binv, bini, bins, binb, binp, binq, isSlT, bina, shp, eqCells, unv, convv, nilv, faddv, addp, idxav, idxp, load1, load1m, loadn, loadnm, loadv, hget, hset, hrep, hdel, slicev, bnd, shift1, lenv, capv, IntKind.bits, extractv, fieldv, indexv, min2v, max2v, mkiv, cellsA, fillA, buildv, stC, oneC, rowMB, intsA, plN, appE, appZ, appC, appNZ, appNC, VwL, srcC, srcZ, srcM, isBoolT, isPtrT, isSliceT, uOk, Value.oneCell', Nat.reducePow, Int.reducePow, Nat.reduceAdd, Nat.reduceMul, Nat.reduceSub, Nat.reduceLT, Nat.reduceLeDiff, Nat.reduceEqDiff, Nat.reduceBEq, Nat.reduceDiv, Nat.reduceMod, ↓reduceIte, reduceCtorEq, Int.reduceToNat, Int.reduceLT, Int.reduceLE, TFExN, SeqQ, BlkQ, LoopQ, BodyQ, k1, k2, g1, e1, e2, e3, e4, e8, hbl, bl_len, FR])
        | (first | refine CallV.fn (at_ct x i) (Sm.out ?_) | refine ExF.mk (at_ct x i) (Sm.out ?_) | refine ExG.mk (fun _ => at_ct x i) (Sm.out ?_) | refine ExG.mkJ (fun _ => at_ct x i) (Sm.out ?_) | refine ExG.mkI (Ob.out ?_) (fun _ => at_ct x i) (Sm.out ?_))
        | (first | refine CallV.fn (at_ct y i) (Sm.out ?_) | refine ExF.mk (at_ct y i) (Sm.out ?_) | refine ExG.mk (fun _ => at_ct y i) (Sm.out ?_) | refine ExG.mkJ (fun _ => at_ct y i) (Sm.out ?_) | refine ExG.mkI (Ob.out ?_) (fun _ => at_ct y i) (Sm.out ?_))
        | (refine WP.seq fun K hK => ?_)
        | (refine WP.region (rvc_sound _ _ (Sm.out ?_)))
        | (refine WP.drawK rfl mixed (by decide +kernel) (Sm.out ?_))
        | (refine Ob.mk ?_; focus (first | assumption | omega | decide | trivial | (intro hob; simp only [hob, ZF]; done) | (intros; (repeat' refine And.intro ?_ ?_) <;> first | assumption | omega | trivial | decide) | (intros; simp only [ZE] at *; (repeat' refine And.intro ?_ ?_) <;> first | assumption | omega | trivial)))
        | (refine And.intro (Ob.out ?_) ?_)
        | (refine WP.block ?_)
        | (refine WP.cond rfl (fun hc => ?_) (fun hc => ?_) <;> (try simp only [ZC, reduceCtorEq, ZD] at hc) <;> (try (exact absurd hc (by decide))) <;> (try (exfalso; omega)))
        | ((first | refine WP.skip ?_ | refine WP.exit ?_); simp only [SeqQ, BlkQ, LoopQ, BodyQ, ↓reduceIte, Nat.reduceEqDiff, reduceCtorEq, look, true_and])
        | (refine WP.ret (Sm.out ?_))
        | (first | refine ExG.no (Sm.out ?_) | refine Or.inl (ExG.no (Sm.out ?_)) | refine Or.inl (And.intro (fun hg => absurd hg (by decide)) (ExG.no (Sm.out ?_))))
        | (refine Rt.mk ?_; refine And.intro ?_ ?_ <;> (intro hg; first | exact absurd hg (by decide) | refine Sm.out ?_))
        | (refine Nu.mk ?_; first | (fail_if_success (have := nb1)); intro nb1 | (fail_if_success (have := nb2)); intro nb2 | (fail_if_success (have := nb3)); intro nb3 | (fail_if_success (have := nb4)); intro nb4 | intro nbz)
        | (refine Fr.mk ?_; intro hfr; replace FR := And.intro hfr FR; clear hfr; refine Sm.out ?_)
        | (refine Two.mk ?_ ?_)
        | (refine Cs.mk ?_; intro hcs; first | exact False.elim hcs | (exfalso; omega) | (refine Sm.out ?_))
        | go_step
        | omega
        | (simp only [maxLen_eq]; omega)
      refine ⟨⟨i + 1, 1, acc', nb3, nb4⟩, ⟨?_, by simp only; rw [hacc]; simp; omega, by simp, by simp only; omega, by simp only; omega, by simp only; omega⟩, by simp only; omega, (Sub.pick (by simp [pickB, hget, hdel, FR]) (by simp [look]))⟩
      simp only; rw [h1, hacc, show x.length - (i + 1) = n by omega]; simp
    · have k2 : decide ((t : Int) - 2 < 0) = false := by simp; omega
      have e4 : ((t : Int) - 2 == 1) = decide (t % 2 = 1) := by
        by_cases ha : t % 2 = 1
        · rw [decide_eq_true ha]; exact beq_iff_eq.2 (by omega)
        · rw [decide_eq_false ha]; exact beq_eq_false_iff_ne.2 (by omega)
      rw [if_neg hs] at h1
      obtain ⟨acc', hacc⟩ : ∃ acc', acc' = acc ++ [decide (t % 2 = 1)] := ⟨_, rfl⟩
      have e8 : bl acc ++ [bv (decide (t % 2 = 1))] = bl acc' := by rw [hacc]; simp
      first | (have FRx := FR; clear FRx) | (have FR : ¬ ((1 : Nat) = 0) := Nat.one_ne_zero)
      repeat' first
        | (refine Sm.mk ?_; try simp -dsimp only [ZK, rvc, drawF, headN, pureH, stp, dvc, calleeOf, gcall, pev, eff, newB, okd, og, ogs, ogo, ogp, slv, bltv, opd, litv, strip, one, both, putE, St.put, look, gdOf, gdv, picka, pickv, pickw, binv, bini, bins, binb, binp, binq, isSlT, bina, shp, eqCells, unv, convv, nilv, faddv, addp, idxav, idxp, load1, load1m, loadn, loadnm, loadv, hget, hset, hrep, hdel, slicev, bnd, shift1, lenv, capv, IntKind.bits, extractv, fieldv, indexv, min2v, max2v, mkiv, cellsA, fillA, buildv, stC, oneC, rowMB, intsA, plN, appE, appZ, appC, appNZ, appNC, VwL, srcC, srcZ, srcM, isBoolT, isPtrT, isSliceT, uOk, Value.oneCell', Nat.reducePow, Int.reducePow, Nat.reduceAdd, Nat.reduceMul, Nat.reduceSub, Nat.reduceLT, Nat.reduceLeDiff, Nat.reduceEqDiff, Nat.reduceBEq, Nat.reduceDiv, Nat.reduceMod, ↓reduceIte, reduceCtorEq, Int.reduceToNat, Int.reduceLT, Int.reduceLE, TFExN, SeqQ, BlkQ, LoopQ, BodyQ, k1, k2, g1, e1, e2, e4, e8, hbl, bl_len, FR])
        | (first | refine CallV.fn (at_ct x i) (Sm.out ?_) | refine ExF.mk (at_ct x i) (Sm.out ?_) | refine ExG.mk (fun _ => at_ct x i) (Sm.out ?_) | refine ExG.mkJ (fun _ => at_ct x i) (Sm.out ?_) | refine ExG.mkI (Ob.out ?_) (fun _ => at_ct x i) (Sm.out ?_))
        | (first | refine CallV.fn (at_ct y i) (Sm.out ?_) | refine ExF.mk (at_ct y i) (Sm.out ?_) | refine ExG.mk (fun _ => at_ct y i) (Sm.out ?_) | refine ExG.mkJ (fun _ => at_ct y i) (Sm.out ?_) | refine ExG.mkI (Ob.out ?_) (fun _ => at_ct y i) (Sm.out ?_))
        | (refine WP.seq fun K hK => ?_)
        | (refine WP.region (rvc_sound _ _ (Sm.out ?_)))
        | (refine WP.drawK rfl mixed (by decide +kernel) (Sm.out ?_))
        | (refine Ob.mk ?_; focus (first | assumption | omega | decide | trivial | (intro hob; simp only [hob, ZF]; done) | (intros; (repeat' refine And.intro ?_ ?_) <;> first | assumption | omega | trivial | decide) | (intros; simp only [ZE] at *; (repeat' refine And.intro ?_ ?_) <;> first | assumption | omega | trivial)))
        | (refine And.intro (Ob.out ?_) ?_)
        | (refine WP.block ?_)
        | (refine WP.cond rfl (fun hc => ?_) (fun hc => ?_) <;> (try simp only [ZC, reduceCtorEq, ZD] at hc) <;> (try (exact absurd hc (by decide))) <;> (try (exfalso; omega)))
        | ((first | refine WP.skip ?_ | refine WP.exit ?_); simp only [SeqQ, BlkQ, LoopQ, BodyQ, ↓reduceIte, Nat.reduceEqDiff, reduceCtorEq, look, true_and])
        | (refine WP.ret (Sm.out ?_))
        | (first | refine ExG.no (Sm.out ?_) | refine Or.inl (ExG.no (Sm.out ?_)) | refine Or.inl (And.intro (fun hg => absurd hg (by decide)) (ExG.no (Sm.out ?_))))
        | (refine Rt.mk ?_; refine And.intro ?_ ?_ <;> (intro hg; first | exact absurd hg (by decide) | refine Sm.out ?_))
        | (refine Nu.mk ?_; first | (fail_if_success (have := nb1)); intro nb1 | (fail_if_success (have := nb2)); intro nb2 | (fail_if_success (have := nb3)); intro nb3 | (fail_if_success (have := nb4)); intro nb4 | intro nbz)
        | (refine Fr.mk ?_; intro hfr; replace FR := And.intro hfr FR; clear hfr; refine Sm.out ?_)
        | (refine Two.mk ?_ ?_)
        | (refine Cs.mk ?_; intro hcs; first | exact False.elim hcs | (exfalso; omega) | (refine Sm.out ?_))
        | go_step
        | omega
        | (simp only [maxLen_eq]; omega)
      refine ⟨⟨i + 1, 0, acc', nb3, nb4⟩, ⟨?_, by simp only; rw [hacc]; simp; omega, by simp, by simp only; omega, by simp only; omega, by simp only; omega⟩, by simp only; omega, (Sub.pick (by simp [pickB, hget, hdel, FR]) (by simp [look]))⟩
      simp only; rw [h1, hacc, show x.length - (i + 1) = n by omega]; simp
  · have k1 : decide ((i : Int) < x.length) = false := by simp; omega
    obtain rfl : i = x.length := by omega
    have hfin : minusF x y = acc := by rw [h1, Nat.sub_self]; simp [minusG]
    have e5 : (bl acc).take x.length = bl acc := List.take_of_length_le (by rw [hbl]; omega)
    first | (have FRx := FR; clear FRx) | (have FR : ¬ ((1 : Nat) = 0) := Nat.one_ne_zero)
    repeat' first
      | (refine Sm.mk ?_; try simp -dsimp only [ZK, rvc, drawF, headN, pureH, stp, dvc, calleeOf, gcall, pev, eff, newB, okd, og, ogs, ogo, ogp, slv, bltv, opd, litv, strip, one, both, putE, St.put, look, gdOf, gdv, picka, pickv, pickw, binv, bini, bins, binb, binp, binq, isSlT, bina, shp, eqCells, unv, convv, nilv, faddv, addp, idxav, idxp, load1, load1m, loadn, loadnm, loadv, hget, hset, hrep, hdel, slicev, bnd, shift1, lenv, capv, IntKind.bits, extractv, fieldv, indexv, min2v, max2v, mkiv, cellsA, fillA, buildv, stC, oneC, rowMB, intsA, plN, appE, appZ, appC, appNZ, appNC, VwL, srcC, srcZ, srcM, isBoolT, isPtrT, isSliceT, uOk, Value.oneCell', Nat.reducePow, Int.reducePow, Nat.reduceAdd, Nat.reduceMul, Nat.reduceSub, Nat.reduceLT, Nat.reduceLeDiff, Nat.reduceEqDiff, Nat.reduceBEq, Nat.reduceDiv, Nat.reduceMod, ↓reduceIte, reduceCtorEq, Int.reduceToNat, Int.reduceLT, Int.reduceLE, TFExN, SeqQ, BlkQ, LoopQ, BodyQ, k1, hbl, FR])
      | (refine WP.seq fun K hK => ?_)
      | (refine WP.region (rvc_sound _ _ (Sm.out ?_)))
      | (refine WP.drawK rfl mixed (by decide +kernel) (Sm.out ?_))
      | (refine Ob.mk ?_; focus (first | assumption | omega | decide | trivial | (intro hob; simp only [hob, ZF]; done) | (intros; (repeat' refine And.intro ?_ ?_) <;> first | assumption | omega | trivial | decide) | (intros; simp only [ZE] at *; (repeat' refine And.intro ?_ ?_) <;> first | assumption | omega | trivial)))
      | (refine And.intro (Ob.out ?_) ?_)
      | (refine WP.block ?_)
      | (refine WP.cond rfl (fun hc => ?_) (fun hc => ?_) <;> (try simp only [ZC, reduceCtorEq, ZD] at hc) <;> (try (exact absurd hc (by decide))) <;> (try (exfalso; omega)))
      | ((first | refine WP.skip ?_ | refine WP.exit ?_); simp only [SeqQ, BlkQ, LoopQ, BodyQ, ↓reduceIte, Nat.reduceEqDiff, reduceCtorEq, look, true_and])
      | (refine WP.ret (Sm.out ?_))
      | (first | refine ExG.no (Sm.out ?_) | refine Or.inl (ExG.no (Sm.out ?_)) | refine Or.inl (And.intro (fun hg => absurd hg (by decide)) (ExG.no (Sm.out ?_))))
      | (refine Rt.mk ?_; refine And.intro ?_ ?_ <;> (intro hg; first | exact absurd hg (by decide) | refine Sm.out ?_))
      | (refine Nu.mk ?_; first | (fail_if_success (have := nb1)); intro nb1 | (fail_if_success (have := nb2)); intro nb2 | (fail_if_success (have := nb3)); intro nb3 | (fail_if_success (have := nb4)); intro nb4 | intro nbz)
      | (refine Fr.mk ?_; intro hfr; replace FR := And.intro hfr FR; clear hfr; refine Sm.out ?_)
      | (refine Two.mk ?_ ?_)
      | (refine Cs.mk ?_; intro hcs; first | exact False.elim hcs | (exfalso; omega) | (refine Sm.out ?_))
      | go_step
      | omega
      | (simp only [maxLen_eq]; omega)
    (refine OutQ.wk (Wk.freezeC (b) (1) (by simp only [ZK, rvc, drawF, headN, pureH, stp, dvc, calleeOf, gcall, pev, eff, newB, okd, og, ogs, ogo, ogp, slv, bltv, opd, litv, strip, one, both, putE, St.put, look, gdOf, gdv, picka, pickv, pickw, binv, bini, bins, binb, binp, binq, isSlT, bina, shp, eqCells, unv, convv, nilv, faddv, addp, idxav, idxp, load1, load1m, loadn, loadnm, loadv, hget, hset, hrep, hdel, slicev, bnd, shift1, lenv, capv, IntKind.bits, extractv, fieldv, indexv, min2v, max2v, mkiv, cellsA, fillA, buildv, stC, oneC, rowMB, intsA, plN, appE, appZ, appC, appNZ, appNC, VwL, srcC, srcZ, srcM, isBoolT, isPtrT, isSliceT, uOk, Value.oneCell', Nat.reducePow, Int.reducePow, Nat.reduceAdd, Nat.reduceMul, Nat.reduceSub, Nat.reduceLT, Nat.reduceLeDiff, Nat.reduceEqDiff, Nat.reduceBEq, Nat.reduceDiv, Nat.reduceMod, ↓reduceIte, reduceCtorEq, Int.reduceToNat, Int.reduceLT, Int.reduceLE, TFExN, SeqQ, BlkQ, LoopQ, BodyQ, hbl, e5, h5, h6, FR]; first | done | rfl)) ?_; simp only [frzCE, frzC, ZK, rvc, drawF, headN, pureH, stp, dvc, calleeOf, gcall, pev, eff, newB, okd, og, ogs, ogo, ogp, slv, bltv, opd, litv, strip, one, both, putE, St.put, look, gdOf, gdv, picka, pickv, pickw, binv, bini, bins, binb, binp, binq, isSlT, bina, shp, eqCells, unv, convv, nilv, faddv, addp, idxav, idxp, load1, load1m, loadn, loadnm, loadv, hget, hset, hrep, hdel, slicev, bnd, shift1, lenv, capv, IntKind.bits, extractv, fieldv, indexv, min2v, max2v, mkiv, cellsA, fillA, buildv, stC, oneC, rowMB, intsA, plN, appE, appZ, appC, appNZ, appNC, VwL, srcC, srcZ, srcM, isBoolT, isPtrT, isSliceT, uOk, Value.oneCell', Nat.reducePow, Int.reducePow, Nat.reduceAdd, Nat.reduceMul, Nat.reduceSub, Nat.reduceLT, Nat.reduceLeDiff, Nat.reduceEqDiff, Nat.reduceBEq, Nat.reduceDiv, Nat.reduceMod, ↓reduceIte, reduceCtorEq, Int.reduceToNat, Int.reduceLT, Int.reduceLE, TFExN, SeqQ, BlkQ, LoopQ, BodyQ, hbl, e5, h5, h6, FR])
    (refine OutQ.all ?_ ?_; (focus (simp only [resv, ZK, look, loadv, loadn, loadnm, load1, load1m, hget, ↓reduceIte, Nat.reduceEqDiff, Nat.reduceAdd, Nat.reduceMul, Nat.reduceLeDiff, Nat.reduceLT, reduceCtorEq, TFExN, hfin])); (try simp only [resv, resA, Fn, ZK, look, loadv, loadn, loadnm, load1, load1m, hget, ↓reduceIte, Nat.reduceEqDiff, Nat.reduceAdd, Nat.reduceMul, Nat.reduceLeDiff, Nat.reduceLT, reduceCtorEq, TFExN, hfin]); (try simp [resA, Fn, look, hfin]))
end Go.Proofs.Yteadenldfaddfaa
namespace Go.Proofs.Yteadenldfaddfaa
open Go
set_option linter.unusedVariables false
set_option linter.unusedSimpArgs false
theorem TFExP : (((((type_of% tyc0) ∧ (type_of% tyc3)) ∧ ((type_of% zmb3) ∧ (type_of% tyc4))) ∧ (((type_of% zmb4) ∧ (type_of% tyc27)) ∧ ((type_of% elt27) ∧ (type_of% mkz27)))) ∧ ((((type_of% mkc27) ∧ (type_of% apT27)) ∧ ((type_of% elk27) ∧ (type_of% zmb27))) ∧ (((type_of% Try.underlying0) ∧ (type_of% Try.underlying3)) ∧ ((type_of% Try.underlying4) ∧ (type_of% Try.underlying27))))) :=
  ⟨⟨⟨⟨tyc0, tyc3⟩, ⟨zmb3, tyc4⟩⟩, ⟨⟨zmb4, tyc27⟩, ⟨elt27, mkz27⟩⟩⟩, ⟨⟨⟨mkc27, apT27⟩, ⟨elk27, zmb27⟩⟩, ⟨⟨Try.underlying0, Try.underlying3⟩, ⟨Try.underlying4, Try.underlying27⟩⟩⟩⟩
/-- quotient and rest behind so many of the highest bits -/
def divS (a n : List Bool) : Nat → List Bool × List Bool
  | 0 => (List.replicate a.length false, [])
  | j + 1 => if valB n ≤ valB (a.getD (a.length - (j + 1)) false :: (divS a n j).2) then ((divS a n j).1.set (a.length - (j + 1)) true, minusF (a.getD (a.length - (j + 1)) false :: (divS a n j).2) n)
      else ((divS a n j).1, a.getD (a.length - (j + 1)) false :: (divS a n j).2)
theorem minusF_len (x y : List Bool) : (minusF x y).length = x.length := minusG_len x y _ 0 0
theorem valB_set : ∀ (l : List Bool) (i : Nat), i < l.length → l.getD i false = false → valB (l.set i true) = valB l + 2 ^ i
  | [], i, h, _ => by simp at h
  | b :: l, 0, _, h => by simp at h; subst h; simp [valB]; omega
  | b :: l, i + 1, h, h2 => by
    have := valB_set l i (by simpa using h) (by simpa using h2)
    simp only [List.set_cons_succ, valB, this, Nat.pow_succ]; omega
structure DivI (a n : List Bool) (j : Nat) : Prop where
  len1 : (divS a n j).1.length = a.length
  len2 : (divS a n j).2.length = j
  zero : ∀ i, i < a.length - j → (divS a n j).1.getD i false = false
  quo : valB (divS a n j).1 = 2 ^ (a.length - j) * (valB (a.drop (a.length - j)) / valB n)
  rest : valB (divS a n j).2 = valB (a.drop (a.length - j)) % valB n
theorem divI (a n : List Bool) (hn : 0 < valB n) : ∀ j, j ≤ a.length → DivI a n j
  | 0, _ => by
    refine ⟨by simp [divS], by simp [divS], fun i hi => by simp [divS, List.getD, List.getElem?_replicate]; split <;> rfl, ?_, ?_⟩
    · have : ∀ k, valB (List.replicate k false) = 0 := fun k => by have := valB_rep k []; simpa [valB] using this
      simp [divS, this, valB]
    · simp [divS, valB]
  | j + 1, hj => by
    have D := divI a n hn j (by omega)
    have d := valB_drop a (a.length - (j + 1))
    rw [bitA_eq, show a.length - (j + 1) + 1 = a.length - j by omega] at d
    have hp : 2 ^ (a.length - j) = 2 * 2 ^ (a.length - (j + 1)) := by rw [show a.length - j = a.length - (j + 1) + 1 by omega, Nat.pow_succ, Nat.mul_comm]
    have hq := D.quo
    have hr := D.rest
    rw [hp] at hq
    have hlt := Nat.mod_lt (valB (a.drop (a.length - j))) hn
    have hdm := Nat.div_add_mod (valB (a.drop (a.length - j))) (valB n)
    have hv : valB (a.getD (a.length - (j + 1)) false :: (divS a n j).2) = (a.getD (a.length - (j + 1)) false).toNat + 2 * (valB (a.drop (a.length - j)) % valB n) := by rw [valB, hr]
    have hb : (a.getD (a.length - (j + 1)) false).toNat ≤ 1 := by cases a.getD (a.length - (j + 1)) false <;> decide
    have e : valB (a.drop (a.length - (j + 1))) = ((a.getD (a.length - (j + 1)) false).toNat + 2 * (valB (a.drop (a.length - j)) % valB n)) + valB n * (2 * (valB (a.drop (a.length - j)) / valB n)) := by
      rw [d]
      have : valB n * (2 * (valB (a.drop (a.length - j)) / valB n)) = 2 * (valB n * (valB (a.drop (a.length - j)) / valB n)) := Nat.mul_left_comm _ _ _
      omega
    have e1 : valB (a.drop (a.length - (j + 1))) / valB n = ((a.getD (a.length - (j + 1)) false).toNat + 2 * (valB (a.drop (a.length - j)) % valB n)) / valB n + 2 * (valB (a.drop (a.length - j)) / valB n) := by rw [e, Nat.add_mul_div_left _ _ hn]
    have e2 : valB (a.drop (a.length - (j + 1))) % valB n = ((a.getD (a.length - (j + 1)) false).toNat + 2 * (valB (a.drop (a.length - j)) % valB n)) % valB n := by rw [e, Nat.add_mul_mod_self_left]
    obtain ⟨v, hv'⟩ : ∃ v, v = (a.getD (a.length - (j + 1)) false).toNat + 2 * (valB (a.drop (a.length - j)) % valB n) := ⟨_, rfl⟩
    rw [← hv'] at hv e1 e2
    by_cases hc : valB n ≤ valB (a.getD (a.length - (j + 1)) false :: (divS a n j).2)
    · have hs : divS a n (j + 1) = ((divS a n j).1.set (a.length - (j + 1)) true, minusF (a.getD (a.length - (j + 1)) false :: (divS a n j).2) n) := by rw [divS, if_pos hc]
      have hz := D.zero (a.length - (j + 1)) (by omega)
      rw [hv] at hc
      have f1 : v / valB n = 1 := Nat.div_eq_of_lt_le (by omega) (by omega)
      have f2 : v % valB n = v - valB n := by rw [Nat.mod_eq_sub_mod hc, Nat.mod_eq_of_lt (by omega)]
      refine ⟨by rw [hs]; simp [D.len1], by rw [hs]; simp [minusF_len, D.len2], fun i hi => ?_, ?_, ?_⟩
      · rw [hs]
        have := D.zero i (by omega)
        simp only [List.getD, List.getElem?_set] at this ⊢
        rw [if_neg (by omega)]; exact this
      · rw [hs]
        simp only
        rw [valB_set _ _ (by rw [D.len1]; omega) hz, hq, e1, f1, Nat.mul_add, Nat.mul_one]
        have : 2 * 2 ^ (a.length - (j + 1)) * (valB (a.drop (a.length - j)) / valB n) = 2 ^ (a.length - (j + 1)) * (2 * (valB (a.drop (a.length - j)) / valB n)) := by rw [Nat.mul_comm 2, Nat.mul_assoc]
        omega
      · rw [hs]
        simp only
        rw [minusF_val _ _ (by rw [hv]; exact hc), hv, e2, f2]
    · have hs : divS a n (j + 1) = ((divS a n j).1, a.getD (a.length - (j + 1)) false :: (divS a n j).2) := by rw [divS, if_neg hc]
      rw [hv] at hc
      have f1 : v / valB n = 0 := Nat.div_eq_of_lt (by omega)
      have f2 : v % valB n = v := Nat.mod_eq_of_lt (by omega)
      refine ⟨by rw [hs]; exact D.len1, by rw [hs]; simp [D.len2], fun i hi => by rw [hs]; exact D.zero i (by omega), ?_, ?_⟩
      · rw [hs]
        simp only
        rw [hq, e1, f1, Nat.zero_add, Nat.mul_comm 2, Nat.mul_assoc]
      · rw [hs]
        simp only
        rw [hv, e2, f2]
theorem div_all (a n : List Bool) (hn : 0 < valB n) : valB (divS a n a.length).1 = valB a / valB n ∧ valB (divS a n a.length).2 = valB a % valB n ∧ (divS a n a.length).1.length = a.length ∧ (divS a n a.length).2.length = a.length := by
  have D := divI a n hn a.length (Nat.le_refl _)
  have h1 := D.quo
  have h2 := D.rest
  rw [Nat.sub_self, List.drop_zero] at h1 h2
  exact ⟨by rw [h1]; simp, h2, D.len1, D.len2⟩
set_option maxRecDepth 8000 in
set_option maxHeartbeats 2000000 in
theorem divide_ct (a n : List Bool) (p m : Nat) (hp : a.length = p) (hm : n.length = m) (ha : p ≤ 100000) (hn : m ≤ 100000) (h0 : 0 < valB n) :
    ACt Try.prog 18 [.sl p (bl a), .sl m (bl n)] [] (Fn (.tup [.sl p (bl (divS a n p).1), .sl p (bl (divS a n p).2)])) := by
  subst hp hm
  refine ACt.intro Try.func18 rfl (by kernel_rfl) (by simp [Try.ntmps18]) (fun cx => ?_)
  simp only [argE, Try.ntmps18, Try.results18]
  have g0 : IntKind.i64.wrap ((a.length : Int) - 1) = (a.length : Int) - 1 := wrap_i64 (by omega) (by omega)
  first | (have FRx := FR; clear FRx) | (have FR : ¬ ((1 : Nat) = 0) := Nat.one_ne_zero)
  repeat' first
    | (refine Sm.mk ?_; try simp -dsimp only [ZK, rvc, drawF, headN, pureH, stp, dvc, calleeOf, gcall, pev, eff, newB, okd, og, ogs, ogo, ogp, slv, bltv, opd, litv, strip, one, both, putE, St.put, look, gdOf, gdv, picka, pickv, pickw, binv, bini, bins, binb, binp, binq, isSlT, bina, shp, eqCells, unv, convv, nilv, faddv, addp, idxav, idxp, load1, load1m, loadn, loadnm, loadv, hget, hset, hrep, hdel, slicev, bnd, shift1, lenv, capv, IntKind.bits, extractv, fieldv, indexv, min2v, max2v, mkiv, cellsA, fillA, buildv, stC, oneC, rowMB, intsA, plN, appE, appZ, appC, appNZ, appNC, VwL, srcC, srcZ, srcM, isBoolT, isPtrT, isSliceT, uOk, Value.oneCell', Nat.reducePow, Int.reducePow, Nat.reduceAdd, Nat.reduceMul, Nat.reduceSub, Nat.reduceLT, Nat.reduceLeDiff, Nat.reduceEqDiff, Nat.reduceBEq, Nat.reduceDiv, Nat.reduceMod, ↓reduceIte, reduceCtorEq, Int.reduceToNat, Int.reduceLT, Int.reduceLE, TFExP, SeqQ, BlkQ, LoopQ, BodyQ, bl_len, FR])
    | (refine WP.seq fun K hK => ?_)
    | ((fail_if_success (show WP _ _ _ (.region 3 _ _) _ _)); refine WP.region (rvc_sound _ _ (Sm.out ?_)))
    | ((fail_if_success (show WP _ _ _ (.region 3 _ _) _ _)); refine WP.drawK rfl mixed (by decide +kernel) (Sm.out ?_))
    | (refine Ob.mk ?_; focus (first | assumption | omega | decide | trivial | (intro hob; simp only [hob, ZF]; done) | (intros; (repeat' refine And.intro ?_ ?_) <;> first | assumption | omega | trivial | decide) | (intros; simp only [ZE] at *; (repeat' refine And.intro ?_ ?_) <;> first | assumption | omega | trivial)))
    | (refine And.intro (Ob.out ?_) ?_)
    | (refine WP.block ?_)
    | (refine WP.cond rfl (fun hc => ?_) (fun hc => ?_) <;> (try simp only [ZC, reduceCtorEq, ZD] at hc) <;> (try (exact absurd hc (by decide))) <;> (try (exfalso; omega)))
    | ((first | refine WP.skip ?_ | refine WP.exit ?_); simp only [SeqQ, BlkQ, LoopQ, BodyQ, ↓reduceIte, Nat.reduceEqDiff, reduceCtorEq, look, true_and])
    | (refine WP.ret (Sm.out ?_))
    | (first | refine ExG.no (Sm.out ?_) | refine Or.inl (ExG.no (Sm.out ?_)) | refine Or.inl (And.intro (fun hg => absurd hg (by decide)) (ExG.no (Sm.out ?_))))
    | (refine Rt.mk ?_; refine And.intro ?_ ?_ <;> (intro hg; first | exact absurd hg (by decide) | refine Sm.out ?_))
    | (refine Nu.mk ?_; first | (fail_if_success (have := nb1)); intro nb1 | (fail_if_success (have := nb2)); intro nb2 | (fail_if_success (have := nb3)); intro nb3 | (fail_if_success (have := nb4)); intro nb4 | (fail_if_success (have := nb5)); intro nb5 | intro nbz)
    | (refine Fr.mk ?_; intro hfr; replace FR := And.intro hfr FR; clear hfr; refine Sm.out ?_)
    | (refine Two.mk ?_ ?_)
    | (refine Cs.mk ?_; intro hcs; first | exact False.elim hcs | (exfalso; omega) | (refine Sm.out ?_))
    | go_step
    | omega
    | (simp only [maxLen_eq]; omega)
  (refine WP.wk (Wk.freezeC (nb2) (1) (by simp only [ZK, rvc, drawF, headN, pureH, stp, dvc, calleeOf, gcall, pev, eff, newB, okd, og, ogs, ogo, ogp, slv, bltv, opd, litv, strip, one, both, putE, St.put, look, gdOf, gdv, picka, pickv, pickw, binv, bini, bins, binb, binp, binq, isSlT, bina, shp, eqCells, unv, convv, nilv, faddv, addp, idxav, idxp, load1, load1m, loadn, loadnm, loadv, hget, hset, hrep, hdel, slicev, bnd, shift1, lenv, capv, IntKind.bits, extractv, fieldv, indexv, min2v, max2v, mkiv, cellsA, fillA, buildv, stC, oneC, rowMB, intsA, plN, appE, appZ, appC, appNZ, appNC, VwL, srcC, srcZ, srcM, isBoolT, isPtrT, isSliceT, uOk, Value.oneCell', Nat.reducePow, Int.reducePow, Nat.reduceAdd, Nat.reduceMul, Nat.reduceSub, Nat.reduceLT, Nat.reduceLeDiff, Nat.reduceEqDiff, Nat.reduceBEq, Nat.reduceDiv, Nat.reduceMod, ↓reduceIte, reduceCtorEq, Int.reduceToNat, Int.reduceLT, Int.reduceLE, TFExP, SeqQ, BlkQ, LoopQ, BodyQ, FR]; first | done | rfl)) ?_; simp only [frzCE, frzC, ZK, rvc, drawF, headN, pureH, stp, dvc, calleeOf, gcall, pev, eff, newB, okd, og, ogs, ogo, ogp, slv, bltv, opd, litv, strip, one, both, putE, St.put, look, gdOf, gdv, picka, pickv, pickw, binv, bini, bins, binb, binp, binq, isSlT, bina, shp, eqCells, unv, convv, nilv, faddv, addp, idxav, idxp, load1, load1m, loadn, loadnm, loadv, hget, hset, hrep, hdel, slicev, bnd, shift1, lenv, capv, IntKind.bits, extractv, fieldv, indexv, min2v, max2v, mkiv, cellsA, fillA, buildv, stC, oneC, rowMB, intsA, plN, appE, appZ, appC, appNZ, appNC, VwL, srcC, srcZ, srcM, isBoolT, isPtrT, isSliceT, uOk, Value.oneCell', Nat.reducePow, Int.reducePow, Nat.reduceAdd, Nat.reduceMul, Nat.reduceSub, Nat.reduceLT, Nat.reduceLeDiff, Nat.reduceEqDiff, Nat.reduceBEq, Nat.reduceDiv, Nat.reduceMod, ↓reduceIte, reduceCtorEq, Int.reduceToNat, Int.reduceLT, Int.reduceLE, TFExP, SeqQ, BlkQ, LoopQ, BodyQ, FR])
  first | (have FRx := FR; clear FRx) | (have FR : ¬ ((1 : Nat) = 0) := Nat.one_ne_zero)
  repeat' first
    | (refine Sm.mk ?_; try simp -dsimp only [ZK, rvc, drawF, headN, pureH, stp, dvc, calleeOf, gcall, pev, eff, newB, okd, og, ogs, ogo, ogp, slv, bltv, opd, litv, strip, one, both, putE, St.put, look, gdOf, gdv, picka, pickv, pickw, binv, bini, bins, binb, binp, binq, isSlT, bina, shp, eqCells, unv, convv, nilv, faddv, addp, idxav, idxp, load1, load1m, loadn, loadnm, loadv, hget, hset, hrep, hdel, slicev, bnd, shift1, lenv, capv, IntKind.bits, extractv, fieldv, indexv, min2v, max2v, mkiv, cellsA, fillA, buildv, stC, oneC, rowMB, intsA, plN, appE, appZ, appC, appNZ, appNC, VwL, srcC, srcZ, srcM, isBoolT, isPtrT, isSliceT, uOk, Value.oneCell', Nat.reducePow, Int.reducePow, Nat.reduceAdd, Nat.reduceMul, Nat.reduceSub, Nat.reduceLT, Nat.reduceLeDiff, Nat.reduceEqDiff, Nat.reduceBEq, Nat.reduceDiv, Nat.reduceMod, ↓reduceIte, reduceCtorEq, Int.reduceToNat, Int.reduceLT, Int.reduceLE, TFExP, SeqQ, BlkQ, LoopQ, BodyQ, g0, bl_len, FR])
    | (refine WP.seq fun K hK => ?_)
    | (refine WP.region (rvc_sound _ _ (Sm.out ?_)))
    | (refine WP.drawK rfl mixed (by decide +kernel) (Sm.out ?_))
    | (refine Ob.mk ?_; focus (first | assumption | omega | decide | trivial | (intro hob; simp only [hob, ZF]; done) | (intros; (repeat' refine And.intro ?_ ?_) <;> first | assumption | omega | trivial | decide) | (intros; simp only [ZE] at *; (repeat' refine And.intro ?_ ?_) <;> first | assumption | omega | trivial)))
    | (refine And.intro (Ob.out ?_) ?_)
    | (refine WP.block ?_)
    | (refine WP.cond rfl (fun hc => ?_) (fun hc => ?_) <;> (try simp only [ZC, reduceCtorEq, ZD] at hc) <;> (try (exact absurd hc (by decide))) <;> (try (exfalso; omega)))
    | ((first | refine WP.skip ?_ | refine WP.exit ?_); simp only [SeqQ, BlkQ, LoopQ, BodyQ, ↓reduceIte, Nat.reduceEqDiff, reduceCtorEq, look, true_and])
    | (refine WP.ret (Sm.out ?_))
    | (first | refine ExG.no (Sm.out ?_) | refine Or.inl (ExG.no (Sm.out ?_)) | refine Or.inl (And.intro (fun hg => absurd hg (by decide)) (ExG.no (Sm.out ?_))))
    | (refine Rt.mk ?_; refine And.intro ?_ ?_ <;> (intro hg; first | exact absurd hg (by decide) | refine Sm.out ?_))
    | (refine Nu.mk ?_; first | (fail_if_success (have := nb1)); intro nb1 | (fail_if_success (have := nb2)); intro nb2 | (fail_if_success (have := nb3)); intro nb3 | (fail_if_success (have := nb4)); intro nb4 | (fail_if_success (have := nb5)); intro nb5 | intro nbz)
    | (refine Fr.mk ?_; intro hfr; replace FR := And.intro hfr FR; clear hfr; refine Sm.out ?_)
    | (refine Two.mk ?_ ?_)
    | (refine Cs.mk ?_; intro hcs; first | exact False.elim hcs | (exfalso; omega) | (refine Sm.out ?_))
    | go_step
    | omega
    | (simp only [maxLen_eq]; omega)
  have hrp : bl (List.replicate a.length false) = List.replicate a.length (AV.lit (.bool false)) := by simp
  refine WP.loop (Γ := Nat) (fun j => ⟨[(8, iv .i64 (((a.length - j : Nat) : Int) - 1)), (7, .sl j (bl (divS a n j).2)), (6, ms nb1 0 a.length a.length), (0, .sl a.length (bl a)), (1, .sl n.length (bl n))],
      [(nb1, .cells (bl (divS a n j).1) a.length 4)]⟩) (fun j => j ≤ a.length) (fun j => a.length - j) 0 (by omega) (Sub.pick (by simp only [divS, hrp]; simp [pickB, hget, hdel, FR]) (by simp [look, divS, bl])) ?_
  intro j hj
  have D := divI a n h0 j hj
  obtain ⟨Q, hQ⟩ : ∃ Q, Q = (divS a n j).1 := ⟨_, rfl⟩
  obtain ⟨L, hL⟩ : ∃ L, L = (divS a n j).2 := ⟨_, rfl⟩
  have l1 := D.len1
  have l2 := D.len2
  rw [← hQ] at l1 ⊢
  rw [← hL] at l2 ⊢
  have hbQ : (bl Q).length = a.length := by rw [bl_len, l1]
  have hbL : (bl L).length = j := by rw [bl_len, l2]
  by_cases hi : j < a.length
  · obtain ⟨i, hi2⟩ : ∃ i, a.length - j = i + 1 := ⟨a.length - j - 1, by omega⟩
    have hi3 : a.length - (j + 1) = i := by omega
    have e0 : ((a.length - j : Nat) : Int) - 1 = (i : Int) := by omega
    have k1 : decide ((i : Int) ≥ 0) = true := by simp
    have g1 : IntKind.i64.wrap ((i : Int) - 1) = (i : Int) - 1 := wrap_i64 (by omega) (by omega)
    have e3 := bl_at a i (by omega)
    obtain ⟨b, hb⟩ : ∃ b, b = a.getD i false := ⟨_, rfl⟩
    rw [← hb] at e3
    obtain ⟨M, hM⟩ : ∃ M, M = b :: L := ⟨_, rfl⟩
    have lM : M.length = j + 1 := by rw [hM]; simp [l2]
    have hone : (bl L).all oneC = true := bl_one L
    have hnext : divS a n (j + 1) = if valB n ≤ valB M then (Q.set i true, minusF M n) else (Q, M) := by rw [divS, hi3, ← hQ, ← hL, ← hb, ← hM]
    first | (have FRx := FR; clear FRx) | (have FR : ¬ ((1 : Nat) = 0) := Nat.one_ne_zero)
    repeat' first
      | (refine Sm.mk ?_; try simp -dsimp only [ZK, rvc, drawF, headN, pureH, stp, dvc, calleeOf, gcall, pev, eff, newB, okd, og, ogs, ogo, ogp, slv, bltv, opd, litv, strip, one, both, putE, St.put, look, gdOf, gdv, picka, pickv, pickw, binv, bini, bins, binb, binp, binq, isSlT, bina, shp, eqCells, unv, convv, nilv, faddv, addp, idxav, idxp, load1, load1m, loadn, loadnm, loadv, hget, hset, hrep, hdel, slicev, bnd, shift1, lenv, capv, IntKind.bits, extractv, fieldv, indexv, min2v, max2v, mkiv, cellsA, fillA, buildv, stC, oneC, rowMB, intsA, plN, appE, appZ, appC, appNZ, appNC, VwL, srcC, srcZ, srcM, isBoolT, isPtrT, isSliceT, uOk, Value.oneCell', Nat.reducePow, Int.reducePow, Nat.reduceAdd, Nat.reduceMul, Nat.reduceSub, Nat.reduceLT, Nat.reduceLeDiff, Nat.reduceEqDiff, Nat.reduceBEq, Nat.reduceDiv, Nat.reduceMod, ↓reduceIte, reduceCtorEq, Int.reduceToNat, Int.reduceLT, Int.reduceLE, TFExP, SeqQ, BlkQ, LoopQ, BodyQ, e0, k1, e3, bl_len, hbQ, hbL, hone, FR])
      | (refine WP.seq fun K hK => ?_)
      | ((fail_if_success (show WP _ _ _ (.region 7 _ _) _ _)); refine WP.region (rvc_sound _ _ (Sm.out ?_)))
      | ((fail_if_success (show WP _ _ _ (.region 7 _ _) _ _)); refine WP.drawK rfl mixed (by decide +kernel) (Sm.out ?_))
      | (refine Ob.mk ?_; focus (first | assumption | omega | decide | trivial | (intro hob; simp only [hob, ZF]; done) | (intros; (repeat' refine And.intro ?_ ?_) <;> first | assumption | omega | trivial | decide) | (intros; simp only [ZE] at *; (repeat' refine And.intro ?_ ?_) <;> first | assumption | omega | trivial)))
      | (refine And.intro (Ob.out ?_) ?_)
      | (refine WP.block ?_)
      | (refine WP.cond rfl (fun hc => ?_) (fun hc => ?_) <;> (try simp only [ZC, reduceCtorEq, ZD] at hc) <;> (try (exact absurd hc (by decide))) <;> (try (exfalso; omega)))
      | ((first | refine WP.skip ?_ | refine WP.exit ?_); simp only [SeqQ, BlkQ, LoopQ, BodyQ, ↓reduceIte, Nat.reduceEqDiff, reduceCtorEq, look, true_and])
      | (refine WP.ret (Sm.out ?_))
      | (first | refine ExG.no (Sm.out ?_) | refine Or.inl (ExG.no (Sm.out ?_)) | refine Or.inl (And.intro (fun hg => absurd hg (by decide)) (ExG.no (Sm.out ?_))))
      | (refine Rt.mk ?_; refine And.intro ?_ ?_ <;> (intro hg; first | exact absurd hg (by decide) | refine Sm.out ?_))
      | (refine Nu.mk ?_; first | (fail_if_success (have := nb1)); intro nb1 | (fail_if_success (have := nb2)); intro nb2 | (fail_if_success (have := nb3)); intro nb3 | (fail_if_success (have := nb4)); intro nb4 | (fail_if_success (have := nb5)); intro nb5 | intro nbz)
      | (refine Fr.mk ?_; intro hfr; replace FR := And.intro hfr FR; clear hfr; refine Sm.out ?_)
      | (refine Two.mk ?_ ?_)
      | (refine Cs.mk ?_; intro hcs; first | exact False.elim hcs | (exfalso; omega) | (refine Sm.out ?_))
      | go_step
      | omega
      | (simp only [maxLen_eq]; omega)
    have hS' : (AV.lit (.bool b) :: bl L).take (1 + j) = bl M := by
      rw [List.take_of_length_le (by simp [hbL]; omega), hM]; simp
    have q3 : 1 + j ≤ nb5 := by omega
    have q4 : nb5 ≤ 9223372036854775807 := by omega
    have q6 : 1 + j ≤ j + 1 := by omega
    (refine WP.wk (Wk.freezeC (nb4) (1) (by simp only [ZK, rvc, drawF, headN, pureH, stp, dvc, calleeOf, gcall, pev, eff, newB, okd, og, ogs, ogo, ogp, slv, bltv, opd, litv, strip, one, both, putE, St.put, look, gdOf, gdv, picka, pickv, pickw, binv, bini, bins, binb, binp, binq, isSlT, bina, shp, eqCells, unv, convv, nilv, faddv, addp, idxav, idxp, load1, load1m, loadn, loadnm, loadv, hget, hset, hrep, hdel, slicev, bnd, shift1, lenv, capv, IntKind.bits, extractv, fieldv, indexv, min2v, max2v, mkiv, cellsA, fillA, buildv, stC, oneC, rowMB, intsA, plN, appE, appZ, appC, appNZ, appNC, VwL, srcC, srcZ, srcM, isBoolT, isPtrT, isSliceT, uOk, Value.oneCell', Nat.reducePow, Int.reducePow, Nat.reduceAdd, Nat.reduceMul, Nat.reduceSub, Nat.reduceLT, Nat.reduceLeDiff, Nat.reduceEqDiff, Nat.reduceBEq, Nat.reduceDiv, Nat.reduceMod, ↓reduceIte, reduceCtorEq, Int.reduceToNat, Int.reduceLT, Int.reduceLE, TFExP, SeqQ, BlkQ, LoopQ, BodyQ, bl_len, hS', q3, q4, q6, hbL, FR]; first | done | rfl)) ?_; simp only [frzCE, frzC, ZK, rvc, drawF, headN, pureH, stp, dvc, calleeOf, gcall, pev, eff, newB, okd, og, ogs, ogo, ogp, slv, bltv, opd, litv, strip, one, both, putE, St.put, look, gdOf, gdv, picka, pickv, pickw, binv, bini, bins, binb, binp, binq, isSlT, bina, shp, eqCells, unv, convv, nilv, faddv, addp, idxav, idxp, load1, load1m, loadn, loadnm, loadv, hget, hset, hrep, hdel, slicev, bnd, shift1, lenv, capv, IntKind.bits, extractv, fieldv, indexv, min2v, max2v, mkiv, cellsA, fillA, buildv, stC, oneC, rowMB, intsA, plN, appE, appZ, appC, appNZ, appNC, VwL, srcC, srcZ, srcM, isBoolT, isPtrT, isSliceT, uOk, Value.oneCell', Nat.reducePow, Int.reducePow, Nat.reduceAdd, Nat.reduceMul, Nat.reduceSub, Nat.reduceLT, Nat.reduceLeDiff, Nat.reduceEqDiff, Nat.reduceBEq, Nat.reduceDiv, Nat.reduceMod, ↓reduceIte, reduceCtorEq, Int.reduceToNat, Int.reduceLT, Int.reduceLE, TFExP, SeqQ, BlkQ, LoopQ, BodyQ, bl_len, hS', q3, q4, q6, hbL, FR])
    have r1 := rcmp_ct M n (1 + j) n.length (by omega) rfl (by omega) (by omega)
    have e5 : ((i : Nat) : Int) - 1 = ((a.length - (j + 1) : Nat) : Int) - 1 := by rw [hi3]
    have e6 : 1 + j = j + 1 := by omega
    by_cases hc : valB n ≤ valB M
    · have k2 : decide (cmpN (valB M) (valB n) ≥ 0) = true := by
        unfold cmpN; rw [if_neg (by omega)]; split <;> rfl
      rw [if_pos hc] at hnext
      have m1 := minus_ct M n (1 + j) n.length (by omega) rfl (by omega) (by omega)
      have e7 : (bl Q).set i (bv true) = bl (Q.set i true) := by simp
      have q5 : i < a.length := by omega
      first | (have FRx := FR; clear FRx) | (have FR : ¬ ((1 : Nat) = 0) := Nat.one_ne_zero)
      repeat' first
        | (refine Sm.mk ?_; try simp -dsimp only [ZK, rvc, drawF, headN, pureH, stp, dvc, calleeOf, gcall, pev, eff, newB, okd, og, ogs, ogo, ogp, slv, bltv, opd, litv, strip, one, both, putE, St.put, look, gdOf, gdv, picka, pickv, pickw, binv, bini, bins, binb, binp, binq, isSlT, bina, shp, eqCells, unv, convv, nilv, faddv, addp, idxav, idxp, load1, load1m, loadn, loadnm, loadv, hget, hset, hrep, hdel, slicev, bnd, shift1, lenv, capv, IntKind.bits, extractv, fieldv, indexv, min2v, max2v, mkiv, cellsA, fillA, buildv, stC, oneC, rowMB, intsA, plN, appE, appZ, appC, appNZ, appNC, VwL, srcC, srcZ, srcM, isBoolT, isPtrT, isSliceT, uOk, Value.oneCell', Nat.reducePow, Int.reducePow, Nat.reduceAdd, Nat.reduceMul, Nat.reduceSub, Nat.reduceLT, Nat.reduceLeDiff, Nat.reduceEqDiff, Nat.reduceBEq, Nat.reduceDiv, Nat.reduceMod, ↓reduceIte, reduceCtorEq, Int.reduceToNat, Int.reduceLT, Int.reduceLE, TFExP, SeqQ, BlkQ, LoopQ, BodyQ, k2, g1, e7, bl_len, hbQ, q5, FR])
        | (first | refine CallV.fn (r1) (Sm.out ?_) | refine ExF.mk (r1) (Sm.out ?_) | refine ExG.mk (fun _ => r1) (Sm.out ?_) | refine ExG.mkJ (fun _ => r1) (Sm.out ?_) | refine ExG.mkI (Ob.out ?_) (fun _ => r1) (Sm.out ?_))
        | (first | refine CallV.fn (m1) (Sm.out ?_) | refine ExF.mk (m1) (Sm.out ?_) | refine ExG.mk (fun _ => m1) (Sm.out ?_) | refine ExG.mkJ (fun _ => m1) (Sm.out ?_) | refine ExG.mkI (Ob.out ?_) (fun _ => m1) (Sm.out ?_))
        | (refine WP.seq fun K hK => ?_)
        | (refine WP.region (rvc_sound _ _ (Sm.out ?_)))
        | (refine WP.drawK rfl mixed (by decide +kernel) (Sm.out ?_))
        | (refine Ob.mk ?_; focus (first | assumption | omega | decide | trivial | (intro hob; simp only [hob, ZF]; done) | (intros; (repeat' refine And.intro ?_ ?_) <;> first | assumption | omega | trivial | decide) | (intros; simp only [ZE] at *; (repeat' refine And.intro ?_ ?_) <;> first | assumption | omega | trivial)))
        | (refine And.intro (Ob.out ?_) ?_)
        | (refine WP.block ?_)
        | (refine WP.cond rfl (fun hc => ?_) (fun hc => ?_) <;> (try simp only [ZC, reduceCtorEq, ZD] at hc) <;> (try (exact absurd hc (by decide))) <;> (try (exfalso; omega)))
        | ((first | refine WP.skip ?_ | refine WP.exit ?_); simp only [SeqQ, BlkQ, LoopQ, BodyQ, ↓reduceIte, Nat.reduceEqDiff, reduceCtorEq, look, true_and])
        | (refine WP.ret (Sm.out ?_))
        | (first | refine ExG.no (Sm.out ?_) | refine Or.inl (ExG.no (Sm.out ?_)) | refine Or.inl (And.intro (fun hg => absurd hg (by decide)) (ExG.no (Sm.out ?_))))
        | (refine Rt.mk ?_; refine And.intro ?_ ?_ <;> (intro hg; first | exact absurd hg (by decide) | refine Sm.out ?_))
        | (refine Nu.mk ?_; first | (fail_if_success (have := nb1)); intro nb1 | (fail_if_success (have := nb2)); intro nb2 | (fail_if_success (have := nb3)); intro nb3 | (fail_if_success (have := nb4)); intro nb4 | (fail_if_success (have := nb5)); intro nb5 | intro nbz)
        | (refine Fr.mk ?_; intro hfr; replace FR := And.intro hfr FR; clear hfr; refine Sm.out ?_)
        | (refine Two.mk ?_ ?_)
        | (refine Cs.mk ?_; intro hcs; first | exact False.elim hcs | (exfalso; omega) | (refine Sm.out ?_))
        | go_step
        | omega
        | (simp only [maxLen_eq]; omega)
      exact ⟨j + 1, by omega, by omega, Sub.pick (by simp only [hnext]; simp [pickB, hget, hdel, FR]) (by simp [look, hnext, e5, e6, hi3, bl])⟩
    · have k2 : decide (cmpN (valB M) (valB n) ≥ 0) = false := by
        unfold cmpN; rw [if_pos (by omega)]; rfl
      rw [if_neg hc] at hnext
      first | (have FRx := FR; clear FRx) | (have FR : ¬ ((1 : Nat) = 0) := Nat.one_ne_zero)
      repeat' first
        | (refine Sm.mk ?_; try simp -dsimp only [ZK, rvc, drawF, headN, pureH, stp, dvc, calleeOf, gcall, pev, eff, newB, okd, og, ogs, ogo, ogp, slv, bltv, opd, litv, strip, one, both, putE, St.put, look, gdOf, gdv, picka, pickv, pickw, binv, bini, bins, binb, binp, binq, isSlT, bina, shp, eqCells, unv, convv, nilv, faddv, addp, idxav, idxp, load1, load1m, loadn, loadnm, loadv, hget, hset, hrep, hdel, slicev, bnd, shift1, lenv, capv, IntKind.bits, extractv, fieldv, indexv, min2v, max2v, mkiv, cellsA, fillA, buildv, stC, oneC, rowMB, intsA, plN, appE, appZ, appC, appNZ, appNC, VwL, srcC, srcZ, srcM, isBoolT, isPtrT, isSliceT, uOk, Value.oneCell', Nat.reducePow, Int.reducePow, Nat.reduceAdd, Nat.reduceMul, Nat.reduceSub, Nat.reduceLT, Nat.reduceLeDiff, Nat.reduceEqDiff, Nat.reduceBEq, Nat.reduceDiv, Nat.reduceMod, ↓reduceIte, reduceCtorEq, Int.reduceToNat, Int.reduceLT, Int.reduceLE, TFExP, SeqQ, BlkQ, LoopQ, BodyQ, k2, g1, bl_len, hbQ, FR])
        | (first | refine CallV.fn (r1) (Sm.out ?_) | refine ExF.mk (r1) (Sm.out ?_) | refine ExG.mk (fun _ => r1) (Sm.out ?_) | refine ExG.mkJ (fun _ => r1) (Sm.out ?_) | refine ExG.mkI (Ob.out ?_) (fun _ => r1) (Sm.out ?_))
        | (refine WP.seq fun K hK => ?_)
        | (refine WP.region (rvc_sound _ _ (Sm.out ?_)))
        | (refine WP.drawK rfl mixed (by decide +kernel) (Sm.out ?_))
        | (refine Ob.mk ?_; focus (first | assumption | omega | decide | trivial | (intro hob; simp only [hob, ZF]; done) | (intros; (repeat' refine And.intro ?_ ?_) <;> first | assumption | omega | trivial | decide) | (intros; simp only [ZE] at *; (repeat' refine And.intro ?_ ?_) <;> first | assumption | omega | trivial)))
        | (refine And.intro (Ob.out ?_) ?_)
        | (refine WP.block ?_)
        | (refine WP.cond rfl (fun hc => ?_) (fun hc => ?_) <;> (try simp only [ZC, reduceCtorEq, ZD] at hc) <;> (try (exact absurd hc (by decide))) <;> (try (exfalso; omega)))
        | ((first | refine WP.skip ?_ | refine WP.exit ?_); simp only [SeqQ, BlkQ, LoopQ, BodyQ, ↓reduceIte, Nat.reduceEqDiff, reduceCtorEq, look, true_and])
        | (refine WP.ret (Sm.out ?_))
        | (first | refine ExG.no (Sm.out ?_) | refine Or.inl (ExG.no (Sm.out ?_)) | refine Or.inl (And.intro (fun hg => absurd hg (by decide)) (ExG.no (Sm.out ?_))))
        | (refine Rt.mk ?_; refine And.intro ?_ ?_ <;> (intro hg; first | exact absurd hg (by decide) | refine Sm.out ?_))
        | (refine Nu.mk ?_; first | (fail_if_success (have := nb1)); intro nb1 | (fail_if_success (have := nb2)); intro nb2 | (fail_if_success (have := nb3)); intro nb3 | (fail_if_success (have := nb4)); intro nb4 | (fail_if_success (have := nb5)); intro nb5 | intro nbz)
        | (refine Fr.mk ?_; intro hfr; replace FR := And.intro hfr FR; clear hfr; refine Sm.out ?_)
        | (refine Two.mk ?_ ?_)
        | (refine Cs.mk ?_; intro hcs; first | exact False.elim hcs | (exfalso; omega) | (refine Sm.out ?_))
        | go_step
        | omega
        | (simp only [maxLen_eq]; omega)
      exact ⟨j + 1, by omega, by omega, Sub.pick (by simp only [hnext]; simp [pickB, hget, hdel, FR]) (by simp [look, hnext, e5, e6, hi3, bl])⟩
  · obtain rfl : j = a.length := by omega
    have e0 : ((a.length - a.length : Nat) : Int) - 1 = -1 := by omega
    have k1 : decide ((-1 : Int) ≥ 0) = false := by decide
    have e5 : (bl Q).take a.length = bl Q := List.take_of_length_le (by rw [hbQ]; omega)
    first | (have FRx := FR; clear FRx) | (have FR : ¬ ((1 : Nat) = 0) := Nat.one_ne_zero)
    repeat' first
      | (refine Sm.mk ?_; try simp -dsimp only [ZK, rvc, drawF, headN, pureH, stp, dvc, calleeOf, gcall, pev, eff, newB, okd, og, ogs, ogo, ogp, slv, bltv, opd, litv, strip, one, both, putE, St.put, look, gdOf, gdv, picka, pickv, pickw, binv, bini, bins, binb, binp, binq, isSlT, bina, shp, eqCells, unv, convv, nilv, faddv, addp, idxav, idxp, load1, load1m, loadn, loadnm, loadv, hget, hset, hrep, hdel, slicev, bnd, shift1, lenv, capv, IntKind.bits, extractv, fieldv, indexv, min2v, max2v, mkiv, cellsA, fillA, buildv, stC, oneC, rowMB, intsA, plN, appE, appZ, appC, appNZ, appNC, VwL, srcC, srcZ, srcM, isBoolT, isPtrT, isSliceT, uOk, Value.oneCell', Nat.reducePow, Int.reducePow, Nat.reduceAdd, Nat.reduceMul, Nat.reduceSub, Nat.reduceLT, Nat.reduceLeDiff, Nat.reduceEqDiff, Nat.reduceBEq, Nat.reduceDiv, Nat.reduceMod, ↓reduceIte, reduceCtorEq, Int.reduceToNat, Int.reduceLT, Int.reduceLE, TFExP, SeqQ, BlkQ, LoopQ, BodyQ, e0, k1, hbQ, FR])
      | (refine WP.seq fun K hK => ?_)
      | (refine WP.region (rvc_sound _ _ (Sm.out ?_)))
      | (refine WP.drawK rfl mixed (by decide +kernel) (Sm.out ?_))
      | (refine Ob.mk ?_; focus (first | assumption | omega | decide | trivial | (intro hob; simp only [hob, ZF]; done) | (intros; (repeat' refine And.intro ?_ ?_) <;> first | assumption | omega | trivial | decide) | (intros; simp only [ZE] at *; (repeat' refine And.intro ?_ ?_) <;> first | assumption | omega | trivial)))
      | (refine And.intro (Ob.out ?_) ?_)
      | (refine WP.block ?_)
      | (refine WP.cond rfl (fun hc => ?_) (fun hc => ?_) <;> (try simp only [ZC, reduceCtorEq, ZD] at hc) <;> (try (exact absurd hc (by decide))) <;> (try (exfalso; omega)))
      | ((first | refine WP.skip ?_ | refine WP.exit ?_); simp only [SeqQ, BlkQ, LoopQ, BodyQ, ↓reduceIte, Nat.reduceEqDiff, reduceCtorEq, look, true_and])
      | (refine WP.ret (Sm.out ?_))
      | (first | refine ExG.no (Sm.out ?_) | refine Or.inl (ExG.no (Sm.out ?_)) | refine Or.inl (And.intro (fun hg => absurd hg (by decide)) (ExG.no (Sm.out ?_))))
      | (refine Rt.mk ?_; refine And.intro ?_ ?_ <;> (intro hg; first | exact absurd hg (by decide) | refine Sm.out ?_))
      | (refine Nu.mk ?_; first | (fail_if_success (have := nb1)); intro nb1 | (fail_if_success (have := nb2)); intro nb2 | (fail_if_success (have := nb3)); intro nb3 | (fail_if_success (have := nb4)); intro nb4 | (fail_if_success (have := nb5)); intro nb5 | intro nbz)
      | (refine Fr.mk ?_; intro hfr; replace FR := And.intro hfr FR; clear hfr; refine Sm.out ?_)
      | (refine Two.mk ?_ ?_)
      | (refine Cs.mk ?_; intro hcs; first | exact False.elim hcs | (exfalso; omega) | (refine Sm.out ?_))
      | go_step
      | omega
      | (simp only [maxLen_eq]; omega)
    (refine OutQ.wk (Wk.freezeC (nb1) (1) (by simp only [ZK, rvc, drawF, headN, pureH, stp, dvc, calleeOf, gcall, pev, eff, newB, okd, og, ogs, ogo, ogp, slv, bltv, opd, litv, strip, one, both, putE, St.put, look, gdOf, gdv, picka, pickv, pickw, binv, bini, bins, binb, binp, binq, isSlT, bina, shp, eqCells, unv, convv, nilv, faddv, addp, idxav, idxp, load1, load1m, loadn, loadnm, loadv, hget, hset, hrep, hdel, slicev, bnd, shift1, lenv, capv, IntKind.bits, extractv, fieldv, indexv, min2v, max2v, mkiv, cellsA, fillA, buildv, stC, oneC, rowMB, intsA, plN, appE, appZ, appC, appNZ, appNC, VwL, srcC, srcZ, srcM, isBoolT, isPtrT, isSliceT, uOk, Value.oneCell', Nat.reducePow, Int.reducePow, Nat.reduceAdd, Nat.reduceMul, Nat.reduceSub, Nat.reduceLT, Nat.reduceLeDiff, Nat.reduceEqDiff, Nat.reduceBEq, Nat.reduceDiv, Nat.reduceMod, ↓reduceIte, reduceCtorEq, Int.reduceToNat, Int.reduceLT, Int.reduceLE, TFExP, SeqQ, BlkQ, LoopQ, BodyQ, hbQ, e5, FR]; first | done | rfl)) ?_; simp only [frzCE, frzC, ZK, rvc, drawF, headN, pureH, stp, dvc, calleeOf, gcall, pev, eff, newB, okd, og, ogs, ogo, ogp, slv, bltv, opd, litv, strip, one, both, putE, St.put, look, gdOf, gdv, picka, pickv, pickw, binv, bini, bins, binb, binp, binq, isSlT, bina, shp, eqCells, unv, convv, nilv, faddv, addp, idxav, idxp, load1, load1m, loadn, loadnm, loadv, hget, hset, hrep, hdel, slicev, bnd, shift1, lenv, capv, IntKind.bits, extractv, fieldv, indexv, min2v, max2v, mkiv, cellsA, fillA, buildv, stC, oneC, rowMB, intsA, plN, appE, appZ, appC, appNZ, appNC, VwL, srcC, srcZ, srcM, isBoolT, isPtrT, isSliceT, uOk, Value.oneCell', Nat.reducePow, Int.reducePow, Nat.reduceAdd, Nat.reduceMul, Nat.reduceSub, Nat.reduceLT, Nat.reduceLeDiff, Nat.reduceEqDiff, Nat.reduceBEq, Nat.reduceDiv, Nat.reduceMod, ↓reduceIte, reduceCtorEq, Int.reduceToNat, Int.reduceLT, Int.reduceLE, TFExP, SeqQ, BlkQ, LoopQ, BodyQ, hbQ, e5, FR])
    (refine OutQ.all ?_ ?_; (focus (simp only [resv, ZK, look, loadv, loadn, loadnm, load1, load1m, hget, ↓reduceIte, Nat.reduceEqDiff, Nat.reduceAdd, Nat.reduceMul, Nat.reduceLeDiff, Nat.reduceLT, reduceCtorEq, TFExP, hQ, hL])); (try simp only [resv, resA, Fn, ZK, look, loadv, loadn, loadnm, load1, load1m, hget, ↓reduceIte, Nat.reduceEqDiff, Nat.reduceAdd, Nat.reduceMul, Nat.reduceLeDiff, Nat.reduceLT, reduceCtorEq, TFExP, hQ, hL]); (try simp [resA, Fn, look, hQ, hL]))
    omega
end Go.Proofs.Yteadenldfaddfaa
namespace Go.Proofs.Yteadenldfaddfaa
open Go
set_option linter.unusedVariables false
set_option linter.unusedSimpArgs false
theorem wide_of (h l : Nat) (hl : l < 18446744073709551616) : (.agg [nu h, nu l] : AV) = wideA (h * 18446744073709551616 + l) := by
  unfold wideA
  rw [(hilo h l hl).1, (hilo h l hl).2]
theorem bitsW_ct (a : Nat) (ha : a < 340282366920938463463374607431768211456) : ACt Try.prog 11 [wideA a] [] (Fn (.sl 128 (bl (bitsN a 128)))) := by
  have := bits_ct (a / 18446744073709551616) (a % 18446744073709551616) (by omega) (by omega)
  rw [show a / 18446744073709551616 * 18446744073709551616 + a % 18446744073709551616 = a by omega] at this
  exact this
theorem bits_val (a : Nat) (ha : a < 340282366920938463463374607431768211456) : valB (bitsN a 128) = a := by
  have p : (2 : Nat) ^ 128 = 340282366920938463463374607431768211456 := by decide
  rw [valB_bitsN, p, Nat.mod_eq_of_lt ha]
end Go.Proofs.Yteadenldfaddfaa
namespace Go.Proofs.Yteadenldfaddfaa
open Go
set_option linter.unusedVariables false
set_option linter.unusedSimpArgs false
def isD (x : Int) : Bool := decide (48 ≤ x) && decide (x ≤ 57)
def okZ (zs : List Int) : Bool := !zs.isEmpty && zs.all isD && !(zs.getD 0 0 == 48 && decide (1 < zs.length))
def decV (zs : List Int) : Nat := zs.foldl (fun a d => a * 10 + (d - 48).toNat) 0
theorem decV_snoc (ys : List Int) (d : Int) : decV (ys ++ [d]) = decV ys * 10 + (d - 48).toNat := by simp [decV, List.foldl_append]
theorem decV_take (zs : List Int) (i : Nat) (h : i < zs.length) : decV (zs.take (i + 1)) = decV (zs.take i) * 10 + (zs.getD i 0 - 48).toNat := by
  rw [List.take_add_one, List.getElem?_eq_getElem h]
  rw [show (some zs[i]).toList = [zs[i]] from rfl, decV_snoc]
  simp [List.getD_eq_getElem?_getD, List.getElem?_eq_getElem h]
theorem decV_mono (zs : List Int) : ∀ k i, i + k = zs.length → decV (zs.take i) ≤ decV zs
  | 0, i, h => by rw [List.take_of_length_le (by omega)]; exact Nat.le_refl _
  | k + 1, i, h => by
    have h1 := decV_mono zs k (i + 1) (by omega)
    have h2 := decV_take zs i (by omega)
    omega
theorem decV_le {zs : List Int} {i : Nat} (h : i ≤ zs.length) : decV (zs.take i) ≤ decV zs := decV_mono zs (zs.length - i) i (by omega)
theorem isD_of {zs : List Int} (h : zs.all isD = true) {i : Nat} (hi : i < zs.length) : 48 ≤ zs.getD i 0 ∧ zs.getD i 0 ≤ 57 := by
  have := List.all_eq_true.1 h _ (List.getElem_mem hi)
  simp only [isD, Bool.and_eq_true, decide_eq_true_eq] at this
  simpa [List.getD_eq_getElem?_getD, List.getElem?_eq_getElem hi] using this
structure OkZ (zs : List Int) : Prop where
  ne : 0 < zs.length
  d : ∀ i, i < zs.length → 48 ≤ zs.getD i 0 ∧ zs.getD i 0 ≤ 57
  z : zs.getD 0 0 = 48 → zs.length = 1
theorem okZ_iff (zs : List Int) : okZ zs = true ↔ OkZ zs := by
  unfold okZ
  constructor
  · intro h
    simp only [Bool.and_eq_true, Bool.not_eq_true', Bool.and_eq_false_imp, beq_iff_eq, decide_eq_false_iff_not] at h
    obtain ⟨⟨h1, h2⟩, h3⟩ := h
    have h0 : 0 < zs.length := by
      cases zs with
      | nil => simp at h1
      | cons a r => simp
    exact ⟨h0, fun i hi => isD_of h2 hi, fun h => by have := h3 h; omega⟩
  · intro h
    have h1 : zs.isEmpty = false := by
      cases zs with
      | nil => have := h.ne; simp at this
      | cons a r => rfl
    have h2 : zs.all isD = true := by
      rw [List.all_eq_true]
      intro x hx
      obtain ⟨i, hi, rfl⟩ := List.mem_iff_getElem.1 hx
      have := h.d i hi
      simpa [isD, List.getD_eq_getElem?_getD, List.getElem?_eq_getElem hi] using this
    have h3 : (zs.getD 0 0 == 48 && decide (1 < zs.length)) = false := by
      by_cases hz : zs.getD 0 0 = 48
      · have := h.z hz; simp [this]
      · rw [beq_eq_false_iff_ne.2 hz]; rfl
    rw [h1, h2, h3]; rfl
theorem OkZ.init {ys : List Int} {d : Int} (h : OkZ (ys ++ [d])) (hy : 0 < ys.length) : OkZ ys ∧ ys.getD 0 0 ≠ 48 := by
  have e : ∀ i, i < ys.length → (ys ++ [d]).getD i 0 = ys.getD i 0 := fun i hi => by simp [List.getD_eq_getElem?_getD, List.getElem?_append_left hi]
  have hz : ys.getD 0 0 ≠ 48 := fun h0 => by
    have := h.z (by rw [e 0 hy]; exact h0)
    rw [List.length_append, List.length_singleton] at this; omega
  exact ⟨⟨hy, fun i hi => by rw [← e i hi]; exact h.d i (by simp; omega), fun h0 => absurd h0 hz⟩, hz⟩
theorem OkZ.pos {zs : List Int} : ∀ n, zs.length = n → OkZ zs → zs.getD 0 0 ≠ 48 → 10 ^ (n - 1) ≤ decV zs := by
  intro n
  induction n generalizing zs with
  | zero => intro h hk; have := hk.ne; omega
  | succ n ih =>
    intro h hk hz
    obtain ⟨ys, d, rfl⟩ : ∃ ys d, zs = ys ++ [d] := ⟨zs.dropLast, zs.getLast (by intro h0; simp [h0] at h), (List.dropLast_concat_getLast _).symm⟩
    have hl : ys.length = n := by simpa using h
    rw [decV_snoc]
    by_cases hy : 0 < ys.length
    · obtain ⟨h1, h2⟩ := hk.init hy
      have := ih hl h1 h2
      obtain ⟨m, rfl⟩ : ∃ m, n = m + 1 := ⟨n - 1, by omega⟩
      simp only [Nat.add_sub_cancel] at this ⊢
      rw [Nat.pow_succ]
      omega
    · have hy0 : ys = [] := List.eq_nil_of_length_eq_zero (by omega)
      subst hy0
      have hn : n = 0 := by simpa using hl.symm
      subst hn
      have hd := hk.d 0 (by simp)
      simp at hd hz ⊢
      omega
theorem digF_succ (f n : Nat) : digF (f + 1) n = (if n / 10 = 0 then [] else digF f (n / 10)) ++ [((48 + n % 10 : Nat) : Int)] := rfl
/-- what is written in digits is those digits of its value -/
theorem OkZ.digits {zs : List Int} : ∀ n f, zs.length = n → n ≤ f → OkZ zs → zs = digF f (decV zs) := by
  intro n
  induction n generalizing zs with
  | zero => intro f h _ hk; have := hk.ne; omega
  | succ n ih =>
    intro f h hf hk
    obtain ⟨g, rfl⟩ : ∃ g, f = g + 1 := ⟨f - 1, by omega⟩
    obtain ⟨ys, d, rfl⟩ : ∃ ys d, zs = ys ++ [d] := ⟨zs.dropLast, zs.getLast (by intro h0; simp [h0] at h), (List.dropLast_concat_getLast _).symm⟩
    have hl : ys.length = n := by simpa using h
    have hd := hk.d n (by simp; omega)
    have e : (ys ++ [d]).getD n 0 = d := by simp [List.getD_eq_getElem?_getD, ← hl]
    rw [e] at hd
    rw [decV_snoc, digF_succ]
    have q : (decV ys * 10 + (d - 48).toNat) / 10 = decV ys := by omega
    have r : ((48 + (decV ys * 10 + (d - 48).toNat) % 10 : Nat) : Int) = d := by omega
    rw [q, r]
    by_cases hy : 0 < ys.length
    · obtain ⟨h1, h2⟩ := hk.init hy
      have hp := OkZ.pos _ rfl h1 h2
      have : 0 < 10 ^ (ys.length - 1) := Nat.pow_pos (by omega)
      rw [if_neg (by omega), ← ih g hl (by omega) h1]
    · have hy0 : ys = [] := List.eq_nil_of_length_eq_zero (by omega)
      subst hy0
      rw [if_pos (by simp [decV])]
theorem digF_len : ∀ f n, (digF f n).length ≤ f
  | 0, n => by simp [digF]
  | f + 1, n => by
    rw [digF_succ]; split
    · simp
    · have := digF_len f (n / 10); simp; omega
theorem digF_ok : ∀ f n, 1 ≤ f → n < 10 ^ f → OkZ (digF f n) ∧ decV (digF f n) = n ∧ (0 < n → (digF f n).getD 0 0 ≠ 48)
  | f + 1, n, _, hn => by
    rw [digF_succ]
    by_cases hq : n / 10 = 0
    · rw [if_pos hq, List.nil_append]
      refine ⟨⟨by simp, fun i hi => ?_, fun _ => by simp⟩, ?_, fun h0 => ?_⟩
      · obtain rfl : i = 0 := by simpa using hi
        simp; omega
      · simp [decV]; omega
      · simp; omega
    · rw [if_neg hq]
      have hf : 1 ≤ f := by
        rcases Nat.eq_zero_or_pos f with h | h
        · subst h; simp at hn; omega
        · exact h
      obtain ⟨h1, h2, h3⟩ := digF_ok f (n / 10) hf (by rw [Nat.pow_succ] at hn; omega)
      have h4 := h3 (by omega)
      have e : ∀ i, i < (digF f (n / 10)).length → (digF f (n / 10) ++ [((48 + n % 10 : Nat) : Int)]).getD i 0 = (digF f (n / 10)).getD i 0 := fun i hi => by simp [List.getD_eq_getElem?_getD, List.getElem?_append_left hi]
      have hne := h1.ne
      refine ⟨⟨by simp, fun i hi => ?_, fun h0 => ?_⟩, ?_, fun _ => ?_⟩
      · by_cases hi' : i < (digF f (n / 10)).length
        · rw [e i hi']; exact h1.d i hi'
        · have : i = (digF f (n / 10)).length := by simp at hi; omega
          subst this
          simp [List.getD_eq_getElem?_getD]; omega
      · rw [e 0 hne] at h0; exact absurd h0 h4
      · rw [decV_snoc, h2]; omega
      · rw [e 0 hne]; exact h4
theorem big39 {zs : List Int} (h : OkZ zs) (hl : 39 < zs.length) : ¬ decV zs < 340282366920938463463374607431768211456 := by
  have hz : zs.getD 0 0 ≠ 48 := fun h0 => by have := h.z h0; omega
  have := OkZ.pos _ rfl h hz
  have h2 : 10 ^ 39 ≤ 10 ^ (zs.length - 1) := Nat.pow_le_pow_right (by omega) (by omega)
  omega
/-- what is read of a text -/
def rdA (zs : List Int) : AV := if okZ zs = true then .tup [wideV (decV zs), iv .i64 (codeV (decV zs))] else .tup [.agg [iv .u64 0, iv .u64 0], iv .i64 5]
end Go.Proofs.Yteadenldfaddfaa
