/-
  The walks and the laws that the statement leans on, part 10.
-/
import Derived.Test.YteadenldfaddfaaZ9
namespace Go.Proofs.Yteadenldfaddfaa
open Go
set_option linter.unusedVariables false
set_option linter.unusedSimpArgs false
theorem TFExU : ((((((type_of% tyc0) ∧ (type_of% tyc3)) ∧ ((type_of% zmb3) ∧ (type_of% tyc4))) ∧ (((type_of% zmb4) ∧ (type_of% tyc9)) ∧ ((type_of% zmb9) ∧ (type_of% tyc24)))) ∧ ((((type_of% zmb24) ∧ (type_of% tyc27)) ∧ ((type_of% elt27) ∧ (type_of% mkz27))) ∧ (((type_of% mkc27) ∧ (type_of% apT27)) ∧ ((type_of% elk27) ∧ (type_of% zmb27))))) ∧ (((((type_of% tyc31) ∧ (type_of% foff31_0)) ∧ ((type_of% fpart31_0) ∧ (type_of% foff31_1))) ∧ (((type_of% fpart31_1) ∧ (type_of% fe31)) ∧ ((type_of% zmb31) ∧ (type_of% bldT31)))) ∧ ((((type_of% tyc43) ∧ (type_of% Try.underlying0)) ∧ ((type_of% Try.underlying3) ∧ (type_of% Try.underlying4))) ∧ (((type_of% Try.underlying9) ∧ (type_of% Try.underlying24)) ∧ ((type_of% Try.underlying27) ∧ ((type_of% Try.underlying31) ∧ (type_of% Try.underlying43))))))) :=
  ⟨⟨⟨⟨⟨tyc0, tyc3⟩, ⟨zmb3, tyc4⟩⟩, ⟨⟨zmb4, tyc9⟩, ⟨zmb9, tyc24⟩⟩⟩, ⟨⟨⟨zmb24, tyc27⟩, ⟨elt27, mkz27⟩⟩, ⟨⟨mkc27, apT27⟩, ⟨elk27, zmb27⟩⟩⟩⟩, ⟨⟨⟨⟨tyc31, foff31_0⟩, ⟨fpart31_0, foff31_1⟩⟩, ⟨⟨fpart31_1, fe31⟩, ⟨zmb31, bldT31⟩⟩⟩, ⟨⟨⟨tyc43, Try.underlying0⟩, ⟨Try.underlying3, Try.underlying4⟩⟩, ⟨⟨Try.underlying9, Try.underlying24⟩, ⟨Try.underlying27, ⟨Try.underlying31, Try.underlying43⟩⟩⟩⟩⟩⟩
set_option maxRecDepth 8000 in
set_option maxHeartbeats 4000000 in
theorem prints_ct (n : Nat) (hn : n < 340282366920938463463374607431768211456) (zs : List Int) (hb : By zs) : ACt Try.prog 7 [wideA n, stz zs] [] (fun r _ => r = bv true) := by
  refine ACt.intro Try.func7 rfl (by kernel_rfl) (by simp [Try.ntmps7]) (fun cx => ?_)
  simp only [argE, Try.ntmps7, Try.results7]
  have hs := bstr_size zs
  by_cases hl : 200 < zs.length
  · have k0 : decide ((zs.length : Int) > 200) = true := by simp; omega
    first | (have FRx := FR; clear FRx) | (have FR : Sm (¬ ((1 : Nat) = 0)) := Sm.mk Nat.one_ne_zero)
    repeat' first
      | (refine Sm.mk ?_; try simp -dsimp only [ZK, rvc, drawF, headN, pureH, stp, dvc, calleeOf, gcall, pev, eff, newB, okd, og, ogs, ogo, ogp, slv, bltv, opd, litv, strip, one, both, putE, St.put, look, gdOf, gdv, picka, pickv, pickw, binv, bini, bins, binb, binp, binq, isSlT, bina, shp, eqCells, unv, convv, nilv, faddv, addp, idxav, idxp, load1, load1m, loadn, loadnm, loadv, hget, hset, hrep, hdel, slicev, bnd, shift1, lenv, capv, IntKind.bits, extractv, fieldv, indexv, min2v, max2v, mkiv, cellsA, fillA, buildv, stC, oneC, rowMB, intsA, plN, appE, appZ, appC, appNZ, appNC, VwL, srcC, srcZ, srcM, isBoolT, isPtrT, isSliceT, uOk, Value.oneCell', Nat.reducePow, Int.reducePow, Nat.reduceAdd, Nat.reduceMul, Nat.reduceSub, Nat.reduceLT, Nat.reduceLeDiff, Nat.reduceEqDiff, Nat.reduceBEq, Nat.reduceDiv, Nat.reduceMod, ↓reduceIte, reduceCtorEq, Int.reduceToNat, Int.reduceLT, Int.reduceLE, TFExU, SeqQ, BlkQ, LoopQ, BodyQ, hs, k0, FR.out])
      | (first | refine CallV.fn (awake_ct) (Sm.out ?_) | refine ExF.mk (awake_ct) (Sm.out ?_) | refine ExG.mk (fun _ => awake_ct) (Sm.out ?_) | refine ExG.mkJ (fun _ => awake_ct) (Sm.out ?_) | refine ExG.mkI (Ob.out ?_) (fun _ => awake_ct) (Sm.out ?_))
      | (refine WP.seq fun K hK => ?_)
      | (refine WP.region (rvc_sound _ _ (Sm.out ?_)))
      | (refine WP.drawK rfl mixed (by decide +kernel) (Sm.out ?_))
      | (refine Ob.mk ?_; focus (first | assumption | omega | decide | trivial | (intro hob; simp only [hob, ZF]; done) | (intros; (repeat' refine And.intro ?_ ?_) <;> first | assumption | omega | trivial | decide) | (intros; simp only [ZE] at *; (repeat' refine And.intro ?_ ?_) <;> first | assumption | omega | trivial)))
      | (refine And.intro (Ob.out ?_) ?_)
      | (refine WP.block ?_)
      | (refine WP.cond rfl (fun hc => ?_) (fun hc => ?_) <;> (try simp only [ZC, reduceCtorEq, ZD] at hc) <;> (try (exact absurd hc (by decide))) <;> (try (exfalso; omega)))
      | ((first | refine WP.skip ?_ | refine WP.exit ?_); simp only [SeqQ, BlkQ, LoopQ, BodyQ, ↓reduceIte, Nat.reduceEqDiff, reduceCtorEq, look, true_and])
      | (refine WP.ret (Sm.out ?_))
      | (first | refine ExG.no (Sm.out ?_) | refine Or.inl (ExG.no (Sm.out ?_)) | refine Or.inl (And.intro (fun hg => absurd hg (by decide)) (ExG.no (Sm.out ?_))))
      | (refine Rt.mk ?_; refine And.intro ?_ ?_ <;> (intro hg; first | exact absurd hg (by decide) | refine Sm.out ?_))
      | (refine Nu.mk ?_; first | (fail_if_success (have := nb1)); intro nb1 | (fail_if_success (have := nb2)); intro nb2 | (fail_if_success (have := nb3)); intro nb3 | (fail_if_success (have := nb4)); intro nb4 | (fail_if_success (have := nb5)); intro nb5 | (fail_if_success (have := nb6)); intro nb6 | (fail_if_success (have := nb7)); intro nb7 | (fail_if_success (have := nb8)); intro nb8 | intro nbz)
      | (refine Fr.mk ?_; intro hfr; (first | (have hFRb : _ ≤ _ ∧ _ ≤ _ := And.intro hfr.1 hfr.2.1) | (have hFRb : _ ≤ _ := hfr.1) | skip); replace FR := Sm.mk (And.intro hfr FR.out); clear hfr; refine Sm.out ?_)
      | (refine Two.mk ?_ ?_)
      | (refine Cs.mk ?_; intro hcs; first | exact False.elim hcs | (exfalso; omega) | (refine Sm.out ?_))
      | go_step
      | omega
      | (simp only [maxLen_eq]; omega)
    (refine OutQ.all ?_ ?_; (focus (simp only [resv, ZK, look, loadv, loadn, loadnm, load1, load1m, hget, ↓reduceIte, Nat.reduceEqDiff, Nat.reduceAdd, Nat.reduceMul, Nat.reduceLeDiff, Nat.reduceLT, reduceCtorEq, TFExU])); (try simp only [resv, resA, Fn, ZK, look, loadv, loadn, loadnm, load1, load1m, hget, ↓reduceIte, Nat.reduceEqDiff, Nat.reduceAdd, Nat.reduceMul, Nat.reduceLeDiff, Nat.reduceLT, reduceCtorEq, TFExU]); (try simp [resA, Fn, look]))
  have k0 : decide ((zs.length : Int) > 200) = false := by simp; omega
  have p1 := print_ct n hn
  obtain ⟨d1, d2, d3⟩ := digF_ok 39 n (by omega) (by omega)
  have dl := digF_len 39 n
  have r1 := read_ct (digF 39 n) (fun i hi => by have := d1.d i hi; omega) (by omega)
  have eR : rdA (digF 39 n) = .tup [wideA n, iv .i64 0] := by
    unfold rdA; rw [if_pos ((okZ_iff _).2 d1), d2, codeV_in hn]
    unfold wideV
    rw [hiV_in hn, loV_in hn]
  rw [eR, show stz (digF 39 n) = .lit (.string (prt n)) from rfl] at r1
  have r2 := read_ct zs hb (by omega)
  have r3 := rread_ct zs hb (by omega)
  have b1 := bitsW_ct n hn
  have g1 := rdigits_ct n hn
  obtain ⟨P, hP⟩ : ∃ P, P = prt n := ⟨_, rfl⟩
  rw [← hP] at p1 r1 g1
  obtain ⟨T, hT⟩ : ∃ T, T = bitsN n 128 := ⟨_, rfl⟩
  rw [← hT] at b1 g1
  obtain ⟨A, hA⟩ : ∃ A, A = n / 18446744073709551616 := ⟨_, rfl⟩
  obtain ⟨B, hB⟩ : ∃ B, B = n % 18446744073709551616 := ⟨_, rfl⟩
  have ew : wideA n = .agg [nu A, nu B] := by rw [hA, hB]
  rw [ew] at p1 r1 b1 ⊢
  have y1 : ∀ x : List UInt8, (x == x) = true := fun x => beq_self_eq_true x
  have y2 : ∀ x : Int, (x == x) = true := fun x => beq_self_eq_true x
  have hw : (∃ v : Nat, v < 340282366920938463463374607431768211456 ∧ rdA zs = .tup [wideA v, iv .i64 0] ∧ bstr zs = prt v) ∨ ∃ c : Int, c ≠ 0 ∧ rdA zs = .tup [.agg [iv .u64 0, iv .u64 0], iv .i64 c] := by
    unfold rdA
    by_cases ho : okZ zs = true
    · rw [if_pos ho]
      have hk := (okZ_iff zs).1 ho
      by_cases hv : decV zs < 340282366920938463463374607431768211456
      · refine .inl ⟨decV zs, hv, ?_, ?_⟩
        · rw [codeV_in hv]; unfold wideV; rw [hiV_in hv, loV_in hv]
        · have h39 : ¬ 39 < zs.length := fun h => big39 hk h hv
          unfold prt
          rw [← hk.digits _ 39 rfl (by omega)]
      · refine .inr ⟨3, by omega, ?_⟩
        rw [codeV_out hv]; unfold wideV; rw [hiV_out hv, loV_out hv]; rfl
    · rw [if_neg ho]; exact .inr ⟨5, by omega, rfl⟩
  obtain ⟨S, hS⟩ : ∃ S, S = bstr zs := ⟨_, rfl⟩
  unfold stz at r2 r3 ⊢
  rw [← hS] at r2 r3 hs hw ⊢
  rcases hw with ⟨v, hv, e1, e2⟩ | ⟨c, hc0, e1⟩
  · rw [e1] at r2 r3
    have p2 := print_ct v hv
    rw [← e2] at p2
    obtain ⟨C, hC⟩ : ∃ C, C = v / 18446744073709551616 := ⟨_, rfl⟩
    obtain ⟨D, hD⟩ : ∃ D, D = v % 18446744073709551616 := ⟨_, rfl⟩
    have ew2 : wideA v = .agg [nu C, nu D] := by rw [hC, hD]
    rw [ew2] at r2 r3 p2
    first | (have FRx := FR; clear FRx) | (have FR : Sm (¬ ((1 : Nat) = 0)) := Sm.mk Nat.one_ne_zero)
    repeat' first
      | (refine Sm.mk ?_; try simp -dsimp only [ZK, rvc, drawF, headN, pureH, stp, dvc, calleeOf, gcall, pev, eff, newB, okd, og, ogs, ogo, ogp, slv, bltv, opd, litv, strip, one, both, putE, St.put, look, gdOf, gdv, picka, pickv, pickw, binv, bini, bins, binb, binp, binq, isSlT, bina, shp, eqCells, unv, convv, nilv, faddv, addp, idxav, idxp, load1, load1m, loadn, loadnm, loadv, hget, hset, hrep, hdel, slicev, bnd, shift1, lenv, capv, IntKind.bits, extractv, fieldv, indexv, min2v, max2v, mkiv, cellsA, fillA, buildv, stC, oneC, rowMB, intsA, plN, appE, appZ, appC, appNZ, appNC, VwL, srcC, srcZ, srcM, isBoolT, isPtrT, isSliceT, uOk, Value.oneCell', Nat.reducePow, Int.reducePow, Nat.reduceAdd, Nat.reduceMul, Nat.reduceSub, Nat.reduceLT, Nat.reduceLeDiff, Nat.reduceEqDiff, Nat.reduceBEq, Nat.reduceDiv, Nat.reduceMod, ↓reduceIte, reduceCtorEq, Int.reduceToNat, Int.reduceLT, Int.reduceLE, TFExU, SeqQ, BlkQ, LoopQ, BodyQ, k0, hs, y1, y2, FR.out])
      | (first | refine CallV.fn (awake_ct) (Sm.out ?_) | refine ExF.mk (awake_ct) (Sm.out ?_) | refine ExG.mk (fun _ => awake_ct) (Sm.out ?_) | refine ExG.mkJ (fun _ => awake_ct) (Sm.out ?_) | refine ExG.mkI (Ob.out ?_) (fun _ => awake_ct) (Sm.out ?_))
      | (first | refine CallV.fn (p1) (Sm.out ?_) | refine ExF.mk (p1) (Sm.out ?_) | refine ExG.mk (fun _ => p1) (Sm.out ?_) | refine ExG.mkJ (fun _ => p1) (Sm.out ?_) | refine ExG.mkI (Ob.out ?_) (fun _ => p1) (Sm.out ?_))
      | (first | refine CallV.fn (r1) (Sm.out ?_) | refine ExF.mk (r1) (Sm.out ?_) | refine ExG.mk (fun _ => r1) (Sm.out ?_) | refine ExG.mkJ (fun _ => r1) (Sm.out ?_) | refine ExG.mkI (Ob.out ?_) (fun _ => r1) (Sm.out ?_))
      | (first | refine CallV.fn (r2) (Sm.out ?_) | refine ExF.mk (r2) (Sm.out ?_) | refine ExG.mk (fun _ => r2) (Sm.out ?_) | refine ExG.mkJ (fun _ => r2) (Sm.out ?_) | refine ExG.mkI (Ob.out ?_) (fun _ => r2) (Sm.out ?_))
      | (first | refine CallV.fn (r3) (Sm.out ?_) | refine ExF.mk (r3) (Sm.out ?_) | refine ExG.mk (fun _ => r3) (Sm.out ?_) | refine ExG.mkJ (fun _ => r3) (Sm.out ?_) | refine ExG.mkI (Ob.out ?_) (fun _ => r3) (Sm.out ?_))
      | (first | refine CallV.fn (b1) (Sm.out ?_) | refine ExF.mk (b1) (Sm.out ?_) | refine ExG.mk (fun _ => b1) (Sm.out ?_) | refine ExG.mkJ (fun _ => b1) (Sm.out ?_) | refine ExG.mkI (Ob.out ?_) (fun _ => b1) (Sm.out ?_))
      | (first | refine CallV.fn (g1) (Sm.out ?_) | refine ExF.mk (g1) (Sm.out ?_) | refine ExG.mk (fun _ => g1) (Sm.out ?_) | refine ExG.mkJ (fun _ => g1) (Sm.out ?_) | refine ExG.mkI (Ob.out ?_) (fun _ => g1) (Sm.out ?_))
      | (first | refine CallV.fn (p2) (Sm.out ?_) | refine ExF.mk (p2) (Sm.out ?_) | refine ExG.mk (fun _ => p2) (Sm.out ?_) | refine ExG.mkJ (fun _ => p2) (Sm.out ?_) | refine ExG.mkI (Ob.out ?_) (fun _ => p2) (Sm.out ?_))
      | (refine WP.seq fun K hK => ?_)
      | (refine WP.region (rvc_sound _ _ (Sm.out ?_)))
      | (refine WP.drawK rfl mixed (by decide +kernel) (Sm.out ?_))
      | (refine Ob.mk ?_; focus (first | assumption | omega | decide | trivial | (intro hob; simp only [hob, ZF]; done) | (intros; (repeat' refine And.intro ?_ ?_) <;> first | assumption | omega | trivial | decide) | (intros; simp only [ZE] at *; (repeat' refine And.intro ?_ ?_) <;> first | assumption | omega | trivial)))
      | (refine And.intro (Ob.out ?_) ?_)
      | (refine WP.block ?_)
      | (refine WP.cond rfl (fun hc => ?_) (fun hc => ?_) <;> (try simp only [ZC, reduceCtorEq, ZD] at hc) <;> (try (exact absurd hc (by decide))) <;> (try (exfalso; omega)))
      | ((first | refine WP.skip ?_ | refine WP.exit ?_); simp only [SeqQ, BlkQ, LoopQ, BodyQ, ↓reduceIte, Nat.reduceEqDiff, reduceCtorEq, look, true_and])
      | (refine WP.ret (Sm.out ?_))
      | (first | refine ExG.no (Sm.out ?_) | refine Or.inl (ExG.no (Sm.out ?_)) | refine Or.inl (And.intro (fun hg => absurd hg (by decide)) (ExG.no (Sm.out ?_))))
      | (refine Rt.mk ?_; refine And.intro ?_ ?_ <;> (intro hg; first | exact absurd hg (by decide) | refine Sm.out ?_))
      | (refine Nu.mk ?_; first | (fail_if_success (have := nb1)); intro nb1 | (fail_if_success (have := nb2)); intro nb2 | (fail_if_success (have := nb3)); intro nb3 | (fail_if_success (have := nb4)); intro nb4 | (fail_if_success (have := nb5)); intro nb5 | (fail_if_success (have := nb6)); intro nb6 | (fail_if_success (have := nb7)); intro nb7 | (fail_if_success (have := nb8)); intro nb8 | intro nbz)
      | (refine Fr.mk ?_; intro hfr; (first | (have hFRb : _ ≤ _ ∧ _ ≤ _ := And.intro hfr.1 hfr.2.1) | (have hFRb : _ ≤ _ := hfr.1) | skip); replace FR := Sm.mk (And.intro hfr FR.out); clear hfr; refine Sm.out ?_)
      | (refine Two.mk ?_ ?_)
      | (refine Cs.mk ?_; intro hcs; first | exact False.elim hcs | (exfalso; omega) | (refine Sm.out ?_))
      | go_step
      | omega
      | (simp only [maxLen_eq]; omega)
    (refine OutQ.all ?_ ?_; (focus (simp only [resv, ZK, look, loadv, loadn, loadnm, load1, load1m, hget, ↓reduceIte, Nat.reduceEqDiff, Nat.reduceAdd, Nat.reduceMul, Nat.reduceLeDiff, Nat.reduceLT, reduceCtorEq, TFExU])); (try simp only [resv, resA, Fn, ZK, look, loadv, loadn, loadnm, load1, load1m, hget, ↓reduceIte, Nat.reduceEqDiff, Nat.reduceAdd, Nat.reduceMul, Nat.reduceLeDiff, Nat.reduceLT, reduceCtorEq, TFExU]); (try simp [resA, Fn, look]))
  · rw [e1] at r2 r3
    have k1 : (c == 0) = false := by simpa using hc0
    have k2 : (c != 0) = true := by simpa using hc0
    first | (have FRx := FR; clear FRx) | (have FR : Sm (¬ ((1 : Nat) = 0)) := Sm.mk Nat.one_ne_zero)
    repeat' first
      | (refine Sm.mk ?_; try simp -dsimp only [ZK, rvc, drawF, headN, pureH, stp, dvc, calleeOf, gcall, pev, eff, newB, okd, og, ogs, ogo, ogp, slv, bltv, opd, litv, strip, one, both, putE, St.put, look, gdOf, gdv, picka, pickv, pickw, binv, bini, bins, binb, binp, binq, isSlT, bina, shp, eqCells, unv, convv, nilv, faddv, addp, idxav, idxp, load1, load1m, loadn, loadnm, loadv, hget, hset, hrep, hdel, slicev, bnd, shift1, lenv, capv, IntKind.bits, extractv, fieldv, indexv, min2v, max2v, mkiv, cellsA, fillA, buildv, stC, oneC, rowMB, intsA, plN, appE, appZ, appC, appNZ, appNC, VwL, srcC, srcZ, srcM, isBoolT, isPtrT, isSliceT, uOk, Value.oneCell', Nat.reducePow, Int.reducePow, Nat.reduceAdd, Nat.reduceMul, Nat.reduceSub, Nat.reduceLT, Nat.reduceLeDiff, Nat.reduceEqDiff, Nat.reduceBEq, Nat.reduceDiv, Nat.reduceMod, ↓reduceIte, reduceCtorEq, Int.reduceToNat, Int.reduceLT, Int.reduceLE, TFExU, SeqQ, BlkQ, LoopQ, BodyQ, k0, hs, y1, y2, k1, k2, FR.out])
      | (first | refine CallV.fn (awake_ct) (Sm.out ?_) | refine ExF.mk (awake_ct) (Sm.out ?_) | refine ExG.mk (fun _ => awake_ct) (Sm.out ?_) | refine ExG.mkJ (fun _ => awake_ct) (Sm.out ?_) | refine ExG.mkI (Ob.out ?_) (fun _ => awake_ct) (Sm.out ?_))
      | (first | refine CallV.fn (p1) (Sm.out ?_) | refine ExF.mk (p1) (Sm.out ?_) | refine ExG.mk (fun _ => p1) (Sm.out ?_) | refine ExG.mkJ (fun _ => p1) (Sm.out ?_) | refine ExG.mkI (Ob.out ?_) (fun _ => p1) (Sm.out ?_))
      | (first | refine CallV.fn (r1) (Sm.out ?_) | refine ExF.mk (r1) (Sm.out ?_) | refine ExG.mk (fun _ => r1) (Sm.out ?_) | refine ExG.mkJ (fun _ => r1) (Sm.out ?_) | refine ExG.mkI (Ob.out ?_) (fun _ => r1) (Sm.out ?_))
      | (first | refine CallV.fn (r2) (Sm.out ?_) | refine ExF.mk (r2) (Sm.out ?_) | refine ExG.mk (fun _ => r2) (Sm.out ?_) | refine ExG.mkJ (fun _ => r2) (Sm.out ?_) | refine ExG.mkI (Ob.out ?_) (fun _ => r2) (Sm.out ?_))
      | (first | refine CallV.fn (r3) (Sm.out ?_) | refine ExF.mk (r3) (Sm.out ?_) | refine ExG.mk (fun _ => r3) (Sm.out ?_) | refine ExG.mkJ (fun _ => r3) (Sm.out ?_) | refine ExG.mkI (Ob.out ?_) (fun _ => r3) (Sm.out ?_))
      | (first | refine CallV.fn (b1) (Sm.out ?_) | refine ExF.mk (b1) (Sm.out ?_) | refine ExG.mk (fun _ => b1) (Sm.out ?_) | refine ExG.mkJ (fun _ => b1) (Sm.out ?_) | refine ExG.mkI (Ob.out ?_) (fun _ => b1) (Sm.out ?_))
      | (first | refine CallV.fn (g1) (Sm.out ?_) | refine ExF.mk (g1) (Sm.out ?_) | refine ExG.mk (fun _ => g1) (Sm.out ?_) | refine ExG.mkJ (fun _ => g1) (Sm.out ?_) | refine ExG.mkI (Ob.out ?_) (fun _ => g1) (Sm.out ?_))
      | (refine WP.seq fun K hK => ?_)
      | (refine WP.region (rvc_sound _ _ (Sm.out ?_)))
      | (refine WP.drawK rfl mixed (by decide +kernel) (Sm.out ?_))
      | (refine Ob.mk ?_; focus (first | assumption | omega | decide | trivial | (intro hob; simp only [hob, ZF]; done) | (intros; (repeat' refine And.intro ?_ ?_) <;> first | assumption | omega | trivial | decide) | (intros; simp only [ZE] at *; (repeat' refine And.intro ?_ ?_) <;> first | assumption | omega | trivial)))
      | (refine And.intro (Ob.out ?_) ?_)
      | (refine WP.block ?_)
      | (refine WP.cond rfl (fun hc => ?_) (fun hc => ?_) <;> (try simp only [ZC, reduceCtorEq, ZD] at hc) <;> (try (exact absurd hc (by decide))) <;> (try (exfalso; omega)))
      | ((first | refine WP.skip ?_ | refine WP.exit ?_); simp only [SeqQ, BlkQ, LoopQ, BodyQ, ↓reduceIte, Nat.reduceEqDiff, reduceCtorEq, look, true_and])
      | (refine WP.ret (Sm.out ?_))
      | (first | refine ExG.no (Sm.out ?_) | refine Or.inl (ExG.no (Sm.out ?_)) | refine Or.inl (And.intro (fun hg => absurd hg (by decide)) (ExG.no (Sm.out ?_))))
      | (refine Rt.mk ?_; refine And.intro ?_ ?_ <;> (intro hg; first | exact absurd hg (by decide) | refine Sm.out ?_))
      | (refine Nu.mk ?_; first | (fail_if_success (have := nb1)); intro nb1 | (fail_if_success (have := nb2)); intro nb2 | (fail_if_success (have := nb3)); intro nb3 | (fail_if_success (have := nb4)); intro nb4 | (fail_if_success (have := nb5)); intro nb5 | (fail_if_success (have := nb6)); intro nb6 | (fail_if_success (have := nb7)); intro nb7 | (fail_if_success (have := nb8)); intro nb8 | intro nbz)
      | (refine Fr.mk ?_; intro hfr; (first | (have hFRb : _ ≤ _ ∧ _ ≤ _ := And.intro hfr.1 hfr.2.1) | (have hFRb : _ ≤ _ := hfr.1) | skip); replace FR := Sm.mk (And.intro hfr FR.out); clear hfr; refine Sm.out ?_)
      | (refine Two.mk ?_ ?_)
      | (refine Cs.mk ?_; intro hcs; first | exact False.elim hcs | (exfalso; omega) | (refine Sm.out ?_))
      | go_step
      | omega
      | (simp only [maxLen_eq]; omega)
    (refine OutQ.all ?_ ?_; (focus (simp only [resv, ZK, look, loadv, loadn, loadnm, load1, load1m, hget, ↓reduceIte, Nat.reduceEqDiff, Nat.reduceAdd, Nat.reduceMul, Nat.reduceLeDiff, Nat.reduceLT, reduceCtorEq, TFExU])); (try simp only [resv, resA, Fn, ZK, look, loadv, loadn, loadnm, load1, load1m, hget, ↓reduceIte, Nat.reduceEqDiff, Nat.reduceAdd, Nat.reduceMul, Nat.reduceLeDiff, Nat.reduceLT, reduceCtorEq, TFExU]); (try simp [resA, Fn, look]))
theorem prints_law (h l : Int) (hh : 0 ≤ h ∧ h ≤ 18446744073709551615) (hl : 0 ≤ l ∧ l ≤ 18446744073709551615) (s : ByteArray) : ACt Try.prog 7 [.agg [iv .u64 h, iv .u64 l], .lit (.string s)] [] (fun r _ => r = bv true) := by
  obtain ⟨h, rfl⟩ := Int.eq_ofNat_of_zero_le hh.1
  obtain ⟨l, rfl⟩ := Int.eq_ofNat_of_zero_le hl.1
  have e : s = bstr (ub s.data.toList) := by
    apply ByteArray.ext
    apply Array.ext'
    simp only [bstr, ub, List.map_map]
    have e2 : s.data.toList.map ((fun n : Int => UInt8.ofNat n.toNat) ∘ fun b : UInt8 => (b.toNat : Int)) = s.data.toList.map id := List.map_congr_left fun b _ => by simp
    rw [e2, List.map_id]
  have hb : By (ub s.data.toList) := fun i hi => by
    rw [ub_getD]
    have := ((s.data.toList).getD i 0).toNat_lt
    omega
  rw [e]
  have := prints_ct (h * 18446744073709551616 + l) (by omega) (ub s.data.toList) hb
  rw [← wide_of h l (by omega)] at this
  exact this
end Go.Proofs.Yteadenldfaddfaa
