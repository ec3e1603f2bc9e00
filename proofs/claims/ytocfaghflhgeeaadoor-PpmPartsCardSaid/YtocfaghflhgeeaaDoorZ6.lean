/-
  The walks and the laws that the statement leans on, part 6.
-/
import Derived.Test.YtocfaghflhgeeaaDoorZ5
namespace Go.Proofs.YtocfaghflhgeeaaDoor
open Go
set_option linter.unusedVariables false
set_option linter.unusedSimpArgs false
theorem TFExD : (((((type_of% tyc0) ∧ (type_of% tyc3)) ∧ ((type_of% zmb3) ∧ (type_of% tyc4))) ∧ (((type_of% zmb4) ∧ (type_of% tyc22)) ∧ ((type_of% zmb22) ∧ (type_of% tyc52)))) ∧ ((((type_of% zmb52) ∧ (type_of% tyc78)) ∧ ((type_of% zmb78) ∧ (type_of% Tryd.underlying0))) ∧ (((type_of% Tryd.underlying3) ∧ (type_of% Tryd.underlying4)) ∧ ((type_of% Tryd.underlying22) ∧ ((type_of% Tryd.underlying52) ∧ (type_of% Tryd.underlying78)))))) :=
  ⟨⟨⟨⟨tyc0, tyc3⟩, ⟨zmb3, tyc4⟩⟩, ⟨⟨zmb4, tyc22⟩, ⟨zmb22, tyc52⟩⟩⟩, ⟨⟨⟨zmb52, tyc78⟩, ⟨zmb78, Tryd.underlying0⟩⟩, ⟨⟨Tryd.underlying3, Tryd.underlying4⟩, ⟨Tryd.underlying22, ⟨Tryd.underlying52, Tryd.underlying78⟩⟩⟩⟩⟩
theorem lz_ct (x : Nat) (hx : x < 18446744073709551616) : ACt Tryd.prog 46 [nu x] [] (Fn (iv .i64 ((64 - lenN x : Nat) : Int))) := by
  refine ACt.intro Tryd.func46 rfl (by kernel_rfl) (by simp [Tryd.ntmps46]) (fun cx => ?_)
  simp only [argE, Tryd.ntmps46, Tryd.results46]
  have h1 : lenN x ≤ 64 := lenN_le.2 hx
  have e1 : IntKind.i64.wrap (64 - ((lenN x : Nat) : Int)) = ((64 - lenN x : Nat) : Int) := by rw [wrap_i64 (by omega) (by omega)]; omega
  first | (have FRx := FR; clear FRx) | (have FR : ¬ ((1 : Nat) = 0) := Nat.one_ne_zero)
  repeat' first
    | (refine Sm.mk ?_; try simp -dsimp only [ZK, rvc, drawF, headN, pureH, stp, dvc, calleeOf, gcall, pev, eff, newB, okd, og, ogs, ogo, ogp, slv, bltv, opd, litv, strip, one, both, putE, St.put, look, gdOf, gdv, picka, pickv, pickw, binv, bini, bins, binb, binp, binq, isSlT, bina, shp, eqCells, unv, convv, nilv, faddv, addp, idxav, idxp, load1, load1m, loadn, loadnm, loadv, hget, hset, hrep, hdel, slicev, bnd, shift1, lenv, capv, IntKind.bits, extractv, fieldv, indexv, min2v, max2v, mkiv, cellsA, fillA, buildv, stC, oneC, rowMB, intsA, plN, appE, appZ, appC, appNZ, appNC, VwL, srcC, srcZ, srcM, isBoolT, isPtrT, isSliceT, uOk, Value.oneCell', Nat.reducePow, Int.reducePow, Nat.reduceAdd, Nat.reduceMul, Nat.reduceSub, Nat.reduceLT, Nat.reduceLeDiff, Nat.reduceEqDiff, Nat.reduceBEq, Nat.reduceDiv, Nat.reduceMod, ↓reduceIte, reduceCtorEq, Int.reduceToNat, Int.reduceLT, Int.reduceLE, TFExD, SeqQ, BlkQ, LoopQ, BodyQ, e1, FR])
    | (first | refine CallV.fn (len64_ct x hx) (Sm.out ?_) | refine ExF.mk (len64_ct x hx) (Sm.out ?_) | refine ExG.mk (fun _ => len64_ct x hx) (Sm.out ?_) | refine ExG.mkJ (fun _ => len64_ct x hx) (Sm.out ?_) | refine ExG.mkI (Ob.out ?_) (fun _ => len64_ct x hx) (Sm.out ?_))
    | (refine WP.seq fun K hK => ?_)
    | (refine WP.region (rvc_sound _ _ (Sm.out ?_)))
    | (refine WP.drawK rfl mixed (by decide +kernel) (Sm.out ?_))
    | (refine Ob.mk ?_; focus (first | assumption | omega | decide | trivial | (intro hob; simp only [hob, ZF]; done) | (intros; (repeat' refine And.intro ?_ ?_) <;> first | assumption | omega | trivial | decide) | (intros; simp only [ZE] at *; (repeat' refine And.intro ?_ ?_) <;> first | assumption | omega | trivial)))
    | (refine And.intro (Ob.out ?_) ?_)
    | (refine WP.block ?_)
    | (refine WP.cond rfl (fun hc => ?_) (fun hc => ?_) <;> (try simp only [ZC, reduceCtorEq, ZD] at hc) <;> (try (exact absurd hc (by decide))) <;> (try (exfalso; omega)))
    | ((first | refine WP.skip ?_ | refine WP.exit ?_); simp only [SeqQ, BlkQ, LoopQ, BodyQ, ↓reduceIte, Nat.reduceEqDiff, reduceCtorEq, look, true_and])
    | (refine WP.ret (Sm.out ?_))
    | (first | refine ExG.no (Sm.out ?_) | refine Or.inl (ExG.no (Sm.out ?_)) | refine Or.inl (And.intro (fun hg => absurd hg (by decide)) (ExG.no (Sm.out ?_))))
    | (refine Rt.mk ?_; refine And.intro ?_ ?_ <;> (intro hg; first | exact absurd hg (by decide) | refine Sm.out ?_))
    | (refine Nu.mk ?_; first | (fail_if_success (have := nb1)); intro nb1 | (fail_if_success (have := nb2)); intro nb2 | (fail_if_success (have := nb3)); intro nb3 | intro nbz)
    | (refine Fr.mk ?_; intro hfr; replace FR := And.intro hfr FR; clear hfr; refine Sm.out ?_)
    | (refine Two.mk ?_ ?_)
    | (refine Cs.mk ?_; intro hcs; first | exact False.elim hcs | (exfalso; omega) | (refine Sm.out ?_))
    | (refine OutQ.all ?_ ?_; (focus (simp only [resv, ZK, look, loadv, loadn, loadnm, load1, load1m, hget, ↓reduceIte, Nat.reduceEqDiff, Nat.reduceAdd, Nat.reduceMul, Nat.reduceLeDiff, Nat.reduceLT, reduceCtorEq, TFExD, e1, FR])); (try simp only [resv, resA, Fn, ZK, look, loadv, loadn, loadnm, load1, load1m, hget, ↓reduceIte, Nat.reduceEqDiff, Nat.reduceAdd, Nat.reduceMul, Nat.reduceLeDiff, Nat.reduceLT, reduceCtorEq, TFExD, e1, FR]); (try simp [resA, Fn, look, e1, FR]); done)
    | go_step
    | omega
    | (simp only [maxLen_eq]; omega)
structure DG where
  q : Nat
  r : Nat
set_option maxRecDepth 8000 in
set_option maxHeartbeats 4000000 in
theorem div64_ct (hi lo y : Nat) (hy : hi < y) (hy2 : y < 18446744073709551616) (hlo : lo < 18446744073709551616) :
    ACt Tryd.prog 35 [nu hi, nu lo, nu y] [] (Fn (.tup [nu ((hi * 18446744073709551616 + lo) / y), nu ((hi * 18446744073709551616 + lo) % y)])) := by
  refine ACt.intro Tryd.func35 rfl (by kernel_rfl) (by simp [Tryd.ntmps35]) (fun cx => ?_)
  simp only [argE, Tryd.ntmps35, Tryd.results35]
  have k0 : ((y : Int) == 0) = false := beq_eq_false_iff_ne.2 (by omega)
  have k1 : decide ((y : Int) ≤ hi) = false := by simp; omega
  have k2 : (y : Int) ≠ 0 := by omega
  by_cases h0 : hi = 0
  · subst h0
    have hlt : lo / y ≤ lo := Nat.div_le_self _ _
    have hm : lo % y < y := Nat.mod_lt _ (by omega)
    have e1 : (lo : Int).tdiv (y : Int) = ((lo / y : Nat) : Int) := tdiv_nat lo y
    have e2 : (lo : Int).tmod (y : Int) = ((lo % y : Nat) : Int) := tmod_nat lo y
    have e3 : IntKind.u64.wrap ((lo / y : Nat) : Int) = ((lo / y : Nat) : Int) := wrap_u64_nat (by omega)
    have e4 : IntKind.u64.wrap ((lo % y : Nat) : Int) = ((lo % y : Nat) : Int) := wrap_u64_nat (by omega)
    have z0 : (((0 : Nat) : Int) == 0) = true := by decide
    rw [Nat.zero_mul, Nat.zero_add]
    first | (have FRx := FR; clear FRx) | (have FR : ¬ ((1 : Nat) = 0) := Nat.one_ne_zero)
    repeat' first
      | (refine Sm.mk ?_; try simp -dsimp only [ZK, rvc, drawF, headN, pureH, stp, dvc, calleeOf, gcall, pev, eff, newB, okd, og, ogs, ogo, ogp, slv, bltv, opd, litv, strip, one, both, putE, St.put, look, gdOf, gdv, picka, pickv, pickw, binv, bini, bins, binb, binp, binq, isSlT, bina, shp, eqCells, unv, convv, nilv, faddv, addp, idxav, idxp, load1, load1m, loadn, loadnm, loadv, hget, hset, hrep, hdel, slicev, bnd, shift1, lenv, capv, IntKind.bits, extractv, fieldv, indexv, min2v, max2v, mkiv, cellsA, fillA, buildv, stC, oneC, rowMB, intsA, plN, appE, appZ, appC, appNZ, appNC, VwL, srcC, srcZ, srcM, isBoolT, isPtrT, isSliceT, uOk, Value.oneCell', Nat.reducePow, Int.reducePow, Nat.reduceAdd, Nat.reduceMul, Nat.reduceSub, Nat.reduceLT, Nat.reduceLeDiff, Nat.reduceEqDiff, Nat.reduceBEq, Nat.reduceDiv, Nat.reduceMod, ↓reduceIte, reduceCtorEq, Int.reduceToNat, Int.reduceLT, Int.reduceLE, TFExD, SeqQ, BlkQ, LoopQ, BodyQ, k0, k1, k2, z0, e1, e2, e3, e4, FR])
      | (refine WP.seq fun K hK => ?_)
      | (refine WP.region (rvc_sound _ _ (Sm.out ?_)))
      | (refine WP.drawK rfl mixed (by decide +kernel) (Sm.out ?_))
      | (refine Ob.mk ?_; focus (first | assumption | omega | decide | trivial | (intro hob; simp only [hob, ZF]; done) | (intros; (repeat' refine And.intro ?_ ?_) <;> first | assumption | omega | trivial | decide) | (intros; simp only [ZE] at *; (repeat' refine And.intro ?_ ?_) <;> first | assumption | omega | trivial)))
      | (refine And.intro (Ob.out ?_) ?_)
      | (refine WP.block ?_)
      | (refine WP.cond rfl (fun hc => ?_) (fun hc => ?_) <;> (try simp only [ZC, reduceCtorEq, ZD] at hc) <;> (try (exact absurd hc (by decide))) <;> (try (exfalso; omega)))
      | ((first | refine WP.skip ?_ | refine WP.exit ?_); simp only [SeqQ, BlkQ, LoopQ, BodyQ, ↓reduceIte, Nat.reduceEqDiff, reduceCtorEq, look, true_and])
      | (refine WP.ret (Sm.out ?_))
      | (first | refine ExG.no (Sm.out ?_) | refine Or.inl (ExG.no (Sm.out ?_)) | refine Or.inl (And.intro (fun hg => absurd hg (by decide)) (ExG.no (Sm.out ?_))))
      | (refine Rt.mk ?_; refine And.intro ?_ ?_ <;> (intro hg; first | exact absurd hg (by decide) | refine Sm.out ?_))
      | (refine Nu.mk ?_; first | (fail_if_success (have := nb1)); intro nb1 | (fail_if_success (have := nb2)); intro nb2 | (fail_if_success (have := nb3)); intro nb3 | intro nbz)
      | (refine Fr.mk ?_; intro hfr; replace FR := And.intro hfr FR; clear hfr; refine Sm.out ?_)
      | (refine Two.mk ?_ ?_)
      | (refine Cs.mk ?_; intro hcs; first | exact False.elim hcs | (exfalso; omega) | (refine Sm.out ?_))
      | (refine OutQ.all ?_ ?_; (focus (simp only [resv, ZK, look, loadv, loadn, loadnm, load1, load1m, hget, ↓reduceIte, Nat.reduceEqDiff, Nat.reduceAdd, Nat.reduceMul, Nat.reduceLeDiff, Nat.reduceLT, reduceCtorEq, TFExD, k0, k1, k2, z0, e1, e2, e3, e4, FR])); (try simp only [resv, resA, Fn, ZK, look, loadv, loadn, loadnm, load1, load1m, hget, ↓reduceIte, Nat.reduceEqDiff, Nat.reduceAdd, Nat.reduceMul, Nat.reduceLeDiff, Nat.reduceLT, reduceCtorEq, TFExD, k0, k1, k2, z0, e1, e2, e3, e4, FR]); (try simp [resA, Fn, look, k0, k1, k2, z0, e1, e2, e3, e4, FR]); done)
      | go_step
      | omega
      | (simp only [maxLen_eq]; omega)
  · have k3 : ((hi : Int) == 0) = false := beq_eq_false_iff_ne.2 (by omega)
    obtain ⟨n1, n2, n3, n4⟩ := norm_bd (show 0 < y by omega) hy2
    obtain ⟨s, hs⟩ : ∃ s, s = 64 - lenN y := ⟨_, rfl⟩
    have hct := lz_ct y hy2
    rw [← hs] at n3 n4 hct
    have hs64 : s ≤ 64 := by omega
    have hs63 : s ≤ 63 := by omega
    obtain ⟨p1, p2, p3, p4⟩ := shift_parts hy hlo hs64 n3
    obtain ⟨u1, u2⟩ := @unshift (hi * 18446744073709551616 + lo) y s (by omega)
    rw [p4] at u1 u2
    obtain ⟨Y, hY⟩ : ∃ Y, Y = y * 2 ^ s := ⟨_, rfl⟩
    obtain ⟨W, hW⟩ : ∃ W, W = lo * 2 ^ s % 18446744073709551616 := ⟨_, rfl⟩
    have hWlt : W < 18446744073709551616 := by rw [hW]; exact Nat.mod_lt _ (by omega)
    have w1 : IntKind.u64.wrap (s : Int) = (s : Int) := wrap_u64_nat (by omega)
    have w2 : IntKind.u64.wrap ((y : Int) * 2 ^ s) = (Y : Int) := by
      have : (y : Int) * 2 ^ s = ((y * 2 ^ s : Nat) : Int) := by simp
      rw [this, ← hY, wrap_u64_nat (by omega)]
    have w3 : IntKind.u64.wrap ((hi : Int) * 2 ^ s) = ((hi * 2 ^ s : Nat) : Int) := by
      have : (hi : Int) * 2 ^ s = ((hi * 2 ^ s : Nat) : Int) := by simp
      rw [this, wrap_u64_nat (by omega)]
    have w4 : IntKind.u64.wrap (64 - (s : Int)) = ((64 - s : Nat) : Int) := by rw [wrap_u64 (by omega) (by omega)]; omega
    have w4' : 64 - s ≤ 64 := by omega
    have w5 : (lo : Int).fdiv (2 ^ (64 - s)) = ((lo / 2 ^ (64 - s) : Nat) : Int) := fdiv_pow lo _
    have w6 : IntKind.u64.wrap ((lo : Int) * 2 ^ s) = (W : Int) := by
      have : (lo : Int) * 2 ^ s = ((lo * 2 ^ s : Nat) : Int) := by simp
      rw [this, wrap_u64_big, hW]
    obtain ⟨u, hu⟩ : ∃ u, u = hi * 2 ^ s + lo / 2 ^ (64 - s) := ⟨_, rfl⟩
    have hb1 : lo / 2 ^ (64 - s) < 18446744073709551616 := Nat.lt_of_le_of_lt (Nat.div_le_self _ _) hlo
    have w7 := or_shift hi (lo / 2 ^ (64 - s)) s p3 p2 hb1
    rw [← hu] at w7 u1 u2 p1
    rw [← hY] at p1 u1 u2 n3 n4
    rw [← hW] at u1 u2
    have f32 : ∀ n : Nat, (n : Int).fdiv 4294967296 = ((n / 4294967296 : Nat) : Int) := fun n => by rw [Int.fdiv_eq_ediv_of_nonneg _ (by omega)]; simp
    have a1 := and_low32 Y n3
    have a2 := and_low32 W hWlt
    obtain ⟨yn1, hyn1⟩ : ∃ a, a = Y / 4294967296 := ⟨_, rfl⟩
    obtain ⟨yn0, hyn0⟩ : ∃ a, a = Y % 4294967296 := ⟨_, rfl⟩
    obtain ⟨un1, hun1⟩ : ∃ a, a = W / 4294967296 := ⟨_, rfl⟩
    obtain ⟨un0, hun0⟩ : ∃ a, a = W % 4294967296 := ⟨_, rfl⟩
    have f1 : (Y : Int).fdiv 4294967296 = (yn1 : Int) := by rw [f32, hyn1]
    have f2 : (W : Int).fdiv 4294967296 = (un1 : Int) := by rw [f32, hun1]
    rw [← hyn0] at a1
    rw [← hun0] at a2
    have b1 : 2147483648 ≤ yn1 := by omega
    have b2 : yn1 < 4294967296 := by omega
    have b3 : yn0 < 4294967296 := by omega
    have b4 : un1 < 4294967296 := by omega
    have b5 : un0 < 4294967296 := by omega
    have eY : Y = yn1 * 4294967296 + yn0 := by omega
    have eW : u * 18446744073709551616 + W = (u * 4294967296 + un1) * 4294967296 + un0 := by omega
    have hult : u < yn1 * 4294967296 + yn0 := by omega
    rw [eW] at u1 u2
    obtain ⟨t1, t2⟩ := two_digits p1 b4 b5
    rw [t1] at u1
    rw [t2] at u2
    have D1 := @dig_start 4294967296 yn1 yn0 u un1 (by omega) b4 (by omega)
    have hq1 : u / yn1 ≤ u := Nat.div_le_self _ _
    have hm1 : u / yn1 * yn1 ≤ u := Nat.div_mul_le_self _ _
    have g1 : (u : Int).tdiv (yn1 : Int) = ((u / yn1 : Nat) : Int) := tdiv_nat u yn1
    have g2 : IntKind.u64.wrap ((u / yn1 : Nat) : Int) = ((u / yn1 : Nat) : Int) := wrap_u64_nat (by omega)
    have g3 : IntKind.u64.wrap (((u / yn1 : Nat) : Int) * (yn1 : Int)) = ((u / yn1 * yn1 : Nat) : Int) := by rw [← Int.natCast_mul, wrap_u64_nat (by omega)]
    have g4 : IntKind.u64.wrap ((u : Int) - ((u / yn1 * yn1 : Nat) : Int)) = ((u - u / yn1 * yn1 : Nat) : Int) := by rw [wrap_u64 (by omega) (by omega)]; omega
    have g5 : (yn1 : Int) ≠ 0 := by omega
    first | (have FRx := FR; clear FRx) | (have FR : ¬ ((1 : Nat) = 0) := Nat.one_ne_zero)
    repeat' first
      | (refine Sm.mk ?_; try simp -dsimp only [ZK, rvc, drawF, headN, pureH, stp, dvc, calleeOf, gcall, pev, eff, newB, okd, og, ogs, ogo, ogp, slv, bltv, opd, litv, strip, one, both, putE, St.put, look, gdOf, gdv, picka, pickv, pickw, binv, bini, bins, binb, binp, binq, isSlT, bina, shp, eqCells, unv, convv, nilv, faddv, addp, idxav, idxp, load1, load1m, loadn, loadnm, loadv, hget, hset, hrep, hdel, slicev, bnd, shift1, lenv, capv, IntKind.bits, extractv, fieldv, indexv, min2v, max2v, mkiv, cellsA, fillA, buildv, stC, oneC, rowMB, intsA, plN, appE, appZ, appC, appNZ, appNC, VwL, srcC, srcZ, srcM, isBoolT, isPtrT, isSliceT, uOk, Value.oneCell', Nat.reducePow, Int.reducePow, Nat.reduceAdd, Nat.reduceMul, Nat.reduceSub, Nat.reduceLT, Nat.reduceLeDiff, Nat.reduceEqDiff, Nat.reduceBEq, Nat.reduceDiv, Nat.reduceMod, ↓reduceIte, reduceCtorEq, Int.reduceToNat, Int.reduceLT, Int.reduceLE, TFExD, SeqQ, BlkQ, LoopQ, BodyQ, k0, k1, k2, k3, w1, w2, w3, w4, w4', w5, w6, w7, hs64, f1, f2, a1, a2, g1, g2, g3, g4, g5, FR])
      | (first | refine CallV.fn (hct) (Sm.out ?_) | refine ExF.mk (hct) (Sm.out ?_) | refine ExG.mk (fun _ => hct) (Sm.out ?_) | refine ExG.mkJ (fun _ => hct) (Sm.out ?_) | refine ExG.mkI (Ob.out ?_) (fun _ => hct) (Sm.out ?_))
      | (refine WP.seq fun K hK => ?_)
      | ((fail_if_success (show WP _ _ _ (.region 17 _ _) _ _)); refine WP.region (rvc_sound _ _ (Sm.out ?_)))
      | ((fail_if_success (show WP _ _ _ (.region 17 _ _) _ _)); refine WP.drawK rfl mixed (by decide +kernel) (Sm.out ?_))
      | (refine Ob.mk ?_; focus (first | assumption | omega | decide | trivial | (intro hob; simp only [hob, ZF]; done) | (intros; (repeat' refine And.intro ?_ ?_) <;> first | assumption | omega | trivial | decide) | (intros; simp only [ZE] at *; (repeat' refine And.intro ?_ ?_) <;> first | assumption | omega | trivial)))
      | (refine And.intro (Ob.out ?_) ?_)
      | (refine WP.block ?_)
      | (refine WP.cond rfl (fun hc => ?_) (fun hc => ?_) <;> (try simp only [ZC, reduceCtorEq, ZD] at hc) <;> (try (exact absurd hc (by decide))) <;> (try (exfalso; omega)))
      | ((first | refine WP.skip ?_ | refine WP.exit ?_); simp only [SeqQ, BlkQ, LoopQ, BodyQ, ↓reduceIte, Nat.reduceEqDiff, reduceCtorEq, look, true_and])
      | (refine WP.ret (Sm.out ?_))
      | (first | refine ExG.no (Sm.out ?_) | refine Or.inl (ExG.no (Sm.out ?_)) | refine Or.inl (And.intro (fun hg => absurd hg (by decide)) (ExG.no (Sm.out ?_))))
      | (refine Rt.mk ?_; refine And.intro ?_ ?_ <;> (intro hg; first | exact absurd hg (by decide) | refine Sm.out ?_))
      | (refine Nu.mk ?_; first | (fail_if_success (have := nb1)); intro nb1 | (fail_if_success (have := nb2)); intro nb2 | (fail_if_success (have := nb3)); intro nb3 | intro nbz)
      | (refine Fr.mk ?_; intro hfr; replace FR := And.intro hfr FR; clear hfr; refine Sm.out ?_)
      | (refine Two.mk ?_ ?_)
      | (refine Cs.mk ?_; intro hcs; first | exact False.elim hcs | (exfalso; omega) | (refine Sm.out ?_))
      | go_step
      | omega
      | (simp only [maxLen_eq]; omega)
    obtain ⟨Q1, hQ1⟩ : ∃ a, a = (u * 4294967296 + un1) / Y := ⟨_, rfl⟩
    obtain ⟨v, hv⟩ : ∃ a, a = (u * 4294967296 + un1) % Y := ⟨_, rfl⟩
    rw [← hQ1, ← hv] at u1
    rw [← hv] at u2
    have hvlt : v < Y := by rw [hv]; exact Nat.mod_lt _ (by omega)
    have hQ1lt : Q1 < 4294967296 := by rw [hQ1]; exact dig_lt p1 b4
    have hQv : Q1 * Y + v = u * 4294967296 + un1 := by rw [hQ1, hv, Nat.mul_comm]; exact Nat.div_add_mod _ _
    have cont : Sm (∀ s', Sub s' ⟨[(15, nu Q1), (2, nu Y), (8, nu s), (9, nu yn1), (10, nu yn0), (11, nu u), (13, nu un1), (14, nu un0)], []⟩ → K s') := Sm.mk fun s' hsub => by
      refine hK s' (WP.sub hsub ?_)
      have D2 := @dig_start 4294967296 yn1 yn0 v un0 (by omega) b5 (by omega)
      have hq2 : v / yn1 ≤ v := Nat.div_le_self _ _
      have hm2 : v / yn1 * yn1 ≤ v := Nat.div_mul_le_self _ _
      have j1 : IntKind.u64.wrap ((u : Int) * 4294967296) = ((u * 4294967296 % 18446744073709551616 : Nat) : Int) := by rw [show (u : Int) * 4294967296 = ((u * 4294967296 : Nat) : Int) by simp, wrap_u64_big]
      have j2 : IntKind.u64.wrap (((u * 4294967296 % 18446744073709551616 : Nat) : Int) + (un1 : Int)) = (((u * 4294967296 + un1) % 18446744073709551616 : Nat) : Int) := by rw [wrap_u64_mod]; omega
      have j3 : IntKind.u64.wrap ((Q1 : Int) * (Y : Int)) = ((Q1 * Y % 18446744073709551616 : Nat) : Int) := by rw [← Int.natCast_mul, wrap_u64_big]
      have j4 : IntKind.u64.wrap ((((u * 4294967296 + un1) % 18446744073709551616 : Nat) : Int) - ((Q1 * Y % 18446744073709551616 : Nat) : Int)) = (v : Int) := by rw [wrap_u64_mod]; omega
      have g1' : (v : Int).tdiv (yn1 : Int) = ((v / yn1 : Nat) : Int) := tdiv_nat v yn1
      have g2' : IntKind.u64.wrap ((v / yn1 : Nat) : Int) = ((v / yn1 : Nat) : Int) := wrap_u64_nat (by omega)
      have g3' : IntKind.u64.wrap (((v / yn1 : Nat) : Int) * (yn1 : Int)) = ((v / yn1 * yn1 : Nat) : Int) := by rw [← Int.natCast_mul, wrap_u64_nat (by omega)]
      have g4' : IntKind.u64.wrap ((v : Int) - ((v / yn1 * yn1 : Nat) : Int)) = ((v - v / yn1 * yn1 : Nat) : Int) := by rw [wrap_u64 (by omega) (by omega)]; omega
      first | (have FRx := FR; clear FRx) | (have FR : ¬ ((1 : Nat) = 0) := Nat.one_ne_zero)
      repeat' first
        | (refine Sm.mk ?_; try simp -dsimp only [ZK, rvc, drawF, headN, pureH, stp, dvc, calleeOf, gcall, pev, eff, newB, okd, og, ogs, ogo, ogp, slv, bltv, opd, litv, strip, one, both, putE, St.put, look, gdOf, gdv, picka, pickv, pickw, binv, bini, bins, binb, binp, binq, isSlT, bina, shp, eqCells, unv, convv, nilv, faddv, addp, idxav, idxp, load1, load1m, loadn, loadnm, loadv, hget, hset, hrep, hdel, slicev, bnd, shift1, lenv, capv, IntKind.bits, extractv, fieldv, indexv, min2v, max2v, mkiv, cellsA, fillA, buildv, stC, oneC, rowMB, intsA, plN, appE, appZ, appC, appNZ, appNC, VwL, srcC, srcZ, srcM, isBoolT, isPtrT, isSliceT, uOk, Value.oneCell', Nat.reducePow, Int.reducePow, Nat.reduceAdd, Nat.reduceMul, Nat.reduceSub, Nat.reduceLT, Nat.reduceLeDiff, Nat.reduceEqDiff, Nat.reduceBEq, Nat.reduceDiv, Nat.reduceMod, ↓reduceIte, reduceCtorEq, Int.reduceToNat, Int.reduceLT, Int.reduceLE, TFExD, SeqQ, BlkQ, LoopQ, BodyQ, g1', g2', g3', g4', g5, j1, j2, j3, j4, FR])
        | (refine WP.seq fun K hK => ?_)
        | ((fail_if_success (show WP _ _ _ (.region 24 _ _) _ _)); refine WP.region (rvc_sound _ _ (Sm.out ?_)))
        | ((fail_if_success (show WP _ _ _ (.region 24 _ _) _ _)); refine WP.drawK rfl mixed (by decide +kernel) (Sm.out ?_))
        | (refine Ob.mk ?_; focus (first | assumption | omega | decide | trivial | (intro hob; simp only [hob, ZF]; done) | (intros; (repeat' refine And.intro ?_ ?_) <;> first | assumption | omega | trivial | decide) | (intros; simp only [ZE] at *; (repeat' refine And.intro ?_ ?_) <;> first | assumption | omega | trivial)))
        | (refine And.intro (Ob.out ?_) ?_)
        | (refine WP.block ?_)
        | (refine WP.cond rfl (fun hc => ?_) (fun hc => ?_) <;> (try simp only [ZC, reduceCtorEq, ZD] at hc) <;> (try (exact absurd hc (by decide))) <;> (try (exfalso; omega)))
        | ((first | refine WP.skip ?_ | refine WP.exit ?_); simp only [SeqQ, BlkQ, LoopQ, BodyQ, ↓reduceIte, Nat.reduceEqDiff, reduceCtorEq, look, true_and])
        | (refine WP.ret (Sm.out ?_))
        | (first | refine ExG.no (Sm.out ?_) | refine Or.inl (ExG.no (Sm.out ?_)) | refine Or.inl (And.intro (fun hg => absurd hg (by decide)) (ExG.no (Sm.out ?_))))
        | (refine Rt.mk ?_; refine And.intro ?_ ?_ <;> (intro hg; first | exact absurd hg (by decide) | refine Sm.out ?_))
        | (refine Nu.mk ?_; first | (fail_if_success (have := nb1)); intro nb1 | (fail_if_success (have := nb2)); intro nb2 | (fail_if_success (have := nb3)); intro nb3 | intro nbz)
        | (refine Fr.mk ?_; intro hfr; replace FR := And.intro hfr FR; clear hfr; refine Sm.out ?_)
        | (refine Two.mk ?_ ?_)
        | (refine Cs.mk ?_; intro hcs; first | exact False.elim hcs | (exfalso; omega) | (refine Sm.out ?_))
        | go_step
        | omega
        | (simp only [maxLen_eq]; omega)
      obtain ⟨Q0, hQ0⟩ : ∃ a, a = (v * 4294967296 + un0) / Y := ⟨_, rfl⟩
      obtain ⟨R0, hR0⟩ : ∃ a, a = (v * 4294967296 + un0) % Y := ⟨_, rfl⟩
      have hR0lt : R0 < Y := by rw [hR0]; exact Nat.mod_lt _ (by omega)
      have hQ0lt : Q0 < 4294967296 := by rw [hQ0]; exact dig_lt hvlt b5
      have hQR : Q0 * Y + R0 = v * 4294967296 + un0 := by rw [hQ0, hR0, Nat.mul_comm]; exact Nat.div_add_mod _ _
      rw [← hQ0] at u1
      rw [← hR0] at u2
      have cont2 : Sm (∀ s', Sub s' ⟨[(18, nu Q0), (15, nu Q1), (17, nu v), (2, nu Y), (8, nu s), (14, nu un0)], []⟩ → K s') := Sm.mk fun s' hsub => by
        refine hK s' (WP.sub hsub ?_)
        have i1 : IntKind.u64.wrap ((Q1 : Int) * 4294967296) = ((Q1 * 4294967296 : Nat) : Int) := by rw [show (Q1 : Int) * 4294967296 = ((Q1 * 4294967296 : Nat) : Int) by simp, wrap_u64_nat (by omega)]
        have i2 : IntKind.u64.wrap (((Q1 * 4294967296 : Nat) : Int) + (Q0 : Int)) = (((hi * 18446744073709551616 + lo) / y : Nat) : Int) := by rw [← u1, ← Int.natCast_add, wrap_u64_nat (by omega)]
        have i3 : IntKind.u64.wrap ((v : Int) * 4294967296) = ((v * 4294967296 % 18446744073709551616 : Nat) : Int) := by rw [show (v : Int) * 4294967296 = ((v * 4294967296 : Nat) : Int) by simp, wrap_u64_big]
        have i4 : IntKind.u64.wrap (((v * 4294967296 % 18446744073709551616 : Nat) : Int) + (un0 : Int)) = (((v * 4294967296 + un0) % 18446744073709551616 : Nat) : Int) := by rw [wrap_u64_mod]; omega
        have i5 : IntKind.u64.wrap ((Q0 : Int) * (Y : Int)) = ((Q0 * Y % 18446744073709551616 : Nat) : Int) := by rw [← Int.natCast_mul, wrap_u64_big]
        have i6 : IntKind.u64.wrap ((((v * 4294967296 + un0) % 18446744073709551616 : Nat) : Int) - ((Q0 * Y % 18446744073709551616 : Nat) : Int)) = (R0 : Int) := by rw [wrap_u64_mod]; omega
        have i7 : (R0 : Int).fdiv (2 ^ s) = (((hi * 18446744073709551616 + lo) % y : Nat) : Int) := by rw [fdiv_pow, u2]
        first | (have FRx := FR; clear FRx) | (have FR : ¬ ((1 : Nat) = 0) := Nat.one_ne_zero)
        repeat' first
          | (refine Sm.mk ?_; try simp -dsimp only [ZK, rvc, drawF, headN, pureH, stp, dvc, calleeOf, gcall, pev, eff, newB, okd, og, ogs, ogo, ogp, slv, bltv, opd, litv, strip, one, both, putE, St.put, look, gdOf, gdv, picka, pickv, pickw, binv, bini, bins, binb, binp, binq, isSlT, bina, shp, eqCells, unv, convv, nilv, faddv, addp, idxav, idxp, load1, load1m, loadn, loadnm, loadv, hget, hset, hrep, hdel, slicev, bnd, shift1, lenv, capv, IntKind.bits, extractv, fieldv, indexv, min2v, max2v, mkiv, cellsA, fillA, buildv, stC, oneC, rowMB, intsA, plN, appE, appZ, appC, appNZ, appNC, VwL, srcC, srcZ, srcM, isBoolT, isPtrT, isSliceT, uOk, Value.oneCell', Nat.reducePow, Int.reducePow, Nat.reduceAdd, Nat.reduceMul, Nat.reduceSub, Nat.reduceLT, Nat.reduceLeDiff, Nat.reduceEqDiff, Nat.reduceBEq, Nat.reduceDiv, Nat.reduceMod, ↓reduceIte, reduceCtorEq, Int.reduceToNat, Int.reduceLT, Int.reduceLE, TFExD, SeqQ, BlkQ, LoopQ, BodyQ, i1, i2, i3, i4, i5, i6, i7, hs64, FR])
          | (refine WP.seq fun K hK => ?_)
          | (refine WP.region (rvc_sound _ _ (Sm.out ?_)))
          | (refine WP.drawK rfl mixed (by decide +kernel) (Sm.out ?_))
          | (refine Ob.mk ?_; focus (first | assumption | omega | decide | trivial | (intro hob; simp only [hob, ZF]; done) | (intros; (repeat' refine And.intro ?_ ?_) <;> first | assumption | omega | trivial | decide) | (intros; simp only [ZE] at *; (repeat' refine And.intro ?_ ?_) <;> first | assumption | omega | trivial)))
          | (refine And.intro (Ob.out ?_) ?_)
          | (refine WP.block ?_)
          | (refine WP.cond rfl (fun hc => ?_) (fun hc => ?_) <;> (try simp only [ZC, reduceCtorEq, ZD] at hc) <;> (try (exact absurd hc (by decide))) <;> (try (exfalso; omega)))
          | ((first | refine WP.skip ?_ | refine WP.exit ?_); simp only [SeqQ, BlkQ, LoopQ, BodyQ, ↓reduceIte, Nat.reduceEqDiff, reduceCtorEq, look, true_and])
          | (refine WP.ret (Sm.out ?_))
          | (first | refine ExG.no (Sm.out ?_) | refine Or.inl (ExG.no (Sm.out ?_)) | refine Or.inl (And.intro (fun hg => absurd hg (by decide)) (ExG.no (Sm.out ?_))))
          | (refine Rt.mk ?_; refine And.intro ?_ ?_ <;> (intro hg; first | exact absurd hg (by decide) | refine Sm.out ?_))
          | (refine Nu.mk ?_; first | (fail_if_success (have := nb1)); intro nb1 | (fail_if_success (have := nb2)); intro nb2 | (fail_if_success (have := nb3)); intro nb3 | intro nbz)
          | (refine Fr.mk ?_; intro hfr; replace FR := And.intro hfr FR; clear hfr; refine Sm.out ?_)
          | (refine Two.mk ?_ ?_)
          | (refine Cs.mk ?_; intro hcs; first | exact False.elim hcs | (exfalso; omega) | (refine Sm.out ?_))
          | (refine OutQ.all ?_ ?_; (focus (simp only [resv, ZK, look, loadv, loadn, loadnm, load1, load1m, hget, ↓reduceIte, Nat.reduceEqDiff, Nat.reduceAdd, Nat.reduceMul, Nat.reduceLeDiff, Nat.reduceLT, reduceCtorEq, TFExD, i1, i2, i3, i4, i5, i6, i7, hs64, FR])); (try simp only [resv, resA, Fn, ZK, look, loadv, loadn, loadnm, load1, load1m, hget, ↓reduceIte, Nat.reduceEqDiff, Nat.reduceAdd, Nat.reduceMul, Nat.reduceLeDiff, Nat.reduceLT, reduceCtorEq, TFExD, i1, i2, i3, i4, i5, i6, i7, hs64, FR]); (try simp [resA, Fn, look, i1, i2, i3, i4, i5, i6, i7, hs64, FR]); done)
          | go_step
          | omega
          | (simp only [maxLen_eq]; omega)
      clear hK
      refine WP.loop (Γ := DG) (fun g => ⟨[(18, nu g.q), (16, nu g.r), (15, nu Q1), (17, nu v), (2, nu Y), (8, nu s), (9, nu yn1), (10, nu yn0), (14, nu un0)], []⟩)
        (fun g => DInvD 4294967296 yn1 yn0 v un0 g.q g.r ∧ g.r < 4294967296 ∧ g.q < 18446744073709551616) (fun g => g.q) ⟨v / yn1, v - v / yn1 * yn1⟩
        ⟨D2, by have := Nat.mod_lt v (show 0 < yn1 by omega); have := Nat.div_add_mod v yn1; have := Nat.mul_comm yn1 (v / yn1); simp only; omega, by simp only; omega⟩ (Sub.pick (by simp [pickB, hget, hdel, FR]) (by simp [look])) ?_
      intro ⟨q, r⟩ ⟨D, hr, hq64⟩
      simp only at D hr hq64 ⊢
      by_cases ht : 4294967296 ≤ q ∨ 4294967296 * r + un0 < q * yn0
      · obtain ⟨hq0, D'⟩ := dig_next (by omega) (by omega) (by omega) b5 D ht
        have c1 : IntKind.u64.wrap ((q : Int) - 1) = ((q - 1 : Nat) : Int) := by rw [wrap_u64 (by omega) (by omega)]; omega
        have c2 : IntKind.u64.wrap ((r : Int) + (yn1 : Int)) = ((r + yn1 : Nat) : Int) := by rw [← Int.natCast_add, wrap_u64_nat (by omega)]
        by_cases hB : 4294967296 ≤ q
        · have k : decide ((q : Int) ≥ 4294967296) = true := by simp; omega
          by_cases hr2 : 4294967296 ≤ r + yn1
          · have k5 : decide (((r + yn1 : Nat) : Int) ≥ 4294967296) = true := by simp; omega
            have he := dig_break (by omega) (by omega) b3 (by omega) D' hr2
            rw [← eY, ← hQ0] at he
            first | (have FRx := FR; clear FRx) | (have FR : ¬ ((1 : Nat) = 0) := Nat.one_ne_zero)
            repeat' first
              | (refine Sm.mk ?_; try simp -dsimp only [ZK, rvc, drawF, headN, pureH, stp, dvc, calleeOf, gcall, pev, eff, newB, okd, og, ogs, ogo, ogp, slv, bltv, opd, litv, strip, one, both, putE, St.put, look, gdOf, gdv, picka, pickv, pickw, binv, bini, bins, binb, binp, binq, isSlT, bina, shp, eqCells, unv, convv, nilv, faddv, addp, idxav, idxp, load1, load1m, loadn, loadnm, loadv, hget, hset, hrep, hdel, slicev, bnd, shift1, lenv, capv, IntKind.bits, extractv, fieldv, indexv, min2v, max2v, mkiv, cellsA, fillA, buildv, stC, oneC, rowMB, intsA, plN, appE, appZ, appC, appNZ, appNC, VwL, srcC, srcZ, srcM, isBoolT, isPtrT, isSliceT, uOk, Value.oneCell', Nat.reducePow, Int.reducePow, Nat.reduceAdd, Nat.reduceMul, Nat.reduceSub, Nat.reduceLT, Nat.reduceLeDiff, Nat.reduceEqDiff, Nat.reduceBEq, Nat.reduceDiv, Nat.reduceMod, ↓reduceIte, reduceCtorEq, Int.reduceToNat, Int.reduceLT, Int.reduceLE, TFExD, SeqQ, BlkQ, LoopQ, BodyQ, k, k5, c1, c2, he, FR])
              | (refine WP.seq fun K hK => ?_)
              | (refine WP.region (rvc_sound _ _ (Sm.out ?_)))
              | (refine WP.drawK rfl mixed (by decide +kernel) (Sm.out ?_))
              | (refine Ob.mk ?_; focus (first | assumption | omega | decide | trivial | (intro hob; simp only [hob, ZF]; done) | (intros; (repeat' refine And.intro ?_ ?_) <;> first | assumption | omega | trivial | decide) | (intros; simp only [ZE] at *; (repeat' refine And.intro ?_ ?_) <;> first | assumption | omega | trivial)))
              | (refine And.intro (Ob.out ?_) ?_)
              | (refine WP.block ?_)
              | (refine WP.cond rfl (fun hc => ?_) (fun hc => ?_) <;> (try simp only [ZC, reduceCtorEq, ZD] at hc) <;> (try (exact absurd hc (by decide))) <;> (try (exfalso; omega)))
              | ((first | refine WP.skip ?_ | refine WP.exit ?_); simp only [SeqQ, BlkQ, LoopQ, BodyQ, ↓reduceIte, Nat.reduceEqDiff, reduceCtorEq, look, true_and])
              | (refine WP.ret (Sm.out ?_))
              | (first | refine ExG.no (Sm.out ?_) | refine Or.inl (ExG.no (Sm.out ?_)) | refine Or.inl (And.intro (fun hg => absurd hg (by decide)) (ExG.no (Sm.out ?_))))
              | (refine Rt.mk ?_; refine And.intro ?_ ?_ <;> (intro hg; first | exact absurd hg (by decide) | refine Sm.out ?_))
              | (refine Nu.mk ?_; first | (fail_if_success (have := nb1)); intro nb1 | (fail_if_success (have := nb2)); intro nb2 | (fail_if_success (have := nb3)); intro nb3 | intro nbz)
              | (refine Fr.mk ?_; intro hfr; replace FR := And.intro hfr FR; clear hfr; refine Sm.out ?_)
              | (refine Two.mk ?_ ?_)
              | (refine Cs.mk ?_; intro hcs; first | exact False.elim hcs | (exfalso; omega) | (refine Sm.out ?_))
              | go_step
              | omega
              | (simp only [maxLen_eq]; omega)
            exact cont2.out _ (Sub.pick (by simp [pickB, hget, hdel, FR]) (by simp [look]))
          · have k5 : decide (((r + yn1 : Nat) : Int) ≥ 4294967296) = false := by simp; omega
            first | (have FRx := FR; clear FRx) | (have FR : ¬ ((1 : Nat) = 0) := Nat.one_ne_zero)
            repeat' first
              | (refine Sm.mk ?_; try simp -dsimp only [ZK, rvc, drawF, headN, pureH, stp, dvc, calleeOf, gcall, pev, eff, newB, okd, og, ogs, ogo, ogp, slv, bltv, opd, litv, strip, one, both, putE, St.put, look, gdOf, gdv, picka, pickv, pickw, binv, bini, bins, binb, binp, binq, isSlT, bina, shp, eqCells, unv, convv, nilv, faddv, addp, idxav, idxp, load1, load1m, loadn, loadnm, loadv, hget, hset, hrep, hdel, slicev, bnd, shift1, lenv, capv, IntKind.bits, extractv, fieldv, indexv, min2v, max2v, mkiv, cellsA, fillA, buildv, stC, oneC, rowMB, intsA, plN, appE, appZ, appC, appNZ, appNC, VwL, srcC, srcZ, srcM, isBoolT, isPtrT, isSliceT, uOk, Value.oneCell', Nat.reducePow, Int.reducePow, Nat.reduceAdd, Nat.reduceMul, Nat.reduceSub, Nat.reduceLT, Nat.reduceLeDiff, Nat.reduceEqDiff, Nat.reduceBEq, Nat.reduceDiv, Nat.reduceMod, ↓reduceIte, reduceCtorEq, Int.reduceToNat, Int.reduceLT, Int.reduceLE, TFExD, SeqQ, BlkQ, LoopQ, BodyQ, k, k5, c1, c2, FR])
              | (refine WP.seq fun K hK => ?_)
              | (refine WP.region (rvc_sound _ _ (Sm.out ?_)))
              | (refine WP.drawK rfl mixed (by decide +kernel) (Sm.out ?_))
              | (refine Ob.mk ?_; focus (first | assumption | omega | decide | trivial | (intro hob; simp only [hob, ZF]; done) | (intros; (repeat' refine And.intro ?_ ?_) <;> first | assumption | omega | trivial | decide) | (intros; simp only [ZE] at *; (repeat' refine And.intro ?_ ?_) <;> first | assumption | omega | trivial)))
              | (refine And.intro (Ob.out ?_) ?_)
              | (refine WP.block ?_)
              | (refine WP.cond rfl (fun hc => ?_) (fun hc => ?_) <;> (try simp only [ZC, reduceCtorEq, ZD] at hc) <;> (try (exact absurd hc (by decide))) <;> (try (exfalso; omega)))
              | ((first | refine WP.skip ?_ | refine WP.exit ?_); simp only [SeqQ, BlkQ, LoopQ, BodyQ, ↓reduceIte, Nat.reduceEqDiff, reduceCtorEq, look, true_and])
              | (refine WP.ret (Sm.out ?_))
              | (first | refine ExG.no (Sm.out ?_) | refine Or.inl (ExG.no (Sm.out ?_)) | refine Or.inl (And.intro (fun hg => absurd hg (by decide)) (ExG.no (Sm.out ?_))))
              | (refine Rt.mk ?_; refine And.intro ?_ ?_ <;> (intro hg; first | exact absurd hg (by decide) | refine Sm.out ?_))
              | (refine Nu.mk ?_; first | (fail_if_success (have := nb1)); intro nb1 | (fail_if_success (have := nb2)); intro nb2 | (fail_if_success (have := nb3)); intro nb3 | intro nbz)
              | (refine Fr.mk ?_; intro hfr; replace FR := And.intro hfr FR; clear hfr; refine Sm.out ?_)
              | (refine Two.mk ?_ ?_)
              | (refine Cs.mk ?_; intro hcs; first | exact False.elim hcs | (exfalso; omega) | (refine Sm.out ?_))
              | go_step
              | omega
              | (simp only [maxLen_eq]; omega)
            exact ⟨⟨q - 1, r + yn1⟩, ⟨D', by simp only; omega, by simp only; omega⟩, by simp only; omega, (Sub.pick (by simp [pickB, hget, hdel, FR]) (by simp [look]))⟩
        · have k : decide ((q : Int) ≥ 4294967296) = false := by simp; omega
          have hqy : q * yn0 ≤ 4294967295 * 4294967295 := Nat.mul_le_mul (by omega) (by omega)
          have c3 : IntKind.u64.wrap ((q : Int) * (yn0 : Int)) = ((q * yn0 : Nat) : Int) := by rw [← Int.natCast_mul, wrap_u64_nat (by omega)]
          have c4 : IntKind.u64.wrap (4294967296 * (r : Int)) = ((4294967296 * r : Nat) : Int) := by rw [show 4294967296 * (r : Int) = ((4294967296 * r : Nat) : Int) by simp, wrap_u64_nat (by omega)]
          have c5 : IntKind.u64.wrap (((4294967296 * r : Nat) : Int) + (un0 : Int)) = ((4294967296 * r + un0 : Nat) : Int) := by rw [← Int.natCast_add, wrap_u64_nat (by omega)]
          have k4 : decide (((q * yn0 : Nat) : Int) > ((4294967296 * r + un0 : Nat) : Int)) = true := decide_eq_true (by omega)
          by_cases hr2 : 4294967296 ≤ r + yn1
          · have k5 : decide (((r + yn1 : Nat) : Int) ≥ 4294967296) = true := by simp; omega
            have he := dig_break (by omega) (by omega) b3 (by omega) D' hr2
            rw [← eY, ← hQ0] at he
            first | (have FRx := FR; clear FRx) | (have FR : ¬ ((1 : Nat) = 0) := Nat.one_ne_zero)
            repeat' first
              | (refine Sm.mk ?_; try simp -dsimp only [ZK, rvc, drawF, headN, pureH, stp, dvc, calleeOf, gcall, pev, eff, newB, okd, og, ogs, ogo, ogp, slv, bltv, opd, litv, strip, one, both, putE, St.put, look, gdOf, gdv, picka, pickv, pickw, binv, bini, bins, binb, binp, binq, isSlT, bina, shp, eqCells, unv, convv, nilv, faddv, addp, idxav, idxp, load1, load1m, loadn, loadnm, loadv, hget, hset, hrep, hdel, slicev, bnd, shift1, lenv, capv, IntKind.bits, extractv, fieldv, indexv, min2v, max2v, mkiv, cellsA, fillA, buildv, stC, oneC, rowMB, intsA, plN, appE, appZ, appC, appNZ, appNC, VwL, srcC, srcZ, srcM, isBoolT, isPtrT, isSliceT, uOk, Value.oneCell', Nat.reducePow, Int.reducePow, Nat.reduceAdd, Nat.reduceMul, Nat.reduceSub, Nat.reduceLT, Nat.reduceLeDiff, Nat.reduceEqDiff, Nat.reduceBEq, Nat.reduceDiv, Nat.reduceMod, ↓reduceIte, reduceCtorEq, Int.reduceToNat, Int.reduceLT, Int.reduceLE, TFExD, SeqQ, BlkQ, LoopQ, BodyQ, k, k4, k5, c1, c2, c3, c4, c5, he, FR])
              | (refine WP.seq fun K hK => ?_)
              | (refine WP.region (rvc_sound _ _ (Sm.out ?_)))
              | (refine WP.drawK rfl mixed (by decide +kernel) (Sm.out ?_))
              | (refine Ob.mk ?_; focus (first | assumption | omega | decide | trivial | (intro hob; simp only [hob, ZF]; done) | (intros; (repeat' refine And.intro ?_ ?_) <;> first | assumption | omega | trivial | decide) | (intros; simp only [ZE] at *; (repeat' refine And.intro ?_ ?_) <;> first | assumption | omega | trivial)))
              | (refine And.intro (Ob.out ?_) ?_)
              | (refine WP.block ?_)
              | (refine WP.cond rfl (fun hc => ?_) (fun hc => ?_) <;> (try simp only [ZC, reduceCtorEq, ZD] at hc) <;> (try (exact absurd hc (by decide))) <;> (try (exfalso; omega)))
              | ((first | refine WP.skip ?_ | refine WP.exit ?_); simp only [SeqQ, BlkQ, LoopQ, BodyQ, ↓reduceIte, Nat.reduceEqDiff, reduceCtorEq, look, true_and])
              | (refine WP.ret (Sm.out ?_))
              | (first | refine ExG.no (Sm.out ?_) | refine Or.inl (ExG.no (Sm.out ?_)) | refine Or.inl (And.intro (fun hg => absurd hg (by decide)) (ExG.no (Sm.out ?_))))
              | (refine Rt.mk ?_; refine And.intro ?_ ?_ <;> (intro hg; first | exact absurd hg (by decide) | refine Sm.out ?_))
              | (refine Nu.mk ?_; first | (fail_if_success (have := nb1)); intro nb1 | (fail_if_success (have := nb2)); intro nb2 | (fail_if_success (have := nb3)); intro nb3 | intro nbz)
              | (refine Fr.mk ?_; intro hfr; replace FR := And.intro hfr FR; clear hfr; refine Sm.out ?_)
              | (refine Two.mk ?_ ?_)
              | (refine Cs.mk ?_; intro hcs; first | exact False.elim hcs | (exfalso; omega) | (refine Sm.out ?_))
              | go_step
              | omega
              | (simp only [maxLen_eq]; omega)
            exact cont2.out _ (Sub.pick (by simp [pickB, hget, hdel, FR]) (by simp [look]))
          · have k5 : decide (((r + yn1 : Nat) : Int) ≥ 4294967296) = false := by simp; omega
            first | (have FRx := FR; clear FRx) | (have FR : ¬ ((1 : Nat) = 0) := Nat.one_ne_zero)
            repeat' first
              | (refine Sm.mk ?_; try simp -dsimp only [ZK, rvc, drawF, headN, pureH, stp, dvc, calleeOf, gcall, pev, eff, newB, okd, og, ogs, ogo, ogp, slv, bltv, opd, litv, strip, one, both, putE, St.put, look, gdOf, gdv, picka, pickv, pickw, binv, bini, bins, binb, binp, binq, isSlT, bina, shp, eqCells, unv, convv, nilv, faddv, addp, idxav, idxp, load1, load1m, loadn, loadnm, loadv, hget, hset, hrep, hdel, slicev, bnd, shift1, lenv, capv, IntKind.bits, extractv, fieldv, indexv, min2v, max2v, mkiv, cellsA, fillA, buildv, stC, oneC, rowMB, intsA, plN, appE, appZ, appC, appNZ, appNC, VwL, srcC, srcZ, srcM, isBoolT, isPtrT, isSliceT, uOk, Value.oneCell', Nat.reducePow, Int.reducePow, Nat.reduceAdd, Nat.reduceMul, Nat.reduceSub, Nat.reduceLT, Nat.reduceLeDiff, Nat.reduceEqDiff, Nat.reduceBEq, Nat.reduceDiv, Nat.reduceMod, ↓reduceIte, reduceCtorEq, Int.reduceToNat, Int.reduceLT, Int.reduceLE, TFExD, SeqQ, BlkQ, LoopQ, BodyQ, k, k4, k5, c1, c2, c3, c4, c5, FR])
              | (refine WP.seq fun K hK => ?_)
              | (refine WP.region (rvc_sound _ _ (Sm.out ?_)))
              | (refine WP.drawK rfl mixed (by decide +kernel) (Sm.out ?_))
              | (refine Ob.mk ?_; focus (first | assumption | omega | decide | trivial | (intro hob; simp only [hob, ZF]; done) | (intros; (repeat' refine And.intro ?_ ?_) <;> first | assumption | omega | trivial | decide) | (intros; simp only [ZE] at *; (repeat' refine And.intro ?_ ?_) <;> first | assumption | omega | trivial)))
              | (refine And.intro (Ob.out ?_) ?_)
              | (refine WP.block ?_)
              | (refine WP.cond rfl (fun hc => ?_) (fun hc => ?_) <;> (try simp only [ZC, reduceCtorEq, ZD] at hc) <;> (try (exact absurd hc (by decide))) <;> (try (exfalso; omega)))
              | ((first | refine WP.skip ?_ | refine WP.exit ?_); simp only [SeqQ, BlkQ, LoopQ, BodyQ, ↓reduceIte, Nat.reduceEqDiff, reduceCtorEq, look, true_and])
              | (refine WP.ret (Sm.out ?_))
              | (first | refine ExG.no (Sm.out ?_) | refine Or.inl (ExG.no (Sm.out ?_)) | refine Or.inl (And.intro (fun hg => absurd hg (by decide)) (ExG.no (Sm.out ?_))))
              | (refine Rt.mk ?_; refine And.intro ?_ ?_ <;> (intro hg; first | exact absurd hg (by decide) | refine Sm.out ?_))
              | (refine Nu.mk ?_; first | (fail_if_success (have := nb1)); intro nb1 | (fail_if_success (have := nb2)); intro nb2 | (fail_if_success (have := nb3)); intro nb3 | intro nbz)
              | (refine Fr.mk ?_; intro hfr; replace FR := And.intro hfr FR; clear hfr; refine Sm.out ?_)
              | (refine Two.mk ?_ ?_)
              | (refine Cs.mk ?_; intro hcs; first | exact False.elim hcs | (exfalso; omega) | (refine Sm.out ?_))
              | go_step
              | omega
              | (simp only [maxLen_eq]; omega)
            exact ⟨⟨q - 1, r + yn1⟩, ⟨D', by simp only; omega, by simp only; omega⟩, by simp only; omega, (Sub.pick (by simp [pickB, hget, hdel, FR]) (by simp [look]))⟩
      · have k : decide ((q : Int) ≥ 4294967296) = false := by simp; omega
        have hqy : q * yn0 ≤ 4294967295 * 4294967295 := Nat.mul_le_mul (by omega) (by omega)
        have c3 : IntKind.u64.wrap ((q : Int) * (yn0 : Int)) = ((q * yn0 : Nat) : Int) := by rw [← Int.natCast_mul, wrap_u64_nat (by omega)]
        have c4 : IntKind.u64.wrap (4294967296 * (r : Int)) = ((4294967296 * r : Nat) : Int) := by rw [show 4294967296 * (r : Int) = ((4294967296 * r : Nat) : Int) by simp, wrap_u64_nat (by omega)]
        have c5 : IntKind.u64.wrap (((4294967296 * r : Nat) : Int) + (un0 : Int)) = ((4294967296 * r + un0 : Nat) : Int) := by rw [← Int.natCast_add, wrap_u64_nat (by omega)]
        have k4 : decide (((q * yn0 : Nat) : Int) > ((4294967296 * r + un0 : Nat) : Int)) = false := decide_eq_false (by omega)
        have he := dig_stop (by omega) (by omega) D (by omega)
        rw [← eY, ← hQ0] at he
        first | (have FRx := FR; clear FRx) | (have FR : ¬ ((1 : Nat) = 0) := Nat.one_ne_zero)
        repeat' first
          | (refine Sm.mk ?_; try simp -dsimp only [ZK, rvc, drawF, headN, pureH, stp, dvc, calleeOf, gcall, pev, eff, newB, okd, og, ogs, ogo, ogp, slv, bltv, opd, litv, strip, one, both, putE, St.put, look, gdOf, gdv, picka, pickv, pickw, binv, bini, bins, binb, binp, binq, isSlT, bina, shp, eqCells, unv, convv, nilv, faddv, addp, idxav, idxp, load1, load1m, loadn, loadnm, loadv, hget, hset, hrep, hdel, slicev, bnd, shift1, lenv, capv, IntKind.bits, extractv, fieldv, indexv, min2v, max2v, mkiv, cellsA, fillA, buildv, stC, oneC, rowMB, intsA, plN, appE, appZ, appC, appNZ, appNC, VwL, srcC, srcZ, srcM, isBoolT, isPtrT, isSliceT, uOk, Value.oneCell', Nat.reducePow, Int.reducePow, Nat.reduceAdd, Nat.reduceMul, Nat.reduceSub, Nat.reduceLT, Nat.reduceLeDiff, Nat.reduceEqDiff, Nat.reduceBEq, Nat.reduceDiv, Nat.reduceMod, ↓reduceIte, reduceCtorEq, Int.reduceToNat, Int.reduceLT, Int.reduceLE, TFExD, SeqQ, BlkQ, LoopQ, BodyQ, k, k4, c3, c4, c5, FR])
          | (refine WP.seq fun K hK => ?_)
          | (refine WP.region (rvc_sound _ _ (Sm.out ?_)))
          | (refine WP.drawK rfl mixed (by decide +kernel) (Sm.out ?_))
          | (refine Ob.mk ?_; focus (first | assumption | omega | decide | trivial | (intro hob; simp only [hob, ZF]; done) | (intros; (repeat' refine And.intro ?_ ?_) <;> first | assumption | omega | trivial | decide) | (intros; simp only [ZE] at *; (repeat' refine And.intro ?_ ?_) <;> first | assumption | omega | trivial)))
          | (refine And.intro (Ob.out ?_) ?_)
          | (refine WP.block ?_)
          | (refine WP.cond rfl (fun hc => ?_) (fun hc => ?_) <;> (try simp only [ZC, reduceCtorEq, ZD] at hc) <;> (try (exact absurd hc (by decide))) <;> (try (exfalso; omega)))
          | ((first | refine WP.skip ?_ | refine WP.exit ?_); simp only [SeqQ, BlkQ, LoopQ, BodyQ, ↓reduceIte, Nat.reduceEqDiff, reduceCtorEq, look, true_and])
          | (refine WP.ret (Sm.out ?_))
          | (first | refine ExG.no (Sm.out ?_) | refine Or.inl (ExG.no (Sm.out ?_)) | refine Or.inl (And.intro (fun hg => absurd hg (by decide)) (ExG.no (Sm.out ?_))))
          | (refine Rt.mk ?_; refine And.intro ?_ ?_ <;> (intro hg; first | exact absurd hg (by decide) | refine Sm.out ?_))
          | (refine Nu.mk ?_; first | (fail_if_success (have := nb1)); intro nb1 | (fail_if_success (have := nb2)); intro nb2 | (fail_if_success (have := nb3)); intro nb3 | intro nbz)
          | (refine Fr.mk ?_; intro hfr; replace FR := And.intro hfr FR; clear hfr; refine Sm.out ?_)
          | (refine Two.mk ?_ ?_)
          | (refine Cs.mk ?_; intro hcs; first | exact False.elim hcs | (exfalso; omega) | (refine Sm.out ?_))
          | go_step
          | omega
          | (simp only [maxLen_eq]; omega)
        exact cont2.out _ (Sub.pick (by simp [pickB, hget, hdel, FR, he]) (by simp [look, he]))
    clear hK
    refine WP.loop (Γ := DG) (fun g => ⟨[(15, nu g.q), (16, nu g.r), (2, nu Y), (8, nu s), (9, nu yn1), (10, nu yn0), (11, nu u), (13, nu un1), (14, nu un0)], []⟩)
      (fun g => DInvD 4294967296 yn1 yn0 u un1 g.q g.r ∧ g.r < 4294967296 ∧ g.q < 18446744073709551616) (fun g => g.q) ⟨u / yn1, u - u / yn1 * yn1⟩
      ⟨D1, by have := Nat.mod_lt u (show 0 < yn1 by omega); have := Nat.div_add_mod u yn1; have := Nat.mul_comm yn1 (u / yn1); simp only; omega, by simp only; omega⟩ (Sub.pick (by simp [pickB, hget, hdel, FR]) (by simp [look])) ?_
    intro ⟨q, r⟩ ⟨D, hr, hq64⟩
    simp only at D hr hq64 ⊢
    by_cases ht : 4294967296 ≤ q ∨ 4294967296 * r + un1 < q * yn0
    · obtain ⟨hq0, D'⟩ := dig_next (by omega) (by omega) (by omega) b4 D ht
      have c1 : IntKind.u64.wrap ((q : Int) - 1) = ((q - 1 : Nat) : Int) := by rw [wrap_u64 (by omega) (by omega)]; omega
      have c2 : IntKind.u64.wrap ((r : Int) + (yn1 : Int)) = ((r + yn1 : Nat) : Int) := by rw [← Int.natCast_add, wrap_u64_nat (by omega)]
      by_cases hB : 4294967296 ≤ q
      · have k : decide ((q : Int) ≥ 4294967296) = true := by simp; omega
        by_cases hr2 : 4294967296 ≤ r + yn1
        · have k5 : decide (((r + yn1 : Nat) : Int) ≥ 4294967296) = true := by simp; omega
          have he := dig_break (by omega) (by omega) b3 (by omega) D' hr2
          rw [← eY, ← hQ1] at he
          first | (have FRx := FR; clear FRx) | (have FR : ¬ ((1 : Nat) = 0) := Nat.one_ne_zero)
          repeat' first
            | (refine Sm.mk ?_; try simp -dsimp only [ZK, rvc, drawF, headN, pureH, stp, dvc, calleeOf, gcall, pev, eff, newB, okd, og, ogs, ogo, ogp, slv, bltv, opd, litv, strip, one, both, putE, St.put, look, gdOf, gdv, picka, pickv, pickw, binv, bini, bins, binb, binp, binq, isSlT, bina, shp, eqCells, unv, convv, nilv, faddv, addp, idxav, idxp, load1, load1m, loadn, loadnm, loadv, hget, hset, hrep, hdel, slicev, bnd, shift1, lenv, capv, IntKind.bits, extractv, fieldv, indexv, min2v, max2v, mkiv, cellsA, fillA, buildv, stC, oneC, rowMB, intsA, plN, appE, appZ, appC, appNZ, appNC, VwL, srcC, srcZ, srcM, isBoolT, isPtrT, isSliceT, uOk, Value.oneCell', Nat.reducePow, Int.reducePow, Nat.reduceAdd, Nat.reduceMul, Nat.reduceSub, Nat.reduceLT, Nat.reduceLeDiff, Nat.reduceEqDiff, Nat.reduceBEq, Nat.reduceDiv, Nat.reduceMod, ↓reduceIte, reduceCtorEq, Int.reduceToNat, Int.reduceLT, Int.reduceLE, TFExD, SeqQ, BlkQ, LoopQ, BodyQ, k, k5, c1, c2, he, FR])
            | (refine WP.seq fun K hK => ?_)
            | (refine WP.region (rvc_sound _ _ (Sm.out ?_)))
            | (refine WP.drawK rfl mixed (by decide +kernel) (Sm.out ?_))
            | (refine Ob.mk ?_; focus (first | assumption | omega | decide | trivial | (intro hob; simp only [hob, ZF]; done) | (intros; (repeat' refine And.intro ?_ ?_) <;> first | assumption | omega | trivial | decide) | (intros; simp only [ZE] at *; (repeat' refine And.intro ?_ ?_) <;> first | assumption | omega | trivial)))
            | (refine And.intro (Ob.out ?_) ?_)
            | (refine WP.block ?_)
            | (refine WP.cond rfl (fun hc => ?_) (fun hc => ?_) <;> (try simp only [ZC, reduceCtorEq, ZD] at hc) <;> (try (exact absurd hc (by decide))) <;> (try (exfalso; omega)))
            | ((first | refine WP.skip ?_ | refine WP.exit ?_); simp only [SeqQ, BlkQ, LoopQ, BodyQ, ↓reduceIte, Nat.reduceEqDiff, reduceCtorEq, look, true_and])
            | (refine WP.ret (Sm.out ?_))
            | (first | refine ExG.no (Sm.out ?_) | refine Or.inl (ExG.no (Sm.out ?_)) | refine Or.inl (And.intro (fun hg => absurd hg (by decide)) (ExG.no (Sm.out ?_))))
            | (refine Rt.mk ?_; refine And.intro ?_ ?_ <;> (intro hg; first | exact absurd hg (by decide) | refine Sm.out ?_))
            | (refine Nu.mk ?_; first | (fail_if_success (have := nb1)); intro nb1 | (fail_if_success (have := nb2)); intro nb2 | (fail_if_success (have := nb3)); intro nb3 | intro nbz)
            | (refine Fr.mk ?_; intro hfr; replace FR := And.intro hfr FR; clear hfr; refine Sm.out ?_)
            | (refine Two.mk ?_ ?_)
            | (refine Cs.mk ?_; intro hcs; first | exact False.elim hcs | (exfalso; omega) | (refine Sm.out ?_))
            | go_step
            | omega
            | (simp only [maxLen_eq]; omega)
          exact cont.out _ (Sub.pick (by simp [pickB, hget, hdel, FR]) (by simp [look]))
        · have k5 : decide (((r + yn1 : Nat) : Int) ≥ 4294967296) = false := by simp; omega
          first | (have FRx := FR; clear FRx) | (have FR : ¬ ((1 : Nat) = 0) := Nat.one_ne_zero)
          repeat' first
            | (refine Sm.mk ?_; try simp -dsimp only [ZK, rvc, drawF, headN, pureH, stp, dvc, calleeOf, gcall, pev, eff, newB, okd, og, ogs, ogo, ogp, slv, bltv, opd, litv, strip, one, both, putE, St.put, look, gdOf, gdv, picka, pickv, pickw, binv, bini, bins, binb, binp, binq, isSlT, bina, shp, eqCells, unv, convv, nilv, faddv, addp, idxav, idxp, load1, load1m, loadn, loadnm, loadv, hget, hset, hrep, hdel, slicev, bnd, shift1, lenv, capv, IntKind.bits, extractv, fieldv, indexv, min2v, max2v, mkiv, cellsA, fillA, buildv, stC, oneC, rowMB, intsA, plN, appE, appZ, appC, appNZ, appNC, VwL, srcC, srcZ, srcM, isBoolT, isPtrT, isSliceT, uOk, Value.oneCell', Nat.reducePow, Int.reducePow, Nat.reduceAdd, Nat.reduceMul, Nat.reduceSub, Nat.reduceLT, Nat.reduceLeDiff, Nat.reduceEqDiff, Nat.reduceBEq, Nat.reduceDiv, Nat.reduceMod, ↓reduceIte, reduceCtorEq, Int.reduceToNat, Int.reduceLT, Int.reduceLE, TFExD, SeqQ, BlkQ, LoopQ, BodyQ, k, k5, c1, c2, FR])
            | (refine WP.seq fun K hK => ?_)
            | (refine WP.region (rvc_sound _ _ (Sm.out ?_)))
            | (refine WP.drawK rfl mixed (by decide +kernel) (Sm.out ?_))
            | (refine Ob.mk ?_; focus (first | assumption | omega | decide | trivial | (intro hob; simp only [hob, ZF]; done) | (intros; (repeat' refine And.intro ?_ ?_) <;> first | assumption | omega | trivial | decide) | (intros; simp only [ZE] at *; (repeat' refine And.intro ?_ ?_) <;> first | assumption | omega | trivial)))
            | (refine And.intro (Ob.out ?_) ?_)
            | (refine WP.block ?_)
            | (refine WP.cond rfl (fun hc => ?_) (fun hc => ?_) <;> (try simp only [ZC, reduceCtorEq, ZD] at hc) <;> (try (exact absurd hc (by decide))) <;> (try (exfalso; omega)))
            | ((first | refine WP.skip ?_ | refine WP.exit ?_); simp only [SeqQ, BlkQ, LoopQ, BodyQ, ↓reduceIte, Nat.reduceEqDiff, reduceCtorEq, look, true_and])
            | (refine WP.ret (Sm.out ?_))
            | (first | refine ExG.no (Sm.out ?_) | refine Or.inl (ExG.no (Sm.out ?_)) | refine Or.inl (And.intro (fun hg => absurd hg (by decide)) (ExG.no (Sm.out ?_))))
            | (refine Rt.mk ?_; refine And.intro ?_ ?_ <;> (intro hg; first | exact absurd hg (by decide) | refine Sm.out ?_))
            | (refine Nu.mk ?_; first | (fail_if_success (have := nb1)); intro nb1 | (fail_if_success (have := nb2)); intro nb2 | (fail_if_success (have := nb3)); intro nb3 | intro nbz)
            | (refine Fr.mk ?_; intro hfr; replace FR := And.intro hfr FR; clear hfr; refine Sm.out ?_)
            | (refine Two.mk ?_ ?_)
            | (refine Cs.mk ?_; intro hcs; first | exact False.elim hcs | (exfalso; omega) | (refine Sm.out ?_))
            | go_step
            | omega
            | (simp only [maxLen_eq]; omega)
          exact ⟨⟨q - 1, r + yn1⟩, ⟨D', by simp only; omega, by simp only; omega⟩, by simp only; omega, (Sub.pick (by simp [pickB, hget, hdel, FR]) (by simp [look]))⟩
      · have k : decide ((q : Int) ≥ 4294967296) = false := by simp; omega
        have hqy : q * yn0 ≤ 4294967295 * 4294967295 := Nat.mul_le_mul (by omega) (by omega)
        have c3 : IntKind.u64.wrap ((q : Int) * (yn0 : Int)) = ((q * yn0 : Nat) : Int) := by rw [← Int.natCast_mul, wrap_u64_nat (by omega)]
        have c4 : IntKind.u64.wrap (4294967296 * (r : Int)) = ((4294967296 * r : Nat) : Int) := by rw [show 4294967296 * (r : Int) = ((4294967296 * r : Nat) : Int) by simp, wrap_u64_nat (by omega)]
        have c5 : IntKind.u64.wrap (((4294967296 * r : Nat) : Int) + (un1 : Int)) = ((4294967296 * r + un1 : Nat) : Int) := by rw [← Int.natCast_add, wrap_u64_nat (by omega)]
        have k4 : decide (((q * yn0 : Nat) : Int) > ((4294967296 * r + un1 : Nat) : Int)) = true := decide_eq_true (by omega)
        by_cases hr2 : 4294967296 ≤ r + yn1
        · have k5 : decide (((r + yn1 : Nat) : Int) ≥ 4294967296) = true := by simp; omega
          have he := dig_break (by omega) (by omega) b3 (by omega) D' hr2
          rw [← eY, ← hQ1] at he
          first | (have FRx := FR; clear FRx) | (have FR : ¬ ((1 : Nat) = 0) := Nat.one_ne_zero)
          repeat' first
            | (refine Sm.mk ?_; try simp -dsimp only [ZK, rvc, drawF, headN, pureH, stp, dvc, calleeOf, gcall, pev, eff, newB, okd, og, ogs, ogo, ogp, slv, bltv, opd, litv, strip, one, both, putE, St.put, look, gdOf, gdv, picka, pickv, pickw, binv, bini, bins, binb, binp, binq, isSlT, bina, shp, eqCells, unv, convv, nilv, faddv, addp, idxav, idxp, load1, load1m, loadn, loadnm, loadv, hget, hset, hrep, hdel, slicev, bnd, shift1, lenv, capv, IntKind.bits, extractv, fieldv, indexv, min2v, max2v, mkiv, cellsA, fillA, buildv, stC, oneC, rowMB, intsA, plN, appE, appZ, appC, appNZ, appNC, VwL, srcC, srcZ, srcM, isBoolT, isPtrT, isSliceT, uOk, Value.oneCell', Nat.reducePow, Int.reducePow, Nat.reduceAdd, Nat.reduceMul, Nat.reduceSub, Nat.reduceLT, Nat.reduceLeDiff, Nat.reduceEqDiff, Nat.reduceBEq, Nat.reduceDiv, Nat.reduceMod, ↓reduceIte, reduceCtorEq, Int.reduceToNat, Int.reduceLT, Int.reduceLE, TFExD, SeqQ, BlkQ, LoopQ, BodyQ, k, k4, k5, c1, c2, c3, c4, c5, he, FR])
            | (refine WP.seq fun K hK => ?_)
            | (refine WP.region (rvc_sound _ _ (Sm.out ?_)))
            | (refine WP.drawK rfl mixed (by decide +kernel) (Sm.out ?_))
            | (refine Ob.mk ?_; focus (first | assumption | omega | decide | trivial | (intro hob; simp only [hob, ZF]; done) | (intros; (repeat' refine And.intro ?_ ?_) <;> first | assumption | omega | trivial | decide) | (intros; simp only [ZE] at *; (repeat' refine And.intro ?_ ?_) <;> first | assumption | omega | trivial)))
            | (refine And.intro (Ob.out ?_) ?_)
            | (refine WP.block ?_)
            | (refine WP.cond rfl (fun hc => ?_) (fun hc => ?_) <;> (try simp only [ZC, reduceCtorEq, ZD] at hc) <;> (try (exact absurd hc (by decide))) <;> (try (exfalso; omega)))
            | ((first | refine WP.skip ?_ | refine WP.exit ?_); simp only [SeqQ, BlkQ, LoopQ, BodyQ, ↓reduceIte, Nat.reduceEqDiff, reduceCtorEq, look, true_and])
            | (refine WP.ret (Sm.out ?_))
            | (first | refine ExG.no (Sm.out ?_) | refine Or.inl (ExG.no (Sm.out ?_)) | refine Or.inl (And.intro (fun hg => absurd hg (by decide)) (ExG.no (Sm.out ?_))))
            | (refine Rt.mk ?_; refine And.intro ?_ ?_ <;> (intro hg; first | exact absurd hg (by decide) | refine Sm.out ?_))
            | (refine Nu.mk ?_; first | (fail_if_success (have := nb1)); intro nb1 | (fail_if_success (have := nb2)); intro nb2 | (fail_if_success (have := nb3)); intro nb3 | intro nbz)
            | (refine Fr.mk ?_; intro hfr; replace FR := And.intro hfr FR; clear hfr; refine Sm.out ?_)
            | (refine Two.mk ?_ ?_)
            | (refine Cs.mk ?_; intro hcs; first | exact False.elim hcs | (exfalso; omega) | (refine Sm.out ?_))
            | go_step
            | omega
            | (simp only [maxLen_eq]; omega)
          exact cont.out _ (Sub.pick (by simp [pickB, hget, hdel, FR]) (by simp [look]))
        · have k5 : decide (((r + yn1 : Nat) : Int) ≥ 4294967296) = false := by simp; omega
          first | (have FRx := FR; clear FRx) | (have FR : ¬ ((1 : Nat) = 0) := Nat.one_ne_zero)
          repeat' first
            | (refine Sm.mk ?_; try simp -dsimp only [ZK, rvc, drawF, headN, pureH, stp, dvc, calleeOf, gcall, pev, eff, newB, okd, og, ogs, ogo, ogp, slv, bltv, opd, litv, strip, one, both, putE, St.put, look, gdOf, gdv, picka, pickv, pickw, binv, bini, bins, binb, binp, binq, isSlT, bina, shp, eqCells, unv, convv, nilv, faddv, addp, idxav, idxp, load1, load1m, loadn, loadnm, loadv, hget, hset, hrep, hdel, slicev, bnd, shift1, lenv, capv, IntKind.bits, extractv, fieldv, indexv, min2v, max2v, mkiv, cellsA, fillA, buildv, stC, oneC, rowMB, intsA, plN, appE, appZ, appC, appNZ, appNC, VwL, srcC, srcZ, srcM, isBoolT, isPtrT, isSliceT, uOk, Value.oneCell', Nat.reducePow, Int.reducePow, Nat.reduceAdd, Nat.reduceMul, Nat.reduceSub, Nat.reduceLT, Nat.reduceLeDiff, Nat.reduceEqDiff, Nat.reduceBEq, Nat.reduceDiv, Nat.reduceMod, ↓reduceIte, reduceCtorEq, Int.reduceToNat, Int.reduceLT, Int.reduceLE, TFExD, SeqQ, BlkQ, LoopQ, BodyQ, k, k4, k5, c1, c2, c3, c4, c5, FR])
            | (refine WP.seq fun K hK => ?_)
            | (refine WP.region (rvc_sound _ _ (Sm.out ?_)))
            | (refine WP.drawK rfl mixed (by decide +kernel) (Sm.out ?_))
            | (refine Ob.mk ?_; focus (first | assumption | omega | decide | trivial | (intro hob; simp only [hob, ZF]; done) | (intros; (repeat' refine And.intro ?_ ?_) <;> first | assumption | omega | trivial | decide) | (intros; simp only [ZE] at *; (repeat' refine And.intro ?_ ?_) <;> first | assumption | omega | trivial)))
            | (refine And.intro (Ob.out ?_) ?_)
            | (refine WP.block ?_)
            | (refine WP.cond rfl (fun hc => ?_) (fun hc => ?_) <;> (try simp only [ZC, reduceCtorEq, ZD] at hc) <;> (try (exact absurd hc (by decide))) <;> (try (exfalso; omega)))
            | ((first | refine WP.skip ?_ | refine WP.exit ?_); simp only [SeqQ, BlkQ, LoopQ, BodyQ, ↓reduceIte, Nat.reduceEqDiff, reduceCtorEq, look, true_and])
            | (refine WP.ret (Sm.out ?_))
            | (first | refine ExG.no (Sm.out ?_) | refine Or.inl (ExG.no (Sm.out ?_)) | refine Or.inl (And.intro (fun hg => absurd hg (by decide)) (ExG.no (Sm.out ?_))))
            | (refine Rt.mk ?_; refine And.intro ?_ ?_ <;> (intro hg; first | exact absurd hg (by decide) | refine Sm.out ?_))
            | (refine Nu.mk ?_; first | (fail_if_success (have := nb1)); intro nb1 | (fail_if_success (have := nb2)); intro nb2 | (fail_if_success (have := nb3)); intro nb3 | intro nbz)
            | (refine Fr.mk ?_; intro hfr; replace FR := And.intro hfr FR; clear hfr; refine Sm.out ?_)
            | (refine Two.mk ?_ ?_)
            | (refine Cs.mk ?_; intro hcs; first | exact False.elim hcs | (exfalso; omega) | (refine Sm.out ?_))
            | go_step
            | omega
            | (simp only [maxLen_eq]; omega)
          exact ⟨⟨q - 1, r + yn1⟩, ⟨D', by simp only; omega, by simp only; omega⟩, by simp only; omega, (Sub.pick (by simp [pickB, hget, hdel, FR]) (by simp [look]))⟩
    · have k : decide ((q : Int) ≥ 4294967296) = false := by simp; omega
      have hqy : q * yn0 ≤ 4294967295 * 4294967295 := Nat.mul_le_mul (by omega) (by omega)
      have c3 : IntKind.u64.wrap ((q : Int) * (yn0 : Int)) = ((q * yn0 : Nat) : Int) := by rw [← Int.natCast_mul, wrap_u64_nat (by omega)]
      have c4 : IntKind.u64.wrap (4294967296 * (r : Int)) = ((4294967296 * r : Nat) : Int) := by rw [show 4294967296 * (r : Int) = ((4294967296 * r : Nat) : Int) by simp, wrap_u64_nat (by omega)]
      have c5 : IntKind.u64.wrap (((4294967296 * r : Nat) : Int) + (un1 : Int)) = ((4294967296 * r + un1 : Nat) : Int) := by rw [← Int.natCast_add, wrap_u64_nat (by omega)]
      have k4 : decide (((q * yn0 : Nat) : Int) > ((4294967296 * r + un1 : Nat) : Int)) = false := decide_eq_false (by omega)
      have he := dig_stop (by omega) (by omega) D (by omega)
      rw [← eY, ← hQ1] at he
      first | (have FRx := FR; clear FRx) | (have FR : ¬ ((1 : Nat) = 0) := Nat.one_ne_zero)
      repeat' first
        | (refine Sm.mk ?_; try simp -dsimp only [ZK, rvc, drawF, headN, pureH, stp, dvc, calleeOf, gcall, pev, eff, newB, okd, og, ogs, ogo, ogp, slv, bltv, opd, litv, strip, one, both, putE, St.put, look, gdOf, gdv, picka, pickv, pickw, binv, bini, bins, binb, binp, binq, isSlT, bina, shp, eqCells, unv, convv, nilv, faddv, addp, idxav, idxp, load1, load1m, loadn, loadnm, loadv, hget, hset, hrep, hdel, slicev, bnd, shift1, lenv, capv, IntKind.bits, extractv, fieldv, indexv, min2v, max2v, mkiv, cellsA, fillA, buildv, stC, oneC, rowMB, intsA, plN, appE, appZ, appC, appNZ, appNC, VwL, srcC, srcZ, srcM, isBoolT, isPtrT, isSliceT, uOk, Value.oneCell', Nat.reducePow, Int.reducePow, Nat.reduceAdd, Nat.reduceMul, Nat.reduceSub, Nat.reduceLT, Nat.reduceLeDiff, Nat.reduceEqDiff, Nat.reduceBEq, Nat.reduceDiv, Nat.reduceMod, ↓reduceIte, reduceCtorEq, Int.reduceToNat, Int.reduceLT, Int.reduceLE, TFExD, SeqQ, BlkQ, LoopQ, BodyQ, k, k4, c3, c4, c5, FR])
        | (refine WP.seq fun K hK => ?_)
        | (refine WP.region (rvc_sound _ _ (Sm.out ?_)))
        | (refine WP.drawK rfl mixed (by decide +kernel) (Sm.out ?_))
        | (refine Ob.mk ?_; focus (first | assumption | omega | decide | trivial | (intro hob; simp only [hob, ZF]; done) | (intros; (repeat' refine And.intro ?_ ?_) <;> first | assumption | omega | trivial | decide) | (intros; simp only [ZE] at *; (repeat' refine And.intro ?_ ?_) <;> first | assumption | omega | trivial)))
        | (refine And.intro (Ob.out ?_) ?_)
        | (refine WP.block ?_)
        | (refine WP.cond rfl (fun hc => ?_) (fun hc => ?_) <;> (try simp only [ZC, reduceCtorEq, ZD] at hc) <;> (try (exact absurd hc (by decide))) <;> (try (exfalso; omega)))
        | ((first | refine WP.skip ?_ | refine WP.exit ?_); simp only [SeqQ, BlkQ, LoopQ, BodyQ, ↓reduceIte, Nat.reduceEqDiff, reduceCtorEq, look, true_and])
        | (refine WP.ret (Sm.out ?_))
        | (first | refine ExG.no (Sm.out ?_) | refine Or.inl (ExG.no (Sm.out ?_)) | refine Or.inl (And.intro (fun hg => absurd hg (by decide)) (ExG.no (Sm.out ?_))))
        | (refine Rt.mk ?_; refine And.intro ?_ ?_ <;> (intro hg; first | exact absurd hg (by decide) | refine Sm.out ?_))
        | (refine Nu.mk ?_; first | (fail_if_success (have := nb1)); intro nb1 | (fail_if_success (have := nb2)); intro nb2 | (fail_if_success (have := nb3)); intro nb3 | intro nbz)
        | (refine Fr.mk ?_; intro hfr; replace FR := And.intro hfr FR; clear hfr; refine Sm.out ?_)
        | (refine Two.mk ?_ ?_)
        | (refine Cs.mk ?_; intro hcs; first | exact False.elim hcs | (exfalso; omega) | (refine Sm.out ?_))
        | go_step
        | omega
        | (simp only [maxLen_eq]; omega)
      exact cont.out _ (Sub.pick (by simp [pickB, hget, hdel, FR, he]) (by simp [look, he]))
end Go.Proofs.YtocfaghflhgeeaaDoor
namespace Go.Proofs.YtocfaghflhgeeaaDoor
open Go
set_option linter.unusedVariables false
set_option linter.unusedSimpArgs false
theorem TFExE : (((((type_of% tyc0) ∧ (type_of% tyc4)) ∧ ((type_of% zmb4) ∧ ((type_of% tyc22) ∧ (type_of% zmb22)))) ∧ (((type_of% tyc26) ∧ ((type_of% foff26_0) ∧ (type_of% fpart26_0))) ∧ ((type_of% foff26_1) ∧ ((type_of% fpart26_1) ∧ (type_of% fe26))))) ∧ ((((type_of% zmb26) ∧ (type_of% bldT26)) ∧ ((type_of% tyc27) ∧ ((type_of% zmb27) ∧ (type_of% tyc66)))) ∧ (((type_of% Tryd.underlying0) ∧ ((type_of% Tryd.underlying4) ∧ (type_of% Tryd.underlying22))) ∧ ((type_of% Tryd.underlying26) ∧ ((type_of% Tryd.underlying27) ∧ (type_of% Tryd.underlying66)))))) :=
  ⟨⟨⟨⟨tyc0, tyc4⟩, ⟨zmb4, ⟨tyc22, zmb22⟩⟩⟩, ⟨⟨tyc26, ⟨foff26_0, fpart26_0⟩⟩, ⟨foff26_1, ⟨fpart26_1, fe26⟩⟩⟩⟩, ⟨⟨⟨zmb26, bldT26⟩, ⟨tyc27, ⟨zmb27, tyc66⟩⟩⟩, ⟨⟨Tryd.underlying0, ⟨Tryd.underlying4, Tryd.underlying22⟩⟩, ⟨Tryd.underlying26, ⟨Tryd.underlying27, Tryd.underlying66⟩⟩⟩⟩⟩
theorem hilo (a b : Nat) (h : b < 18446744073709551616) : (a * 18446744073709551616 + b) / 18446744073709551616 = a ∧ (a * 18446744073709551616 + b) % 18446744073709551616 = b := by constructor <;> omega
theorem floor_ct (h l n : Nat) (hh : h < 18446744073709551616) (hl : l < 18446744073709551616) (hn : 0 < n) (hn2 : n < 18446744073709551616) :
    ACt Tryd.prog 23 [.agg [nu h, nu l], nu n] [] (Fn (.tup [wideA ((h * 18446744073709551616 + l) / n), nu ((h * 18446744073709551616 + l) % n), iv .i64 0])) := by
  refine ACt.intro Tryd.func23 rfl (by kernel_rfl) (by simp [Tryd.ntmps23]) (fun cx => ?_)
  simp only [argE, Tryd.ntmps23, Tryd.results23]
  have k0 : ((n : Int) == 0) = false := beq_eq_false_iff_ne.2 (by omega)
  have hm : h % n < n := Nat.mod_lt _ hn
  have c1 : ACt Tryd.prog 35 [iv .u64 0, nu h, nu n] [] (Fn (.tup [nu (h / n), nu (h % n)])) := by
    have := div64_ct 0 h n hn hn2 hh
    rw [Nat.zero_mul, Nat.zero_add] at this
    exact this
  have c2 := div64_ct (h % n) l n hm hn2 hl
  have hlt : (h % n * 18446744073709551616 + l) / n < 18446744073709551616 := dig_lt hm hl
  have e : h * 18446744073709551616 + l = (h % n * 18446744073709551616 + l) + n * (h / n * 18446744073709551616) := by
    have hd := Nat.div_add_mod h n
    have : n * (h / n * 18446744073709551616) = n * (h / n) * 18446744073709551616 := by rw [Nat.mul_assoc]
    rw [this]
    generalize n * (h / n) = a at *
    omega
  have e1 : (h * 18446744073709551616 + l) / n = h / n * 18446744073709551616 + (h % n * 18446744073709551616 + l) / n := by
    rw [e, Nat.add_mul_div_left _ _ hn, Nat.add_comm]
  have e2 : (h * 18446744073709551616 + l) % n = (h % n * 18446744073709551616 + l) % n := by
    rw [e, Nat.add_mul_mod_self_left]
  have e3 : (h * 18446744073709551616 + l) / n / 18446744073709551616 = h / n := by rw [e1]; exact (hilo _ _ hlt).1
  have e4 : (h * 18446744073709551616 + l) / n % 18446744073709551616 = (h % n * 18446744073709551616 + l) / n := by rw [e1]; exact (hilo _ _ hlt).2
  first | (have FRx := FR; clear FRx) | (have FR : ¬ ((1 : Nat) = 0) := Nat.one_ne_zero)
  repeat' first
    | (refine Sm.mk ?_; try simp -dsimp only [ZK, rvc, drawF, headN, pureH, stp, dvc, calleeOf, gcall, pev, eff, newB, okd, og, ogs, ogo, ogp, slv, bltv, opd, litv, strip, one, both, putE, St.put, look, gdOf, gdv, picka, pickv, pickw, binv, bini, bins, binb, binp, binq, isSlT, bina, shp, eqCells, unv, convv, nilv, faddv, addp, idxav, idxp, load1, load1m, loadn, loadnm, loadv, hget, hset, hrep, hdel, slicev, bnd, shift1, lenv, capv, IntKind.bits, extractv, fieldv, indexv, min2v, max2v, mkiv, cellsA, fillA, buildv, stC, oneC, rowMB, intsA, plN, appE, appZ, appC, appNZ, appNC, VwL, srcC, srcZ, srcM, isBoolT, isPtrT, isSliceT, uOk, Value.oneCell', Nat.reducePow, Int.reducePow, Nat.reduceAdd, Nat.reduceMul, Nat.reduceSub, Nat.reduceLT, Nat.reduceLeDiff, Nat.reduceEqDiff, Nat.reduceBEq, Nat.reduceDiv, Nat.reduceMod, ↓reduceIte, reduceCtorEq, Int.reduceToNat, Int.reduceLT, Int.reduceLE, TFExE, SeqQ, BlkQ, LoopQ, BodyQ, k0, FR])
    | (first | refine CallV.fn (c1) (Sm.out ?_) | refine ExF.mk (c1) (Sm.out ?_) | refine ExG.mk (fun _ => c1) (Sm.out ?_) | refine ExG.mkJ (fun _ => c1) (Sm.out ?_) | refine ExG.mkI (Ob.out ?_) (fun _ => c1) (Sm.out ?_))
    | (first | refine CallV.fn (c2) (Sm.out ?_) | refine ExF.mk (c2) (Sm.out ?_) | refine ExG.mk (fun _ => c2) (Sm.out ?_) | refine ExG.mkJ (fun _ => c2) (Sm.out ?_) | refine ExG.mkI (Ob.out ?_) (fun _ => c2) (Sm.out ?_))
    | (refine WP.seq fun K hK => ?_)
    | (refine WP.region (rvc_sound _ _ (Sm.out ?_)))
    | (refine WP.drawK rfl mixed (by decide +kernel) (Sm.out ?_))
    | (refine Ob.mk ?_; focus (first | assumption | omega | decide | trivial | (intro hob; simp only [hob, ZF]; done) | (intros; (repeat' refine And.intro ?_ ?_) <;> first | assumption | omega | trivial | decide) | (intros; simp only [ZE] at *; (repeat' refine And.intro ?_ ?_) <;> first | assumption | omega | trivial)))
    | (refine And.intro (Ob.out ?_) ?_)
    | (refine WP.block ?_)
    | (refine WP.cond rfl (fun hc => ?_) (fun hc => ?_) <;> (try simp only [ZC, reduceCtorEq, ZD] at hc) <;> (try (exact absurd hc (by decide))) <;> (try (exfalso; omega)))
    | ((first | refine WP.skip ?_ | refine WP.exit ?_); simp only [SeqQ, BlkQ, LoopQ, BodyQ, ↓reduceIte, Nat.reduceEqDiff, reduceCtorEq, look, true_and])
    | (refine WP.ret (Sm.out ?_))
    | (first | refine ExG.no (Sm.out ?_) | refine Or.inl (ExG.no (Sm.out ?_)) | refine Or.inl (And.intro (fun hg => absurd hg (by decide)) (ExG.no (Sm.out ?_))))
    | (refine Rt.mk ?_; refine And.intro ?_ ?_ <;> (intro hg; first | exact absurd hg (by decide) | refine Sm.out ?_))
    | (refine Nu.mk ?_; first | (fail_if_success (have := nb1)); intro nb1 | (fail_if_success (have := nb2)); intro nb2 | (fail_if_success (have := nb3)); intro nb3 | intro nbz)
    | (refine Fr.mk ?_; intro hfr; replace FR := And.intro hfr FR; clear hfr; refine Sm.out ?_)
    | (refine Two.mk ?_ ?_)
    | (refine Cs.mk ?_; intro hcs; first | exact False.elim hcs | (exfalso; omega) | (refine Sm.out ?_))
    | go_step
    | omega
    | (simp only [maxLen_eq]; omega)
  (refine OutQ.all ?_ ?_; (focus (simp only [resv, ZK, look, loadv, loadn, loadnm, load1, load1m, hget, ↓reduceIte, Nat.reduceEqDiff, Nat.reduceAdd, Nat.reduceMul, Nat.reduceLeDiff, Nat.reduceLT, reduceCtorEq, TFExE, e2, e3, e4, FR])); (try simp only [resv, resA, Fn, ZK, look, loadv, loadn, loadnm, load1, load1m, hget, ↓reduceIte, Nat.reduceEqDiff, Nat.reduceAdd, Nat.reduceMul, Nat.reduceLeDiff, Nat.reduceLT, reduceCtorEq, TFExE, e2, e3, e4, FR]); (try simp [resA, Fn, look, e2, e3, e4, FR]))
def cmpN (a b : Nat) : Int := if a < b then -1 else if b < a then 1 else 0
end Go.Proofs.YtocfaghflhgeeaaDoor
namespace Go.Proofs.YtocfaghflhgeeaaDoor
open Go
set_option linter.unusedVariables false
set_option linter.unusedSimpArgs false
theorem TFExN : (((((type_of% tyc0) ∧ (type_of% tyc3)) ∧ ((type_of% zmb3) ∧ (type_of% tyc4))) ∧ (((type_of% zmb4) ∧ (type_of% tyc32)) ∧ ((type_of% elt32) ∧ (type_of% mkz32)))) ∧ ((((type_of% mkc32) ∧ (type_of% apT32)) ∧ ((type_of% elk32) ∧ (type_of% zmb32))) ∧ (((type_of% Tryd.underlying0) ∧ (type_of% Tryd.underlying3)) ∧ ((type_of% Tryd.underlying4) ∧ (type_of% Tryd.underlying32))))) :=
  ⟨⟨⟨⟨tyc0, tyc3⟩, ⟨zmb3, tyc4⟩⟩, ⟨⟨zmb4, tyc32⟩, ⟨elt32, mkz32⟩⟩⟩, ⟨⟨⟨mkc32, apT32⟩, ⟨elk32, zmb32⟩⟩, ⟨⟨Tryd.underlying0, Tryd.underlying3⟩, ⟨Tryd.underlying4, Tryd.underlying32⟩⟩⟩⟩
def minusG (a b : List Bool) : Nat → Nat → Nat → List Bool
  | 0, _, _ => []
  | n + 1, i, d => decide ((bitA a i + 2 - bitA b i - d) % 2 = 1) :: minusG a b n (i + 1) (if bitA a i + 2 - bitA b i - d < 2 then 1 else 0)
def minusF (a b : List Bool) : List Bool := minusG a b a.length 0 0
theorem minusG_len (a b : List Bool) : ∀ n i d, (minusG a b n i d).length = n
  | 0, i, d => rfl
  | n + 1, i, d => by simp [minusG, minusG_len a b n]
theorem minusG_val (a b : List Bool) : ∀ n i d, d ≤ 1 → n = a.length - i → ∃ c, valB (minusG a b n i d) + valB (b.drop i) + d = valB (a.drop i) + 2 ^ n * c
  | 0, i, d, h1, h2 => by
    rw [List.drop_eq_nil_of_le (show a.length ≤ i by omega)]
    exact ⟨valB (b.drop i) + d, by simp [minusG, valB]⟩
  | n + 1, i, d, h1, h2 => by
    have ha := bitA_le a i
    have hb := bitA_le b i
    obtain ⟨d', hd'⟩ : ∃ d', d' = if bitA a i + 2 - bitA b i - d < 2 then 1 else 0 := ⟨_, rfl⟩
    obtain ⟨c, hc⟩ := minusG_val a b n (i + 1) d' (by rw [hd']; split <;> omega) (by omega)
    refine ⟨c, ?_⟩
    rw [minusG, ← hd', valB, valB_drop a i, valB_drop b i, Nat.pow_succ]
    generalize valB (minusG a b n (i + 1) d') = r at *
    have e : 2 ^ n * 2 * c = 2 * (2 ^ n * c) := by rw [Nat.mul_comm (2 ^ n) 2, Nat.mul_assoc]
    rw [e]
    generalize bitA a i = p at *
    generalize bitA b i = q at *
    generalize 2 ^ n * c = w at *
    by_cases hh : (p + 2 - q - d) % 2 = 1
    · rw [decide_eq_true hh]
      split at hd' <;> simp only [Bool.toNat_true] <;> omega
    · rw [decide_eq_false hh]
      split at hd' <;> simp only [Bool.toNat_false] <;> omega
theorem minusF_val (a b : List Bool) (h : valB b ≤ valB a) : valB (minusF a b) = valB a - valB b := by
  obtain ⟨c, hc⟩ := minusG_val a b a.length 0 0 (by omega) (by omega)
  rw [List.drop_zero, List.drop_zero] at hc
  have h2 := valB_lt (minusF a b)
  unfold minusF at h2 ⊢
  rw [minusG_len] at h2
  have h3 : c = 0 := by
    apply Nat.eq_zero_of_not_pos
    intro hp
    have : 2 ^ a.length * 1 ≤ 2 ^ a.length * c := Nat.mul_le_mul_left _ hp
    omega
  rw [h3] at hc
  omega
structure MG where
  i : Nat
  d : Nat
  acc : List Bool
  b : Nat
  cap : Nat
set_option maxRecDepth 8000 in
set_option maxHeartbeats 1000000 in
theorem minus_ct (x y : List Bool) (n m : Nat) (hn : x.length = n) (hm : y.length = m) (hx : n ≤ 1000000) (hy : m ≤ 1000000) :
    ACt Tryd.prog 25 [.sl n (bl x), .sl m (bl y)] [] (Fn (.sl n (bl (minusF x y)))) := by
  subst hn hm
  refine ACt.intro Tryd.func25 rfl (by kernel_rfl) (by simp [Tryd.ntmps25]) (fun cx => ?_)
  simp only [argE, Tryd.ntmps25, Tryd.results25]
  first | (have FRx := FR; clear FRx) | (have FR : ¬ ((1 : Nat) = 0) := Nat.one_ne_zero)
  repeat' first
    | (refine Sm.mk ?_; try simp -dsimp only [ZK, rvc, drawF, headN, pureH, stp, dvc, calleeOf, gcall, pev, eff, newB, okd, og, ogs, ogo, ogp, slv, bltv, opd, litv, strip, one, both, putE, St.put, look, gdOf, gdv, picka, pickv, pickw, binv, bini, bins, binb, binp, binq, isSlT, bina, shp, eqCells, unv, convv, nilv, faddv, addp, idxav, idxp, load1, load1m, loadn, loadnm, loadv, hget, hset, hrep, hdel, slicev, bnd, shift1, lenv, capv, IntKind.bits, extractv, fieldv, indexv, min2v, max2v, mkiv, cellsA, fillA, buildv, stC, oneC, rowMB, intsA, plN, appE, appZ, appC, appNZ, appNC, VwL, srcC, srcZ, srcM, isBoolT, isPtrT, isSliceT, uOk, Value.oneCell', Nat.reducePow, Int.reducePow, Nat.reduceAdd, Nat.reduceMul, Nat.reduceSub, Nat.reduceLT, Nat.reduceLeDiff, Nat.reduceEqDiff, Nat.reduceBEq, Nat.reduceDiv, Nat.reduceMod, ↓reduceIte, reduceCtorEq, Int.reduceToNat, Int.reduceLT, Int.reduceLE, TFExN, SeqQ, BlkQ, LoopQ, BodyQ, FR])
    | (refine WP.seq fun K hK => ?_)
    | (refine WP.region (rvc_sound _ _ (Sm.out ?_)))
    | (refine WP.drawK rfl mixed (by decide +kernel) (Sm.out ?_))
    | (refine Ob.mk ?_; focus (first | assumption | omega | decide | trivial | (intro hob; simp only [hob, ZF]; done) | (intros; (repeat' refine And.intro ?_ ?_) <;> first | assumption | omega | trivial | decide) | (intros; simp only [ZE] at *; (repeat' refine And.intro ?_ ?_) <;> first | assumption | omega | trivial)))
    | (refine And.intro (Ob.out ?_) ?_)
    | (refine WP.block ?_)
    | (refine WP.cond rfl (fun hc => ?_) (fun hc => ?_) <;> (try simp only [ZC, reduceCtorEq, ZD] at hc) <;> (try (exact absurd hc (by decide))) <;> (try (exfalso; omega)))
    | ((first | refine WP.skip ?_ | refine WP.exit ?_); simp only [SeqQ, BlkQ, LoopQ, BodyQ, ↓reduceIte, Nat.reduceEqDiff, reduceCtorEq, look, true_and])
    | (refine WP.ret (Sm.out ?_))
    | (first | refine ExG.no (Sm.out ?_) | refine Or.inl (ExG.no (Sm.out ?_)) | refine Or.inl (And.intro (fun hg => absurd hg (by decide)) (ExG.no (Sm.out ?_))))
    | (refine Rt.mk ?_; refine And.intro ?_ ?_ <;> (intro hg; first | exact absurd hg (by decide) | refine Sm.out ?_))
    | (refine Nu.mk ?_; first | (fail_if_success (have := nb1)); intro nb1 | (fail_if_success (have := nb2)); intro nb2 | (fail_if_success (have := nb3)); intro nb3 | (fail_if_success (have := nb4)); intro nb4 | intro nbz)
    | (refine Fr.mk ?_; intro hfr; replace FR := And.intro hfr FR; clear hfr; refine Sm.out ?_)
    | (refine Two.mk ?_ ?_)
    | (refine Cs.mk ?_; intro hcs; first | exact False.elim hcs | (exfalso; omega) | (refine Sm.out ?_))
    | go_step
    | omega
    | (simp only [maxLen_eq]; omega)
  refine WP.loop (Γ := MG) (fun g => ⟨[(7, iv .i64 g.i), (6, iv .i64 g.d), (5, ms g.b 0 g.i g.cap), (0, .sl x.length (bl x)), (1, .sl y.length (bl y))], [(g.b, .cells (bl g.acc) g.cap 4)]⟩)
    (fun g => minusF x y = g.acc ++ minusG x y (x.length - g.i) g.i g.d ∧ g.acc.length = g.i ∧ g.d ≤ 1 ∧ g.i ≤ x.length ∧ g.i ≤ g.cap ∧ g.cap ≤ 9223372036854775807) (fun g => x.length - g.i) ⟨0, 0, [], nb1, 0⟩
    ⟨by simp [minusF], by simp, by simp, by simp, by simp, by simp⟩ (Sub.pick (by simp [pickB, hget, hdel, FR, bl]) (by simp [look, bl])) ?_
  intro ⟨i, d, acc, b, cap⟩ ⟨h1, h2, h3, h4, h5, h6⟩
  simp only at h1 h2 h3 h4 h5 h6 ⊢
  (refine WP.nd fun hnd => ?_; simp only [ndF, fresh_cons, fresh_nil, and_true, ne_eq] at hnd; replace FR := And.intro hnd FR; clear hnd)
  have a1 := bitA_le x i
  have a2 := bitA_le y i
  have hbl : (bl acc).length = i := by rw [bl_len, h2]
  by_cases hi : i < x.length
  · have k1 : decide ((i : Int) < x.length) = true := by simp; omega
    have g1 : IntKind.i64.wrap ((i : Int) + 1) = ((i + 1 : Nat) : Int) := by rw [wrap_i64 (by omega) (by omega)]; omega
    obtain ⟨n, hn⟩ : ∃ n, x.length - i = n + 1 := ⟨x.length - i - 1, by omega⟩
    rw [hn, minusG] at h1
    obtain ⟨t, ht⟩ : ∃ t, t = bitA x i + 2 - bitA y i - d := ⟨_, rfl⟩
    rw [← ht] at h1
    have e1 : IntKind.i64.wrap (((bitA x i : Nat) : Int) - ((bitA y i : Nat) : Int)) = ((bitA x i : Nat) : Int) - ((bitA y i : Nat) : Int) := wrap_i64 (by omega) (by omega)
    have e2 : IntKind.i64.wrap (((bitA x i : Nat) : Int) - ((bitA y i : Nat) : Int) - (d : Int)) = (t : Int) - 2 := by rw [wrap_i64 (by omega) (by omega)]; omega
    by_cases hs : t < 2
    · have k2 : decide ((t : Int) - 2 < 0) = true := by simp; omega
      have e3 : IntKind.i64.wrap ((t : Int) - 2 + 2) = (t : Int) := by rw [wrap_i64 (by omega) (by omega)]; omega
      have e4 : ((t : Int) == 1) = decide (t % 2 = 1) := by
        by_cases ha : t % 2 = 1
        · rw [decide_eq_true ha]; exact beq_iff_eq.2 (by omega)
        · rw [decide_eq_false ha]; exact beq_eq_false_iff_ne.2 (by omega)
      rw [if_pos hs] at h1
      obtain ⟨acc', hacc⟩ : ∃ acc', acc' = acc ++ [decide (t % 2 = 1)] := ⟨_, rfl⟩
      have e8 : bl acc ++ [bv (decide (t % 2 = 1))] = bl acc' := by rw [hacc]; simp
      first | (have FRx := FR; clear FRx) | (have FR : ¬ ((1 : Nat) = 0) := Nat.one_ne_zero)
      repeat' first
        | (refine Sm.mk ?_; try simp -dsimp only [ZK, rvc, drawF, headN, pureH, stp, dvc, calleeOf, gcall, pev, eff, newB, okd, og, ogs, ogo, ogp, slv, bltv, opd, litv, strip, one, both, putE, St.put, look, gdOf, gdv, picka, pickv, pickw, binv, bini, bins, binb, binp, binq, isSlT, bina, shp, eqCells, unv, convv, nilv, faddv, addp, idxav, idxp, load1, load1m, loadn, loadnm, loadv, hget, hset, hrep, hdel, slicev, bnd, shift1, lenv, capv, IntKind.bits, extractv, fieldv, indexv, min2v, max2v, mkiv, cellsA, fillA, buildv, stC, oneC, rowMB, intsA, plN, appE, appZ, appC, appNZ, appNC, VwL, srcC, srcZ, srcM, isBoolT, isPtrT, isSliceT, uOk, Value.oneCell', Nat.reducePow, Int.reducePow, Nat.reduceAdd, Nat.reduceMul, Nat.reduceSub, Nat.reduceLT, Nat.reduceLeDiff, Nat.reduceEqDiff, Nat.reduceBEq, Nat.reduceDiv, Nat.reduceMod, ↓reduceIte, reduceCtorEq, Int.reduceToNat, Int.reduceLT, Int.reduceLE, TFExN, SeqQ, BlkQ, LoopQ, BodyQ, k1, k2, g1, e1, e2, e3, e4, e8, hbl, bl_len, FR])
        | (first | refine CallV.fn (at_ct x i) (Sm.out ?_) | refine ExF.mk (at_ct x i) (Sm.out ?_) | refine ExG.mk (fun _ => at_ct x i) (Sm.out ?_) | refine ExG.mkJ (fun _ => at_ct x i) (Sm.out ?_) | refine ExG.mkI (Ob.out ?_) (fun _ => at_ct x i) (Sm.out ?_))
        | (first | refine CallV.fn (at_ct y i) (Sm.out ?_) | refine ExF.mk (at_ct y i) (Sm.out ?_) | refine ExG.mk (fun _ => at_ct y i) (Sm.out ?_) | refine ExG.mkJ (fun _ => at_ct y i) (Sm.out ?_) | refine ExG.mkI (Ob.out ?_) (fun _ => at_ct y i) (Sm.out ?_))
        | (refine WP.seq fun K hK => ?_)
        | (refine WP.region (rvc_sound _ _ (Sm.out ?_)))
        | (refine WP.drawK rfl mixed (by decide +kernel) (Sm.out ?_))
        | (refine Ob.mk ?_; focus (first | assumption | omega | decide | trivial | (intro hob; simp only [hob, ZF]; done) | (intros; (repeat' refine And.intro ?_ ?_) <;> first | assumption | omega | trivial | decide) | (intros; simp only [ZE] at *; (repeat' refine And.intro ?_ ?_) <;> first | assumption | omega | trivial)))
        | (refine And.intro (Ob.out ?_) ?_)
        | (refine WP.block ?_)
        | (refine WP.cond rfl (fun hc => ?_) (fun hc => ?_) <;> (try simp only [ZC, reduceCtorEq, ZD] at hc) <;> (try (exact absurd hc (by decide))) <;> (try (exfalso; omega)))
        | ((first | refine WP.skip ?_ | refine WP.exit ?_); simp only [SeqQ, BlkQ, LoopQ, BodyQ, ↓reduceIte, Nat.reduceEqDiff, reduceCtorEq, look, true_and])
        | (refine WP.ret (Sm.out ?_))
        | (first | refine ExG.no (Sm.out ?_) | refine Or.inl (ExG.no (Sm.out ?_)) | refine Or.inl (And.intro (fun hg => absurd hg (by decide)) (ExG.no (Sm.out ?_))))
        | (refine Rt.mk ?_; refine And.intro ?_ ?_ <;> (intro hg; first | exact absurd hg (by decide) | refine Sm.out ?_))
        | (refine Nu.mk ?_; first | (fail_if_success (have := nb1)); intro nb1 | (fail_if_success (have := nb2)); intro nb2 | (fail_if_success (have := nb3)); intro nb3 | (fail_if_success (have := nb4)); intro nb4 | intro nbz)
        | (refine Fr.mk ?_; intro hfr; replace FR := And.intro hfr FR; clear hfr; refine Sm.out ?_)
        | (refine Two.mk ?_ ?_)
        | (refine Cs.mk ?_; intro hcs; first | exact False.elim hcs | (exfalso; omega) | (refine Sm.out ?_))
        | go_step
        | omega
        | (simp only [maxLen_eq]; omega)
      refine ⟨⟨i + 1, 1, acc', nb3, nb4⟩, ⟨?_, by simp only; rw [hacc]; simp; omega, by simp, by simp only; omega, by simp only; omega, by simp only; omega⟩, by simp only; omega, (Sub.pick (by simp [pickB, hget, hdel, FR]) (by simp [look]))⟩
      simp only; rw [h1, hacc, show x.length - (i + 1) = n by omega]; simp
    · have k2 : decide ((t : Int) - 2 < 0) = false := by simp; omega
      have e4 : ((t : Int) - 2 == 1) = decide (t % 2 = 1) := by
        by_cases ha : t % 2 = 1
        · rw [decide_eq_true ha]; exact beq_iff_eq.2 (by omega)
        · rw [decide_eq_false ha]; exact beq_eq_false_iff_ne.2 (by omega)
      rw [if_neg hs] at h1
      obtain ⟨acc', hacc⟩ : ∃ acc', acc' = acc ++ [decide (t % 2 = 1)] := ⟨_, rfl⟩
      have e8 : bl acc ++ [bv (decide (t % 2 = 1))] = bl acc' := by rw [hacc]; simp
      first | (have FRx := FR; clear FRx) | (have FR : ¬ ((1 : Nat) = 0) := Nat.one_ne_zero)
      repeat' first
        | (refine Sm.mk ?_; try simp -dsimp only [ZK, rvc, drawF, headN, pureH, stp, dvc, calleeOf, gcall, pev, eff, newB, okd, og, ogs, ogo, ogp, slv, bltv, opd, litv, strip, one, both, putE, St.put, look, gdOf, gdv, picka, pickv, pickw, binv, bini, bins, binb, binp, binq, isSlT, bina, shp, eqCells, unv, convv, nilv, faddv, addp, idxav, idxp, load1, load1m, loadn, loadnm, loadv, hget, hset, hrep, hdel, slicev, bnd, shift1, lenv, capv, IntKind.bits, extractv, fieldv, indexv, min2v, max2v, mkiv, cellsA, fillA, buildv, stC, oneC, rowMB, intsA, plN, appE, appZ, appC, appNZ, appNC, VwL, srcC, srcZ, srcM, isBoolT, isPtrT, isSliceT, uOk, Value.oneCell', Nat.reducePow, Int.reducePow, Nat.reduceAdd, Nat.reduceMul, Nat.reduceSub, Nat.reduceLT, Nat.reduceLeDiff, Nat.reduceEqDiff, Nat.reduceBEq, Nat.reduceDiv, Nat.reduceMod, ↓reduceIte, reduceCtorEq, Int.reduceToNat, Int.reduceLT, Int.reduceLE, TFExN, SeqQ, BlkQ, LoopQ, BodyQ, k1, k2, g1, e1, e2, e4, e8, hbl, bl_len, FR])
        | (first | refine CallV.fn (at_ct x i) (Sm.out ?_) | refine ExF.mk (at_ct x i) (Sm.out ?_) | refine ExG.mk (fun _ => at_ct x i) (Sm.out ?_) | refine ExG.mkJ (fun _ => at_ct x i) (Sm.out ?_) | refine ExG.mkI (Ob.out ?_) (fun _ => at_ct x i) (Sm.out ?_))
        | (first | refine CallV.fn (at_ct y i) (Sm.out ?_) | refine ExF.mk (at_ct y i) (Sm.out ?_) | refine ExG.mk (fun _ => at_ct y i) (Sm.out ?_) | refine ExG.mkJ (fun _ => at_ct y i) (Sm.out ?_) | refine ExG.mkI (Ob.out ?_) (fun _ => at_ct y i) (Sm.out ?_))
        | (refine WP.seq fun K hK => ?_)
        | (refine WP.region (rvc_sound _ _ (Sm.out ?_)))
        | (refine WP.drawK rfl mixed (by decide +kernel) (Sm.out ?_))
        | (refine Ob.mk ?_; focus (first | assumption | omega | decide | trivial | (intro hob; simp only [hob, ZF]; done) | (intros; (repeat' refine And.intro ?_ ?_) <;> first | assumption | omega | trivial | decide) | (intros; simp only [ZE] at *; (repeat' refine And.intro ?_ ?_) <;> first | assumption | omega | trivial)))
        | (refine And.intro (Ob.out ?_) ?_)
        | (refine WP.block ?_)
        | (refine WP.cond rfl (fun hc => ?_) (fun hc => ?_) <;> (try simp only [ZC, reduceCtorEq, ZD] at hc) <;> (try (exact absurd hc (by decide))) <;> (try (exfalso; omega)))
        | ((first | refine WP.skip ?_ | refine WP.exit ?_); simp only [SeqQ, BlkQ, LoopQ, BodyQ, ↓reduceIte, Nat.reduceEqDiff, reduceCtorEq, look, true_and])
        | (refine WP.ret (Sm.out ?_))
        | (first | refine ExG.no (Sm.out ?_) | refine Or.inl (ExG.no (Sm.out ?_)) | refine Or.inl (And.intro (fun hg => absurd hg (by decide)) (ExG.no (Sm.out ?_))))
        | (refine Rt.mk ?_; refine And.intro ?_ ?_ <;> (intro hg; first | exact absurd hg (by decide) | refine Sm.out ?_))
        | (refine Nu.mk ?_; first | (fail_if_success (have := nb1)); intro nb1 | (fail_if_success (have := nb2)); intro nb2 | (fail_if_success (have := nb3)); intro nb3 | (fail_if_success (have := nb4)); intro nb4 | intro nbz)
        | (refine Fr.mk ?_; intro hfr; replace FR := And.intro hfr FR; clear hfr; refine Sm.out ?_)
        | (refine Two.mk ?_ ?_)
        | (refine Cs.mk ?_; intro hcs; first | exact False.elim hcs | (exfalso; omega) | (refine Sm.out ?_))
        | go_step
        | omega
        | (simp only [maxLen_eq]; omega)
      refine ⟨⟨i + 1, 0, acc', nb3, nb4⟩, ⟨?_, by simp only; rw [hacc]; simp; omega, by simp, by simp only; omega, by simp only; omega, by simp only; omega⟩, by simp only; omega, (Sub.pick (by simp [pickB, hget, hdel, FR]) (by simp [look]))⟩
      simp only; rw [h1, hacc, show x.length - (i + 1) = n by omega]; simp
  · have k1 : decide ((i : Int) < x.length) = false := by simp; omega
    obtain rfl : i = x.length := by omega
    have hfin : minusF x y = acc := by rw [h1, Nat.sub_self]; simp [minusG]
    have e5 : (bl acc).take x.length = bl acc := List.take_of_length_le (by rw [hbl]; omega)
    first | (have FRx := FR; clear FRx) | (have FR : ¬ ((1 : Nat) = 0) := Nat.one_ne_zero)
    repeat' first
      | (refine Sm.mk ?_; try simp -dsimp only [ZK, rvc, drawF, headN, pureH, stp, dvc, calleeOf, gcall, pev, eff, newB, okd, og, ogs, ogo, ogp, slv, bltv, opd, litv, strip, one, both, putE, St.put, look, gdOf, gdv, picka, pickv, pickw, binv, bini, bins, binb, binp, binq, isSlT, bina, shp, eqCells, unv, convv, nilv, faddv, addp, idxav, idxp, load1, load1m, loadn, loadnm, loadv, hget, hset, hrep, hdel, slicev, bnd, shift1, lenv, capv, IntKind.bits, extractv, fieldv, indexv, min2v, max2v, mkiv, cellsA, fillA, buildv, stC, oneC, rowMB, intsA, plN, appE, appZ, appC, appNZ, appNC, VwL, srcC, srcZ, srcM, isBoolT, isPtrT, isSliceT, uOk, Value.oneCell', Nat.reducePow, Int.reducePow, Nat.reduceAdd, Nat.reduceMul, Nat.reduceSub, Nat.reduceLT, Nat.reduceLeDiff, Nat.reduceEqDiff, Nat.reduceBEq, Nat.reduceDiv, Nat.reduceMod, ↓reduceIte, reduceCtorEq, Int.reduceToNat, Int.reduceLT, Int.reduceLE, TFExN, SeqQ, BlkQ, LoopQ, BodyQ, k1, hbl, FR])
      | (refine WP.seq fun K hK => ?_)
      | (refine WP.region (rvc_sound _ _ (Sm.out ?_)))
      | (refine WP.drawK rfl mixed (by decide +kernel) (Sm.out ?_))
      | (refine Ob.mk ?_; focus (first | assumption | omega | decide | trivial | (intro hob; simp only [hob, ZF]; done) | (intros; (repeat' refine And.intro ?_ ?_) <;> first | assumption | omega | trivial | decide) | (intros; simp only [ZE] at *; (repeat' refine And.intro ?_ ?_) <;> first | assumption | omega | trivial)))
      | (refine And.intro (Ob.out ?_) ?_)
      | (refine WP.block ?_)
      | (refine WP.cond rfl (fun hc => ?_) (fun hc => ?_) <;> (try simp only [ZC, reduceCtorEq, ZD] at hc) <;> (try (exact absurd hc (by decide))) <;> (try (exfalso; omega)))
      | ((first | refine WP.skip ?_ | refine WP.exit ?_); simp only [SeqQ, BlkQ, LoopQ, BodyQ, ↓reduceIte, Nat.reduceEqDiff, reduceCtorEq, look, true_and])
      | (refine WP.ret (Sm.out ?_))
      | (first | refine ExG.no (Sm.out ?_) | refine Or.inl (ExG.no (Sm.out ?_)) | refine Or.inl (And.intro (fun hg => absurd hg (by decide)) (ExG.no (Sm.out ?_))))
      | (refine Rt.mk ?_; refine And.intro ?_ ?_ <;> (intro hg; first | exact absurd hg (by decide) | refine Sm.out ?_))
      | (refine Nu.mk ?_; first | (fail_if_success (have := nb1)); intro nb1 | (fail_if_success (have := nb2)); intro nb2 | (fail_if_success (have := nb3)); intro nb3 | (fail_if_success (have := nb4)); intro nb4 | intro nbz)
      | (refine Fr.mk ?_; intro hfr; replace FR := And.intro hfr FR; clear hfr; refine Sm.out ?_)
      | (refine Two.mk ?_ ?_)
      | (refine Cs.mk ?_; intro hcs; first | exact False.elim hcs | (exfalso; omega) | (refine Sm.out ?_))
      | go_step
      | omega
      | (simp only [maxLen_eq]; omega)
    (refine OutQ.wk (Wk.freezeC (b) (1) (by simp only [ZK, rvc, drawF, headN, pureH, stp, dvc, calleeOf, gcall, pev, eff, newB, okd, og, ogs, ogo, ogp, slv, bltv, opd, litv, strip, one, both, putE, St.put, look, gdOf, gdv, picka, pickv, pickw, binv, bini, bins, binb, binp, binq, isSlT, bina, shp, eqCells, unv, convv, nilv, faddv, addp, idxav, idxp, load1, load1m, loadn, loadnm, loadv, hget, hset, hrep, hdel, slicev, bnd, shift1, lenv, capv, IntKind.bits, extractv, fieldv, indexv, min2v, max2v, mkiv, cellsA, fillA, buildv, stC, oneC, rowMB, intsA, plN, appE, appZ, appC, appNZ, appNC, VwL, srcC, srcZ, srcM, isBoolT, isPtrT, isSliceT, uOk, Value.oneCell', Nat.reducePow, Int.reducePow, Nat.reduceAdd, Nat.reduceMul, Nat.reduceSub, Nat.reduceLT, Nat.reduceLeDiff, Nat.reduceEqDiff, Nat.reduceBEq, Nat.reduceDiv, Nat.reduceMod, ↓reduceIte, reduceCtorEq, Int.reduceToNat, Int.reduceLT, Int.reduceLE, TFExN, SeqQ, BlkQ, LoopQ, BodyQ, hbl, e5, h5, h6, FR]; first | done | rfl)) ?_; simp only [frzCE, frzC, ZK, rvc, drawF, headN, pureH, stp, dvc, calleeOf, gcall, pev, eff, newB, okd, og, ogs, ogo, ogp, slv, bltv, opd, litv, strip, one, both, putE, St.put, look, gdOf, gdv, picka, pickv, pickw, binv, bini, bins, binb, binp, binq, isSlT, bina, shp, eqCells, unv, convv, nilv, faddv, addp, idxav, idxp, load1, load1m, loadn, loadnm, loadv, hget, hset, hrep, hdel, slicev, bnd, shift1, lenv, capv, IntKind.bits, extractv, fieldv, indexv, min2v, max2v, mkiv, cellsA, fillA, buildv, stC, oneC, rowMB, intsA, plN, appE, appZ, appC, appNZ, appNC, VwL, srcC, srcZ, srcM, isBoolT, isPtrT, isSliceT, uOk, Value.oneCell', Nat.reducePow, Int.reducePow, Nat.reduceAdd, Nat.reduceMul, Nat.reduceSub, Nat.reduceLT, Nat.reduceLeDiff, Nat.reduceEqDiff, Nat.reduceBEq, Nat.reduceDiv, Nat.reduceMod, ↓reduceIte, reduceCtorEq, Int.reduceToNat, Int.reduceLT, Int.reduceLE, TFExN, SeqQ, BlkQ, LoopQ, BodyQ, hbl, e5, h5, h6, FR])
    (refine OutQ.all ?_ ?_; (focus (simp only [resv, ZK, look, loadv, loadn, loadnm, load1, load1m, hget, ↓reduceIte, Nat.reduceEqDiff, Nat.reduceAdd, Nat.reduceMul, Nat.reduceLeDiff, Nat.reduceLT, reduceCtorEq, TFExN, hfin])); (try simp only [resv, resA, Fn, ZK, look, loadv, loadn, loadnm, load1, load1m, hget, ↓reduceIte, Nat.reduceEqDiff, Nat.reduceAdd, Nat.reduceMul, Nat.reduceLeDiff, Nat.reduceLT, reduceCtorEq, TFExN, hfin]); (try simp [resA, Fn, look, hfin]))
end Go.Proofs.YtocfaghflhgeeaaDoor
