/-
  The walks and the laws that the statement leans on, part 6.
-/
import Derived.Test.YtocfaghflhgeeaaDoorZ5
namespace Go.Proofs.YtocfaghflhgeeaaDoor
open Go
set_option linter.unusedVariables false
set_option linter.unusedSimpArgs false
theorem TFExD : (((((type_of% tyc0) ∧ (type_of% tyc3)) ∧ ((type_of% zmb3) ∧ (type_of% tyc4))) ∧ (((type_of% zmb4) ∧ (type_of% tyc22)) ∧ ((type_of% zmb22) ∧ (type_of% tyc52)))) ∧ ((((type_of% zmb52) ∧ (type_of% tyc78)) ∧ ((type_of% zmb78) ∧ (type_of% Tryd.underlying0))) ∧ (((type_of% Tryd.underlying3) ∧ (type_of% Tryd.underlying4)) ∧ ((type_of% Tryd.underlying22) ∧ ((type_of% Tryd.underlying52) ∧ (type_of% Tryd.underlying78)))))) :=
  ⟨⟨⟨⟨tyc0, tyc3⟩, ⟨zmb3, tyc4⟩⟩, ⟨⟨zmb4, tyc22⟩, ⟨zmb22, tyc52⟩⟩⟩, ⟨⟨⟨zmb52, tyc78⟩, ⟨zmb78, Tryd.underlying0⟩⟩, ⟨⟨Tryd.underlying3, Tryd.underlying4⟩, ⟨Tryd.underlying22, ⟨Tryd.underlying52, Tryd.underlying78⟩⟩⟩⟩⟩
theorem lz_ct (x : Nat) (hx : x < 18446744073709551616) : ACt Tryd.prog 46 [nu x] [] (Fn (iv .i64 ((64 - lenN x : Nat) : Int))) := by
  refine ACt.intro Tryd.func46 rfl (by kernel_rfl) (by simp [Tryd.ntmps46]) (fun cx => ?_)
  simp only [argE, Tryd.ntmps46, Tryd.results46]
  have h1 : lenN x ≤ 64 := lenN_le.2 hx
  have e1 : IntKind.i64.wrap (64 - ((lenN x : Nat) : Int)) = ((64 - lenN x : Nat) : Int) := by rw [wrap_i64 (by omega) (by omega)]; omega
  first | (have FRx := FR; clear FRx) | (have FR : ¬ ((1 : Nat) = 0) := Nat.one_ne_zero)
  repeat' first
    | (refine Sm.mk ?_; try simp -dsimp only [ZK, rvc, drawF, headN, pureH, stp, dvc, calleeOf, gcall, pev, eff, newB, okd, og, ogs, ogo, ogp, slv, bltv, opd, litv, strip, one, both, putE, St.put, look, gdOf, gdv, picka, pickv, pickw, binv, bini, bins, binb, binp, binq, isSlT, bina, shp, eqCells, unv, convv, nilv, faddv, addp, idxav, idxp, load1, load1m, loadn, loadnm, loadv, hget, hset, hrep, hdel, slicev, bnd, shift1, lenv, capv, IntKind.bits, extractv, fieldv, indexv, min2v, max2v, mkiv, cellsA, fillA, buildv, stC, oneC, rowMB, intsA, plN, appE, appZ, appC, appNZ, appNC, VwL, srcC, srcZ, srcM, isBoolT, isPtrT, isSliceT, uOk, Value.oneCell', Nat.reducePow, Int.reducePow, Nat.reduceAdd, Nat.reduceMul, Nat.reduceSub, Nat.reduceLT, Nat.reduceLeDiff, Nat.reduceEqDiff, Nat.reduceBEq, Nat.reduceDiv, Nat.reduceMod, ↓reduceIte, reduceCtorEq, Int.reduceToNat, Int.reduceLT, Int.reduceLE, TFExD, SeqQ, BlkQ, LoopQ, BodyQ, e1, FR])
    | (first | refine CallV.fn (len64_ct x hx) (Sm.out ?_) | refine ExF.mk (len64_ct x hx) (Sm.out ?_) | refine ExG.mk (fun _ => len64_ct x hx) (Sm.out ?_) | refine ExG.mkJ (fun _ => len64_ct x hx) (Sm.out ?_) | refine ExG.mkI (Ob.out ?_) (fun _ => len64_ct x hx) (Sm.out ?_))
    | (refine WP.seq fun K hK => ?_)
    | (refine WP.region (rvc_sound _ _ (Sm.out ?_)))
    | (refine WP.drawK rfl mixed (by decide +kernel) (Sm.out ?_))
    | (refine Ob.mk ?_; focus (first | assumption | omega | decide | trivial | (intro hob; simp only [hob, ZF]; done) | (intros; (repeat' refine And.intro ?_ ?_) <;> first | assumption | omega | trivial | decide) | (intros; simp only [ZE] at *; (repeat' refine And.intro ?_ ?_) <;> first | assumption | omega | trivial)))
    | (refine And.intro (Ob.out ?_) ?_)
    | (refine WP.block ?_)
    | (refine WP.cond rfl (fun hc => ?_) (fun hc => ?_) <;> (try simp only [ZC, reduceCtorEq, ZD] at hc) <;> (try (exact absurd hc (by decide))) <;> (try (exfalso; omega)))
    | ((first | refine WP.skip ?_ | refine WP.exit ?_); simp only [SeqQ, BlkQ, LoopQ, BodyQ, ↓reduceIte, Nat.reduceEqDiff, reduceCtorEq, look, true_and])
    | (refine WP.ret (Sm.out ?_))
    | (first | refine ExG.no (Sm.out ?_) | refine Or.inl (ExG.no (Sm.out ?_)) | refine Or.inl (And.intro (fun hg => absurd hg (by decide)) (ExG.no (Sm.out ?_))))
    | (refine Rt.mk ?_; refine And.intro ?_ ?_ <;> (intro hg; first | exact absurd hg (by decide) | refine Sm.out ?_))
    | (refine Nu.mk ?_; first | (fail_if_success (have := nb1)); intro nb1 | (fail_if_success (have := nb2)); intro nb2 | (fail_if_success (have := nb3)); intro nb3 | intro nbz)
    | (refine Fr.mk ?_; intro hfr; replace FR := And.intro hfr FR; clear hfr; refine Sm.out ?_)
    | (refine Two.mk ?_ ?_)
    | (refine Cs.mk ?_; intro hcs; first | exact False.elim hcs | (exfalso; omega) | (refine Sm.out ?_))
    | (refine OutQ.all ?_ ?_; (focus (simp only [resv, ZK, look, loadv, loadn, loadnm, load1, load1m, hget, ↓reduceIte, Nat.reduceEqDiff, Nat.reduceAdd, Nat.reduceMul, Nat.reduceLeDiff, Nat.reduceLT, reduceCtorEq, TFExD, e1, FR])); (try simp only [resv, resA, Fn, ZK, look, loadv, loadn, loadnm, load1, load1m, hget, ↓reduceIte, Nat.reduceEqDiff, Nat.reduceAdd, Nat.reduceMul, Nat.reduceLeDiff, Nat.reduceLT, reduceCtorEq, TFExD, e1, FR]); (try simp [resA, Fn, look, e1, FR]); done)
    | go_step
    | omega
    | (simp only [maxLen_eq]; omega)
structure DG where
  q : Nat
  r : Nat
set_option maxRecDepth 8000 in
set_option maxHeartbeats 4000000 in
theorem div64_ct (hi lo y : Nat) (hy : hi < y) (hy2 : y < 18446744073709551616) (hlo : lo < 18446744073709551616) :
    ACt Tryd.prog 35 [nu hi, nu lo, nu y] [] (Fn (.tup [nu ((hi * 18446744073709551616 + lo) / y), nu ((hi * 18446744073709551616 + lo) % y)])) := by
  refine ACt.intro Tryd.func35 rfl (by kernel_rfl) (by simp [Tryd.ntmps35]) (fun cx => ?_)
  simp only [argE, Tryd.ntmps35, Tryd.results35]
  have k0 : ((y : Int) == 0) = false := beq_eq_false_iff_ne.2 (by omega)
  have k1 : decide ((y : Int) ≤ hi) = false := by simp; omega
  have k2 : (y : Int) ≠ 0 := by omega
  by_cases h0 : hi = 0
  · subst h0
    have hlt : lo / y ≤ lo := Nat.div_le_self _ _
    have hm : lo % y < y := Nat.mod_lt _ (by omega)
    have e1 : (lo : Int).tdiv (y : Int) = ((lo / y : Nat) : Int) := tdiv_nat lo y
    have e2 : (lo : Int).tmod (y : Int) = ((lo % y : Nat) : Int) := tmod_nat lo y
    have e3 : IntKind.u64.wrap ((lo / y : Nat) : Int) = ((lo / y : Nat) : Int) := wrap_u64_nat (by omega)
    have e4 : IntKind.u64.wrap ((lo % y : Nat) : Int) = ((lo % y : Nat) : Int) := wrap_u64_nat (by omega)
    have z0 : (((0 : Nat) : Int) == 0) = true := by decide
    rw [Nat.zero_mul, Nat.zero_add]
    first | (have FRx := FR; clear FRx) | (have FR : ¬ ((1 : Nat) = 0) := Nat.one_ne_zero)
    repeat' first
      | (refine Sm.mk ?_; try simp -dsimp only [ZK, rvc, drawF, headN, pureH, stp, dvc, calleeOf, gcall, pev, eff, newB, okd, og, ogs, ogo, ogp, slv, bltv, opd, litv, strip, one, both, putE, St.put, look, gdOf, gdv, picka, pickv, pickw, binv, bini, bins, binb, binp, binq, isSlT, bina, shp, eqCells, unv, convv, nilv, faddv, addp, idxav, idxp, load1, load1m, loadn, loadnm, loadv, hget, hset, hrep, hdel, slicev, bnd, shift1, lenv, capv, IntKind.bits, extractv, fieldv, indexv, min2v, max2v, mkiv, cellsA, fillA, buildv, stC, oneC, rowMB, intsA, plN, appE, appZ, appC, appNZ, appNC, VwL, srcC, srcZ, srcM, isBoolT, isPtrT, isSliceT, uOk, Value.oneCell', Nat.reducePow, Int.reducePow, Nat.reduceAdd, Nat.reduceMul, Nat.reduceSub, Nat.reduceLT, Nat.reduceLeDiff, Nat.reduceEqDiff, Nat.reduceBEq, Nat.reduceDiv, Nat.reduceMod, ↓reduceIte, reduceCtorEq, Int.reduceToNat, Int.reduceLT, Int.reduceLE, TFExD, SeqQ, BlkQ, LoopQ, BodyQ, k0, k1, k2, z0, e1, e2, e3, e4, FR])
      | (refine WP.seq fun K hK => ?_)
      | (refine WP.region (rvc_sound _ _ (Sm.out ?_)))
      | (refine WP.drawK rfl mixed (by decide +kernel) (Sm.out ?_))
      | (refine Ob.mk ?_; focus (first | assumption | omega | decide | trivial | (intro hob; simp only [hob, ZF]; done) | (intros; (repeat' refine And.intro ?_ ?_) <;> first | assumption | omega | trivial | decide) | (intros; simp only [ZE] at *; (repeat' refine And.intro ?_ ?_) <;> first | assumption | omega | trivial)))
      | (refine And.intro (Ob.out ?_) ?_)
      | (refine WP.block ?_)
      | (refine WP.cond rfl (fun hc => ?_) (fun hc => ?_) <;> (try simp only [ZC, reduceCtorEq, ZD] at hc) <;> (try (exact absurd hc (by decide))) <;> (try (exfalso; omega)))
      | ((first | refine WP.skip ?_ | refine WP.exit ?_); simp only [SeqQ, BlkQ, LoopQ, BodyQ, ↓reduceIte, Nat.reduceEqDiff, reduceCtorEq, look, true_and])
      | (refine WP.ret (Sm.out ?_))
      | (first | refine ExG.no (Sm.out ?_) | refine Or.inl (ExG.no (Sm.out ?_)) | refine Or.inl (And.intro (fun hg => absurd hg (by decide)) (ExG.no (Sm.out ?_))))
      | (refine Rt.mk ?_; refine And.intro ?_ ?_ <;> (intro hg; first | exact absurd hg (by decide) | refine Sm.out ?_))
      | (refine Nu.mk ?_; first | (fail_if_success (have := nb1)); intro nb1 | (fail_if_success (have := nb2)); intro nb2 | (fail_if_success (have := nb3)); intro nb3 | intro nbz)
      | (refine Fr.mk ?_; intro hfr; replace FR := And.intro hfr FR; clear hfr; refine Sm.out ?_)
      | (refine Two.mk ?_ ?_)
      | (refine Cs.mk ?_; intro hcs; first | exact False.elim hcs | (exfalso; omega) | (refine Sm.out ?_))
      | (refine OutQ.all ?_ ?_; (focus (simp only [resv, ZK, look, loadv, loadn, loadnm, load1, load1m, hget, ↓reduceIte, Nat.reduceEqDiff, Nat.reduceAdd, Nat.reduceMul, Nat.reduceLeDiff, Nat.reduceLT, reduceCtorEq, TFExD, k0, k1, k2, z0, e1, e2, e3, e4, FR])); (try simp only [resv, resA, Fn, ZK, look, loadv, loadn, loadnm, load1, load1m, hget, ↓reduceIte, Nat.reduceEqDiff, Nat.reduceAdd, Nat.reduceMul, Nat.reduceLeDiff, Nat.reduceLT, reduceCtorEq, TFExD, k0, k1, k2, z0, e1, e2, e3, e4, FR]); (try simp [resA, Fn, look, k0, k1, k2, z0, e1, e2, e3, e4, FR]); done)
      | go_step
      | omega
      | (simp only [maxLen_eq]; omega)
  · have k3 : ((hi : Int) == 0) = false := beq_eq_false_iff_ne.2 (by omega)
    obtain ⟨n1, n2, n3, n4⟩ := norm_bd (show 0 < y by omega) hy2
    obtain ⟨s, hs⟩ : ∃ s, s = 64 - lenN y := ⟨_, rfl⟩
    have hct := lz_ct y hy2
    rw [← hs] at n3 n4 hct
    have hs64 : s ≤ 64 := by omega
    have hs63 : s ≤ 63 := by omega
    obtain ⟨p1, p2, p3, p4⟩ := shift_parts hy hlo hs64 n3
    obtain ⟨u1, u2⟩ := @unshift (hi * 18446744073709551616 + lo) y s (by omega)
    rw [p4] at u1 u2
    obtain ⟨Y, hY⟩ : ∃ Y, Y = y * 2 ^ s := ⟨_, rfl⟩
    obtain ⟨W, hW⟩ : ∃ W, W = lo * 2 ^ s % 18446744073709551616 := ⟨_, rfl⟩
    have hWlt : W < 18446744073709551616 := by rw [hW]; exact Nat.mod_lt _ (by omega)
    have w1 : IntKind.u64.wrap (s : Int) = (s : Int) := wrap_u64_nat (by omega)
    have w2 : IntKind.u64.wrap ((y : Int) * 2 ^ s) = (Y : Int) := by
      have : (y : Int) * 2 ^ s = ((y * 2 ^ s : Nat) : Int) := by simp
      rw [this, ← hY, wrap_u64_nat (by omega)]
    have w3 : IntKind.u64.wrap ((hi : Int) * 2 ^ s) = ((hi * 2 ^ s : Nat) : Int) := by
      have : (hi : Int) * 2 ^ s = ((hi * 2 ^ s : Nat) : Int) := by simp
      rw [this, wrap_u64_nat (by omega)]
    have w4 : IntKind.u64.wrap (64 - (s : Int)) = ((64 - s : Nat) : Int) := by rw [wrap_u64 (by omega) (by omega)]; omega
    have w4' : 64 - s ≤ 64 := by omega
    have w5 : (lo : Int).fdiv (2 ^ (64 - s)) = ((lo / 2 ^ (64 - s) : Nat) : Int) := fdiv_pow lo _
    have w6 : IntKind.u64.wrap ((lo : Int) * 2 ^ s) = (W : Int) := by
      have : (lo : Int) * 2 ^ s = ((lo * 2 ^ s : Nat) : Int) := by simp
      rw [this, wrap_u64_big, hW]
    obtain ⟨u, hu⟩ : ∃ u, u = hi * 2 ^ s + lo / 2 ^ (64 - s) := ⟨_, rfl⟩
    have hb1 : lo / 2 ^ (64 - s) < 18446744073709551616 := Nat.lt_of_le_of_lt (Nat.div_le_self _ _) hlo
    have w7 := or_shift hi (lo / 2 ^ (64 - s)) s p3 p2 hb1
    rw [← hu] at w7 u1 u2 p1
    rw [← hY] at p1 u1 u2 n3 n4
    rw [← hW] at u1 u2
    have f32 : ∀ n : Nat, (n : Int).fdiv 4294967296 = ((n / 4294967296 : Nat) : Int) := fun n => by rw [Int.fdiv_eq_ediv_of_nonneg _ (by omega)]; simp
    have a1 := and_low32 Y n3
    have a2 := and_low32 W hWlt
    obtain ⟨yn1, hyn1⟩ : ∃ a, a = Y / 4294967296 := ⟨_, rfl⟩
    obtain ⟨yn0, hyn0⟩ : ∃ a, a = Y % 4294967296 := ⟨_, rfl⟩
    obtain ⟨un1, hun1⟩ : ∃ a, a = W / 4294967296 := ⟨_, rfl⟩
    obtain ⟨un0, hun0⟩ : ∃ a, a = W % 4294967296 := ⟨_, rfl⟩
    have f1 : (Y : Int).fdiv 4294967296 = (yn1 : Int) := by rw [f32, hyn1]
    have f2 : (W : Int).fdiv 4294967296 = (un1 : Int) := by rw [f32, hun1]
    rw [← hyn0] at a1
    rw [← hun0] at a2
    have b1 : 2147483648 ≤ yn1 := by omega
    have b2 : yn1 < 4294967296 := by omega
    have b3 : yn0 < 4294967296 := by omega
    have b4 : un1 < 4294967296 := by omega
    have b5 : un0 < 4294967296 := by omega
    have eY : Y = yn1 * 4294967296 + yn0 := by omega
    have eW : u * 18446744073709551616 + W = (u * 4294967296 + un1) * 4294967296 + un0 := by omega
    have hult : u < yn1 * 4294967296 + yn0 := by omega
    rw [eW] at u1 u2
    obtain ⟨t1, t2⟩ := two_digits p1 b4 b5
    rw [t1] at u1
    rw [t2] at u2
    have D1 := @dig_start 4294967296 yn1 yn0 u un1 (by omega) b4 (by omega)
    have hq1 : u / yn1 ≤ u := Nat.div_le_self _ _
    have hm1 : u / yn1 * yn1 ≤ u := Nat.div_mul_le_self _ _
    have g1 : (u : Int).tdiv (yn1 : Int) = ((u / yn1 : Nat) : Int) := tdiv_nat u yn1
    have g2 : IntKind.u64.wrap ((u / yn1 : Nat) : Int) = ((u / yn1 : Nat) : Int) := wrap_u64_nat (by omega)
    have g3 : IntKind.u64.wrap (((u / yn1 : Nat) : Int) * (yn1 : Int)) = ((u / yn1 * yn1 : Nat) : Int) := by rw [← Int.natCast_mul, wrap_u64_nat (by omega)]
    have g4 : IntKind.u64.wrap ((u : Int) - ((u / yn1 * yn1 : Nat) : Int)) = ((u - u / yn1 * yn1 : Nat) : Int) := by rw [wrap_u64 (by omega) (by omega)]; omega
    have g5 : (yn1 : Int) ≠ 0 := by omega
    first | (have FRx := FR; clear FRx) | (have FR : ¬ ((1 : Nat) = 0) := Nat.one_ne_zero)
    repeat' first
      | (refine Sm.mk ?_; try simp -dsimp only [ZK, rvc, drawF, headN, pureH, stp, dvc, calleeOf, gcall, pev, eff, newB, okd, og, ogs, ogo, ogp, slv, bltv, opd, litv, strip, one, both, putE, St.put, look, gdOf, gdv, picka, pickv, pickw, binv, bini, bins, binb, binp, binq, isSlT, bina, shp, eqCells, unv, convv, nilv, faddv, addp, idxav, idxp, load1, load1m, loadn, loadnm, loadv, hget, hset, hrep, hdel, slicev, bnd, shift1, lenv, capv, IntKind.bits, extractv, fieldv, indexv, min2v, max2v, mkiv, cellsA, fillA, buildv, stC, oneC, rowMB, intsA, plN, appE, appZ, appC, appNZ, appNC, VwL, srcC, srcZ, srcM, isBoolT, isPtrT, isSliceT, uOk, Value.oneCell', Nat.reducePow, Int.reducePow, Nat.reduceAdd, Nat.reduceMul, Nat.reduceSub, Nat.reduceLT, Nat.reduceLeDiff, Nat.reduceEqDiff, Nat.reduceBEq, Nat.reduceDiv, Nat.reduceMod, ↓reduceIte, reduceCtorEq, Int.reduceToNat, Int.reduceLT, Int.reduceLE, TFExD, SeqQ, BlkQ, LoopQ, BodyQ, k0, k1, k2, k3, w1, w2, w3, w4, w4', w5, w6, w7, hs64, f1, f2, a1, a2, g1, g2, g3, g4, g5, FR])
      | (first | refine CallV.fn (hct) (Sm.out ?_) | refine ExF.mk (hct) (Sm.out ?_) | refine ExG.mk (fun _ => hct) (Sm.out ?_) | refine ExG.mkJ (fun _ => hct) (Sm.out ?_) | refine ExG.mkI (Ob.out ?_) (fun _ => hct) (Sm.out ?_))
      | (refine WP.seq fun K hK => ?_)
      | ((fail_if_success (show WP _ _ _ (.region 17 _ _) _ _)); refine WP.region (rvc_sound _ _ (Sm.out ?_)))
      | ((fail_if_success (show WP _ _ _ (.region 17 _ _) _ _)); refine WP.drawK rfl mixed (by decide +kernel) (Sm.out ?_))
      | (refine Ob.mk ?_; focus (first | assumption | omega | decide | trivial | (intro hob; simp only [hob, ZF]; done) | (intros; (repeat' refine And.intro ?_ ?_) <;> first | assumption | omega | trivial | decide) | (intros; simp only [ZE] at *; (repeat' refine And.intro ?_ ?_) <;> first | assumption | omega | trivial)))
      | (refine And.intro (Ob.out ?_) ?_)
      | (refine WP.block ?_)
      | (refine WP.cond rfl (fun hc => ?_) (fun hc => ?_) <;> (try simp only [ZC, reduceCtorEq, ZD] at hc) <;> (try (exact absurd hc (by decide))) <;> (try (exfalso; omega)))
      | ((first | refine WP.skip ?_ | refine WP.exit ?_); simp only [SeqQ, BlkQ, LoopQ, BodyQ, ↓reduceIte, Nat.reduceEqDiff, reduceCtorEq, look, true_and])
      | (refine WP.ret (Sm.out ?_))
      | (first | refine ExG.no (Sm.out ?_) | refine Or.inl (ExG.no (Sm.out ?_)) | refine Or.inl (And.intro (fun hg => absurd hg (by decide)) (ExG.no (Sm.out ?_))))
      | (refine Rt.mk ?_; refine And.intro ?_ ?_ <;> (intro hg; first | exact absurd hg (by decide) | refine Sm.out ?_))
      | (refine Nu.mk ?_; first | (fail_if_success (have := nb1)); intro nb1 | (fail_if_success (have := nb2)); intro nb2 | (fail_if_success (have := nb3)); intro nb3 | intro nbz)
      | (refine Fr.mk ?_; intro hfr; replace FR := And.intro hfr FR; clear hfr; refine Sm.out ?_)
      | (refine Two.mk ?_ ?_)
      | (refine Cs.mk ?_; intro hcs; first | exact False.elim hcs | (exfalso; omega) | (refine Sm.out ?_))
      | go_step
      | omega
      | (simp only [maxLen_eq]; omega)
    obtain ⟨Q1, hQ1⟩ : ∃ a, a = (u * 4294967296 + un1) / Y := ⟨_, rfl⟩
    obtain ⟨v, hv⟩ : ∃ a, a = (u * 4294967296 + un1) % Y := ⟨_, rfl⟩
    rw [← hQ1, ← hv] at u1
    rw [← hv] at u2
    have hvlt : v < Y := by rw [hv]; exact Nat.mod_lt _ (by omega)
    have hQ1lt : Q1 < 4294967296 := by rw [hQ1]; exact dig_lt p1 b4
    have hQv : Q1 * Y + v = u * 4294967296 + un1 := by rw [hQ1, hv, Nat.mul_comm]; exact Nat.div_add_mod _ _
    have cont : Sm (∀ s', Sub s' ⟨[(15, nu Q1), (2, nu Y), (8, nu s), (9, nu yn1), (10, nu yn0), (11, nu u), (13, nu un1), (14, nu un0)], []⟩ → K s') := Sm.mk fun s' hsub => by
      refine hK s' (WP.sub hsub ?_)
      have D2 := @dig_start 4294967296 yn1 yn0 v un0 (by omega) b5 (by omega)
      have hq2 : v / yn1 ≤ v := Nat.div_le_self _ _
      have hm2 : v / yn1 * yn1 ≤ v := Nat.div_mul_le_self _ _
      have j1 : IntKind.u64.wrap ((u : Int) * 4294967296) = ((u * 4294967296 % 18446744073709551616 : Nat) : Int) := by rw [show (u : Int) * 4294967296 = ((u * 4294967296 : Nat) : Int) by simp, wrap_u64_big]
      have j2 : IntKind.u64.wrap (((u * 4294967296 % 18446744073709551616 : Nat) : Int) + (un1 : Int)) = (((u * 4294967296 + un1) % 18446744073709551616 : Nat) : Int) := by rw [wrap_u64_mod]; omega
      have j3 : IntKind.u64.wrap ((Q1 : Int) * (Y : Int)) = ((Q1 * Y % 18446744073709551616 : Nat) : Int) := by rw [← Int.natCast_mul, wrap_u64_big]
      have j4 : IntKind.u64.wrap ((((u * 4294967296 + un1) % 18446744073709551616 : Nat) : Int) - ((Q1 * Y % 18446744073709551616 : Nat) : Int)) = (v : Int) := by rw [wrap_u64_mod]; omega
      have g1' : (v : Int).tdiv (yn1 : Int) = ((v / yn1 : Nat) : Int) := tdiv_nat v yn1
      have g2' : IntKind.u64.wrap ((v / yn1 : Nat) : Int) = ((v / yn1 : Nat) : Int) := wrap_u64_nat (by omega)
      have g3' : IntKind.u64.wrap (((v / yn1 : Nat) : Int) * (yn1 : Int)) = ((v / yn1 * yn1 : Nat) : Int) := by rw [← Int.natCast_mul, wrap_u64_nat (by omega)]
      have g4' : IntKind.u64.wrap ((v : Int) - ((v / yn1 * yn1 : Nat) : Int)) = ((v - v / yn1 * yn1 : Nat) : Int) := by rw [wrap_u64 (by omega) (by omega)]; omega
      first | (have FRx := FR; clear FRx) | (have FR : ¬ ((1 : Nat) = 0) := Nat.one_ne_zero)
      repeat' first
        | (refine Sm.mk ?_; try simp -dsimp only [ZK, rvc, drawF, headN, pureH, stp, dvc, calleeOf, gcall, pev, eff, newB, okd, og, ogs, ogo, ogp, slv, bltv, opd, litv, strip, one, both, putE, St.put, look, gdOf, gdv, picka, pickv, pickw, binv, bini, bins, binb, binp, binq, isSlT, bina, shp, eqCells, unv, convv, nilv, faddv, addp, idxav, idxp, load1, load1m, loadn, loadnm, loadv, hget, hset, hrep, hdel, slicev, bnd, shift1, lenv, capv, IntKind.bits, extractv, fieldv, indexv, min2v, max2v, mkiv, cellsA, fillA, buildv, stC, oneC, rowMB, intsA, plN, appE, appZ, appC, appNZ, appNC, VwL, srcC, srcZ, srcM, isBoolT, isPtrT, isSliceT, uOk, Value.oneCell', Nat.reducePow, Int.reducePow, Nat.reduceAdd, Nat.reduceMul, Nat.reduceSub, Nat.reduceLT, Nat.reduceLeDiff, Nat.reduceEqDiff, Nat.reduceBEq, Nat.reduceDiv, Nat.reduceMod, ↓reduceIte, reduceCtorEq, Int.reduceToNat, Int.reduceLT, Int.reduceLE, TFExD, SeqQ, BlkQ, LoopQ, BodyQ, g1', g2', g3', g4', g5, j1, j2, j3, j4, FR])
        | (refine WP.seq fun K hK => ?_)
        | ((fail_if_success (show WP _ _ _ (.region 24 _ _) _ _)); refine WP.region (rvc_sound _ _ (Sm.out ?_)))
        | ((fail_if_success (show WP _ _ _ (.region 24 _ _) _ _)); refine WP.drawK rfl mixed (by decide +kernel) (Sm.out ?_))
        | (refine Ob.mk ?_; focus (first | assumption | omega | decide | trivial | (intro hob; simp only [hob, ZF]; done) | (intros; (repeat' refine And.intro ?_ ?_) <;> first | assumption | omega | trivial | decide) | (intros; simp only [ZE] at *; (repeat' refine And.intro ?_ ?_) <;> first | assumption | omega | trivial)))
        | (refine And.intro (Ob.out ?_) ?_)
        | (refine WP.block ?_)
        | (refine WP.cond rfl (fun hc => ?_) (fun hc => ?_) <;> (try simp only [ZC, reduceCtorEq, ZD] at hc) <;> (try (exact absurd hc (by decide))) <;> (try (exfalso; omega)))
        | ((first | refine WP.skip ?_ | refine WP.exit ?_); simp only [SeqQ, BlkQ, LoopQ, BodyQ, ↓reduceIte, Nat.reduceEqDiff, reduceCtorEq, look, true_and])
        | (refine WP.ret (Sm.out ?_))
        | (first | refine ExG.no (Sm.out ?_) | refine Or.inl (ExG.no (Sm.out ?_)) | refine Or.inl (And.intro (fun hg => absurd hg (by decide)) (ExG.no (Sm.out ?_))))
        | (refine Rt.mk ?_; refine And.intro ?_ ?_ <;> (intro hg; first | exact absurd hg (by decide) | refine Sm.out ?_))
        | (refine Nu.mk ?_; first | (fail_if_success (have := nb1)); intro nb1 | (fail_if_success (have := nb2)); intro nb2 | (fail_if_success (have := nb3)); intro nb3 | intro nbz)
        | (refine Fr.mk ?_; intro hfr; replace FR := And.intro hfr FR; clear hfr; refine Sm.out ?_)
        | (refine Two.mk ?_ ?_)
        | (refine Cs.mk ?_; intro hcs; first | exact False.elim hcs | (exfalso; omega) | (refine Sm.out ?_))
        | go_step
        | omega
        | (simp only [maxLen_eq]; omega)
      obtain ⟨Q0, hQ0⟩ : ∃ a, a = (v * 4294967296 + un0) / Y := ⟨_, rfl⟩
      obtain ⟨R0, hR0⟩ : ∃ a, a = (v * 4294967296 + un0) % Y := ⟨_, rfl⟩
      have hR0lt : R0 < Y := by rw [hR0]; exact Nat.mod_lt _ (by omega)
      have hQ0lt : Q0 < 4294967296 := by rw [hQ0]; exact dig_lt hvlt b5
      have hQR : Q0 * Y + R0 = v * 4294967296 + un0 := by rw [hQ0, hR0, Nat.mul_comm]; exact Nat.div_add_mod _ _
      rw [← hQ0] at u1
      rw [← hR0] at u2
      have cont2 : Sm (∀ s', Sub s' ⟨[(18, nu Q0), (15, nu Q1), (17, nu v), (2, nu Y), (8, nu s), (14, nu un0)], []⟩ → K s') := Sm.mk fun s' hsub => by
        refine hK s' (WP.sub hsub ?_)
        have i1 : IntKind.u64.wrap ((Q1 : Int) * 4294967296) = ((Q1 * 4294967296 : Nat) : Int) := by rw [show (Q1 : Int) * 4294967296 = ((Q1 * 4294967296 : Nat) : Int) by simp, wrap_u64_nat (by omega)]
        have i2 : IntKind.u64.wrap (((Q1 * 4294967296 : Nat) : Int) + (Q0 : Int)) = (((hi * 18446744073709551616 + lo) / y : Nat) : Int) := by rw [← u1, ← Int.natCast_add, wrap_u64_nat (by omega)]
        have i3 : IntKind.u64.wrap ((v : Int) * 4294967296) = ((v * 4294967296 % 18446744073709551616 : Nat) : Int) := by rw [show (v : Int) * 4294967296 = ((v * 4294967296 : Nat) : Int) by simp, wrap_u64_big]
        have i4 : IntKind.u64.wrap (((v * 4294967296 % 18446744073709551616 : Nat) : Int) + (un0 : Int)) = (((v * 4294967296 + un0) % 18446744073709551616 : Nat) : Int) := by rw [wrap_u64_mod]; omega
        have i5 : IntKind.u64.wrap ((Q0 : Int) * (Y : Int)) = ((Q0 * Y % 18446744073709551616 : Nat) : Int) := by rw [← Int.natCast_mul, wrap_u64_big]
        have i6 : IntKind.u64.wrap ((((v * 4294967296 + un0) % 18446744073709551616 : Nat) : Int) - ((Q0 * Y % 18446744073709551616 : Nat) : Int)) = (R0 : Int) := by rw [wrap_u64_mod]; omega
        have i7 : (R0 : Int).fdiv (2 ^ s) = (((hi * 18446744073709551616 + lo) % y : Nat) : Int) := by rw [fdiv_pow, u2]
        first | (have FRx := FR; clear FRx) | (have FR : ¬ ((1 : Nat) = 0) := Nat.one_ne_zero)
        repeat' first
          | (refine Sm.mk ?_; try simp -dsimp only [ZK, rvc, drawF, headN, pureH, stp, dvc, calleeOf, gcall, pev, eff, newB, okd, og, ogs, ogo, ogp, slv, bltv, opd, litv, strip, one, both, putE, St.put, look, gdOf, gdv, picka, pickv, pickw, binv, bini, bins, binb, binp, binq, isSlT, bina, shp, eqCells, unv, convv, nilv, faddv, addp, idxav, idxp, load1, load1m, loadn, loadnm, loadv, hget, hset, hrep, hdel, slicev, bnd, shift1, lenv, capv, IntKind.bits, extractv, fieldv, indexv, min2v, max2v, mkiv, cellsA, fillA, buildv, stC, oneC, rowMB, intsA, plN, appE, appZ, appC, appNZ, appNC, VwL, srcC, srcZ, srcM, isBoolT, isPtrT, isSliceT, uOk, Value.oneCell', Nat.reducePow, Int.reducePow, Nat.reduceAdd, Nat.reduceMul, Nat.reduceSub, Nat.reduceLT, Nat.reduceLeDiff, Nat.reduceEqDiff, Nat.reduceBEq, Nat.reduceDiv, Nat.reduceMod, ↓reduceIte, reduceCtorEq, Int.reduceToNat, Int.reduceLT, Int.reduceLE, TFExD, SeqQ, BlkQ, LoopQ, BodyQ, i1, i2, i3, i4, i5, i6, i7, hs64, FR])
          | (refine WP.seq fun K hK => ?_)
          | (refine WP.region (rvc_sound _ _ (Sm.out ?_)))
          | (refine WP.drawK rfl mixed (by decide +kernel) (Sm.out ?_))
          | (refine Ob.mk ?_; focus (first | assumption | omega | decide | trivial | (intro hob; simp only [hob, ZF]; done) | (intros; (repeat' refine And.intro ?_ ?_) <;> first | assumption | omega | trivial | decide) | (intros; simp only [ZE] at *; (repeat' refine And.intro ?_ ?_) <;> first | assumption | omega | trivial)))
          | (refine And.intro (Ob.out ?_) ?_)
          | (refine WP.block ?_)
          | (refine WP.cond rfl (fun hc => ?_) (fun hc => ?_) <;> (try simp only [ZC, reduceCtorEq, ZD] at hc) <;> (try (exact absurd hc (by decide))) <;> (try (exfalso; omega)))
          | ((first | refine WP.skip ?_ | refine WP.exit ?_); simp only [SeqQ, BlkQ, LoopQ, BodyQ, ↓reduceIte, Nat.reduceEqDiff, reduceCtorEq, look, true_and])
          | (refine WP.ret (Sm.out ?_))
          | (first | refine ExG.no (Sm.out ?_) | refine Or.inl (ExG.no (Sm.out ?_)) | refine Or.inl (And.intro (fun hg => absurd hg (by decide)) (ExG.no (Sm.out ?_))))
          | (refine Rt.mk ?_; refine And.intro ?_ ?_ <;> (intro hg; first | exact absurd hg (by decide) | refine Sm.out ?_))
          | (refine Nu.mk ?_; first | (fail_if_success (have := nb1)); intro nb1 | (fail_if_success (have := nb2)); intro nb2 | (fail_if_success (have := nb3)); intro nb3 | intro nbz)
          | (refine Fr.mk ?_; intro hfr; replace FR := And.intro hfr FR; clear hfr; refine Sm.out ?_)
          | (refine Two.mk ?_ ?_)
          | (refine Cs.mk ?_; intro hcs; first | exact False.elim hcs | (exfalso; omega) | (refine Sm.out ?_))
          | (refine OutQ.all ?_ ?_; (focus (simp only [resv, ZK, look, loadv, loadn, loadnm, load1, load1m, hget, ↓reduceIte, Nat.reduceEqDiff, Nat.reduceAdd, Nat.reduceMul, Nat.reduceLeDiff, Nat.reduceLT, reduceCtorEq, TFExD, i1, i2, i3, i4, i5, i6, i7, hs64, FR])); (try simp only [resv, resA, Fn, ZK, look, loadv, loadn, loadnm, load1, load1m, hget, ↓reduceIte, Nat.reduceEqDiff, Nat.reduceAdd, Nat.reduceMul, Nat.reduceLeDiff, Nat.reduceLT, reduceCtorEq, TFExD, i1, i2, i3, i4, i5, i6, i7, hs64, FR]); (try simp [resA, Fn, look, i1, i2, i3, i4, i5, i6, i7, hs64, FR]); done)
          | go_step
          | omega
          | (simp only [maxLen_eq]; omega)
      clear hK
      refine WP.loop (Γ := DG) (fun g => ⟨[(18, nu g.q), (16, nu g.r), (15, nu Q1), (17, nu v), (2, nu Y), (8, nu s), (9, nu yn1), (10, nu yn0), (14, nu un0)], []⟩)
        (fun g => DInvD 4294967296 yn1 yn0 v un0 g.q g.r ∧ g.r < 4294967296 ∧ g.q < 18446744073709551616) (fun g => g.q) ⟨v / yn1, v - v / yn1 * yn1⟩
        ⟨D2, by have := Nat.mod_lt v (show 0 < yn1 by omega); have := Nat.div_add_mod v yn1; have := Nat.mul_comm yn1 (v / yn1); simp only; omega, by simp only; omega⟩ (Sub.pick (by simp [pickB, hget, hdel, FR]) (by simp [look])) ?_
      intro ⟨q, r⟩ ⟨D, hr, hq64⟩
      simp only at D hr hq64 ⊢
      by_cases ht : 4294967296 ≤ q ∨ 4294967296 * r + un0 < q * yn0
      · obtain ⟨hq0, D'⟩ := dig_next (by omega) (by omega) (by omega) b5 D ht
        have c1 : IntKind.u64.wrap ((q : Int) - 1) = ((q - 1 : Nat) : Int) := by rw [wrap_u64 (by omega) (by omega)]; omega
        have c2 : IntKind.u64.wrap ((r : Int) + (yn1 : Int)) = ((r + yn1 : Nat) : Int) := by rw [← Int.natCast_add, wrap_u64_nat (by omega)]
        by_cases hB : 4294967296 ≤ q
        · have k : decide ((q : Int) ≥ 4294967296) = true := by simp; omega
          by_cases hr2 : 4294967296 ≤ r + yn1
          · have k5 : decide (((r + yn1 : Nat) : Int) ≥ 4294967296) = true := by simp; omega
            have he := dig_break (by omega) (by omega) b3 (by omega) D' hr2
            rw [← eY, ← hQ0] at he
            first | (have FRx := FR; clear FRx) | (have FR : ¬ ((1 : Nat) = 0) := Nat.one_ne_zero)
            repeat' first
              | (refine Sm.mk ?_; try simp -dsimp only [ZK, rvc, drawF, headN, pureH, stp, dvc, calleeOf, gcall, pev, eff, newB, okd, og, ogs, ogo, ogp, slv, bltv, opd, litv, strip, one, both, putE, St.put, look, gdOf, gdv, picka, pickv, pickw, binv, bini, bins, binb, binp, binq, isSlT, bina, shp, eqCells, unv, convv, nilv, faddv, addp, idxav, idxp, load1, load1m, loadn, loadnm, loadv, hget, hset, hrep, hdel, slicev, bnd, shift1, lenv, capv, IntKind.bits, extractv, fieldv, indexv, min2v, max2v, mkiv, cellsA, fillA, buildv, stC, oneC, rowMB, intsA, plN, appE, appZ, appC, appNZ, appNC, VwL, srcC, srcZ, srcM, isBoolT, isPtrT, isSliceT, uOk, Value.oneCell', Nat.reducePow, Int.reducePow, Nat.reduceAdd, Nat.reduceMul, Nat.reduceSub, Nat.reduceLT, Nat.reduceLeDiff, Nat.reduceEqDiff, Nat.reduceBEq, Nat.reduceDiv, Nat.reduceMod, ↓reduceIte, reduceCtorEq, Int.reduceToNat, Int.reduceLT, Int.reduceLE, TFExD, SeqQ, BlkQ, LoopQ, BodyQ, k, k5, c1, c2, he, FR])
              | (refine WP.seq fun K hK => ?_)
              | (refine WP.region (rvc_sound _ _ (Sm.out ?_)))
              | (refine WP.drawK rfl mixed (by decide +kernel) (Sm.out ?_))
              | (refine Ob.mk ?_; focus (first | assumption | omega | decide | trivial | (intro hob; simp only [hob, ZF]; done) | (intros; (repeat' refine And.intro ?_ ?_) <;> first | assumption | omega | trivial | decide) | (intros; simp only [ZE] at *; (repeat' refine And.intro ?_ ?_) <;> first | assumption | omega | trivial)))
              | (refine And.intro (Ob.out ?_) ?_)
              | (refine WP.block ?_)
              | (refine WP.cond rfl (fun hc => ?_) (fun hc => ?_) <;> (try simp only [ZC, reduceCtorEq, ZD] at hc) <;> (try (exact absurd hc (by decide))) <;> (try (exfalso; omega)))
              | ((first | refine WP.skip ?_ | refine WP.exit ?_); simp only [SeqQ, BlkQ, LoopQ, BodyQ, ↓reduceIte, Nat.reduceEqDiff, reduceCtorEq, look, true_and])
              | (refine WP.ret (Sm.out ?_))
              | (first | refine ExG.no (Sm.out ?_) | refine Or.inl (ExG.no (Sm.out ?_)) | refine Or.inl (And.intro (fun hg => absurd hg (by decide)) (ExG.no (Sm.out ?_))))
              | (refine Rt.mk ?_; refine And.intro ?_ ?_ <;> (intro hg; first | exact absurd hg (by decide) | refine Sm.out ?_))
              | (refine Nu.mk ?_; first | (fail_if_success (have := nb1)); intro nb1 | (fail_if_success (have := nb2)); intro nb2 | (fail_if_success (have := nb3)); intro nb3 | intro nbz)
              | (refine Fr.mk ?_; intro hfr; replace FR := And.intro hfr FR; clear hfr; refine Sm.out ?_)
              | (refine Two.mk ?_ ?_)
              | (refine Cs.mk ?_; intro hcs; first | exact False.elim hcs | (exfalso; omega) | (refine Sm.out ?_))
              | go_step
              | omega
              | (simp only [maxLen_eq]; omega)
            exact cont2.out _ (Sub.pick (by simp [pickB, hget, hdel, FR]) (by simp [look]))
          · have k5 : decide (((r + yn1 : Nat) : Int) ≥ 4294967296) = false := by simp; omega
            first | (have FRx := FR; clear FRx) | (have FR : ¬ ((1 : Nat) = 0) := Nat.one_ne_zero)
            repeat' first
              | (refine Sm.mk ?_; try simp -dsimp only [ZK, rvc, drawF, headN, pureH, stp, dvc, calleeOf, gcall, pev, eff, newB, okd, og, ogs, ogo, ogp, slv, bltv, opd, litv, strip, one, both, putE, St.put, look, gdOf, gdv, picka, pickv, pickw, binv, bini, bins, binb, binp, binq, isSlT, bina, shp, eqCells, unv, convv, nilv, faddv, addp, idxav, idxp, load1, load1m, loadn, loadnm, loadv, hget, hset, hrep, hdel, slicev, bnd, shift1, lenv, capv, IntKind.bits, extractv, fieldv, indexv, min2v, max2v, mkiv, cellsA, fillA, buildv, stC, oneC, rowMB, intsA, plN, appE, appZ, appC, appNZ, appNC, VwL, srcC, srcZ, srcM, isBoolT, isPtrT, isSliceT, uOk, Value.oneCell', Nat.reducePow, Int.reducePow, Nat.reduceAdd, Nat.reduceMul, Nat.reduceSub, Nat.reduceLT, Nat.reduceLeDiff, Nat.reduceEqDiff, Nat.reduceBEq, Nat.reduceDiv, Nat.reduceMod, ↓reduceIte, reduceCtorEq, Int.reduceToNat, Int.reduceLT, Int.reduceLE, TFExD, SeqQ, BlkQ, LoopQ, BodyQ, k, k5, c1, c2, FR])
              | (refine WP.seq fun K hK => ?_)
              | (refine WP.region (rvc_sound _ _ (Sm.out ?_)))
              | (refine WP.drawK rfl mixed (by decide +kernel) (Sm.out ?_))
              | (refine Ob.mk ?_; focus (first | assumption | omega | decide | trivial | (intro hob; simp only [hob, ZF]; done) | (intros; (repeat' refine And.intro ?_ ?_) <;> first | assumption | omega | trivial | decide) | (intros; simp only [ZE] at *; (repeat' refine And.intro ?_ ?_) <;> first | assumption | omega | trivial)))
              | (refine And.intro (Ob.out ?_) ?_)
              | (refine WP.block ?_)
              | (refine WP.cond rfl (fun hc => ?_) (fun hc => ?_) <;> (try simp only [ZC, reduceCtorEq, ZD] at hc) <;> (try (exact absurd hc (by decide))) <;> (try (exfalso; omega)))
              | ((first | refine WP.skip ?_ | refine WP.exit ?_); simp only [SeqQ, BlkQ, LoopQ, BodyQ, ↓reduceIte, Nat.reduceEqDiff, reduceCtorEq, look, true_and])
              | (refine WP.ret (Sm.out ?_))
              | (first | refine ExG.no (Sm.out ?_) | refine Or.inl (ExG.no (Sm.out ?_)) | refine Or.inl (And.intro (fun hg => absurd hg (by decide)) (ExG.no (Sm.out ?_))))
              | (refine Rt.mk ?_; refine And.intro ?_ ?_ <;> (intro hg; first | exact absurd hg (by decide) | refine Sm.out ?_))
              | (refine Nu.mk ?_; first | (fail_if_success (have := nb1)); intro nb1 | (fail_if_success (have := nb2)); intro nb2 | (fail_if_success (have := nb3)); intro nb3 | intro nbz)
              | (refine Fr.mk ?_; intro hfr; replace FR := And.intro hfr FR; clear hfr; refine Sm.out ?_)
              | (refine Two.mk ?_ ?_)
              | (refine Cs.mk ?_; intro hcs; first | exact False.elim hcs | (exfalso; omega) | (refine Sm.out ?_))
              | go_step
              | omega
              | (simp only [maxLen_eq]; omega)
            exact ⟨⟨q - 1, r + yn1⟩, ⟨D', by simp only; omega, by simp only; omega⟩, by simp only; omega, (Sub.pick (by simp [pickB, hget, hdel, FR]) (by simp [look]))⟩
        · have k : decide ((q : Int) ≥ 4294967296) = false := by simp; omega
          have hqy : q * yn0 ≤ 4294967295 * 4294967295 := Nat.mul_le_mul (by omega) (by omega)
          have c3 : IntKind.u64.wrap ((q : Int) * (yn0 : Int)) = ((q * yn0 : Nat) : Int) := by rw [← Int.natCast_mul, wrap_u64_nat (by omega)]
          have c4 : IntKind.u64.wrap (4294967296 * (r : Int)) = ((4294967296 * r : Nat) : Int) := by rw [show 4294967296 * (r : Int) = ((4294967296 * r : Nat) : Int) by simp, wrap_u64_nat (by omega)]
          have c5 : IntKind.u64.wrap (((4294967296 * r : Nat) : Int) + (un0 : Int)) = ((4294967296 * r + un0 : Nat) : Int) := by rw [← Int.natCast_add, wrap_u64_nat (by omega)]
          have k4 : decide (((q * yn0 : Nat) : Int) > ((4294967296 * r + un0 : Nat) : Int)) = true := decide_eq_true (by omega)
          by_cases hr2 : 4294967296 ≤ r + yn1
          · have k5 : decide (((r + yn1 : Nat) : Int) ≥ 4294967296) = true := by simp; omega
            have he := dig_break (by omega) (by omega) b3 (by omega) D' hr2
            rw [← eY, ← hQ0] at he
            first | (have FRx := FR; clear FRx) | (have FR : ¬ ((1 : Nat) = 0) := Nat.one_ne_zero)
            repeat' first
              | (refine Sm.mk ?_; try simp -dsimp only [ZK, rvc, drawF, headN, pureH, stp, dvc, calleeOf, gcall, pev, eff, newB, okd, og, ogs, ogo, ogp, slv, bltv, opd, litv, strip, one, both, putE, St.put, look, gdOf, gdv, picka, pickv, pickw, binv, bini, bins, binb, binp, binq, isSlT, bina, shp, eqCells, unv, convv, nilv, faddv, addp, idxav, idxp, load1, load1m, loadn, loadnm, loadv, hget, hset, hrep, hdel, slicev, bnd, shift1, lenv, capv, IntKind.bits, extractv, fieldv, indexv, min2v, max2v, mkiv, cellsA, fillA, buildv, stC, oneC, rowMB, intsA, plN, appE, appZ, appC, appNZ, appNC, VwL, srcC, srcZ, srcM, isBoolT, isPtrT, isSliceT, uOk, Value.oneCell', Nat.reducePow, Int.reducePow, Nat.reduceAdd, Nat.reduceMul, Nat.reduceSub, Nat.reduceLT, Nat.reduceLeDiff, Nat.reduceEqDiff, Nat.reduceBEq, Nat.reduceDiv, Nat.reduceMod, ↓reduceIte, reduceCtorEq, Int.reduceToNat, Int.reduceLT, Int.reduceLE, TFExD, SeqQ, BlkQ, LoopQ, BodyQ, k, k4, k5, c1, c2, c3, c4, c5, he, FR])
              | (refine WP.seq fun K hK => ?_)
              | (refine WP.region (rvc_sound _ _ (Sm.out ?_)))
              | (refine WP.drawK rfl mixed (by decide +kernel) (Sm.out ?_))
              | (refine Ob.mk ?_; focus (first | assumption | omega | decide | trivial | (intro hob; simp only [hob, ZF]; done) | (intros; (repeat' refine And.intro ?_ ?_) <;> first | assumption | omega | trivial | decide) | (intros; simp only [ZE] at *; (repeat' refine And.intro ?_ ?_) <;> first | assumption | omega | trivial)))
              | (refine And.intro (Ob.out ?_) ?_)
              | (refine WP.block ?_)
              | (refine WP.cond rfl (fun hc => ?_) (fun hc => ?_) <;> (try simp only [ZC, reduceCtorEq, ZD] at hc) <;> (try (exact absurd hc (by decide))) <;> (try (exfalso; omega)))
              | ((first | refine WP.skip ?_ | refine WP.exit ?_); simp only [SeqQ, BlkQ, LoopQ, BodyQ, ↓reduceIte, Nat.reduceEqDiff, reduceCtorEq, look, true_and])
              | (refine WP.ret (Sm.out ?_))
              | (first | refine ExG.no (Sm.out ?_) | refine Or.inl (ExG.no (Sm.out ?_)) | refine Or.inl (And.intro (fun hg => absurd hg (by decide)) (ExG.no (Sm.out ?_))))
              | (refine Rt.mk ?_; refine And.intro ?_ ?_ <;> (intro hg; first | exact absurd hg (by decide) | refine Sm.out ?_))
              | (refine Nu.mk ?_; first | (fail_if_success (have := nb1)); intro nb1 | (fail_if_success (have := nb2)); intro nb2 | (fail_if_success (have := nb3)); intro nb3 | intro nbz)
              | (refine Fr.mk ?_; intro hfr; replace FR := And.intro hfr FR; clear hfr; refine Sm.out ?_)
              | (refine Two.mk ?_ ?_)
              | (refine Cs.mk ?_; intro hcs; first | exact False.elim hcs | (exfalso; omega) | (refine Sm.out ?_))
              | go_step
              | omega
              | (simp only [maxLen_eq]; omega)
            exact cont2.out _ (Sub.pick (by simp [pickB, hget, hdel, FR]) (by simp [look]))
          · have k5 : decide (((r + yn1 : Nat) : Int) ≥ 4294967296) = false := by simp; omega
            first | (have FRx := FR; clear FRx) | (have FR : ¬ ((1 : Nat) = 0) := Nat.one_ne_zero)
            repeat' first
              | (refine Sm.mk ?_; try simp -dsimp only [ZK, rvc, drawF, headN, pureH, stp, dvc, calleeOf, gcall, pev, eff, newB, okd, og, ogs, ogo, ogp, slv, bltv, opd, litv, strip, one, both, putE, St.put, look, gdOf, gdv, picka, pickv, pickw, binv, bini, bins, binb, binp, binq, isSlT, bina, shp, eqCells, unv, convv, nilv, faddv, addp, idxav, idxp, load1, load1m, loadn, loadnm, loadv, hget, hset, hrep, hdel, slicev, bnd, shift1, lenv, capv, IntKind.bits, extractv, fieldv, indexv, min2v, max2v, mkiv, cellsA, fillA, buildv, stC, oneC, rowMB, intsA, plN, appE, appZ, appC, appNZ, appNC, VwL, srcC, srcZ, srcM, isBoolT, isPtrT, isSliceT, uOk, Value.oneCell', Nat.reducePow, Int.reducePow, Nat.reduceAdd, Nat.reduceMul, Nat.reduceSub, Nat.reduceLT, Nat.reduceLeDiff, Nat.reduceEqDiff, Nat.reduceBEq, Nat.reduceDiv, Nat.reduceMod, ↓reduceIte, reduceCtorEq, Int.reduceToNat, Int.reduceLT, Int.reduceLE, TFExD, SeqQ, BlkQ, LoopQ, BodyQ, k, k4, k5, c1, c2, c3, c4, c5, FR])
              | (refine WP.seq fun K hK => ?_)
              | (refine WP.region (rvc_sound _ _ (Sm.out ?_)))
              | (refine WP.drawK rfl mixed (by decide +kernel) (Sm.out ?_))
              | (refine Ob.mk ?_; focus (first | assumption | omega | decide | trivial | (intro hob; simp only [hob, ZF]; done) | (intros; (repeat' refine And.intro ?_ ?_) <;> first | assumption | omega | trivial | decide) | (intros; simp only [ZE] at *; (repeat' refine And.intro ?_ ?_) <;> first | assumption | omega | trivial)))
              | (refine And.intro (Ob.out ?_) ?_)
              | (refine WP.block ?_)
              | (refine WP.cond rfl (fun hc => ?_) (fun hc => ?_) <;> (try simp only [ZC, reduceCtorEq, ZD] at hc) <;> (try (exact absurd hc (by decide))) <;> (try (exfalso; omega)))
              | ((first | refine WP.skip ?_ | refine WP.exit ?_); simp only [SeqQ, BlkQ, LoopQ, BodyQ, ↓reduceIte, Nat.reduceEqDiff, reduceCtorEq, look, true_and])
              | (refine WP.ret (Sm.out ?_))
              | (first | refine ExG.no (Sm.out ?_) | refine Or.inl (ExG.no (Sm.out ?_)) | refine Or.inl (And.intro (fun hg => absurd hg (by decide)) (ExG.no (Sm.out ?_))))
              | (refine Rt.mk ?_; refine And.intro ?_ ?_ <;> (intro hg; first | exact absurd hg (by decide) | refine Sm.out ?_))
              | (refine Nu.mk ?_; first | (fail_if_success (have := nb1)); intro nb1 | (fail_if_success (have := nb2)); intro nb2 | (fail_if_success (have := nb3)); intro nb3 | intro nbz)
              | (refine Fr.mk ?_; intro hfr; replace FR := And.intro hfr FR; clear hfr; refine Sm.out ?_)
              | (refine Two.mk ?_ ?_)
              | (refine Cs.mk ?_; intro hcs; first | exact False.elim hcs | (exfalso; omega) | (refine Sm.out ?_))
              | go_step
              | omega
              | (simp only [maxLen_eq]; omega)
            exact ⟨⟨q - 1, r + yn1⟩, ⟨D', by simp only; omega, by simp only; omega⟩, by simp only; omega, (Sub.pick (by simp [pickB, hget, hdel, FR]) (by simp [look]))⟩
      · have k : decide ((q : Int) ≥ 4294967296) = false := by simp; omega
        have hqy : q * yn0 ≤ 4294967295 * 4294967295 := Nat.mul_le_mul (by omega) (by omega)
        have c3 : IntKind.u64.wrap ((q : Int) * (yn0 : Int)) = ((q * yn0 : Nat) : Int) := by rw [← Int.natCast_mul, wrap_u64_nat (by omega)]
        have c4 : IntKind.u64.wrap (4294967296 * (r : Int)) = ((4294967296 * r : Nat) : Int) := by rw [show 4294967296 * (r : Int) = ((4294967296 * r : Nat) : Int) by simp, wrap_u64_nat (by omega)]
        have c5 : IntKind.u64.wrap (((4294967296 * r : Nat) : Int) + (un0 : Int)) = ((4294967296 * r + un0 : Nat) : Int) := by rw [← Int.natCast_add, wrap_u64_nat (by omega)]
        have k4 : decide (((q * yn0 : Nat) : Int) > ((4294967296 * r + un0 : Nat) : Int)) = false := decide_eq_false (by omega)
        have he := dig_stop (by omega) (by omega) D (by omega)
        rw [← eY, ← hQ0] at he
        first | (have FRx := FR; clear FRx) | (have FR : ¬ ((1 : Nat) = 0) := Nat.one_ne_zero)
        repeat' first
          | (refine Sm.mk ?_; try simp -dsimp only [ZK, rvc, drawF, headN, pureH, stp, dvc, calleeOf, gcall, pev, eff, newB, okd, og, ogs, ogo, ogp, slv, bltv, opd, litv, strip, one, both, putE, St.put, look, gdOf, gdv, picka, pickv, pickw, binv, bini, bins, binb, binp, binq, isSlT, bina, shp, eqCells, unv, convv, nilv, faddv, addp, idxav, idxp, load1, load1m, loadn, loadnm, loadv, hget, hset, hrep, hdel, slicev, bnd, shift1, lenv, capv, IntKind.bits, extractv, fieldv, indexv, min2v, max2v, mkiv, cellsA, fillA, buildv, stC, oneC, rowMB, intsA, plN, appE, appZ, appC, appNZ, appNC, VwL, srcC, srcZ, srcM, isBoolT, isPtrT, isSliceT, uOk, Value.oneCell', Nat.reducePow, Int.reducePow, Nat.reduceAdd, Nat.reduceMul, Nat.reduceSub, Nat.reduceLT, Nat.reduceLeDiff, Nat.reduceEqDiff, Nat.reduceBEq, Nat.reduceDiv, Nat.reduceMod, ↓reduceIte, reduceCtorEq, Int.reduceToNat, Int.reduceLT, Int.reduceLE, TFExD, SeqQ, BlkQ, LoopQ, BodyQ, k, k4, c3, c4, c5, FR])
          | (refine WP.seq fun K hK => ?_)
          | (refine WP.region (rvc_sound _ _ (Sm.out ?_)))
          | (refine WP.drawK rfl mixed (by decide +kernel) (Sm.out ?_))
          | (refine Ob.mk ?_; focus (first | assumption | omega | decide | trivial | (intro hob; simp only [hob, ZF]; done) | (intros; (repeat' refine And.intro ?_ ?_) <;> first | assumption | omega | trivial | decide) | (intros; simp only [ZE] at *; (repeat' refine And.intro ?_ ?_) <;> first | assumption | omega | trivial)))
          | (refine And.intro (Ob.out ?_) ?_)
          | (refine WP.block ?_)
          | (refine WP.cond rfl (fun hc => ?_) (fun hc => ?_) <;> (try simp only [ZC, reduceCtorEq, ZD] at hc) <;> (try (exact absurd hc (by decide))) <;> (try (exfalso; omega)))
          | ((first | refine WP.skip ?_ | refine WP.exit ?_); simp only [SeqQ, BlkQ, LoopQ, BodyQ, ↓reduceIte, Nat.reduceEqDiff, reduceCtorEq, look, true_and])
          | (refine WP.ret (Sm.out ?_))
          | (first | refine ExG.no (Sm.out ?_) | refine Or.inl (ExG.no (Sm.out ?_)) | refine Or.inl (And.intro (fun hg => absurd hg (by decide)) (ExG.no (Sm.out ?_))))
          | (refine Rt.mk ?_; refine And.intro ?_ ?_ <;> (intro hg; first | exact absurd hg (by decide) | refine Sm.out ?_))
          | (refine Nu.mk ?_; first | (fail_if_success (have := nb1)); intro nb1 | (fail_if_success (have := nb2)); intro nb2 | (fail_if_success (have := nb3)); intro nb3 | intro nbz)
          | (refine Fr.mk ?_; intro hfr; replace FR := And.intro hfr FR; clear hfr; refine Sm.out ?_)
          | (refine Two.mk ?_ ?_)
          | (refine Cs.mk ?_; intro hcs; first | exact False.elim hcs | (exfalso; omega) | (refine Sm.out ?_))
          | go_step
          | omega
          | (simp only [maxLen_eq]; omega)
        exact cont2.out _ (Sub.pick (by simp [pickB, hget, hdel, FR, he]) (by simp [look, he]))
    clear hK
    refine WP.loop (Γ := DG) (fun g => ⟨[(15, nu g.q), (16, nu g.r), (2, nu Y), (8, nu s), (9, nu yn1), (10, nu yn0), (11, nu u), (13, nu un1), (14, nu un0)], []⟩)
      (fun g => DInvD 4294967296 yn1 yn0 u un1 g.q g.r ∧ g.r < 4294967296 ∧ g.q < 18446744073709551616) (fun g => g.q) ⟨u / yn1, u - u / yn1 * yn1⟩
      ⟨D1, by have := Nat.mod_lt u (show 0 < yn1 by omega); have := Nat.div_add_mod u yn1; have := Nat.mul_comm yn1 (u / yn1); simp only; omega, by simp only; omega⟩ (Sub.pick (by simp [pickB, hget, hdel, FR]) (by simp [look])) ?_
    intro ⟨q, r⟩ ⟨D, hr, hq64⟩
    simp only at D hr hq64 ⊢
    by_cases ht : 4294967296 ≤ q ∨ 4294967296 * r + un1 < q * yn0
    · obtain ⟨hq0, D'⟩ := dig_next (by omega) (by omega) (by omega) b4 D ht
      have c1 : IntKind.u64.wrap ((q : Int) - 1) = ((q - 1 : Nat) : Int) := by rw [wrap_u64 (by omega) (by omega)]; omega
      have c2 : IntKind.u64.wrap ((r : Int) + (yn1 : Int)) = ((r + yn1 : Nat) : Int) := by rw [← Int.natCast_add, wrap_u64_nat (by omega)]
      by_cases hB : 4294967296 ≤ q
      · have k : decide ((q : Int) ≥ 4294967296) = true := by simp; omega
        by_cases hr2 : 4294967296 ≤ r + yn1
        · have k5 : decide (((r + yn1 : Nat) : Int) ≥ 4294967296) = true := by simp; omega
          have he := dig_break (by omega) (by omega) b3 (by omega) D' hr2
          rw [← eY, ← hQ1] at he
          first | (have FRx := FR; clear FRx) | (have FR : ¬ ((1 : Nat) = 0) := Nat.one_ne_zero)
          repeat' first
            | (refine Sm.mk ?_; try simp -dsimp only [ZK, rvc, drawF, headN, pureH, stp, dvc, calleeOf, gcall, pev, eff, newB, okd, og, ogs, ogo, ogp, slv, bltv, opd, litv, strip, one, both, putE, St.put, look, gdOf, gdv, picka, pickv, pickw, binv, bini, bins, binb, binp, binq, isSlT, bina, shp, eqCells, unv, convv, nilv, faddv, addp, idxav, idxp, load1, load1m, loadn, loadnm, loadv, hget, hset, hrep, hdel, slicev, bnd, shift1, lenv, capv, IntKind.bits, extractv, fieldv, indexv, min2v, max2v, mkiv, cellsA, fillA, buildv, stC, oneC, rowMB, intsA, plN, appE, appZ, appC, appNZ, appNC, VwL, srcC, srcZ, srcM, isBoolT, isPtrT, isSliceT, uOk, Value.oneCell', Nat.reducePow, Int.reducePow, Nat.reduceAdd, Nat.reduceMul, Nat.reduceSub, Nat.reduceLT, Nat.reduceLeDiff, Nat.reduceEqDiff, Nat.reduceBEq, Nat.reduceDiv, Nat.reduceMod, ↓reduceIte, reduceCtorEq, Int.reduceToNat, Int.reduceLT, Int.reduceLE, TFExD, SeqQ, BlkQ, LoopQ, BodyQ, k, k5, c1, c2, he, FR])
            | (refine WP.seq fun K hK => ?_)
            | (refine WP.region (rvc_sound _ _ (Sm.out ?_)))
            | (refine WP.drawK rfl mixed (by decide +kernel) (Sm.out ?_))
            | (refine Ob.mk ?_; focus (first | assumption | omega | decide | trivial | (intro hob; simp only [hob, ZF]; done) | (intros; (repeat' refine And.intro ?_ ?_) <;> first | assumption | omega | trivial | decide) | (intros; simp only [ZE] at *; (repeat' refine And.intro ?_ ?_) <;> first | assumption | omega | trivial)))
            | (refine And.intro (Ob.out ?_) ?_)
            | (refine WP.block ?_)
            | (refine WP.cond rfl (fun hc => ?_) (fun hc => ?_) <;> (try simp only [ZC, reduceCtorEq, ZD] at hc) <;> (try (exact absurd hc (by decide))) <;> (try (exfalso; omega)))
            | ((first | refine WP.skip ?_ | refine WP.exit ?_); simp only [SeqQ, BlkQ, LoopQ, BodyQ, ↓reduceIte, Nat.reduceEqDiff, reduceCtorEq, look, true_and])
            | (refine WP.ret (Sm.out ?_))
            | (first | refine ExG.no (Sm.out ?_) | refine Or.inl (ExG.no (Sm.out ?_)) | refine Or.inl (And.intro (fun hg => absurd hg (by decide)) (ExG.no (Sm.out ?_))))
            | (refine Rt.mk ?_; refine And.intro ?_ ?_ <;> (intro hg; first | exact absurd hg (by decide) | refine Sm.out ?_))
            | (refine Nu.mk ?_; first | (fail_if_success (have := nb1)); intro nb1 | (fail_if_success (have := nb2)); intro nb2 | (fail_if_success (have := nb3)); intro nb3 | intro nbz)
            | (refine Fr.mk ?_; intro hfr; replace FR := And.intro hfr FR; clear hfr; refine Sm.out ?_)
            | (refine Two.mk ?_ ?_)
            | (refine Cs.mk ?_; intro hcs; first | exact False.elim hcs | (exfalso; omega) | (refine Sm.out ?_))
            | go_step
            | omega
            | (simp only [maxLen_eq]; omega)
          exact cont.out _ (Sub.pick (by simp [pickB, hget, hdel, FR]) (by simp [look]))
        · have k5 : decide (((r + yn1 : Nat) : Int) ≥ 4294967296) = false := by simp; omega
          first | (have FRx := FR; clear FRx) | (have FR : ¬ ((1 : Nat) = 0) := Nat.one_ne_zero)
          repeat' first
            | (refine Sm.mk ?_; try simp -dsimp only [ZK, rvc, drawF, headN, pureH, stp, dvc, calleeOf, gcall, pev, eff, newB, okd, og, ogs, ogo, ogp, slv, bltv, opd, litv, strip, one, both, putE, St.put, look, gdOf, gdv, picka, pickv, pickw, binv, bini, bins, binb, binp, binq, isSlT, bina, shp, eqCells, unv, convv, nilv, faddv, addp, idxav, idxp, load1, load1m, loadn, loadnm, loadv, hget, hset, hrep, hdel, slicev, bnd, shift1, lenv, capv, IntKind.bits, extractv, fieldv, indexv, min2v, max2v, mkiv, cellsA, fillA, buildv, stC, oneC, rowMB, intsA, plN, appE, appZ, appC, appNZ, appNC, VwL, srcC, srcZ, srcM, isBoolT, isPtrT, isSliceT, uOk, Value.oneCell', Nat.reducePow, Int.reducePow, Nat.reduceAdd, Nat.reduceMul, Nat.reduceSub, Nat.reduceLT, Nat.reduceLeDiff, Nat.reduceEqDiff, Nat.reduceBEq, Nat.reduceDiv, Nat.reduceMod, ↓reduceIte, reduceCtorEq, Int.reduceToNat, Int.reduceLT, Int.reduceLE, TFExD, SeqQ, BlkQ, LoopQ, BodyQ, k, k5, c1, c2, FR])
            | (refine WP.seq fun K hK => ?_)
            | (refine WP.region (rvc_sound _ _ (Sm.out ?_)))
            | (refine WP.drawK rfl mixed (by decide +kernel) (Sm.out ?_))
            | (refine Ob.mk ?_; focus (first | assumption | omega | decide | trivial | (intro hob; simp only [hob, ZF]; done) | (intros; (repeat' refine And.intro ?_ ?_) <;> first | assumption | omega | trivial | decide) | (intros; simp only [ZE] at *; (repeat' refine And.intro ?_ ?_) <;> first | assumption | omega | trivial)))
            | (refine And.intro (Ob.out ?_) ?_)
            | (refine WP.block ?_)
            | (refine WP.cond rfl (fun hc => ?_) (fun hc => ?_) <;> (try simp only [ZC, reduceCtorEq, ZD] at hc) <;> (try (exact absurd hc (by decide))) <;> (try (exfalso; omega)))
            | ((first | refine WP.skip ?_ | refine WP.exit ?_); simp only [SeqQ, BlkQ, LoopQ, BodyQ, ↓reduceIte, Nat.reduceEqDiff, reduceCtorEq, look, true_and])
            | (refine WP.ret (Sm.out ?_))
            | (first | refine ExG.no (Sm.out ?_) | refine Or.inl (ExG.no (Sm.out ?_)) | refine Or.inl (And.intro (fun hg => absurd hg (by decide)) (ExG.no (Sm.out ?_))))
            | (refine Rt.mk ?_; refine And.intro ?_ ?_ <;> (intro hg; first | exact absurd hg (by decide) | refine Sm.out ?_))
            | (refine Nu.mk ?_; first | (fail_if_success (have := nb1)); intro nb1 | (fail_if_success (have := nb2)); intro nb2 | (fail_if_success (have := nb3)); intro nb3 | intro nbz)
            | (refine Fr.mk ?_; intro hfr; replace FR := And.intro hfr FR; clear hfr; refine Sm.out ?_)
            | (refine Two.mk ?_ ?_)
            | (refine Cs.mk ?_; intro hcs; first | exact False.elim hcs | (exfalso; omega) | (refine Sm.out ?_))
            | go_step
            | omega
            | (simp only [maxLen_eq]; omega)
          exact ⟨⟨q - 1, r + yn1⟩, ⟨D', by simp only; omega, by simp only; omega⟩, by simp only; omega, (Sub.pick (by simp [pickB, hget, hdel, FR]) (by simp [look]))⟩
      · have k : decide ((q : Int) ≥ 4294967296) = false := by simp; omega
        have hqy : q * yn0 ≤ 4294967295 * 4294967295 := Nat.mul_le_mul (by omega) (by omega)
        have c3 : IntKind.u64.wrap ((q : Int) * (yn0 : Int)) = ((q * yn0 : Nat) : Int) := by rw [← Int.natCast_mul, wrap_u64_nat (by omega)]
        have c4 : IntKind.u64.wrap (4294967296 * (r : Int)) = ((4294967296 * r : Nat) : Int) := by rw [show 4294967296 * (r : Int) = ((4294967296 * r : Nat) : Int) by simp, wrap_u64_nat (by omega)]
        have c5 : IntKind.u64.wrap (((4294967296 * r : Nat) : Int) + (un1 : Int)) = ((4294967296 * r + un1 : Nat) : Int) := by rw [← Int.natCast_add, wrap_u64_nat (by omega)]
        have k4 : decide (((q * yn0 : Nat) : Int) > ((4294967296 * r + un1 : Nat) : Int)) = true := decide_eq_true (by omega)
        by_cases hr2 : 4294967296 ≤ r + yn1
        · have k5 : decide (((r + yn1 : Nat) : Int) ≥ 4294967296) = true := by simp; omega
          have he := dig_break (by omega) (by omega) b3 (by omega) D' hr2
          rw [← eY, ← hQ1] at he
          first | (have FRx := FR; clear FRx) | (have FR : ¬ ((1 : Nat) = 0) := Nat.one_ne_zero)
          repeat' first
            | (refine Sm.mk ?_; try simp -dsimp only [ZK, rvc, drawF, headN, pureH, stp, dvc, calleeOf, gcall, pev, eff, newB, okd, og, ogs, ogo, ogp, slv, bltv, opd, litv, strip, one, both, putE, St.put, look, gdOf, gdv, picka, pickv, pickw, binv, bini, bins, binb, binp, binq, isSlT, bina, shp, eqCells, unv, convv, nilv, faddv, addp, idxav, idxp, load1, load1m, loadn, loadnm, loadv, hget, hset, hrep, hdel, slicev, bnd, shift1, lenv, capv, IntKind.bits, extractv, fieldv, indexv, min2v, max2v, mkiv, cellsA, fillA, buildv, stC, oneC, rowMB, intsA, plN, appE, appZ, appC, appNZ, appNC, VwL, srcC, srcZ, srcM, isBoolT, isPtrT, isSliceT, uOk, Value.oneCell', Nat.reducePow, Int.reducePow, Nat.reduceAdd, Nat.reduceMul, Nat.reduceSub, Nat.reduceLT, Nat.reduceLeDiff, Nat.reduceEqDiff, Nat.reduceBEq, Nat.reduceDiv, Nat.reduceMod, ↓reduceIte, reduceCtorEq, Int.reduceToNat, Int.reduceLT, Int.reduceLE, TFExD, SeqQ, BlkQ, LoopQ, BodyQ, k, k4, k5, c1, c2, c3, c4, c5, he, FR])
            | (refine WP.seq fun K hK => ?_)
            | (refine WP.region (rvc_sound _ _ (Sm.out ?_)))
            | (refine WP.drawK rfl mixed (by decide +kernel) (Sm.out ?_))
            | (refine Ob.mk ?_; focus (first | assumption | omega | decide | trivial | (intro hob; simp only [hob, ZF]; done) | (intros; (repeat' refine And.intro ?_ ?_) <;> first | assumption | omega | trivial | decide) | (intros; simp only [ZE] at *; (repeat' refine And.intro ?_ ?_) <;> first | assumption | omega | trivial)))
            | (refine And.intro (Ob.out ?_) ?_)
            | (refine WP.block ?_)
            | (refine WP.cond rfl (fun hc => ?_) (fun hc => ?_) <;> (try simp only [ZC, reduceCtorEq, ZD] at hc) <;> (try (exact absurd hc (by decide))) <;> (try (exfalso; omega)))
            | ((first | refine WP.skip ?_ | refine WP.exit ?_); simp only [SeqQ, BlkQ, LoopQ, BodyQ, ↓reduceIte, Nat.reduceEqDiff, reduceCtorEq, look, true_and])
            | (refine WP.ret (Sm.out ?_))
            | (first | refine ExG.no (Sm.out ?_) | refine Or.inl (ExG.no (Sm.out ?_)) | refine Or.inl (And.intro (fun hg => absurd hg (by decide)) (ExG.no (Sm.out ?_))))
            | (refine Rt.mk ?_; refine And.intro ?_ ?_ <;> (intro hg; first | exact absurd hg (by decide) | refine Sm.out ?_))
            | (refine Nu.mk ?_; first | (fail_if_success (have := nb1)); intro nb1 | (fail_if_success (have := nb2)); intro nb2 | (fail_if_success (have := nb3)); intro nb3 | intro nbz)
            | (refine Fr.mk ?_; intro hfr; replace FR := And.intro hfr FR; clear hfr; refine Sm.out ?_)
            | (refine Two.mk ?_ ?_)
            | (refine Cs.mk ?_; intro hcs; first | exact False.elim hcs | (exfalso; omega) | (refine Sm.out ?_))
            | go_step
            | omega
            | (simp only [maxLen_eq]; omega)
          exact cont.out _ (Sub.pick (by simp [pickB, hget, hdel, FR]) (by simp [look]))
        · have k5 : decide (((r + yn1 : Nat) : Int) ≥ 4294967296) = false := by simp; omega
          first | (have FRx := FR; clear FRx) | (have FR : ¬ ((1 : Nat) = 0) := Nat.one_ne_zero)
          repeat' first
            | (refine Sm.mk ?_; try simp -dsimp only [ZK, rvc, drawF, headN, pureH, stp, dvc, calleeOf, gcall, pev, eff, newB, okd, og, ogs, ogo, ogp, slv, bltv, opd, litv, strip, one, both, putE, St.put, look, gdOf, gdv, picka, pickv, pickw, binv, bini, bins, binb, binp, binq, isSlT, bina, shp, eqCells, unv, convv, nilv, faddv, addp, idxav, idxp, load1, load1m, loadn, loadnm, loadv, hget, hset, hrep, hdel, slicev, bnd, shift1, lenv, capv, IntKind.bits, extractv, fieldv, indexv, min2v, max2v, mkiv, cellsA, fillA, buildv, stC, oneC, rowMB, intsA, plN, appE, appZ, appC, appNZ, appNC, VwL, srcC, srcZ, srcM, isBoolT, isPtrT, isSliceT, uOk, Value.oneCell', Nat.reducePow, Int.reducePow, Nat.reduceAdd, Nat.reduceMul, Nat.reduceSub, Nat.reduceLT, Nat.reduceLeDiff, Nat.reduceEqDiff, Nat.reduceBEq, Nat.reduceDiv, Nat.reduceMod, ↓reduceIte, reduceCtorEq, Int.reduceToNat, Int.reduceLT, Int.reduceLE, TFExD, SeqQ, BlkQ, LoopQ, BodyQ, k, k4, k5, c1, c2, c3, c4, c5, FR])
            | (refine WP.seq fun K hK => ?_)
            | (refine WP.region (rvc_sound _ _ (Sm.out ?_)))
            | (refine WP.drawK rfl mixed (by decide +kernel) (Sm.out ?_))
            | (refine Ob.mk ?_; focus (first | assumption | omega | decide | trivial | (intro hob; simp only [hob, ZF]; done) | (intros; (repeat' refine And.intro ?_ ?_) <;> first | assumption | omega | trivial | decide) | (intros; simp only [ZE] at *; (repeat' refine And.intro ?_ ?_) <;> first | assumption | omega | trivial)))
            | (refine And.intro (Ob.out ?_) ?_)
            | (refine WP.block ?_)
            | (refine WP.cond rfl (fun hc => ?_) (fun hc => ?_) <;> (try simp only [ZC, reduceCtorEq, ZD] at hc) <;> (try (exact absurd hc (by decide))) <;> (try (exfalso; omega)))
            | ((first | refine WP.skip ?_ | refine WP.exit ?_); simp only [SeqQ, BlkQ, LoopQ, BodyQ, ↓reduceIte, Nat.reduceEqDiff, reduceCtorEq, look, true_and])
            | (refine WP.ret (Sm.out ?_))
            | (first | refine ExG.no (Sm.out ?_) | refine Or.inl (ExG.no (Sm.out ?_)) | refine Or.inl (And.intro (fun hg => absurd hg (by decide)) (ExG.no (Sm.out ?_))))
            | (refine Rt.mk ?_; refine And.intro ?_ ?_ <;> (intro hg; first | exact absurd hg (by decide) | refine Sm.out ?_))
            | (refine Nu.mk ?_; first | (fail_if_success (have := nb1)); intro nb1 | (fail_if_success (have := nb2)); intro nb2 | (fail_if_success (have := nb3)); intro nb3 | intro nbz)
            | (refine Fr.mk ?_; intro hfr; replace FR := And.intro hfr FR; clear hfr; refine Sm.out ?_)
            | (refine Two.mk ?_ ?_)
            | (refine Cs.mk ?_; intro hcs; first | exact False.elim hcs | (exfalso; omega) | (refine Sm.out ?_))
            | go_step
            | omega
            | (simp only [maxLen_eq]; omega)
          exact ⟨⟨q - 1, r + yn1⟩, ⟨D', by simp only; omega, by simp only; omega⟩, by simp only; omega, (Sub.pick (by simp [pickB, hget, hdel, FR]) (by simp [look]))⟩
    · have k : decide ((q : Int) ≥ 4294967296) = false := by simp; omega
      have hqy : q * yn0 ≤ 4294967295 * 4294967295 := Nat.mul_le_mul (by omega) (by omega)
      have c3 : IntKind.u64.wrap ((q : Int) * (yn0 : Int)) = ((q * yn0 : Nat) : Int) := by rw [← Int.natCast_mul, wrap_u64_nat (by omega)]
      have c4 : IntKind.u64.wrap (4294967296 * (r : Int)) = ((4294967296 * r : Nat) : Int) := by rw [show 4294967296 * (r : Int) = ((4294967296 * r : Nat) : Int) by simp, wrap_u64_nat (by omega)]
      have c5 : IntKind.u64.wrap (((4294967296 * r : Nat) : Int) + (un1 : Int)) = ((4294967296 * r + un1 : Nat) : Int) := by rw [← Int.natCast_add, wrap_u64_nat (by omega)]
      have k4 : decide (((q * yn0 : Nat) : Int) > ((4294967296 * r + un1 : Nat) : Int)) = false := decide_eq_false (by omega)
      have he := dig_stop (by omega) (by omega) D (by omega)
      rw [← eY, ← hQ1] at he
      first | (have FRx := FR; clear FRx) | (have FR : ¬ ((1 : Nat) = 0) := Nat.one_ne_zero)
      repeat' first
        | (refine Sm.mk ?_; try simp -dsimp only [ZK, rvc, drawF, headN, pureH, stp, dvc, calleeOf, gcall, pev, eff, newB, okd, og, ogs, ogo, ogp, slv, bltv, opd, litv, strip, one, both, putE, St.put, look, gdOf, gdv, picka, pickv, pickw, binv, bini, bins, binb, binp, binq, isSlT, bina, shp, eqCells, unv, convv, nilv, faddv, addp, idxav, idxp, load1, load1m, loadn, loadnm, loadv, hget, hset, hrep, hdel, slicev, bnd, shift1, lenv, capv, IntKind.bits, extractv, fieldv, indexv, min2v, max2v, mkiv, cellsA, fillA, buildv, stC, oneC, rowMB, intsA, plN, appE, appZ, appC, appNZ, appNC, VwL, srcC, srcZ, srcM, isBoolT, isPtrT, isSliceT, uOk, Value.oneCell', Nat.reducePow, Int.reducePow, Nat.reduceAdd, Nat.reduceMul, Nat.reduceSub, Nat.reduceLT, Nat.reduceLeDiff, Nat.reduceEqDiff, Nat.reduceBEq, Nat.reduceDiv, Nat.reduceMod, ↓reduceIte, reduceCtorEq, Int.reduceToNat, Int.reduceLT, Int.reduceLE, TFExD, SeqQ, BlkQ, LoopQ, BodyQ, k, k4, c3, c4, c5, FR])
        | (refine WP.seq fun K hK => ?_)
        | (refine WP.region (rvc_sound _ _ (Sm.out ?_)))
        | (refine WP.drawK rfl mixed (by decide +kernel) (Sm.out ?_))
        | (refine Ob.mk ?_; focus (first | assumption | omega | decide | trivial | (intro hob; simp only [hob, ZF]; done) | (intros; (repeat' refine And.intro ?_ ?_) <;> first | assumption | omega | trivial | decide) | (intros; simp only [ZE] at *; (repeat' refine And.intro ?_ ?_) <;> first | assumption | omega | trivial)))
        | (refine And.intro (Ob.out ?_) ?_)
        | (refine WP.block ?_)
        | (refine WP.cond rfl (fun hc => ?_) (fun hc => ?_) <;> (try simp only [ZC, reduceCtorEq, ZD] at hc) <;> (try (exact absurd hc (by decide))) <;> (try (exfalso; omega)))
        | ((first | refine WP.skip ?_ | refine WP.exit ?_); simp only [SeqQ, BlkQ, LoopQ, BodyQ, ↓reduceIte, Nat.reduceEqDiff, reduceCtorEq, look, true_and])
        | (refine WP.ret (Sm.out ?_))
        | (first | refine ExG.no (Sm.out ?_) | refine Or.inl (ExG.no (Sm.out ?_)) | refine Or.inl (And.intro (fun hg => absurd hg (by decide)) (ExG.no (Sm.out ?_))))
        | (refine Rt.mk ?_; refine And.intro ?_ ?_ <;> (intro hg; first | exact absurd hg (by decide) | refine Sm.out ?_))
        | (refine Nu.mk ?_; first | (fail_if_success (have := nb1)); intro nb1 | (fail_if_success (have := nb2)); intro nb2 | (fail_if_success (have := nb3)); intro nb3 | intro nbz)
        | (refine Fr.mk ?_; intro hfr; replace FR := And.intro hfr FR; clear hfr; refine Sm.out ?_)
        | (refine Two.mk ?_ ?_)
        | (refine Cs.mk ?_; intro hcs; first | exact False.elim hcs | (exfalso; omega) | (refine Sm.out ?_))
        | go_step
        | omega
        | (simp only [maxLen_eq]; omega)
      exact cont.out _ (Sub.pick (by simp [pickB, hget, hdel, FR, he]) (by simp [look, he]))
end Go.Proofs.YtocfaghflhgeeaaDoor
namespace Go.Proofs.YtocfaghflhgeeaaDoor
open Go
set_option linter.unusedVariables false
set_option linter.unusedSimpArgs false
theorem TFExE : (((((type_of% tyc0) ∧ (type_of% tyc4)) ∧ ((type_of% zmb4) ∧ ((type_of% tyc22) ∧ (type_of% zmb22)))) ∧ (((type_of% tyc26) ∧ ((type_of% foff26_0) ∧ (type_of% fpart26_0))) ∧ ((type_of% foff26_1) ∧ ((type_of% fpart26_1) ∧ (type_of% fe26))))) ∧ ((((type_of% zmb26) ∧ (type_of% bldT26)) ∧ ((type_of% tyc27) ∧ ((type_of% zmb27) ∧ (type_of% tyc66)))) ∧ (((type_of% Tryd.underlying0) ∧ ((type_of% Tryd.underlying4) ∧ (type_of% Tryd.underlying22))) ∧ ((type_of% Tryd.underlying26) ∧ ((type_of% Tryd.underlying27) ∧ (type_of% Tryd.underlying66)))))) :=
  ⟨⟨⟨⟨tyc0, tyc4⟩, ⟨zmb4, ⟨tyc22, zmb22⟩⟩⟩, ⟨⟨tyc26, ⟨foff26_0, fpart26_0⟩⟩, ⟨foff26_1, ⟨fpart26_1, fe26⟩⟩⟩⟩, ⟨⟨⟨zmb26, bldT26⟩, ⟨tyc27, ⟨zmb27, tyc66⟩⟩⟩, ⟨⟨Tryd.underlying0, ⟨Tryd.underlying4, Tryd.underlying22⟩⟩, ⟨Tryd.underlying26, ⟨Tryd.underlying27, Tryd.underlying66⟩⟩⟩⟩⟩
theorem hilo (a b : Nat) (h : b < 18446744073709551616) : (a * 18446744073709551616 + b) / 18446744073709551616 = a ∧ (a * 18446744073709551616 + b) % 18446744073709551616 = b := by constructor <;> omega
theorem floor_ct (h l n : Nat) (hh : h < 18446744073709551616) (hl : l < 18446744073709551616) (hn : 0 < n) (hn2 : n < 18446744073709551616) :
    ACt Tryd.prog 23 [.agg [nu h, nu l], nu n] [] (Fn (.tup [wideA ((h * 18446744073709551616 + l) / n), nu ((h * 18446744073709551616 + l) % n), iv .i64 0])) := by
  refine ACt.intro Tryd.func23 rfl (by kernel_rfl) (by simp [Tryd.ntmps23]) (fun cx => ?_)
  simp only [argE, Tryd.ntmps23, Tryd.results23]
  have k0 : ((n : Int) == 0) = false := beq_eq_false_iff_ne.2 (by omega)
  have hm : h % n < n := Nat.mod_lt _ hn
  have c1 : ACt Tryd.prog 35 [iv .u64 0, nu h, nu n] [] (Fn (.tup [nu (h / n), nu (h % n)])) := by
    have := div64_ct 0 h n hn hn2 hh
    rw [Nat.zero_mul, Nat.zero_add] at this
    exact this
  have c2 := div64_ct (h % n) l n hm hn2 hl
  have hlt : (h % n * 18446744073709551616 + l) / n < 18446744073709551616 := dig_lt hm hl
  have e : h * 18446744073709551616 + l = (h % n * 18446744073709551616 + l) + n * (h / n * 18446744073709551616) := by
    have hd := Nat.div_add_mod h n
    have : n * (h / n * 18446744073709551616) = n * (h / n) * 18446744073709551616 := by rw [Nat.mul_assoc]
    rw [this]
    generalize n * (h / n) = a at *
    omega
  have e1 : (h * 18446744073709551616 + l) / n = h / n * 18446744073709551616 + (h % n * 18446744073709551616 + l) / n := by
    rw [e, Nat.add_mul_div_left _ _ hn, Nat.add_comm]
  have e2 : (h * 18446744073709551616 + l) % n = (h % n * 18446744073709551616 + l) % n := by
    rw [e, Nat.add_mul_mod_self_left]
  have e3 : (h * 18446744073709551616 + l) / n / 18446744073709551616 = h / n := by rw [e1]; exact (hilo _ _ hlt).1
  have e4 : (h * 18446744073709551616 + l) / n % 18446744073709551616 = (h % n * 18446744073709551616 + l) / n := by rw [e1]; exact (hilo _ _ hlt).2
  first | (have FRx := FR; clear FRx) | (have FR : ¬ ((1 : Nat) = 0) := Nat.one_ne_zero)
  repeat' first
    | (refine Sm.mk ?_; try simp -dsimp only [ZK, rvc, drawF, headN, pureH, stp, dvc, calleeOf, gcall, pev, eff, newB, okd, og, ogs, ogo, ogp, slv, bltv, opd, litv, strip, one, both, putE, St.put, look, gdOf, gdv, picka, pickv, pickw, binv, bini, bins, binb, binp, binq, isSlT, bina, shp, eqCells, unv, convv, nilv, faddv, addp, idxav, idxp, load1, load1m, loadn, loadnm, loadv, hget, hset, hrep, hdel, slicev, bnd, shift1, lenv, capv, IntKind.bits, extractv, fieldv, indexv, min2v, max2v, mkiv, cellsA, fillA, buildv, stC, oneC, rowMB, intsA, plN, appE, appZ, appC, appNZ, appNC, VwL, srcC, srcZ, srcM, isBoolT, isPtrT, isSliceT, uOk, Value.oneCell', Nat.reducePow, Int.reducePow, Nat.reduceAdd, Nat.reduceMul, Nat.reduceSub, Nat.reduceLT, Nat.reduceLeDiff, Nat.reduceEqDiff, Nat.reduceBEq, Nat.reduceDiv, Nat.reduceMod, ↓reduceIte, reduceCtorEq, Int.reduceToNat, Int.reduceLT, Int.reduceLE, TFExE, SeqQ, BlkQ, LoopQ, BodyQ, k0, FR])
    | (first | refine CallV.fn (c1) (Sm.out ?_) | refine ExF.mk (c1) (Sm.out ?_) | refine ExG.mk (fun _ => c1) (Sm.out ?_) | refine ExG.mkJ (fun _ => c1) (Sm.out ?_) | refine ExG.mkI (Ob.out ?_) (fun _ => c1) (Sm.out ?_))
    | (first | refine CallV.fn (c2) (Sm.out ?_) | refine ExF.mk (c2) (Sm.out ?_) | refine ExG.mk (fun _ => c2) (Sm.out ?_) | refine ExG.mkJ (fun _ => c2) (Sm.out ?_) | refine ExG.mkI (Ob.out ?_) (fun _ => c2) (Sm.out ?_))
    | (refine WP.seq fun K hK => ?_)
    | (refine WP.region (rvc_sound _ _ (Sm.out ?_)))
    | (refine WP.drawK rfl mixed (by decide +kernel) (Sm.out ?_))
    | (refine Ob.mk ?_; focus (first | assumption | omega | decide | trivial | (intro hob; simp only [hob, ZF]; done) | (intros; (repeat' refine And.intro ?_ ?_) <;> first | assumption | omega | trivial | decide) | (intros; simp only [ZE] at *; (repeat' refine And.intro ?_ ?_) <;> first | assumption | omega | trivial)))
    | (refine And.intro (Ob.out ?_) ?_)
    | (refine WP.block ?_)
    | (refine WP.cond rfl (fun hc => ?_) (fun hc => ?_) <;> (try simp only [ZC, reduceCtorEq, ZD] at hc) <;> (try (exact absurd hc (by decide))) <;> (try (exfalso; omega)))
    | ((first | refine WP.skip ?_ | refine WP.exit ?_); simp only [SeqQ, BlkQ, LoopQ, BodyQ, ↓reduceIte, Nat.reduceEqDiff, reduceCtorEq, look, true_and])
    | (refine WP.ret (Sm.out ?_))
    | (first | refine ExG.no (Sm.out ?_) | refine Or.inl (ExG.no (Sm.out ?_)) | refine Or.inl (And.intro (fun hg => absurd hg (by decide)) (ExG.no (Sm.out ?_))))
    | (refine Rt.mk ?_; refine And.intro ?_ ?_ <;> (intro hg; first | exact absurd hg (by decide) | refine Sm.out ?_))
    | (refine Nu.mk ?_; first | (fail_if_success (have := nb1)); intro nb1 | (fail_if_success (have := nb2)); intro nb2 | (fail_if_success (have := nb3)); intro nb3 | intro nbz)
    | (refine Fr.mk ?_; intro hfr; replace FR := And.intro hfr FR; clear hfr; refine Sm.out ?_)
    | (refine Two.mk ?_ ?_)
    | (refine Cs.mk ?_; intro hcs; first | exact False.elim hcs | (exfalso; omega) | (refine Sm.out ?_))
    | go_step
    | omega
    | (simp only [maxLen_eq]; omega)
  (refine OutQ.all ?_ ?_; (focus (simp only [resv, ZK, look, loadv, loadn, loadnm, load1, load1m, hget, ↓reduceIte, Nat.reduceEqDiff, Nat.reduceAdd, Nat.reduceMul, Nat.reduceLeDiff, Nat.reduceLT, reduceCtorEq, TFExE, e2, e3, e4, FR])); (try simp only [resv, resA, Fn, ZK, look, loadv, loadn, loadnm, load1, load1m, hget, ↓reduceIte, Nat.reduceEqDiff, Nat.reduceAdd, Nat.reduceMul, Nat.reduceLeDiff, Nat.reduceLT, reduceCtorEq, TFExE, e2, e3, e4, FR]); (try simp [resA, Fn, look, e2, e3, e4, FR]))
def cmpN (a b : Nat) : Int := if a < b then -1 else if b < a then 1 else 0
end Go.Proofs.YtocfaghflhgeeaaDoor
namespace Go.Proofs.YtocfaghflhgeeaaDoor
open Go
set_option linter.unusedVariables false
set_option linter.unusedSimpArgs false
theorem TFExK : ((((type_of% tyc3) ∧ ((type_of% zmb3) ∧ (type_of% tyc4))) ∧ (((type_of% zmb4) ∧ (type_of% tyc32)) ∧ ((type_of% elt32) ∧ (type_of% mkz32)))) ∧ (((type_of% mkc32) ∧ ((type_of% apT32) ∧ (type_of% elk32))) ∧ (((type_of% zmb32) ∧ (type_of% Tryd.underlying3)) ∧ ((type_of% Tryd.underlying4) ∧ (type_of% Tryd.underlying32))))) :=
  ⟨⟨⟨tyc3, ⟨zmb3, tyc4⟩⟩, ⟨⟨zmb4, tyc32⟩, ⟨elt32, mkz32⟩⟩⟩, ⟨⟨mkc32, ⟨apT32, elk32⟩⟩, ⟨⟨zmb32, Tryd.underlying3⟩, ⟨Tryd.underlying4, Tryd.underlying32⟩⟩⟩⟩
theorem valB_split (l : List Bool) (i : Nat) : valB l = valB (l.take i) + 2 ^ i * valB (l.drop i) ∧ valB (l.take i) < 2 ^ i := by
  by_cases h : i ≤ l.length
  · have e := valB_app (l.take i) (l.drop i)
    rw [List.take_append_drop, List.length_take, Nat.min_eq_left h] at e
    have hb := valB_lt (l.take i)
    rw [List.length_take, Nat.min_eq_left h] at hb
    exact ⟨e, hb⟩
  · rw [List.take_of_length_le (by omega), List.drop_eq_nil_of_le (by omega)]
    have hb := valB_lt l
    have : 2 ^ l.length ≤ 2 ^ i := Nat.pow_le_pow_right (by omega) (by omega)
    exact ⟨by simp [valB], by omega⟩
theorem cmp_drop {x y : List Bool} {i : Nat} (h : valB (x.drop i) < valB (y.drop i)) : valB x < valB y := by
  obtain ⟨e1, h1⟩ := valB_split x i
  obtain ⟨e2, h2⟩ := valB_split y i
  rw [e1, e2]
  have h3 : 2 ^ i * (valB (x.drop i) + 1) ≤ 2 ^ i * valB (y.drop i) := Nat.mul_le_mul_left _ h
  rw [Nat.mul_add, Nat.mul_one] at h3
  omega
theorem cmp_eqv {x y : List Bool} (h : valB (x.drop 0) = valB (y.drop 0)) : cmpN (valB x) (valB y) = 0 := by
  simp only [List.drop_zero] at h
  unfold cmpN; rw [h]; simp
set_option maxRecDepth 8000 in
set_option maxHeartbeats 1000000 in
theorem rcmp_ct (x y : List Bool) (n m : Nat) (hn : x.length = n) (hm : y.length = m) (hx : n ≤ 1000000) (hy : m ≤ 1000000) :
    ACt Tryd.prog 14 [.sl n (bl x), .sl m (bl y)] [] (Fn (iv .i64 (cmpN (valB x) (valB y)))) := by
  subst hn hm
  refine ACt.intro Tryd.func14 rfl (by kernel_rfl) (by simp [Tryd.ntmps14]) (fun cx => ?_)
  simp only [argE, Tryd.ntmps14, Tryd.results14]
  obtain ⟨V, hV⟩ : ∃ V, V = cmpN (valB x) (valB y) := ⟨_, rfl⟩
  rw [← hV]
  have hround : ∀ (K : St → Prop), WP Tryd.prog cx 35 (.skip) (fun _ _ => True) ⟨[], []⟩ → True := fun _ _ => trivial
  have body : ∀ (N : Nat), x.length ≤ N → y.length ≤ N → valB (x.drop N) = valB (y.drop N) := fun N h1 h2 => by rw [List.drop_eq_nil_of_le h1, List.drop_eq_nil_of_le h2]
  by_cases hlen : y.length > x.length
  · have k0 : decide ((y.length : Int) > x.length) = true := by simp; omega
    have g0 : IntKind.i64.wrap ((y.length : Int) - 1) = (y.length : Int) - 1 := wrap_i64 (by omega) (by omega)
    first | (have FRx := FR; clear FRx) | (have FR : ¬ ((1 : Nat) = 0) := Nat.one_ne_zero)
    repeat' first
      | (refine Sm.mk ?_; try simp -dsimp only [ZK, rvc, drawF, headN, pureH, stp, dvc, calleeOf, gcall, pev, eff, newB, okd, og, ogs, ogo, ogp, slv, bltv, opd, litv, strip, one, both, putE, St.put, look, gdOf, gdv, picka, pickv, pickw, binv, bini, bins, binb, binp, binq, isSlT, bina, shp, eqCells, unv, convv, nilv, faddv, addp, idxav, idxp, load1, load1m, loadn, loadnm, loadv, hget, hset, hrep, hdel, slicev, bnd, shift1, lenv, capv, IntKind.bits, extractv, fieldv, indexv, min2v, max2v, mkiv, cellsA, fillA, buildv, stC, oneC, rowMB, intsA, plN, appE, appZ, appC, appNZ, appNC, VwL, srcC, srcZ, srcM, isBoolT, isPtrT, isSliceT, uOk, Value.oneCell', Nat.reducePow, Int.reducePow, Nat.reduceAdd, Nat.reduceMul, Nat.reduceSub, Nat.reduceLT, Nat.reduceLeDiff, Nat.reduceEqDiff, Nat.reduceBEq, Nat.reduceDiv, Nat.reduceMod, ↓reduceIte, reduceCtorEq, Int.reduceToNat, Int.reduceLT, Int.reduceLE, TFExK, SeqQ, BlkQ, LoopQ, BodyQ, k0, g0, FR])
      | (refine WP.seq fun K hK => ?_)
      | (refine WP.region (rvc_sound _ _ (Sm.out ?_)))
      | (refine WP.drawK rfl mixed (by decide +kernel) (Sm.out ?_))
      | (refine Ob.mk ?_; focus (first | assumption | omega | decide | trivial | (intro hob; simp only [hob, ZF]; done) | (intros; (repeat' refine And.intro ?_ ?_) <;> first | assumption | omega | trivial | decide) | (intros; simp only [ZE] at *; (repeat' refine And.intro ?_ ?_) <;> first | assumption | omega | trivial)))
      | (refine And.intro (Ob.out ?_) ?_)
      | (refine WP.block ?_)
      | (refine WP.cond rfl (fun hc => ?_) (fun hc => ?_) <;> (try simp only [ZC, reduceCtorEq, ZD] at hc) <;> (try (exact absurd hc (by decide))) <;> (try (exfalso; omega)))
      | ((first | refine WP.skip ?_ | refine WP.exit ?_); simp only [SeqQ, BlkQ, LoopQ, BodyQ, ↓reduceIte, Nat.reduceEqDiff, reduceCtorEq, look, true_and])
      | (refine WP.ret (Sm.out ?_))
      | (first | refine ExG.no (Sm.out ?_) | refine Or.inl (ExG.no (Sm.out ?_)) | refine Or.inl (And.intro (fun hg => absurd hg (by decide)) (ExG.no (Sm.out ?_))))
      | (refine Rt.mk ?_; refine And.intro ?_ ?_ <;> (intro hg; first | exact absurd hg (by decide) | refine Sm.out ?_))
      | (refine Nu.mk ?_; first | (fail_if_success (have := nb1)); intro nb1 | (fail_if_success (have := nb2)); intro nb2 | (fail_if_success (have := nb3)); intro nb3 | intro nbz)
      | (refine Fr.mk ?_; intro hfr; replace FR := And.intro hfr FR; clear hfr; refine Sm.out ?_)
      | (refine Two.mk ?_ ?_)
      | (refine Cs.mk ?_; intro hcs; first | exact False.elim hcs | (exfalso; omega) | (refine Sm.out ?_))
      | go_step
      | omega
      | (simp only [maxLen_eq]; omega)
    refine WP.loop (Γ := Nat) (fun k => ⟨[(6, iv .i64 ((k : Int) - 1)), (0, .sl x.length (bl x)), (1, .sl y.length (bl y))], []⟩)
      (fun k => k ≤ y.length ∧ valB (x.drop k) = valB (y.drop k)) (fun k => k) y.length ⟨by omega, body _ (by omega) (by omega)⟩ (Sub.pick (by simp [pickB, hget, hdel, FR]) (by simp [look])) ?_
    intro k ⟨h1, h2⟩
    cases k with
    | zero =>
      have k1 : decide (((0 : Nat) : Int) - 1 ≥ 0) = false := by decide
      have hfin : V = 0 := by rw [hV]; exact cmp_eqv h2
      first | (have FRx := FR; clear FRx) | (have FR : ¬ ((1 : Nat) = 0) := Nat.one_ne_zero)
      repeat' first
        | (refine Sm.mk ?_; try simp -dsimp only [ZK, rvc, drawF, headN, pureH, stp, dvc, calleeOf, gcall, pev, eff, newB, okd, og, ogs, ogo, ogp, slv, bltv, opd, litv, strip, one, both, putE, St.put, look, gdOf, gdv, picka, pickv, pickw, binv, bini, bins, binb, binp, binq, isSlT, bina, shp, eqCells, unv, convv, nilv, faddv, addp, idxav, idxp, load1, load1m, loadn, loadnm, loadv, hget, hset, hrep, hdel, slicev, bnd, shift1, lenv, capv, IntKind.bits, extractv, fieldv, indexv, min2v, max2v, mkiv, cellsA, fillA, buildv, stC, oneC, rowMB, intsA, plN, appE, appZ, appC, appNZ, appNC, VwL, srcC, srcZ, srcM, isBoolT, isPtrT, isSliceT, uOk, Value.oneCell', Nat.reducePow, Int.reducePow, Nat.reduceAdd, Nat.reduceMul, Nat.reduceSub, Nat.reduceLT, Nat.reduceLeDiff, Nat.reduceEqDiff, Nat.reduceBEq, Nat.reduceDiv, Nat.reduceMod, ↓reduceIte, reduceCtorEq, Int.reduceToNat, Int.reduceLT, Int.reduceLE, TFExK, SeqQ, BlkQ, LoopQ, BodyQ, k1, FR])
        | (refine WP.seq fun K hK => ?_)
        | (refine WP.region (rvc_sound _ _ (Sm.out ?_)))
        | (refine WP.drawK rfl mixed (by decide +kernel) (Sm.out ?_))
        | (refine Ob.mk ?_; focus (first | assumption | omega | decide | trivial | (intro hob; simp only [hob, ZF]; done) | (intros; (repeat' refine And.intro ?_ ?_) <;> first | assumption | omega | trivial | decide) | (intros; simp only [ZE] at *; (repeat' refine And.intro ?_ ?_) <;> first | assumption | omega | trivial)))
        | (refine And.intro (Ob.out ?_) ?_)
        | (refine WP.block ?_)
        | (refine WP.cond rfl (fun hc => ?_) (fun hc => ?_) <;> (try simp only [ZC, reduceCtorEq, ZD] at hc) <;> (try (exact absurd hc (by decide))) <;> (try (exfalso; omega)))
        | ((first | refine WP.skip ?_ | refine WP.exit ?_); simp only [SeqQ, BlkQ, LoopQ, BodyQ, ↓reduceIte, Nat.reduceEqDiff, reduceCtorEq, look, true_and])
        | (refine WP.ret (Sm.out ?_))
        | (first | refine ExG.no (Sm.out ?_) | refine Or.inl (ExG.no (Sm.out ?_)) | refine Or.inl (And.intro (fun hg => absurd hg (by decide)) (ExG.no (Sm.out ?_))))
        | (refine Rt.mk ?_; refine And.intro ?_ ?_ <;> (intro hg; first | exact absurd hg (by decide) | refine Sm.out ?_))
        | (refine Nu.mk ?_; first | (fail_if_success (have := nb1)); intro nb1 | (fail_if_success (have := nb2)); intro nb2 | (fail_if_success (have := nb3)); intro nb3 | intro nbz)
        | (refine Fr.mk ?_; intro hfr; replace FR := And.intro hfr FR; clear hfr; refine Sm.out ?_)
        | (refine Two.mk ?_ ?_)
        | (refine Cs.mk ?_; intro hcs; first | exact False.elim hcs | (exfalso; omega) | (refine Sm.out ?_))
        | go_step
        | omega
        | (simp only [maxLen_eq]; omega)
      (refine OutQ.all ?_ ?_; (focus (simp only [resv, ZK, look, loadv, loadn, loadnm, load1, load1m, hget, ↓reduceIte, Nat.reduceEqDiff, Nat.reduceAdd, Nat.reduceMul, Nat.reduceLeDiff, Nat.reduceLT, reduceCtorEq, TFExK, hfin, FR])); (try simp only [resv, resA, Fn, ZK, look, loadv, loadn, loadnm, load1, load1m, hget, ↓reduceIte, Nat.reduceEqDiff, Nat.reduceAdd, Nat.reduceMul, Nat.reduceLeDiff, Nat.reduceLT, reduceCtorEq, TFExK, hfin, FR]); (try simp [resA, Fn, look, hfin, FR]))
    | succ i =>
      have e0 : ((i + 1 : Nat) : Int) - 1 = (i : Int) := by omega
      have k1 : decide ((i : Int) ≥ 0) = true := by simp
      have g1 : IntKind.i64.wrap ((i : Int) - 1) = (i : Int) - 1 := wrap_i64 (by omega) (by omega)
      have d1 := valB_drop x i
      have d2 := valB_drop y i
      have a1 := bitA_le x i
      have a2 := bitA_le y i
      by_cases hb : bitA x i = bitA y i
      · have k2 : (((bitA x i : Nat) : Int) != ((bitA y i : Nat) : Int)) = false := by rw [hb]; exact bne_self_eq_false _
        first | (have FRx := FR; clear FRx) | (have FR : ¬ ((1 : Nat) = 0) := Nat.one_ne_zero)
        repeat' first
          | (refine Sm.mk ?_; try simp -dsimp only [ZK, rvc, drawF, headN, pureH, stp, dvc, calleeOf, gcall, pev, eff, newB, okd, og, ogs, ogo, ogp, slv, bltv, opd, litv, strip, one, both, putE, St.put, look, gdOf, gdv, picka, pickv, pickw, binv, bini, bins, binb, binp, binq, isSlT, bina, shp, eqCells, unv, convv, nilv, faddv, addp, idxav, idxp, load1, load1m, loadn, loadnm, loadv, hget, hset, hrep, hdel, slicev, bnd, shift1, lenv, capv, IntKind.bits, extractv, fieldv, indexv, min2v, max2v, mkiv, cellsA, fillA, buildv, stC, oneC, rowMB, intsA, plN, appE, appZ, appC, appNZ, appNC, VwL, srcC, srcZ, srcM, isBoolT, isPtrT, isSliceT, uOk, Value.oneCell', Nat.reducePow, Int.reducePow, Nat.reduceAdd, Nat.reduceMul, Nat.reduceSub, Nat.reduceLT, Nat.reduceLeDiff, Nat.reduceEqDiff, Nat.reduceBEq, Nat.reduceDiv, Nat.reduceMod, ↓reduceIte, reduceCtorEq, Int.reduceToNat, Int.reduceLT, Int.reduceLE, TFExK, SeqQ, BlkQ, LoopQ, BodyQ, e0, k1, k2, g1, FR])
          | (first | refine CallV.fn (at_ct x i) (Sm.out ?_) | refine ExF.mk (at_ct x i) (Sm.out ?_) | refine ExG.mk (fun _ => at_ct x i) (Sm.out ?_) | refine ExG.mkJ (fun _ => at_ct x i) (Sm.out ?_) | refine ExG.mkI (Ob.out ?_) (fun _ => at_ct x i) (Sm.out ?_))
          | (first | refine CallV.fn (at_ct y i) (Sm.out ?_) | refine ExF.mk (at_ct y i) (Sm.out ?_) | refine ExG.mk (fun _ => at_ct y i) (Sm.out ?_) | refine ExG.mkJ (fun _ => at_ct y i) (Sm.out ?_) | refine ExG.mkI (Ob.out ?_) (fun _ => at_ct y i) (Sm.out ?_))
          | (refine WP.seq fun K hK => ?_)
          | (refine WP.region (rvc_sound _ _ (Sm.out ?_)))
          | (refine WP.drawK rfl mixed (by decide +kernel) (Sm.out ?_))
          | (refine Ob.mk ?_; focus (first | assumption | omega | decide | trivial | (intro hob; simp only [hob, ZF]; done) | (intros; (repeat' refine And.intro ?_ ?_) <;> first | assumption | omega | trivial | decide) | (intros; simp only [ZE] at *; (repeat' refine And.intro ?_ ?_) <;> first | assumption | omega | trivial)))
          | (refine And.intro (Ob.out ?_) ?_)
          | (refine WP.block ?_)
          | (refine WP.cond rfl (fun hc => ?_) (fun hc => ?_) <;> (try simp only [ZC, reduceCtorEq, ZD] at hc) <;> (try (exact absurd hc (by decide))) <;> (try (exfalso; omega)))
          | ((first | refine WP.skip ?_ | refine WP.exit ?_); simp only [SeqQ, BlkQ, LoopQ, BodyQ, ↓reduceIte, Nat.reduceEqDiff, reduceCtorEq, look, true_and])
          | (refine WP.ret (Sm.out ?_))
          | (first | refine ExG.no (Sm.out ?_) | refine Or.inl (ExG.no (Sm.out ?_)) | refine Or.inl (And.intro (fun hg => absurd hg (by decide)) (ExG.no (Sm.out ?_))))
          | (refine Rt.mk ?_; refine And.intro ?_ ?_ <;> (intro hg; first | exact absurd hg (by decide) | refine Sm.out ?_))
          | (refine Nu.mk ?_; first | (fail_if_success (have := nb1)); intro nb1 | (fail_if_success (have := nb2)); intro nb2 | (fail_if_success (have := nb3)); intro nb3 | intro nbz)
          | (refine Fr.mk ?_; intro hfr; replace FR := And.intro hfr FR; clear hfr; refine Sm.out ?_)
          | (refine Two.mk ?_ ?_)
          | (refine Cs.mk ?_; intro hcs; first | exact False.elim hcs | (exfalso; omega) | (refine Sm.out ?_))
          | go_step
          | omega
          | (simp only [maxLen_eq]; omega)
        exact ⟨i, ⟨by omega, by rw [d1, d2, hb, h2]⟩, by omega, (Sub.pick (by simp [pickB, hget, hdel, FR]) (by simp [look]))⟩
      · have k2 : (((bitA x i : Nat) : Int) != ((bitA y i : Nat) : Int)) = true := bne_iff_ne.2 (by omega)
        have hfin : IntKind.i64.wrap (((bitA x i : Nat) : Int) - ((bitA y i : Nat) : Int)) = V := by
          rw [wrap_i64 (by omega) (by omega), hV]
          unfold cmpN
          by_cases hc : bitA x i < bitA y i
          · rw [if_pos (cmp_drop (i := i) (by omega))]; omega
          · have := cmp_drop (x := y) (y := x) (i := i) (by omega)
            rw [if_neg (by omega), if_pos this]; omega
        first | (have FRx := FR; clear FRx) | (have FR : ¬ ((1 : Nat) = 0) := Nat.one_ne_zero)
        repeat' first
          | (refine Sm.mk ?_; try simp -dsimp only [ZK, rvc, drawF, headN, pureH, stp, dvc, calleeOf, gcall, pev, eff, newB, okd, og, ogs, ogo, ogp, slv, bltv, opd, litv, strip, one, both, putE, St.put, look, gdOf, gdv, picka, pickv, pickw, binv, bini, bins, binb, binp, binq, isSlT, bina, shp, eqCells, unv, convv, nilv, faddv, addp, idxav, idxp, load1, load1m, loadn, loadnm, loadv, hget, hset, hrep, hdel, slicev, bnd, shift1, lenv, capv, IntKind.bits, extractv, fieldv, indexv, min2v, max2v, mkiv, cellsA, fillA, buildv, stC, oneC, rowMB, intsA, plN, appE, appZ, appC, appNZ, appNC, VwL, srcC, srcZ, srcM, isBoolT, isPtrT, isSliceT, uOk, Value.oneCell', Nat.reducePow, Int.reducePow, Nat.reduceAdd, Nat.reduceMul, Nat.reduceSub, Nat.reduceLT, Nat.reduceLeDiff, Nat.reduceEqDiff, Nat.reduceBEq, Nat.reduceDiv, Nat.reduceMod, ↓reduceIte, reduceCtorEq, Int.reduceToNat, Int.reduceLT, Int.reduceLE, TFExK, SeqQ, BlkQ, LoopQ, BodyQ, e0, k1, k2, hfin, FR])
          | (first | refine CallV.fn (at_ct x i) (Sm.out ?_) | refine ExF.mk (at_ct x i) (Sm.out ?_) | refine ExG.mk (fun _ => at_ct x i) (Sm.out ?_) | refine ExG.mkJ (fun _ => at_ct x i) (Sm.out ?_) | refine ExG.mkI (Ob.out ?_) (fun _ => at_ct x i) (Sm.out ?_))
          | (first | refine CallV.fn (at_ct y i) (Sm.out ?_) | refine ExF.mk (at_ct y i) (Sm.out ?_) | refine ExG.mk (fun _ => at_ct y i) (Sm.out ?_) | refine ExG.mkJ (fun _ => at_ct y i) (Sm.out ?_) | refine ExG.mkI (Ob.out ?_) (fun _ => at_ct y i) (Sm.out ?_))
          | (refine WP.seq fun K hK => ?_)
          | (refine WP.region (rvc_sound _ _ (Sm.out ?_)))
          | (refine WP.drawK rfl mixed (by decide +kernel) (Sm.out ?_))
          | (refine Ob.mk ?_; focus (first | assumption | omega | decide | trivial | (intro hob; simp only [hob, ZF]; done) | (intros; (repeat' refine And.intro ?_ ?_) <;> first | assumption | omega | trivial | decide) | (intros; simp only [ZE] at *; (repeat' refine And.intro ?_ ?_) <;> first | assumption | omega | trivial)))
          | (refine And.intro (Ob.out ?_) ?_)
          | (refine WP.block ?_)
          | (refine WP.cond rfl (fun hc => ?_) (fun hc => ?_) <;> (try simp only [ZC, reduceCtorEq, ZD] at hc) <;> (try (exact absurd hc (by decide))) <;> (try (exfalso; omega)))
          | ((first | refine WP.skip ?_ | refine WP.exit ?_); simp only [SeqQ, BlkQ, LoopQ, BodyQ, ↓reduceIte, Nat.reduceEqDiff, reduceCtorEq, look, true_and])
          | (refine WP.ret (Sm.out ?_))
          | (first | refine ExG.no (Sm.out ?_) | refine Or.inl (ExG.no (Sm.out ?_)) | refine Or.inl (And.intro (fun hg => absurd hg (by decide)) (ExG.no (Sm.out ?_))))
          | (refine Rt.mk ?_; refine And.intro ?_ ?_ <;> (intro hg; first | exact absurd hg (by decide) | refine Sm.out ?_))
          | (refine Nu.mk ?_; first | (fail_if_success (have := nb1)); intro nb1 | (fail_if_success (have := nb2)); intro nb2 | (fail_if_success (have := nb3)); intro nb3 | intro nbz)
          | (refine Fr.mk ?_; intro hfr; replace FR := And.intro hfr FR; clear hfr; refine Sm.out ?_)
          | (refine Two.mk ?_ ?_)
          | (refine Cs.mk ?_; intro hcs; first | exact False.elim hcs | (exfalso; omega) | (refine Sm.out ?_))
          | (refine OutQ.all ?_ ?_; (focus (simp only [resv, ZK, look, loadv, loadn, loadnm, load1, load1m, hget, ↓reduceIte, Nat.reduceEqDiff, Nat.reduceAdd, Nat.reduceMul, Nat.reduceLeDiff, Nat.reduceLT, reduceCtorEq, TFExK, e0, k1, k2, hfin, FR])); (try simp only [resv, resA, Fn, ZK, look, loadv, loadn, loadnm, load1, load1m, hget, ↓reduceIte, Nat.reduceEqDiff, Nat.reduceAdd, Nat.reduceMul, Nat.reduceLeDiff, Nat.reduceLT, reduceCtorEq, TFExK, e0, k1, k2, hfin, FR]); (try simp [resA, Fn, look, e0, k1, k2, hfin, FR]); done)
          | go_step
          | omega
          | (simp only [maxLen_eq]; omega)
  · have k0 : decide ((y.length : Int) > x.length) = false := by simp; omega
    have g0 : IntKind.i64.wrap ((x.length : Int) - 1) = (x.length : Int) - 1 := wrap_i64 (by omega) (by omega)
    first | (have FRx := FR; clear FRx) | (have FR : ¬ ((1 : Nat) = 0) := Nat.one_ne_zero)
    repeat' first
      | (refine Sm.mk ?_; try simp -dsimp only [ZK, rvc, drawF, headN, pureH, stp, dvc, calleeOf, gcall, pev, eff, newB, okd, og, ogs, ogo, ogp, slv, bltv, opd, litv, strip, one, both, putE, St.put, look, gdOf, gdv, picka, pickv, pickw, binv, bini, bins, binb, binp, binq, isSlT, bina, shp, eqCells, unv, convv, nilv, faddv, addp, idxav, idxp, load1, load1m, loadn, loadnm, loadv, hget, hset, hrep, hdel, slicev, bnd, shift1, lenv, capv, IntKind.bits, extractv, fieldv, indexv, min2v, max2v, mkiv, cellsA, fillA, buildv, stC, oneC, rowMB, intsA, plN, appE, appZ, appC, appNZ, appNC, VwL, srcC, srcZ, srcM, isBoolT, isPtrT, isSliceT, uOk, Value.oneCell', Nat.reducePow, Int.reducePow, Nat.reduceAdd, Nat.reduceMul, Nat.reduceSub, Nat.reduceLT, Nat.reduceLeDiff, Nat.reduceEqDiff, Nat.reduceBEq, Nat.reduceDiv, Nat.reduceMod, ↓reduceIte, reduceCtorEq, Int.reduceToNat, Int.reduceLT, Int.reduceLE, TFExK, SeqQ, BlkQ, LoopQ, BodyQ, k0, g0, FR])
      | (refine WP.seq fun K hK => ?_)
      | (refine WP.region (rvc_sound _ _ (Sm.out ?_)))
      | (refine WP.drawK rfl mixed (by decide +kernel) (Sm.out ?_))
      | (refine Ob.mk ?_; focus (first | assumption | omega | decide | trivial | (intro hob; simp only [hob, ZF]; done) | (intros; (repeat' refine And.intro ?_ ?_) <;> first | assumption | omega | trivial | decide) | (intros; simp only [ZE] at *; (repeat' refine And.intro ?_ ?_) <;> first | assumption | omega | trivial)))
      | (refine And.intro (Ob.out ?_) ?_)
      | (refine WP.block ?_)
      | (refine WP.cond rfl (fun hc => ?_) (fun hc => ?_) <;> (try simp only [ZC, reduceCtorEq, ZD] at hc) <;> (try (exact absurd hc (by decide))) <;> (try (exfalso; omega)))
      | ((first | refine WP.skip ?_ | refine WP.exit ?_); simp only [SeqQ, BlkQ, LoopQ, BodyQ, ↓reduceIte, Nat.reduceEqDiff, reduceCtorEq, look, true_and])
      | (refine WP.ret (Sm.out ?_))
      | (first | refine ExG.no (Sm.out ?_) | refine Or.inl (ExG.no (Sm.out ?_)) | refine Or.inl (And.intro (fun hg => absurd hg (by decide)) (ExG.no (Sm.out ?_))))
      | (refine Rt.mk ?_; refine And.intro ?_ ?_ <;> (intro hg; first | exact absurd hg (by decide) | refine Sm.out ?_))
      | (refine Nu.mk ?_; first | (fail_if_success (have := nb1)); intro nb1 | (fail_if_success (have := nb2)); intro nb2 | (fail_if_success (have := nb3)); intro nb3 | intro nbz)
      | (refine Fr.mk ?_; intro hfr; replace FR := And.intro hfr FR; clear hfr; refine Sm.out ?_)
      | (refine Two.mk ?_ ?_)
      | (refine Cs.mk ?_; intro hcs; first | exact False.elim hcs | (exfalso; omega) | (refine Sm.out ?_))
      | go_step
      | omega
      | (simp only [maxLen_eq]; omega)
    refine WP.loop (Γ := Nat) (fun k => ⟨[(6, iv .i64 ((k : Int) - 1)), (0, .sl x.length (bl x)), (1, .sl y.length (bl y))], []⟩)
      (fun k => k ≤ x.length ∧ valB (x.drop k) = valB (y.drop k)) (fun k => k) x.length ⟨by omega, body _ (by omega) (by omega)⟩ (Sub.pick (by simp [pickB, hget, hdel, FR]) (by simp [look])) ?_
    intro k ⟨h1, h2⟩
    cases k with
    | zero =>
      have k1 : decide (((0 : Nat) : Int) - 1 ≥ 0) = false := by decide
      have hfin : V = 0 := by rw [hV]; exact cmp_eqv h2
      first | (have FRx := FR; clear FRx) | (have FR : ¬ ((1 : Nat) = 0) := Nat.one_ne_zero)
      repeat' first
        | (refine Sm.mk ?_; try simp -dsimp only [ZK, rvc, drawF, headN, pureH, stp, dvc, calleeOf, gcall, pev, eff, newB, okd, og, ogs, ogo, ogp, slv, bltv, opd, litv, strip, one, both, putE, St.put, look, gdOf, gdv, picka, pickv, pickw, binv, bini, bins, binb, binp, binq, isSlT, bina, shp, eqCells, unv, convv, nilv, faddv, addp, idxav, idxp, load1, load1m, loadn, loadnm, loadv, hget, hset, hrep, hdel, slicev, bnd, shift1, lenv, capv, IntKind.bits, extractv, fieldv, indexv, min2v, max2v, mkiv, cellsA, fillA, buildv, stC, oneC, rowMB, intsA, plN, appE, appZ, appC, appNZ, appNC, VwL, srcC, srcZ, srcM, isBoolT, isPtrT, isSliceT, uOk, Value.oneCell', Nat.reducePow, Int.reducePow, Nat.reduceAdd, Nat.reduceMul, Nat.reduceSub, Nat.reduceLT, Nat.reduceLeDiff, Nat.reduceEqDiff, Nat.reduceBEq, Nat.reduceDiv, Nat.reduceMod, ↓reduceIte, reduceCtorEq, Int.reduceToNat, Int.reduceLT, Int.reduceLE, TFExK, SeqQ, BlkQ, LoopQ, BodyQ, k1, FR])
        | (refine WP.seq fun K hK => ?_)
        | (refine WP.region (rvc_sound _ _ (Sm.out ?_)))
        | (refine WP.drawK rfl mixed (by decide +kernel) (Sm.out ?_))
        | (refine Ob.mk ?_; focus (first | assumption | omega | decide | trivial | (intro hob; simp only [hob, ZF]; done) | (intros; (repeat' refine And.intro ?_ ?_) <;> first | assumption | omega | trivial | decide) | (intros; simp only [ZE] at *; (repeat' refine And.intro ?_ ?_) <;> first | assumption | omega | trivial)))
        | (refine And.intro (Ob.out ?_) ?_)
        | (refine WP.block ?_)
        | (refine WP.cond rfl (fun hc => ?_) (fun hc => ?_) <;> (try simp only [ZC, reduceCtorEq, ZD] at hc) <;> (try (exact absurd hc (by decide))) <;> (try (exfalso; omega)))
        | ((first | refine WP.skip ?_ | refine WP.exit ?_); simp only [SeqQ, BlkQ, LoopQ, BodyQ, ↓reduceIte, Nat.reduceEqDiff, reduceCtorEq, look, true_and])
        | (refine WP.ret (Sm.out ?_))
        | (first | refine ExG.no (Sm.out ?_) | refine Or.inl (ExG.no (Sm.out ?_)) | refine Or.inl (And.intro (fun hg => absurd hg (by decide)) (ExG.no (Sm.out ?_))))
        | (refine Rt.mk ?_; refine And.intro ?_ ?_ <;> (intro hg; first | exact absurd hg (by decide) | refine Sm.out ?_))
        | (refine Nu.mk ?_; first | (fail_if_success (have := nb1)); intro nb1 | (fail_if_success (have := nb2)); intro nb2 | (fail_if_success (have := nb3)); intro nb3 | intro nbz)
        | (refine Fr.mk ?_; intro hfr; replace FR := And.intro hfr FR; clear hfr; refine Sm.out ?_)
        | (refine Two.mk ?_ ?_)
        | (refine Cs.mk ?_; intro hcs; first | exact False.elim hcs | (exfalso; omega) | (refine Sm.out ?_))
        | go_step
        | omega
        | (simp only [maxLen_eq]; omega)
      (refine OutQ.all ?_ ?_; (focus (simp only [resv, ZK, look, loadv, loadn, loadnm, load1, load1m, hget, ↓reduceIte, Nat.reduceEqDiff, Nat.reduceAdd, Nat.reduceMul, Nat.reduceLeDiff, Nat.reduceLT, reduceCtorEq, TFExK, hfin, FR])); (try simp only [resv, resA, Fn, ZK, look, loadv, loadn, loadnm, load1, load1m, hget, ↓reduceIte, Nat.reduceEqDiff, Nat.reduceAdd, Nat.reduceMul, Nat.reduceLeDiff, Nat.reduceLT, reduceCtorEq, TFExK, hfin, FR]); (try simp [resA, Fn, look, hfin, FR]))
    | succ i =>
      have e0 : ((i + 1 : Nat) : Int) - 1 = (i : Int) := by omega
      have k1 : decide ((i : Int) ≥ 0) = true := by simp
      have g1 : IntKind.i64.wrap ((i : Int) - 1) = (i : Int) - 1 := wrap_i64 (by omega) (by omega)
      have d1 := valB_drop x i
      have d2 := valB_drop y i
      have a1 := bitA_le x i
      have a2 := bitA_le y i
      by_cases hb : bitA x i = bitA y i
      · have k2 : (((bitA x i : Nat) : Int) != ((bitA y i : Nat) : Int)) = false := by rw [hb]; exact bne_self_eq_false _
        first | (have FRx := FR; clear FRx) | (have FR : ¬ ((1 : Nat) = 0) := Nat.one_ne_zero)
        repeat' first
          | (refine Sm.mk ?_; try simp -dsimp only [ZK, rvc, drawF, headN, pureH, stp, dvc, calleeOf, gcall, pev, eff, newB, okd, og, ogs, ogo, ogp, slv, bltv, opd, litv, strip, one, both, putE, St.put, look, gdOf, gdv, picka, pickv, pickw, binv, bini, bins, binb, binp, binq, isSlT, bina, shp, eqCells, unv, convv, nilv, faddv, addp, idxav, idxp, load1, load1m, loadn, loadnm, loadv, hget, hset, hrep, hdel, slicev, bnd, shift1, lenv, capv, IntKind.bits, extractv, fieldv, indexv, min2v, max2v, mkiv, cellsA, fillA, buildv, stC, oneC, rowMB, intsA, plN, appE, appZ, appC, appNZ, appNC, VwL, srcC, srcZ, srcM, isBoolT, isPtrT, isSliceT, uOk, Value.oneCell', Nat.reducePow, Int.reducePow, Nat.reduceAdd, Nat.reduceMul, Nat.reduceSub, Nat.reduceLT, Nat.reduceLeDiff, Nat.reduceEqDiff, Nat.reduceBEq, Nat.reduceDiv, Nat.reduceMod, ↓reduceIte, reduceCtorEq, Int.reduceToNat, Int.reduceLT, Int.reduceLE, TFExK, SeqQ, BlkQ, LoopQ, BodyQ, e0, k1, k2, g1, FR])
          | (first | refine CallV.fn (at_ct x i) (Sm.out ?_) | refine ExF.mk (at_ct x i) (Sm.out ?_) | refine ExG.mk (fun _ => at_ct x i) (Sm.out ?_) | refine ExG.mkJ (fun _ => at_ct x i) (Sm.out ?_) | refine ExG.mkI (Ob.out ?_) (fun _ => at_ct x i) (Sm.out ?_))
          | (first | refine CallV.fn (at_ct y i) (Sm.out ?_) | refine ExF.mk (at_ct y i) (Sm.out ?_) | refine ExG.mk (fun _ => at_ct y i) (Sm.out ?_) | refine ExG.mkJ (fun _ => at_ct y i) (Sm.out ?_) | refine ExG.mkI (Ob.out ?_) (fun _ => at_ct y i) (Sm.out ?_))
          | (refine WP.seq fun K hK => ?_)
          | (refine WP.region (rvc_sound _ _ (Sm.out ?_)))
          | (refine WP.drawK rfl mixed (by decide +kernel) (Sm.out ?_))
          | (refine Ob.mk ?_; focus (first | assumption | omega | decide | trivial | (intro hob; simp only [hob, ZF]; done) | (intros; (repeat' refine And.intro ?_ ?_) <;> first | assumption | omega | trivial | decide) | (intros; simp only [ZE] at *; (repeat' refine And.intro ?_ ?_) <;> first | assumption | omega | trivial)))
          | (refine And.intro (Ob.out ?_) ?_)
          | (refine WP.block ?_)
          | (refine WP.cond rfl (fun hc => ?_) (fun hc => ?_) <;> (try simp only [ZC, reduceCtorEq, ZD] at hc) <;> (try (exact absurd hc (by decide))) <;> (try (exfalso; omega)))
          | ((first | refine WP.skip ?_ | refine WP.exit ?_); simp only [SeqQ, BlkQ, LoopQ, BodyQ, ↓reduceIte, Nat.reduceEqDiff, reduceCtorEq, look, true_and])
          | (refine WP.ret (Sm.out ?_))
          | (first | refine ExG.no (Sm.out ?_) | refine Or.inl (ExG.no (Sm.out ?_)) | refine Or.inl (And.intro (fun hg => absurd hg (by decide)) (ExG.no (Sm.out ?_))))
          | (refine Rt.mk ?_; refine And.intro ?_ ?_ <;> (intro hg; first | exact absurd hg (by decide) | refine Sm.out ?_))
          | (refine Nu.mk ?_; first | (fail_if_success (have := nb1)); intro nb1 | (fail_if_success (have := nb2)); intro nb2 | (fail_if_success (have := nb3)); intro nb3 | intro nbz)
          | (refine Fr.mk ?_; intro hfr; replace FR := And.intro hfr FR; clear hfr; refine Sm.out ?_)
          | (refine Two.mk ?_ ?_)
          | (refine Cs.mk ?_; intro hcs; first | exact False.elim hcs | (exfalso; omega) | (refine Sm.out ?_))
          | go_step
          | omega
          | (simp only [maxLen_eq]; omega)
        exact ⟨i, ⟨by omega, by rw [d1, d2, hb, h2]⟩, by omega, (Sub.pick (by simp [pickB, hget, hdel, FR]) (by simp [look]))⟩
      · have k2 : (((bitA x i : Nat) : Int) != ((bitA y i : Nat) : Int)) = true := bne_iff_ne.2 (by omega)
        have hfin : IntKind.i64.wrap (((bitA x i : Nat) : Int) - ((bitA y i : Nat) : Int)) = V := by
          rw [wrap_i64 (by omega) (by omega), hV]
          unfold cmpN
          by_cases hc : bitA x i < bitA y i
          · rw [if_pos (cmp_drop (i := i) (by omega))]; omega
          · have := cmp_drop (x := y) (y := x) (i := i) (by omega)
            rw [if_neg (by omega), if_pos this]; omega
        first | (have FRx := FR; clear FRx) | (have FR : ¬ ((1 : Nat) = 0) := Nat.one_ne_zero)
        repeat' first
          | (refine Sm.mk ?_; try simp -dsimp only [ZK, rvc, drawF, headN, pureH, stp, dvc, calleeOf, gcall, pev, eff, newB, okd, og, ogs, ogo, ogp, slv, bltv, opd, litv, strip, one, both, putE, St.put, look, gdOf, gdv, picka, pickv, pickw, binv, bini, bins, binb, binp, binq, isSlT, bina, shp, eqCells, unv, convv, nilv, faddv, addp, idxav, idxp, load1, load1m, loadn, loadnm, loadv, hget, hset, hrep, hdel, slicev, bnd, shift1, lenv, capv, IntKind.bits, extractv, fieldv, indexv, min2v, max2v, mkiv, cellsA, fillA, buildv, stC, oneC, rowMB, intsA, plN, appE, appZ, appC, appNZ, appNC, VwL, srcC, srcZ, srcM, isBoolT, isPtrT, isSliceT, uOk, Value.oneCell', Nat.reducePow, Int.reducePow, Nat.reduceAdd, Nat.reduceMul, Nat.reduceSub, Nat.reduceLT, Nat.reduceLeDiff, Nat.reduceEqDiff, Nat.reduceBEq, Nat.reduceDiv, Nat.reduceMod, ↓reduceIte, reduceCtorEq, Int.reduceToNat, Int.reduceLT, Int.reduceLE, TFExK, SeqQ, BlkQ, LoopQ, BodyQ, e0, k1, k2, hfin, FR])
          | (first | refine CallV.fn (at_ct x i) (Sm.out ?_) | refine ExF.mk (at_ct x i) (Sm.out ?_) | refine ExG.mk (fun _ => at_ct x i) (Sm.out ?_) | refine ExG.mkJ (fun _ => at_ct x i) (Sm.out ?_) | refine ExG.mkI (Ob.out ?_) (fun _ => at_ct x i) (Sm.out ?_))
          | (first | refine CallV.fn (at_ct y i) (Sm.out ?_) | refine ExF.mk (at_ct y i) (Sm.out ?_) | refine ExG.mk (fun _ => at_ct y i) (Sm.out ?_) | refine ExG.mkJ (fun _ => at_ct y i) (Sm.out ?_) | refine ExG.mkI (Ob.out ?_) (fun _ => at_ct y i) (Sm.out ?_))
          | (refine WP.seq fun K hK => ?_)
          | (refine WP.region (rvc_sound _ _ (Sm.out ?_)))
          | (refine WP.drawK rfl mixed (by decide +kernel) (Sm.out ?_))
          | (refine Ob.mk ?_; focus (first | assumption | omega | decide | trivial | (intro hob; simp only [hob, ZF]; done) | (intros; (repeat' refine And.intro ?_ ?_) <;> first | assumption | omega | trivial | decide) | (intros; simp only [ZE] at *; (repeat' refine And.intro ?_ ?_) <;> first | assumption | omega | trivial)))
          | (refine And.intro (Ob.out ?_) ?_)
          | (refine WP.block ?_)
          | (refine WP.cond rfl (fun hc => ?_) (fun hc => ?_) <;> (try simp only [ZC, reduceCtorEq, ZD] at hc) <;> (try (exact absurd hc (by decide))) <;> (try (exfalso; omega)))
          | ((first | refine WP.skip ?_ | refine WP.exit ?_); simp only [SeqQ, BlkQ, LoopQ, BodyQ, ↓reduceIte, Nat.reduceEqDiff, reduceCtorEq, look, true_and])
          | (refine WP.ret (Sm.out ?_))
          | (first | refine ExG.no (Sm.out ?_) | refine Or.inl (ExG.no (Sm.out ?_)) | refine Or.inl (And.intro (fun hg => absurd hg (by decide)) (ExG.no (Sm.out ?_))))
          | (refine Rt.mk ?_; refine And.intro ?_ ?_ <;> (intro hg; first | exact absurd hg (by decide) | refine Sm.out ?_))
          | (refine Nu.mk ?_; first | (fail_if_success (have := nb1)); intro nb1 | (fail_if_success (have := nb2)); intro nb2 | (fail_if_success (have := nb3)); intro nb3 | intro nbz)
          | (refine Fr.mk ?_; intro hfr; replace FR := And.intro hfr FR; clear hfr; refine Sm.out ?_)
          | (refine Two.mk ?_ ?_)
          | (refine Cs.mk ?_; intro hcs; first | exact False.elim hcs | (exfalso; omega) | (refine Sm.out ?_))
          | (refine OutQ.all ?_ ?_; (focus (simp only [resv, ZK, look, loadv, loadn, loadnm, load1, load1m, hget, ↓reduceIte, Nat.reduceEqDiff, Nat.reduceAdd, Nat.reduceMul, Nat.reduceLeDiff, Nat.reduceLT, reduceCtorEq, TFExK, e0, k1, k2, hfin, FR])); (try simp only [resv, resA, Fn, ZK, look, loadv, loadn, loadnm, load1, load1m, hget, ↓reduceIte, Nat.reduceEqDiff, Nat.reduceAdd, Nat.reduceMul, Nat.reduceLeDiff, Nat.reduceLT, reduceCtorEq, TFExK, e0, k1, k2, hfin, FR]); (try simp [resA, Fn, look, e0, k1, k2, hfin, FR]); done)
          | go_step
          | omega
          | (simp only [maxLen_eq]; omega)
end Go.Proofs.YtocfaghflhgeeaaDoor
namespace Go.Proofs.YtocfaghflhgeeaaDoor
open Go
set_option linter.unusedVariables false
set_option linter.unusedSimpArgs false
theorem TFStA : ((((type_of% tyc3) ∧ (type_of% zmb3)) ∧ ((type_of% tyc4) ∧ (type_of% zmb4))) ∧ (((type_of% tyc9) ∧ (type_of% zmb9)) ∧ ((type_of% Tryd.underlying3) ∧ ((type_of% Tryd.underlying4) ∧ (type_of% Tryd.underlying9))))) :=
  ⟨⟨⟨tyc3, zmb3⟩, ⟨tyc4, zmb4⟩⟩, ⟨⟨tyc9, zmb9⟩, ⟨Tryd.underlying3, ⟨Tryd.underlying4, Tryd.underlying9⟩⟩⟩⟩
abbrev stz (zs : List Int) : AV := .lit (.string (bstr zs))
theorem bstr_size (zs : List Int) : (bstr zs).size = zs.length := by simp [bstr, ByteArray.size]
def By (zs : List Int) : Prop := ∀ i, i < zs.length → 0 ≤ zs.getD i 0 ∧ zs.getD i 0 ≤ 255
theorem bstr_app (xs ys : List Int) : bstr xs ++ bstr ys = bstr (xs ++ ys) := by
  apply ByteArray.ext
  simp [bstr, ByteArray.data_append]
theorem bstr_at {zs : List Int} (hb : By zs) {i : Nat} (h : i < zs.length) : (((bstr zs).data.toList.getD i 0).toNat : Int) = zs.getD i 0 := by
  have hb := hb i h
  unfold bstr
  simp only [List.getD_eq_getElem?_getD, List.getElem?_map, List.getElem?_eq_getElem h, Option.map_some, Option.getD_some]
  rw [List.getD_eq_getElem?_getD, List.getElem?_eq_getElem h, Option.getD_some] at hb
  rw [UInt8.toNat_ofNat', Nat.mod_eq_of_lt (by omega)]
  omega
theorem bstr_ext (zs : List Int) (lo hi : Nat) : (bstr zs).extract lo hi = bstr ((zs.take hi).drop lo) := by
  apply ByteArray.ext
  rw [ByteArray.data_extract]
  apply Array.ext'
  simp [bstr, List.map_take, List.map_drop, List.drop_take]
theorem By.drop {zs : List Int} (h : By zs) (k : Nat) : By (zs.drop k) := fun i hi => by
  rw [List.length_drop] at hi
  have := h (k + i) (by omega)
  simpa [List.getD_eq_getElem?_getD, List.getElem?_drop] using this
def tab36 : ByteArray := ⟨List.toArray [48, 49, 50, 51, 52, 53, 54, 55, 56, 57, 97, 98, 99, 100, 101, 102, 103, 104, 105, 106, 107, 108, 109, 110, 111, 112, 113, 114, 115, 116, 117, 118, 119, 120, 121, 122]⟩
theorem tab36_eq : (⟨List.toArray [48, 49, 50, 51, 52, 53, 54, 55, 56, 57, 97, 98, 99, 100, 101, 102, 103, 104, 105, 106, 107, 108, 109, 110, 111, 112, 113, 114, 115, 116, 117, 118, 119, 120, 121, 122]⟩ : ByteArray) = tab36 := rfl
theorem tab36_size : tab36.size = 36 := by decide +kernel
def tab100 : ByteArray := ⟨List.toArray (List.append (List.append [48, 48, 48, 49, 48, 50, 48, 51, 48, 52, 48, 53, 48, 54, 48, 55, 48, 56, 48, 57, 49, 48, 49, 49, 49, 50, 49, 51, 49, 52, 49, 53, 49, 54, 49, 55, 49, 56, 49, 57, 50, 48, 50, 49, 50, 50, 50, 51, 50, 52] [50, 53, 50, 54, 50, 55, 50, 56, 50, 57, 51, 48, 51, 49, 51, 50, 51, 51, 51, 52, 51, 53, 51, 54, 51, 55, 51, 56, 51, 57, 52, 48, 52, 49, 52, 50, 52, 51, 52, 52, 52, 53, 52, 54, 52, 55, 52, 56, 52, 57]) (List.append [53, 48, 53, 49, 53, 50, 53, 51, 53, 52, 53, 53, 53, 54, 53, 55, 53, 56, 53, 57, 54, 48, 54, 49, 54, 50, 54, 51, 54, 52, 54, 53, 54, 54, 54, 55, 54, 56, 54, 57, 55, 48, 55, 49, 55, 50, 55, 51, 55, 52] [55, 53, 55, 54, 55, 55, 55, 56, 55, 57, 56, 48, 56, 49, 56, 50, 56, 51, 56, 52, 56, 53, 56, 54, 56, 55, 56, 56, 56, 57, 57, 48, 57, 49, 57, 50, 57, 51, 57, 52, 57, 53, 57, 54, 57, 55, 57, 56, 57, 57]))⟩
theorem tab100_eq : (⟨List.toArray (List.append (List.append [48, 48, 48, 49, 48, 50, 48, 51, 48, 52, 48, 53, 48, 54, 48, 55, 48, 56, 48, 57, 49, 48, 49, 49, 49, 50, 49, 51, 49, 52, 49, 53, 49, 54, 49, 55, 49, 56, 49, 57, 50, 48, 50, 49, 50, 50, 50, 51, 50, 52] [50, 53, 50, 54, 50, 55, 50, 56, 50, 57, 51, 48, 51, 49, 51, 50, 51, 51, 51, 52, 51, 53, 51, 54, 51, 55, 51, 56, 51, 57, 52, 48, 52, 49, 52, 50, 52, 51, 52, 52, 52, 53, 52, 54, 52, 55, 52, 56, 52, 57]) (List.append [53, 48, 53, 49, 53, 50, 53, 51, 53, 52, 53, 53, 53, 54, 53, 55, 53, 56, 53, 57, 54, 48, 54, 49, 54, 50, 54, 51, 54, 52, 54, 53, 54, 54, 54, 55, 54, 56, 54, 57, 55, 48, 55, 49, 55, 50, 55, 51, 55, 52] [55, 53, 55, 54, 55, 55, 55, 56, 55, 57, 56, 48, 56, 49, 56, 50, 56, 51, 56, 52, 56, 53, 56, 54, 56, 55, 56, 56, 56, 57, 57, 48, 57, 49, 57, 50, 57, 51, 57, 52, 57, 53, 57, 54, 57, 55, 57, 56, 57, 57]))⟩ : ByteArray) = tab100 := rfl
theorem tab100_size : tab100.size = 200 := by decide +kernel
/-- a number below 100 in digits -/
def dgs (n : Nat) : List Int := if n < 10 then [((48 + n : Nat) : Int)] else [((48 + n / 10 : Nat) : Int), ((48 + n % 10 : Nat) : Int)]
theorem tab36_ext : ∀ n, n < 10 → tab36.extract n (n + 1) = bstr (dgs n) := by decide +kernel
theorem tab100_ext : ∀ n, n < 100 → 10 ≤ n → tab100.extract (n * 2) (n * 2 + 2) = bstr (dgs n) := by decide +kernel
theorem tab100_at : ∀ n, n < 100 → (tab100.data.toList.getD (n * 2) 0).toNat = 48 + n / 10 ∧ (tab100.data.toList.getD (n * 2 + 1) 0).toNat = 48 + n % 10 := by decide +kernel
set_option maxRecDepth 20000 in
theorem small_ct (n : Nat) (hn : n < 100) : ACt Tryd.prog 56 [iv .i64 (n : Int)] [] (Fn (stz (dgs n))) := by
  refine ACt.intro Tryd.func56 rfl (by kernel_rfl) (by simp [Tryd.ntmps56]) (fun cx => ?_)
  simp only [argE, Tryd.ntmps56, Tryd.results56]
  have w1 : IntKind.i64.wrap ((n : Int) + 1) = ((n + 1 : Nat) : Int) := by rw [wrap_i64 (by omega) (by omega)]; omega
  have w2 : IntKind.i64.wrap ((n : Int) * 2) = ((n * 2 : Nat) : Int) := by rw [wrap_i64 (by omega) (by omega)]; omega
  have w3 : IntKind.i64.wrap (((n * 2 : Nat) : Int) + 2) = ((n * 2 + 2 : Nat) : Int) := by rw [wrap_i64 (by omega) (by omega)]; omega
  have t1 : ∀ k : Nat, ((k : Nat) : Int).toNat = k := fun k => by omega
  by_cases h : n < 10
  · have k1 : decide ((n : Int) < 10) = true := by simp; omega
    have e := tab36_ext n h
    first | (have FRx := FR; clear FRx) | (have FR : Sm (¬ ((1 : Nat) = 0)) := Sm.mk Nat.one_ne_zero)
    repeat' first
      | (refine Sm.mk ?_; try simp -dsimp only [ZK, rvc, drawF, headN, pureH, stp, dvc, calleeOf, gcall, pev, eff, newB, okd, og, ogs, ogo, ogp, slv, bltv, opd, litv, strip, one, both, putE, St.put, look, gdOf, gdv, picka, pickv, pickw, binv, bini, bins, binb, binp, binq, isSlT, bina, shp, eqCells, unv, convv, nilv, faddv, addp, idxav, idxp, load1, load1m, loadn, loadnm, loadv, hget, hset, hrep, hdel, slicev, bnd, shift1, lenv, capv, IntKind.bits, extractv, fieldv, indexv, min2v, max2v, mkiv, cellsA, fillA, buildv, stC, oneC, rowMB, intsA, plN, appE, appZ, appC, appNZ, appNC, VwL, srcC, srcZ, srcM, isBoolT, isPtrT, isSliceT, uOk, Value.oneCell', Nat.reducePow, Int.reducePow, Nat.reduceAdd, Nat.reduceMul, Nat.reduceSub, Nat.reduceLT, Nat.reduceLeDiff, Nat.reduceEqDiff, Nat.reduceBEq, Nat.reduceDiv, Nat.reduceMod, ↓reduceIte, reduceCtorEq, Int.reduceToNat, Int.reduceLT, Int.reduceLE, TFStA, SeqQ, BlkQ, LoopQ, BodyQ, k1, w1, t1, tab36_eq, tab36_size, e, FR.out])
      | (refine WP.seq fun K hK => ?_)
      | (refine WP.region (rvc_sound _ _ (Sm.out ?_)))
      | (refine WP.drawK rfl mixed (by decide +kernel) (Sm.out ?_))
      | (refine Ob.mk ?_; focus (first | assumption | omega | decide | trivial | (intro hob; simp only [hob, ZF]; done) | (intros; (repeat' refine And.intro ?_ ?_) <;> first | assumption | omega | trivial | decide) | (intros; simp only [ZE] at *; (repeat' refine And.intro ?_ ?_) <;> first | assumption | omega | trivial)))
      | (refine And.intro (Ob.out ?_) ?_)
      | (refine WP.block ?_)
      | (refine WP.cond rfl (fun hc => ?_) (fun hc => ?_) <;> (try simp only [ZC, reduceCtorEq, ZD] at hc) <;> (try (exact absurd hc (by decide))) <;> (try (exfalso; omega)))
      | ((first | refine WP.skip ?_ | refine WP.exit ?_); simp only [SeqQ, BlkQ, LoopQ, BodyQ, ↓reduceIte, Nat.reduceEqDiff, reduceCtorEq, look, true_and])
      | (refine WP.ret (Sm.out ?_))
      | (first | refine ExG.no (Sm.out ?_) | refine Or.inl (ExG.no (Sm.out ?_)) | refine Or.inl (And.intro (fun hg => absurd hg (by decide)) (ExG.no (Sm.out ?_))))
      | (refine Rt.mk ?_; refine And.intro ?_ ?_ <;> (intro hg; first | exact absurd hg (by decide) | refine Sm.out ?_))
      | (refine Nu.mk ?_; first | (fail_if_success (have := nb1)); intro nb1 | (fail_if_success (have := nb2)); intro nb2 | (fail_if_success (have := nb3)); intro nb3 | intro nbz)
      | (refine Fr.mk ?_; intro hfr; (first | (have hFRb : _ ≤ _ ∧ _ ≤ _ := And.intro hfr.1 hfr.2.1) | (have hFRb : _ ≤ _ := hfr.1) | skip); replace FR := Sm.mk (And.intro hfr FR.out); clear hfr; refine Sm.out ?_)
      | (refine Two.mk ?_ ?_)
      | (refine Cs.mk ?_; intro hcs; first | exact False.elim hcs | (exfalso; omega) | (refine Sm.out ?_))
      | go_step
      | omega
      | (simp only [maxLen_eq]; omega)
    (refine OutQ.all ?_ ?_; (focus (simp only [resv, ZK, look, loadv, loadn, loadnm, load1, load1m, hget, ↓reduceIte, Nat.reduceEqDiff, Nat.reduceAdd, Nat.reduceMul, Nat.reduceLeDiff, Nat.reduceLT, reduceCtorEq, TFStA, e, t1])); (try simp only [resv, resA, Fn, ZK, look, loadv, loadn, loadnm, load1, load1m, hget, ↓reduceIte, Nat.reduceEqDiff, Nat.reduceAdd, Nat.reduceMul, Nat.reduceLeDiff, Nat.reduceLT, reduceCtorEq, TFStA, e, t1]); (try simp [resA, Fn, look, e, t1]))
  · have k1 : decide ((n : Int) < 10) = false := by simp; omega
    have e := tab100_ext n hn (by omega)
    first | (have FRx := FR; clear FRx) | (have FR : Sm (¬ ((1 : Nat) = 0)) := Sm.mk Nat.one_ne_zero)
    repeat' first
      | (refine Sm.mk ?_; try simp -dsimp only [ZK, rvc, drawF, headN, pureH, stp, dvc, calleeOf, gcall, pev, eff, newB, okd, og, ogs, ogo, ogp, slv, bltv, opd, litv, strip, one, both, putE, St.put, look, gdOf, gdv, picka, pickv, pickw, binv, bini, bins, binb, binp, binq, isSlT, bina, shp, eqCells, unv, convv, nilv, faddv, addp, idxav, idxp, load1, load1m, loadn, loadnm, loadv, hget, hset, hrep, hdel, slicev, bnd, shift1, lenv, capv, IntKind.bits, extractv, fieldv, indexv, min2v, max2v, mkiv, cellsA, fillA, buildv, stC, oneC, rowMB, intsA, plN, appE, appZ, appC, appNZ, appNC, VwL, srcC, srcZ, srcM, isBoolT, isPtrT, isSliceT, uOk, Value.oneCell', Nat.reducePow, Int.reducePow, Nat.reduceAdd, Nat.reduceMul, Nat.reduceSub, Nat.reduceLT, Nat.reduceLeDiff, Nat.reduceEqDiff, Nat.reduceBEq, Nat.reduceDiv, Nat.reduceMod, ↓reduceIte, reduceCtorEq, Int.reduceToNat, Int.reduceLT, Int.reduceLE, TFStA, SeqQ, BlkQ, LoopQ, BodyQ, k1, w2, w3, t1, tab100_eq, tab100_size, e, FR.out])
      | (refine WP.seq fun K hK => ?_)
      | (refine WP.region (rvc_sound _ _ (Sm.out ?_)))
      | (refine WP.drawK rfl mixed (by decide +kernel) (Sm.out ?_))
      | (refine Ob.mk ?_; focus (first | assumption | omega | decide | trivial | (intro hob; simp only [hob, ZF]; done) | (intros; (repeat' refine And.intro ?_ ?_) <;> first | assumption | omega | trivial | decide) | (intros; simp only [ZE] at *; (repeat' refine And.intro ?_ ?_) <;> first | assumption | omega | trivial)))
      | (refine And.intro (Ob.out ?_) ?_)
      | (refine WP.block ?_)
      | (refine WP.cond rfl (fun hc => ?_) (fun hc => ?_) <;> (try simp only [ZC, reduceCtorEq, ZD] at hc) <;> (try (exact absurd hc (by decide))) <;> (try (exfalso; omega)))
      | ((first | refine WP.skip ?_ | refine WP.exit ?_); simp only [SeqQ, BlkQ, LoopQ, BodyQ, ↓reduceIte, Nat.reduceEqDiff, reduceCtorEq, look, true_and])
      | (refine WP.ret (Sm.out ?_))
      | (first | refine ExG.no (Sm.out ?_) | refine Or.inl (ExG.no (Sm.out ?_)) | refine Or.inl (And.intro (fun hg => absurd hg (by decide)) (ExG.no (Sm.out ?_))))
      | (refine Rt.mk ?_; refine And.intro ?_ ?_ <;> (intro hg; first | exact absurd hg (by decide) | refine Sm.out ?_))
      | (refine Nu.mk ?_; first | (fail_if_success (have := nb1)); intro nb1 | (fail_if_success (have := nb2)); intro nb2 | (fail_if_success (have := nb3)); intro nb3 | intro nbz)
      | (refine Fr.mk ?_; intro hfr; (first | (have hFRb : _ ≤ _ ∧ _ ≤ _ := And.intro hfr.1 hfr.2.1) | (have hFRb : _ ≤ _ := hfr.1) | skip); replace FR := Sm.mk (And.intro hfr FR.out); clear hfr; refine Sm.out ?_)
      | (refine Two.mk ?_ ?_)
      | (refine Cs.mk ?_; intro hcs; first | exact False.elim hcs | (exfalso; omega) | (refine Sm.out ?_))
      | go_step
      | omega
      | (simp only [maxLen_eq]; omega)
    (refine OutQ.all ?_ ?_; (focus (simp only [resv, ZK, look, loadv, loadn, loadnm, load1, load1m, hget, ↓reduceIte, Nat.reduceEqDiff, Nat.reduceAdd, Nat.reduceMul, Nat.reduceLeDiff, Nat.reduceLT, reduceCtorEq, TFStA, e, t1])); (try simp only [resv, resA, Fn, ZK, look, loadv, loadn, loadnm, load1, load1m, hget, ↓reduceIte, Nat.reduceEqDiff, Nat.reduceAdd, Nat.reduceMul, Nat.reduceLeDiff, Nat.reduceLT, reduceCtorEq, TFStA, e, t1]); (try simp [resA, Fn, look, e, t1]))
theorem bool2_ct (b : Bool) : ACt Tryd.prog 68 [bv b] [] (Fn (iv .i64 (if b then 1 else 0))) := by
  refine ACt.intro Tryd.func68 rfl (by kernel_rfl) (by simp [Tryd.ntmps68]) (fun cx => ?_)
  simp only [argE, Tryd.ntmps68, Tryd.results68]
  cases b
  · first | (have FRx := FR; clear FRx) | (have FR : Sm (¬ ((1 : Nat) = 0)) := Sm.mk Nat.one_ne_zero)
    repeat' first
      | (refine Sm.mk ?_; try simp -dsimp only [ZK, rvc, drawF, headN, pureH, stp, dvc, calleeOf, gcall, pev, eff, newB, okd, og, ogs, ogo, ogp, slv, bltv, opd, litv, strip, one, both, putE, St.put, look, gdOf, gdv, picka, pickv, pickw, binv, bini, bins, binb, binp, binq, isSlT, bina, shp, eqCells, unv, convv, nilv, faddv, addp, idxav, idxp, load1, load1m, loadn, loadnm, loadv, hget, hset, hrep, hdel, slicev, bnd, shift1, lenv, capv, IntKind.bits, extractv, fieldv, indexv, min2v, max2v, mkiv, cellsA, fillA, buildv, stC, oneC, rowMB, intsA, plN, appE, appZ, appC, appNZ, appNC, VwL, srcC, srcZ, srcM, isBoolT, isPtrT, isSliceT, uOk, Value.oneCell', Nat.reducePow, Int.reducePow, Nat.reduceAdd, Nat.reduceMul, Nat.reduceSub, Nat.reduceLT, Nat.reduceLeDiff, Nat.reduceEqDiff, Nat.reduceBEq, Nat.reduceDiv, Nat.reduceMod, ↓reduceIte, reduceCtorEq, Int.reduceToNat, Int.reduceLT, Int.reduceLE, TFStA, SeqQ, BlkQ, LoopQ, BodyQ, FR.out])
      | (refine WP.seq fun K hK => ?_)
      | (refine WP.region (rvc_sound _ _ (Sm.out ?_)))
      | (refine WP.drawK rfl mixed (by decide +kernel) (Sm.out ?_))
      | (refine Ob.mk ?_; focus (first | assumption | omega | decide | trivial | (intro hob; simp only [hob, ZF]; done) | (intros; (repeat' refine And.intro ?_ ?_) <;> first | assumption | omega | trivial | decide) | (intros; simp only [ZE] at *; (repeat' refine And.intro ?_ ?_) <;> first | assumption | omega | trivial)))
      | (refine And.intro (Ob.out ?_) ?_)
      | (refine WP.block ?_)
      | (refine WP.cond rfl (fun hc => ?_) (fun hc => ?_) <;> (try simp only [ZC, reduceCtorEq, ZD] at hc) <;> (try (exact absurd hc (by decide))) <;> (try (exfalso; omega)))
      | ((first | refine WP.skip ?_ | refine WP.exit ?_); simp only [SeqQ, BlkQ, LoopQ, BodyQ, ↓reduceIte, Nat.reduceEqDiff, reduceCtorEq, look, true_and])
      | (refine WP.ret (Sm.out ?_))
      | (first | refine ExG.no (Sm.out ?_) | refine Or.inl (ExG.no (Sm.out ?_)) | refine Or.inl (And.intro (fun hg => absurd hg (by decide)) (ExG.no (Sm.out ?_))))
      | (refine Rt.mk ?_; refine And.intro ?_ ?_ <;> (intro hg; first | exact absurd hg (by decide) | refine Sm.out ?_))
      | (refine Nu.mk ?_; first | (fail_if_success (have := nb1)); intro nb1 | (fail_if_success (have := nb2)); intro nb2 | (fail_if_success (have := nb3)); intro nb3 | intro nbz)
      | (refine Fr.mk ?_; intro hfr; (first | (have hFRb : _ ≤ _ ∧ _ ≤ _ := And.intro hfr.1 hfr.2.1) | (have hFRb : _ ≤ _ := hfr.1) | skip); replace FR := Sm.mk (And.intro hfr FR.out); clear hfr; refine Sm.out ?_)
      | (refine Two.mk ?_ ?_)
      | (refine Cs.mk ?_; intro hcs; first | exact False.elim hcs | (exfalso; omega) | (refine Sm.out ?_))
      | (refine OutQ.all ?_ ?_; (focus (simp only [resv, ZK, look, loadv, loadn, loadnm, load1, load1m, hget, ↓reduceIte, Nat.reduceEqDiff, Nat.reduceAdd, Nat.reduceMul, Nat.reduceLeDiff, Nat.reduceLT, reduceCtorEq, TFStA, FR.out])); (try simp only [resv, resA, Fn, ZK, look, loadv, loadn, loadnm, load1, load1m, hget, ↓reduceIte, Nat.reduceEqDiff, Nat.reduceAdd, Nat.reduceMul, Nat.reduceLeDiff, Nat.reduceLT, reduceCtorEq, TFStA, FR.out]); (try simp [resA, Fn, look, FR.out]); done)
      | go_step
      | omega
      | (simp only [maxLen_eq]; omega)
  · first | (have FRx := FR; clear FRx) | (have FR : Sm (¬ ((1 : Nat) = 0)) := Sm.mk Nat.one_ne_zero)
    repeat' first
      | (refine Sm.mk ?_; try simp -dsimp only [ZK, rvc, drawF, headN, pureH, stp, dvc, calleeOf, gcall, pev, eff, newB, okd, og, ogs, ogo, ogp, slv, bltv, opd, litv, strip, one, both, putE, St.put, look, gdOf, gdv, picka, pickv, pickw, binv, bini, bins, binb, binp, binq, isSlT, bina, shp, eqCells, unv, convv, nilv, faddv, addp, idxav, idxp, load1, load1m, loadn, loadnm, loadv, hget, hset, hrep, hdel, slicev, bnd, shift1, lenv, capv, IntKind.bits, extractv, fieldv, indexv, min2v, max2v, mkiv, cellsA, fillA, buildv, stC, oneC, rowMB, intsA, plN, appE, appZ, appC, appNZ, appNC, VwL, srcC, srcZ, srcM, isBoolT, isPtrT, isSliceT, uOk, Value.oneCell', Nat.reducePow, Int.reducePow, Nat.reduceAdd, Nat.reduceMul, Nat.reduceSub, Nat.reduceLT, Nat.reduceLeDiff, Nat.reduceEqDiff, Nat.reduceBEq, Nat.reduceDiv, Nat.reduceMod, ↓reduceIte, reduceCtorEq, Int.reduceToNat, Int.reduceLT, Int.reduceLE, TFStA, SeqQ, BlkQ, LoopQ, BodyQ, FR.out])
      | (refine WP.seq fun K hK => ?_)
      | (refine WP.region (rvc_sound _ _ (Sm.out ?_)))
      | (refine WP.drawK rfl mixed (by decide +kernel) (Sm.out ?_))
      | (refine Ob.mk ?_; focus (first | assumption | omega | decide | trivial | (intro hob; simp only [hob, ZF]; done) | (intros; (repeat' refine And.intro ?_ ?_) <;> first | assumption | omega | trivial | decide) | (intros; simp only [ZE] at *; (repeat' refine And.intro ?_ ?_) <;> first | assumption | omega | trivial)))
      | (refine And.intro (Ob.out ?_) ?_)
      | (refine WP.block ?_)
      | (refine WP.cond rfl (fun hc => ?_) (fun hc => ?_) <;> (try simp only [ZC, reduceCtorEq, ZD] at hc) <;> (try (exact absurd hc (by decide))) <;> (try (exfalso; omega)))
      | ((first | refine WP.skip ?_ | refine WP.exit ?_); simp only [SeqQ, BlkQ, LoopQ, BodyQ, ↓reduceIte, Nat.reduceEqDiff, reduceCtorEq, look, true_and])
      | (refine WP.ret (Sm.out ?_))
      | (first | refine ExG.no (Sm.out ?_) | refine Or.inl (ExG.no (Sm.out ?_)) | refine Or.inl (And.intro (fun hg => absurd hg (by decide)) (ExG.no (Sm.out ?_))))
      | (refine Rt.mk ?_; refine And.intro ?_ ?_ <;> (intro hg; first | exact absurd hg (by decide) | refine Sm.out ?_))
      | (refine Nu.mk ?_; first | (fail_if_success (have := nb1)); intro nb1 | (fail_if_success (have := nb2)); intro nb2 | (fail_if_success (have := nb3)); intro nb3 | intro nbz)
      | (refine Fr.mk ?_; intro hfr; (first | (have hFRb : _ ≤ _ ∧ _ ≤ _ := And.intro hfr.1 hfr.2.1) | (have hFRb : _ ≤ _ := hfr.1) | skip); replace FR := Sm.mk (And.intro hfr FR.out); clear hfr; refine Sm.out ?_)
      | (refine Two.mk ?_ ?_)
      | (refine Cs.mk ?_; intro hcs; first | exact False.elim hcs | (exfalso; omega) | (refine Sm.out ?_))
      | (refine OutQ.all ?_ ?_; (focus (simp only [resv, ZK, look, loadv, loadn, loadnm, load1, load1m, hget, ↓reduceIte, Nat.reduceEqDiff, Nat.reduceAdd, Nat.reduceMul, Nat.reduceLeDiff, Nat.reduceLT, reduceCtorEq, TFStA, FR.out])); (try simp only [resv, resA, Fn, ZK, look, loadv, loadn, loadnm, load1, load1m, hget, ↓reduceIte, Nat.reduceEqDiff, Nat.reduceAdd, Nat.reduceMul, Nat.reduceLeDiff, Nat.reduceLT, reduceCtorEq, TFStA, FR.out]); (try simp [resA, Fn, look, FR.out]); done)
      | go_step
      | omega
      | (simp only [maxLen_eq]; omega)
end Go.Proofs.YtocfaghflhgeeaaDoor
