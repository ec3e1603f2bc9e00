/-
  The walks and the laws that the statement leans on, part 11.
-/
import Derived.Test.YtdfkpnkohikcgaaDoorZ10
namespace Go.Proofs.YtdfkpnkohikcgaaDoor
open Go
set_option linter.unusedVariables false
set_option linter.unusedSimpArgs false
theorem TFSpK : ((((type_of% tyc2) ∧ ((type_of% zmb2) ∧ (type_of% tyc4))) ∧ ((type_of% zmb4) ∧ ((type_of% tyc5) ∧ (type_of% zmb5)))) ∧ (((type_of% tyc21) ∧ ((type_of% zmb21) ∧ (type_of% Tryd.underlying2))) ∧ ((type_of% Tryd.underlying4) ∧ ((type_of% Tryd.underlying5) ∧ (type_of% Tryd.underlying21))))) :=
  ⟨⟨⟨tyc2, ⟨zmb2, tyc4⟩⟩, ⟨zmb4, ⟨tyc5, zmb5⟩⟩⟩, ⟨⟨tyc21, ⟨zmb21, Tryd.underlying2⟩⟩, ⟨Tryd.underlying4, ⟨Tryd.underlying5, Tryd.underlying21⟩⟩⟩⟩
theorem wf_i32 {z : Int} (h : (Lit.int .i32 z).wf = true) : -2147483648 ≤ z ∧ z ≤ 2147483647 := by
  simp only [Lit.wf, IntKind.min, IntKind.max, IntKind.bits, IntKind.signed] at h
  simp at h
  omega
theorem round_bad (n u : Int) (h : rightS n = false ∨ u < 1) : ACt Tryd.prog 14 [iv .i64 n, iv .i64 u] [] (Fn (iv .i64 0)) := by
  have cR := right_ct n
  refine ACt.intro Tryd.func14 rfl (by kernel_rfl) (by simp [Tryd.ntmps14]) (fun cx => ?_)
  simp only [argE, Tryd.ntmps14, Tryd.results14]
  cases hr : rightS n
  · rw [hr] at cR
    first | (have FRx := FR; clear FRx) | (have FR : Sm (¬ ((1 : Nat) = 0)) := Sm.mk Nat.one_ne_zero)
    repeat' first
      | (refine Sm.mk ?_; try simp -dsimp only [ZK, rvc, drawF, headN, pureH, stp, dvc, calleeOf, gcall, pev, eff, newB, okd, og, ogs, ogo, ogp, slv, bltv, opd, litv, strip, one, both, putE, St.put, look, gdOf, gdv, picka, pickv, pickw, binv, bini, bins, binb, binp, binq, isSlT, bina, shp, eqCells, unv, convv, nilv, faddv, addp, idxav, idxp, load1, load1m, loadn, loadnm, loadv, hget, hset, hrep, hdel, slicev, bnd, shift1, lenv, capv, IntKind.bits, extractv, fieldv, indexv, min2v, max2v, mkiv, cellsA, fillA, buildv, stC, oneC, rowMB, intsA, plN, appE, appZ, appC, appNZ, appNC, VwL, srcC, srcZ, srcM, isBoolT, isPtrT, isSliceT, uOk, Value.oneCell', Nat.reducePow, Int.reducePow, Nat.reduceAdd, Nat.reduceMul, Nat.reduceSub, Nat.reduceLT, Nat.reduceLeDiff, Nat.reduceEqDiff, Nat.reduceBEq, Nat.reduceDiv, Nat.reduceMod, ↓reduceIte, reduceCtorEq, Int.reduceToNat, Int.reduceLT, Int.reduceLE, TFSpK, SeqQ, BlkQ, LoopQ, BodyQ, FR.out])
      | (first | refine CallV.fn (cR) (Sm.out ?_) | refine ExF.mk (cR) (Sm.out ?_) | refine ExG.mk (fun _ => cR) (Sm.out ?_) | refine ExG.mkJ (fun _ => cR) (Sm.out ?_) | refine ExG.mkI (Ob.out ?_) (fun _ => cR) (Sm.out ?_))
      | (refine WP.seq fun K hK => ?_)
      | (refine WP.region (rvc_sound _ _ (Sm.out ?_)))
      | (refine WP.drawK rfl mixed (by decide +kernel) (Sm.out ?_))
      | (refine Ob.mk ?_; focus (first | assumption | omega | decide | trivial | (intro hob; simp only [hob, ZF]; done) | (intros; (repeat' refine And.intro ?_ ?_) <;> first | assumption | omega | trivial | decide) | (intros; simp only [ZE] at *; (repeat' refine And.intro ?_ ?_) <;> first | assumption | omega | trivial)))
      | (refine And.intro (Ob.out ?_) ?_)
      | (refine WP.block ?_)
      | (refine WP.cond rfl (fun hc => ?_) (fun hc => ?_) <;> (try simp only [ZC, reduceCtorEq, ZD] at hc) <;> (try (exact absurd hc (by decide))) <;> (try (exfalso; omega)))
      | ((first | refine WP.skip ?_ | refine WP.exit ?_); simp only [SeqQ, BlkQ, LoopQ, BodyQ, ↓reduceIte, Nat.reduceEqDiff, reduceCtorEq, look, true_and])
      | (refine WP.ret (Sm.out ?_))
      | (first | refine ExG.no (Sm.out ?_) | refine Or.inl (ExG.no (Sm.out ?_)) | refine Or.inl (And.intro (fun hg => absurd hg (by decide)) (ExG.no (Sm.out ?_))))
      | (refine Rt.mk ?_; refine And.intro ?_ ?_ <;> (intro hg; first | exact absurd hg (by decide) | refine Sm.out ?_))
      | (refine Nu.mk ?_; first | (fail_if_success (have := nb1)); intro nb1 | (fail_if_success (have := nb2)); intro nb2 | (fail_if_success (have := nb3)); intro nb3 | (fail_if_success (have := nb4)); intro nb4 | intro nbz)
      | (refine Fr.mk ?_; intro hfr; (first | (have hFRb : _ ≤ _ ∧ _ ≤ _ := And.intro hfr.1 hfr.2.1) | (have hFRb : _ ≤ _ := hfr.1) | skip); replace FR := Sm.mk (And.intro hfr FR.out); clear hfr; refine Sm.out ?_)
      | (refine Two.mk ?_ ?_)
      | (refine Cs.mk ?_; intro hcs; first | exact False.elim hcs | (exfalso; omega) | (refine Sm.out ?_))
      | go_step
      | omega
      | (simp only [maxLen_eq]; omega)
    (refine OutQ.all ?_ ?_; (focus (simp only [resv, ZK, look, loadv, loadn, loadnm, load1, load1m, hget, ↓reduceIte, Nat.reduceEqDiff, Nat.reduceAdd, Nat.reduceMul, Nat.reduceLeDiff, Nat.reduceLT, reduceCtorEq, TFSpK])); (try simp only [resv, resA, Fn, ZK, look, loadv, loadn, loadnm, load1, load1m, hget, ↓reduceIte, Nat.reduceEqDiff, Nat.reduceAdd, Nat.reduceMul, Nat.reduceLeDiff, Nat.reduceLT, reduceCtorEq, TFSpK]); (try simp [resA, Fn, look]))
  · rw [hr] at cR h
    have hu : u < 1 := by rcases h with h | h; cases h; exact h
    have k1 : decide (u < 1) = true := decide_eq_true hu
    first | (have FRx := FR; clear FRx) | (have FR : Sm (¬ ((1 : Nat) = 0)) := Sm.mk Nat.one_ne_zero)
    repeat' first
      | (refine Sm.mk ?_; try simp -dsimp only [ZK, rvc, drawF, headN, pureH, stp, dvc, calleeOf, gcall, pev, eff, newB, okd, og, ogs, ogo, ogp, slv, bltv, opd, litv, strip, one, both, putE, St.put, look, gdOf, gdv, picka, pickv, pickw, binv, bini, bins, binb, binp, binq, isSlT, bina, shp, eqCells, unv, convv, nilv, faddv, addp, idxav, idxp, load1, load1m, loadn, loadnm, loadv, hget, hset, hrep, hdel, slicev, bnd, shift1, lenv, capv, IntKind.bits, extractv, fieldv, indexv, min2v, max2v, mkiv, cellsA, fillA, buildv, stC, oneC, rowMB, intsA, plN, appE, appZ, appC, appNZ, appNC, VwL, srcC, srcZ, srcM, isBoolT, isPtrT, isSliceT, uOk, Value.oneCell', Nat.reducePow, Int.reducePow, Nat.reduceAdd, Nat.reduceMul, Nat.reduceSub, Nat.reduceLT, Nat.reduceLeDiff, Nat.reduceEqDiff, Nat.reduceBEq, Nat.reduceDiv, Nat.reduceMod, ↓reduceIte, reduceCtorEq, Int.reduceToNat, Int.reduceLT, Int.reduceLE, TFSpK, SeqQ, BlkQ, LoopQ, BodyQ, k1, FR.out])
      | (first | refine CallV.fn (cR) (Sm.out ?_) | refine ExF.mk (cR) (Sm.out ?_) | refine ExG.mk (fun _ => cR) (Sm.out ?_) | refine ExG.mkJ (fun _ => cR) (Sm.out ?_) | refine ExG.mkI (Ob.out ?_) (fun _ => cR) (Sm.out ?_))
      | (refine WP.seq fun K hK => ?_)
      | (refine WP.region (rvc_sound _ _ (Sm.out ?_)))
      | (refine WP.drawK rfl mixed (by decide +kernel) (Sm.out ?_))
      | (refine Ob.mk ?_; focus (first | assumption | omega | decide | trivial | (intro hob; simp only [hob, ZF]; done) | (intros; (repeat' refine And.intro ?_ ?_) <;> first | assumption | omega | trivial | decide) | (intros; simp only [ZE] at *; (repeat' refine And.intro ?_ ?_) <;> first | assumption | omega | trivial)))
      | (refine And.intro (Ob.out ?_) ?_)
      | (refine WP.block ?_)
      | (refine WP.cond rfl (fun hc => ?_) (fun hc => ?_) <;> (try simp only [ZC, reduceCtorEq, ZD] at hc) <;> (try (exact absurd hc (by decide))) <;> (try (exfalso; omega)))
      | ((first | refine WP.skip ?_ | refine WP.exit ?_); simp only [SeqQ, BlkQ, LoopQ, BodyQ, ↓reduceIte, Nat.reduceEqDiff, reduceCtorEq, look, true_and])
      | (refine WP.ret (Sm.out ?_))
      | (first | refine ExG.no (Sm.out ?_) | refine Or.inl (ExG.no (Sm.out ?_)) | refine Or.inl (And.intro (fun hg => absurd hg (by decide)) (ExG.no (Sm.out ?_))))
      | (refine Rt.mk ?_; refine And.intro ?_ ?_ <;> (intro hg; first | exact absurd hg (by decide) | refine Sm.out ?_))
      | (refine Nu.mk ?_; first | (fail_if_success (have := nb1)); intro nb1 | (fail_if_success (have := nb2)); intro nb2 | (fail_if_success (have := nb3)); intro nb3 | (fail_if_success (have := nb4)); intro nb4 | intro nbz)
      | (refine Fr.mk ?_; intro hfr; (first | (have hFRb : _ ≤ _ ∧ _ ≤ _ := And.intro hfr.1 hfr.2.1) | (have hFRb : _ ≤ _ := hfr.1) | skip); replace FR := Sm.mk (And.intro hfr FR.out); clear hfr; refine Sm.out ?_)
      | (refine Two.mk ?_ ?_)
      | (refine Cs.mk ?_; intro hcs; first | exact False.elim hcs | (exfalso; omega) | (refine Sm.out ?_))
      | go_step
      | omega
      | (simp only [maxLen_eq]; omega)
    (refine OutQ.all ?_ ?_; (focus (simp only [resv, ZK, look, loadv, loadn, loadnm, load1, load1m, hget, ↓reduceIte, Nat.reduceEqDiff, Nat.reduceAdd, Nat.reduceMul, Nat.reduceLeDiff, Nat.reduceLT, reduceCtorEq, TFSpK])); (try simp only [resv, resA, Fn, ZK, look, loadv, loadn, loadnm, load1, load1m, hget, ↓reduceIte, Nat.reduceEqDiff, Nat.reduceAdd, Nat.reduceMul, Nat.reduceLeDiff, Nat.reduceLT, reduceCtorEq, TFSpK]); (try simp [resA, Fn, look]))
def rndN (n u : Nat) : Nat := if n % u = 0 ∨ u > 253402300799 ∨ n - n % u + u > 253402300799 then n else n - n % u + u
theorem round_ct (n u : Nat) (hn : n ≤ 253402300799) (hu : 1 ≤ u) (hu2 : u < 9223372036854775808) : ACt Tryd.prog 14 [iv .i64 (n : Int), iv .i64 (u : Int)] [] (Fn (iv .i64 ((rndN n u : Nat) : Int))) := by
  have cR := right_ct (n : Int)
  rw [(rightS_iff _).2 ⟨by omega, by omega⟩] at cR
  have k1 : decide ((u : Int) < 1) = false := decide_eq_false (by omega)
  have r2 : (n : Int).tmod (u : Int) = ((n % u : Nat) : Int) := by rw [Int.tmod_eq_emod_of_nonneg (by omega)]; exact (Int.natCast_emod n u).symm
  have hle := Nat.mod_le n u
  have hlt := Nat.mod_lt n (show 0 < u by omega)
  unfold rndN
  obtain ⟨m, hm⟩ : ∃ m, m = n % u := ⟨_, rfl⟩
  rw [← hm] at r2 hle hlt ⊢
  have w1 : IntKind.i64.wrap (m : Int) = (m : Int) := wrap_i64 (by omega) (by omega)
  have hu0 : ((u : Int) = 0) = False := eq_false (by omega)
  have hu1 : ((u : Int) == 0) = false := beq_eq_false_iff_ne.2 (by omega)
  refine ACt.intro Tryd.func14 rfl (by kernel_rfl) (by simp [Tryd.ntmps14]) (fun cx => ?_)
  simp only [argE, Tryd.ntmps14, Tryd.results14]
  by_cases h0 : m = 0
  · rw [if_pos (.inl h0)]
    have k2 : ((m : Int) == 0) = true := beq_iff_eq.2 (by omega)
    first | (have FRx := FR; clear FRx) | (have FR : Sm (¬ ((1 : Nat) = 0)) := Sm.mk Nat.one_ne_zero)
    repeat' first
      | (refine Sm.mk ?_; try simp -dsimp only [ZK, rvc, drawF, headN, pureH, stp, dvc, calleeOf, gcall, pev, eff, newB, okd, og, ogs, ogo, ogp, slv, bltv, opd, litv, strip, one, both, putE, St.put, look, gdOf, gdv, picka, pickv, pickw, binv, bini, bins, binb, binp, binq, isSlT, bina, shp, eqCells, unv, convv, nilv, faddv, addp, idxav, idxp, load1, load1m, loadn, loadnm, loadv, hget, hset, hrep, hdel, slicev, bnd, shift1, lenv, capv, IntKind.bits, extractv, fieldv, indexv, min2v, max2v, mkiv, cellsA, fillA, buildv, stC, oneC, rowMB, intsA, plN, appE, appZ, appC, appNZ, appNC, VwL, srcC, srcZ, srcM, isBoolT, isPtrT, isSliceT, uOk, Value.oneCell', Nat.reducePow, Int.reducePow, Nat.reduceAdd, Nat.reduceMul, Nat.reduceSub, Nat.reduceLT, Nat.reduceLeDiff, Nat.reduceEqDiff, Nat.reduceBEq, Nat.reduceDiv, Nat.reduceMod, ↓reduceIte, reduceCtorEq, Int.reduceToNat, Int.reduceLT, Int.reduceLE, TFSpK, SeqQ, BlkQ, LoopQ, BodyQ, k1, r2, w1, hu0, hu1, k2, FR.out])
      | (first | refine CallV.fn (cR) (Sm.out ?_) | refine ExF.mk (cR) (Sm.out ?_) | refine ExG.mk (fun _ => cR) (Sm.out ?_) | refine ExG.mkJ (fun _ => cR) (Sm.out ?_) | refine ExG.mkI (Ob.out ?_) (fun _ => cR) (Sm.out ?_))
      | (refine WP.seq fun K hK => ?_)
      | (refine WP.region (rvc_sound _ _ (Sm.out ?_)))
      | (refine WP.drawK rfl mixed (by decide +kernel) (Sm.out ?_))
      | (refine Ob.mk ?_; focus (first | assumption | omega | decide | trivial | (intro hob; simp only [hob, ZF]; done) | (intros; (repeat' refine And.intro ?_ ?_) <;> first | assumption | omega | trivial | decide) | (intros; simp only [ZE] at *; (repeat' refine And.intro ?_ ?_) <;> first | assumption | omega | trivial)))
      | (refine And.intro (Ob.out ?_) ?_)
      | (refine WP.block ?_)
      | (refine WP.cond rfl (fun hc => ?_) (fun hc => ?_) <;> (try simp only [ZC, reduceCtorEq, ZD] at hc) <;> (try (exact absurd hc (by decide))) <;> (try (exfalso; omega)))
      | ((first | refine WP.skip ?_ | refine WP.exit ?_); simp only [SeqQ, BlkQ, LoopQ, BodyQ, ↓reduceIte, Nat.reduceEqDiff, reduceCtorEq, look, true_and])
      | (refine WP.ret (Sm.out ?_))
      | (first | refine ExG.no (Sm.out ?_) | refine Or.inl (ExG.no (Sm.out ?_)) | refine Or.inl (And.intro (fun hg => absurd hg (by decide)) (ExG.no (Sm.out ?_))))
      | (refine Rt.mk ?_; refine And.intro ?_ ?_ <;> (intro hg; first | exact absurd hg (by decide) | refine Sm.out ?_))
      | (refine Nu.mk ?_; first | (fail_if_success (have := nb1)); intro nb1 | (fail_if_success (have := nb2)); intro nb2 | (fail_if_success (have := nb3)); intro nb3 | (fail_if_success (have := nb4)); intro nb4 | intro nbz)
      | (refine Fr.mk ?_; intro hfr; (first | (have hFRb : _ ≤ _ ∧ _ ≤ _ := And.intro hfr.1 hfr.2.1) | (have hFRb : _ ≤ _ := hfr.1) | skip); replace FR := Sm.mk (And.intro hfr FR.out); clear hfr; refine Sm.out ?_)
      | (refine Two.mk ?_ ?_)
      | (refine Cs.mk ?_; intro hcs; first | exact False.elim hcs | (exfalso; omega) | (refine Sm.out ?_))
      | go_step
      | omega
      | (simp only [maxLen_eq]; omega)
    (refine OutQ.all ?_ ?_; (focus (simp only [resv, ZK, look, loadv, loadn, loadnm, load1, load1m, hget, ↓reduceIte, Nat.reduceEqDiff, Nat.reduceAdd, Nat.reduceMul, Nat.reduceLeDiff, Nat.reduceLT, reduceCtorEq, TFSpK])); (try simp only [resv, resA, Fn, ZK, look, loadv, loadn, loadnm, load1, load1m, hget, ↓reduceIte, Nat.reduceEqDiff, Nat.reduceAdd, Nat.reduceMul, Nat.reduceLeDiff, Nat.reduceLT, reduceCtorEq, TFSpK]); (try simp [resA, Fn, look]))
  have k2 : ((m : Int) == 0) = false := beq_eq_false_iff_ne.2 (by omega)
  by_cases h1 : u > 253402300799
  · rw [if_pos (.inr (.inl h1))]
    have k3 : decide ((u : Int) > 253402300799) = true := decide_eq_true (by omega)
    first | (have FRx := FR; clear FRx) | (have FR : Sm (¬ ((1 : Nat) = 0)) := Sm.mk Nat.one_ne_zero)
    repeat' first
      | (refine Sm.mk ?_; try simp -dsimp only [ZK, rvc, drawF, headN, pureH, stp, dvc, calleeOf, gcall, pev, eff, newB, okd, og, ogs, ogo, ogp, slv, bltv, opd, litv, strip, one, both, putE, St.put, look, gdOf, gdv, picka, pickv, pickw, binv, bini, bins, binb, binp, binq, isSlT, bina, shp, eqCells, unv, convv, nilv, faddv, addp, idxav, idxp, load1, load1m, loadn, loadnm, loadv, hget, hset, hrep, hdel, slicev, bnd, shift1, lenv, capv, IntKind.bits, extractv, fieldv, indexv, min2v, max2v, mkiv, cellsA, fillA, buildv, stC, oneC, rowMB, intsA, plN, appE, appZ, appC, appNZ, appNC, VwL, srcC, srcZ, srcM, isBoolT, isPtrT, isSliceT, uOk, Value.oneCell', Nat.reducePow, Int.reducePow, Nat.reduceAdd, Nat.reduceMul, Nat.reduceSub, Nat.reduceLT, Nat.reduceLeDiff, Nat.reduceEqDiff, Nat.reduceBEq, Nat.reduceDiv, Nat.reduceMod, ↓reduceIte, reduceCtorEq, Int.reduceToNat, Int.reduceLT, Int.reduceLE, TFSpK, SeqQ, BlkQ, LoopQ, BodyQ, k1, r2, w1, hu0, hu1, k2, k3, FR.out])
      | (first | refine CallV.fn (cR) (Sm.out ?_) | refine ExF.mk (cR) (Sm.out ?_) | refine ExG.mk (fun _ => cR) (Sm.out ?_) | refine ExG.mkJ (fun _ => cR) (Sm.out ?_) | refine ExG.mkI (Ob.out ?_) (fun _ => cR) (Sm.out ?_))
      | (refine WP.seq fun K hK => ?_)
      | (refine WP.region (rvc_sound _ _ (Sm.out ?_)))
      | (refine WP.drawK rfl mixed (by decide +kernel) (Sm.out ?_))
      | (refine Ob.mk ?_; focus (first | assumption | omega | decide | trivial | (intro hob; simp only [hob, ZF]; done) | (intros; (repeat' refine And.intro ?_ ?_) <;> first | assumption | omega | trivial | decide) | (intros; simp only [ZE] at *; (repeat' refine And.intro ?_ ?_) <;> first | assumption | omega | trivial)))
      | (refine And.intro (Ob.out ?_) ?_)
      | (refine WP.block ?_)
      | (refine WP.cond rfl (fun hc => ?_) (fun hc => ?_) <;> (try simp only [ZC, reduceCtorEq, ZD] at hc) <;> (try (exact absurd hc (by decide))) <;> (try (exfalso; omega)))
      | ((first | refine WP.skip ?_ | refine WP.exit ?_); simp only [SeqQ, BlkQ, LoopQ, BodyQ, ↓reduceIte, Nat.reduceEqDiff, reduceCtorEq, look, true_and])
      | (refine WP.ret (Sm.out ?_))
      | (first | refine ExG.no (Sm.out ?_) | refine Or.inl (ExG.no (Sm.out ?_)) | refine Or.inl (And.intro (fun hg => absurd hg (by decide)) (ExG.no (Sm.out ?_))))
      | (refine Rt.mk ?_; refine And.intro ?_ ?_ <;> (intro hg; first | exact absurd hg (by decide) | refine Sm.out ?_))
      | (refine Nu.mk ?_; first | (fail_if_success (have := nb1)); intro nb1 | (fail_if_success (have := nb2)); intro nb2 | (fail_if_success (have := nb3)); intro nb3 | (fail_if_success (have := nb4)); intro nb4 | intro nbz)
      | (refine Fr.mk ?_; intro hfr; (first | (have hFRb : _ ≤ _ ∧ _ ≤ _ := And.intro hfr.1 hfr.2.1) | (have hFRb : _ ≤ _ := hfr.1) | skip); replace FR := Sm.mk (And.intro hfr FR.out); clear hfr; refine Sm.out ?_)
      | (refine Two.mk ?_ ?_)
      | (refine Cs.mk ?_; intro hcs; first | exact False.elim hcs | (exfalso; omega) | (refine Sm.out ?_))
      | go_step
      | omega
      | (simp only [maxLen_eq]; omega)
    (refine OutQ.all ?_ ?_; (focus (simp only [resv, ZK, look, loadv, loadn, loadnm, load1, load1m, hget, ↓reduceIte, Nat.reduceEqDiff, Nat.reduceAdd, Nat.reduceMul, Nat.reduceLeDiff, Nat.reduceLT, reduceCtorEq, TFSpK])); (try simp only [resv, resA, Fn, ZK, look, loadv, loadn, loadnm, load1, load1m, hget, ↓reduceIte, Nat.reduceEqDiff, Nat.reduceAdd, Nat.reduceMul, Nat.reduceLeDiff, Nat.reduceLT, reduceCtorEq, TFSpK]); (try simp [resA, Fn, look]))
  have k3 : decide ((u : Int) > 253402300799) = false := decide_eq_false (by omega)
  have w2 : IntKind.i64.wrap ((n : Int) - (m : Int)) = ((n - m : Nat) : Int) := by rw [wrap_i64 (by omega) (by omega)]; omega
  have w3 : IntKind.i64.wrap (253402300799 - (u : Int)) = 253402300799 - (u : Int) := wrap_i64 (by omega) (by omega)
  obtain ⟨q, hq⟩ : ∃ q, q = n - m := ⟨_, rfl⟩
  rw [← hq] at w2 ⊢
  by_cases h2 : q + u > 253402300799
  · rw [if_pos (.inr (.inr h2))]
    have k4 : decide ((q : Int) > 253402300799 - (u : Int)) = true := decide_eq_true (by omega)
    first | (have FRx := FR; clear FRx) | (have FR : Sm (¬ ((1 : Nat) = 0)) := Sm.mk Nat.one_ne_zero)
    repeat' first
      | (refine Sm.mk ?_; try simp -dsimp only [ZK, rvc, drawF, headN, pureH, stp, dvc, calleeOf, gcall, pev, eff, newB, okd, og, ogs, ogo, ogp, slv, bltv, opd, litv, strip, one, both, putE, St.put, look, gdOf, gdv, picka, pickv, pickw, binv, bini, bins, binb, binp, binq, isSlT, bina, shp, eqCells, unv, convv, nilv, faddv, addp, idxav, idxp, load1, load1m, loadn, loadnm, loadv, hget, hset, hrep, hdel, slicev, bnd, shift1, lenv, capv, IntKind.bits, extractv, fieldv, indexv, min2v, max2v, mkiv, cellsA, fillA, buildv, stC, oneC, rowMB, intsA, plN, appE, appZ, appC, appNZ, appNC, VwL, srcC, srcZ, srcM, isBoolT, isPtrT, isSliceT, uOk, Value.oneCell', Nat.reducePow, Int.reducePow, Nat.reduceAdd, Nat.reduceMul, Nat.reduceSub, Nat.reduceLT, Nat.reduceLeDiff, Nat.reduceEqDiff, Nat.reduceBEq, Nat.reduceDiv, Nat.reduceMod, ↓reduceIte, reduceCtorEq, Int.reduceToNat, Int.reduceLT, Int.reduceLE, TFSpK, SeqQ, BlkQ, LoopQ, BodyQ, k1, r2, w1, hu0, hu1, k2, k3, w2, w3, k4, FR.out])
      | (first | refine CallV.fn (cR) (Sm.out ?_) | refine ExF.mk (cR) (Sm.out ?_) | refine ExG.mk (fun _ => cR) (Sm.out ?_) | refine ExG.mkJ (fun _ => cR) (Sm.out ?_) | refine ExG.mkI (Ob.out ?_) (fun _ => cR) (Sm.out ?_))
      | (refine WP.seq fun K hK => ?_)
      | (refine WP.region (rvc_sound _ _ (Sm.out ?_)))
      | (refine WP.drawK rfl mixed (by decide +kernel) (Sm.out ?_))
      | (refine Ob.mk ?_; focus (first | assumption | omega | decide | trivial | (intro hob; simp only [hob, ZF]; done) | (intros; (repeat' refine And.intro ?_ ?_) <;> first | assumption | omega | trivial | decide) | (intros; simp only [ZE] at *; (repeat' refine And.intro ?_ ?_) <;> first | assumption | omega | trivial)))
      | (refine And.intro (Ob.out ?_) ?_)
      | (refine WP.block ?_)
      | (refine WP.cond rfl (fun hc => ?_) (fun hc => ?_) <;> (try simp only [ZC, reduceCtorEq, ZD] at hc) <;> (try (exact absurd hc (by decide))) <;> (try (exfalso; omega)))
      | ((first | refine WP.skip ?_ | refine WP.exit ?_); simp only [SeqQ, BlkQ, LoopQ, BodyQ, ↓reduceIte, Nat.reduceEqDiff, reduceCtorEq, look, true_and])
      | (refine WP.ret (Sm.out ?_))
      | (first | refine ExG.no (Sm.out ?_) | refine Or.inl (ExG.no (Sm.out ?_)) | refine Or.inl (And.intro (fun hg => absurd hg (by decide)) (ExG.no (Sm.out ?_))))
      | (refine Rt.mk ?_; refine And.intro ?_ ?_ <;> (intro hg; first | exact absurd hg (by decide) | refine Sm.out ?_))
      | (refine Nu.mk ?_; first | (fail_if_success (have := nb1)); intro nb1 | (fail_if_success (have := nb2)); intro nb2 | (fail_if_success (have := nb3)); intro nb3 | (fail_if_success (have := nb4)); intro nb4 | intro nbz)
      | (refine Fr.mk ?_; intro hfr; (first | (have hFRb : _ ≤ _ ∧ _ ≤ _ := And.intro hfr.1 hfr.2.1) | (have hFRb : _ ≤ _ := hfr.1) | skip); replace FR := Sm.mk (And.intro hfr FR.out); clear hfr; refine Sm.out ?_)
      | (refine Two.mk ?_ ?_)
      | (refine Cs.mk ?_; intro hcs; first | exact False.elim hcs | (exfalso; omega) | (refine Sm.out ?_))
      | go_step
      | omega
      | (simp only [maxLen_eq]; omega)
    (refine OutQ.all ?_ ?_; (focus (simp only [resv, ZK, look, loadv, loadn, loadnm, load1, load1m, hget, ↓reduceIte, Nat.reduceEqDiff, Nat.reduceAdd, Nat.reduceMul, Nat.reduceLeDiff, Nat.reduceLT, reduceCtorEq, TFSpK])); (try simp only [resv, resA, Fn, ZK, look, loadv, loadn, loadnm, load1, load1m, hget, ↓reduceIte, Nat.reduceEqDiff, Nat.reduceAdd, Nat.reduceMul, Nat.reduceLeDiff, Nat.reduceLT, reduceCtorEq, TFSpK]); (try simp [resA, Fn, look]))
  · rw [if_neg (by omega)]
    have k4 : decide ((q : Int) > 253402300799 - (u : Int)) = false := decide_eq_false (by omega)
    have w4 : IntKind.i64.wrap ((q : Int) + (u : Int)) = ((q + u : Nat) : Int) := by rw [wrap_i64 (by omega) (by omega)]; omega
    first | (have FRx := FR; clear FRx) | (have FR : Sm (¬ ((1 : Nat) = 0)) := Sm.mk Nat.one_ne_zero)
    repeat' first
      | (refine Sm.mk ?_; try simp -dsimp only [ZK, rvc, drawF, headN, pureH, stp, dvc, calleeOf, gcall, pev, eff, newB, okd, og, ogs, ogo, ogp, slv, bltv, opd, litv, strip, one, both, putE, St.put, look, gdOf, gdv, picka, pickv, pickw, binv, bini, bins, binb, binp, binq, isSlT, bina, shp, eqCells, unv, convv, nilv, faddv, addp, idxav, idxp, load1, load1m, loadn, loadnm, loadv, hget, hset, hrep, hdel, slicev, bnd, shift1, lenv, capv, IntKind.bits, extractv, fieldv, indexv, min2v, max2v, mkiv, cellsA, fillA, buildv, stC, oneC, rowMB, intsA, plN, appE, appZ, appC, appNZ, appNC, VwL, srcC, srcZ, srcM, isBoolT, isPtrT, isSliceT, uOk, Value.oneCell', Nat.reducePow, Int.reducePow, Nat.reduceAdd, Nat.reduceMul, Nat.reduceSub, Nat.reduceLT, Nat.reduceLeDiff, Nat.reduceEqDiff, Nat.reduceBEq, Nat.reduceDiv, Nat.reduceMod, ↓reduceIte, reduceCtorEq, Int.reduceToNat, Int.reduceLT, Int.reduceLE, TFSpK, SeqQ, BlkQ, LoopQ, BodyQ, k1, r2, w1, hu0, hu1, k2, k3, w2, w3, k4, w4, FR.out])
      | (first | refine CallV.fn (cR) (Sm.out ?_) | refine ExF.mk (cR) (Sm.out ?_) | refine ExG.mk (fun _ => cR) (Sm.out ?_) | refine ExG.mkJ (fun _ => cR) (Sm.out ?_) | refine ExG.mkI (Ob.out ?_) (fun _ => cR) (Sm.out ?_))
      | (refine WP.seq fun K hK => ?_)
      | (refine WP.region (rvc_sound _ _ (Sm.out ?_)))
      | (refine WP.drawK rfl mixed (by decide +kernel) (Sm.out ?_))
      | (refine Ob.mk ?_; focus (first | assumption | omega | decide | trivial | (intro hob; simp only [hob, ZF]; done) | (intros; (repeat' refine And.intro ?_ ?_) <;> first | assumption | omega | trivial | decide) | (intros; simp only [ZE] at *; (repeat' refine And.intro ?_ ?_) <;> first | assumption | omega | trivial)))
      | (refine And.intro (Ob.out ?_) ?_)
      | (refine WP.block ?_)
      | (refine WP.cond rfl (fun hc => ?_) (fun hc => ?_) <;> (try simp only [ZC, reduceCtorEq, ZD] at hc) <;> (try (exact absurd hc (by decide))) <;> (try (exfalso; omega)))
      | ((first | refine WP.skip ?_ | refine WP.exit ?_); simp only [SeqQ, BlkQ, LoopQ, BodyQ, ↓reduceIte, Nat.reduceEqDiff, reduceCtorEq, look, true_and])
      | (refine WP.ret (Sm.out ?_))
      | (first | refine ExG.no (Sm.out ?_) | refine Or.inl (ExG.no (Sm.out ?_)) | refine Or.inl (And.intro (fun hg => absurd hg (by decide)) (ExG.no (Sm.out ?_))))
      | (refine Rt.mk ?_; refine And.intro ?_ ?_ <;> (intro hg; first | exact absurd hg (by decide) | refine Sm.out ?_))
      | (refine Nu.mk ?_; first | (fail_if_success (have := nb1)); intro nb1 | (fail_if_success (have := nb2)); intro nb2 | (fail_if_success (have := nb3)); intro nb3 | (fail_if_success (have := nb4)); intro nb4 | intro nbz)
      | (refine Fr.mk ?_; intro hfr; (first | (have hFRb : _ ≤ _ ∧ _ ≤ _ := And.intro hfr.1 hfr.2.1) | (have hFRb : _ ≤ _ := hfr.1) | skip); replace FR := Sm.mk (And.intro hfr FR.out); clear hfr; refine Sm.out ?_)
      | (refine Two.mk ?_ ?_)
      | (refine Cs.mk ?_; intro hcs; first | exact False.elim hcs | (exfalso; omega) | (refine Sm.out ?_))
      | go_step
      | omega
      | (simp only [maxLen_eq]; omega)
    (refine OutQ.all ?_ ?_; (focus (simp only [resv, ZK, look, loadv, loadn, loadnm, load1, load1m, hget, ↓reduceIte, Nat.reduceEqDiff, Nat.reduceAdd, Nat.reduceMul, Nat.reduceLeDiff, Nat.reduceLT, reduceCtorEq, TFSpK, w4])); (try simp only [resv, resA, Fn, ZK, look, loadv, loadn, loadnm, load1, load1m, hget, ↓reduceIte, Nat.reduceEqDiff, Nat.reduceAdd, Nat.reduceMul, Nat.reduceLeDiff, Nat.reduceLT, reduceCtorEq, TFSpK, w4]); (try simp [resA, Fn, look, w4]))
/-- what the law says of a right span and a unit -/
theorem rnd_law (n u : Nat) (hn : n ≤ 253402300799) (hu : 1 ≤ u) : (n % u = 0 ∧ rndN n u = n) ∨ (n % u ≠ 0 ∧ u > 253402300799 ∧ rndN n u = n) ∨
    (n % u ≠ 0 ∧ u ≤ 253402300799 ∧ n / u ≥ 253402300799 / u ∧ rndN n u = n) ∨ (n % u ≠ 0 ∧ u ≤ 253402300799 ∧ ¬ n / u ≥ 253402300799 / u ∧ rndN n u = (n / u + 1) * u ∧ (n / u + 1) * u ≤ 253402300799) := by
  unfold rndN
  by_cases h0 : n % u = 0
  · exact .inl ⟨h0, if_pos (.inl h0)⟩
  by_cases h1 : u > 253402300799
  · exact .inr (.inl ⟨h0, h1, if_pos (.inr (.inl h1))⟩)
  have hd := Nat.div_add_mod n u
  have hl := Nat.mod_lt n (show 0 < u by omega)
  have hD := Nat.div_add_mod 253402300799 u
  have hL := Nat.mod_lt 253402300799 (show 0 < u by omega)
  have e1 : n - n % u + u = (n / u + 1) * u := by rw [Nat.add_mul, Nat.one_mul, Nat.mul_comm]; omega
  by_cases h2 : n / u ≥ 253402300799 / u
  · refine .inr (.inr (.inl ⟨h0, by omega, h2, if_pos (.inr (.inr ?_))⟩))
    rw [e1]
    have : (253402300799 / u + 1) * u ≤ (n / u + 1) * u := Nat.mul_le_mul_right u (by omega)
    rw [Nat.add_mul, Nat.one_mul, Nat.mul_comm] at this
    omega
  · have h3 : (n / u + 1) * u ≤ 253402300799 := by
      have : (n / u + 1) * u ≤ (253402300799 / u) * u := Nat.mul_le_mul_right u (by omega)
      rw [Nat.mul_comm (253402300799 / u)] at this
      omega
    refine .inr (.inr (.inr ⟨h0, by omega, h2, ?_, h3⟩))
    rw [e1, if_neg (by omega)]
set_option maxHeartbeats 4000000 in
theorem rounds_law (n u r : Int) (n0 : Nat) (hn : -9223372036854775808 ≤ n ∧ n ≤ 9223372036854775807) (hu : -9223372036854775808 ≤ u ∧ u ≤ 9223372036854775807) (hr : -2147483648 ≤ r ∧ r ≤ 2147483647) :
    ACt Tryd.prog 6 [iv .i64 n, iv .i64 u, iv .i32 r] (GG n0) (fun r F' => r = bv true ∧ F' = GG n0) := by
  have cA := awake_ct n0
  have cU := unit_ct r
  have y2 : ∀ x : Int, (x == x) = true := fun x => beq_self_eq_true x
  have y3 : ∀ x : Int, (x != x) = false := fun x => by simp
  simp only [GG, p10] at cA ⊢
  obtain ⟨v, hv⟩ : ∃ v, v = unitV r := ⟨_, rfl⟩
  rw [← hv] at cU
  -- the rune
  obtain ⟨b1, b2, q1, q2, hb⟩ : ∃ b1 b2 : Bool, decide (r > 0) = b1 ∧ decide (r < 128) = b2 ∧ ((b1 = true ∧ b2 = true ∧ 0 < r ∧ r < 128) ∨ (b1 = false ∧ v = 0) ∨ (b1 = true ∧ b2 = false ∧ v = 0)) := by
    refine ⟨_, _, rfl, rfl, ?_⟩
    by_cases h1 : 0 < r
    · by_cases h2 : r < 128
      · exact .inl ⟨decide_eq_true h1, decide_eq_true h2, h1, h2⟩
      · exact .inr (.inr ⟨decide_eq_true h1, decide_eq_false h2, by rw [hv]; unfold unitV; rw [if_neg (by omega), if_neg (by omega), if_neg (by omega), if_neg (by omega), if_neg (by omega)]⟩)
    · exact .inr (.inl ⟨decide_eq_false h1, by rw [hv]; unfold unitV; rw [if_neg (by omega), if_neg (by omega), if_neg (by omega), if_neg (by omega), if_neg (by omega)]⟩)
  have cW : 0 < r ∧ r < 128 → ACt Tryd.prog 13 [iv .u8 r] [] (Fn (iv .i64 v)) := fun h => by rw [hv]; exact runit_ct r (by omega)
  have w8 : 0 < r ∧ r < 128 → IntKind.u8.wrap r = r := fun h => wrap_u8 (by omega) (by omega)
  -- the span
  by_cases hbad : rightS n = false ∨ u < 1
  · have cN := round_bad n u hbad
    obtain ⟨c1, c2, c3, p1, p2, p3, hc⟩ : ∃ c1 c2 c3 : Bool, decide (n < 0) = c1 ∧ decide (n > 253402300799) = c2 ∧ decide (u < 1) = c3 ∧ (c1 = true ∨ (c1 = false ∧ c2 = true) ∨ (c1 = false ∧ c2 = false ∧ c3 = true)) := by
      refine ⟨_, _, _, rfl, rfl, rfl, ?_⟩
      by_cases h1 : n < 0
      · exact .inl (decide_eq_true h1)
      · by_cases h2 : n > 253402300799
        · exact .inr (.inl ⟨decide_eq_false h1, decide_eq_true h2⟩)
        · refine .inr (.inr ⟨decide_eq_false h1, decide_eq_false h2, decide_eq_true ?_⟩)
          rcases hbad with h | h
          · rw [(rightS_iff n).2 ⟨by omega, by omega⟩] at h; cases h
          · exact h
    rcases hb with ⟨rfl, rfl, hr1⟩ | ⟨rfl, hv0⟩ | ⟨rfl, rfl, hv0⟩
    · have cW := cW hr1
      have w8 := w8 hr1
      rcases hc with rfl | ⟨rfl, rfl⟩ | ⟨rfl, rfl, rfl⟩
      all_goals
        refine ACt.intro Tryd.func6 rfl (by kernel_rfl) (by simp [Tryd.ntmps6]) (fun cx => ?_)
        simp only [argE, Tryd.ntmps6, Tryd.results6]
      all_goals (
          first | (have FRx := FR; clear FRx) | (have FR : Sm (¬ ((1 : Nat) = 0)) := Sm.mk Nat.one_ne_zero)
          repeat' first
            | (refine Sm.mk ?_; try simp -dsimp only [ZK, rvc, drawF, headN, pureH, stp, dvc, calleeOf, gcall, pev, eff, newB, okd, og, ogs, ogo, ogp, slv, bltv, opd, litv, strip, one, both, putE, St.put, look, gdOf, gdv, picka, pickv, pickw, binv, bini, bins, binb, binp, binq, isSlT, bina, shp, eqCells, unv, convv, nilv, faddv, addp, idxav, idxp, load1, load1m, loadn, loadnm, loadv, hget, hset, hrep, hdel, slicev, bnd, shift1, lenv, capv, IntKind.bits, extractv, fieldv, indexv, min2v, max2v, mkiv, cellsA, fillA, buildv, stC, oneC, rowMB, intsA, plN, appE, appZ, appC, appNZ, appNC, VwL, srcC, srcZ, srcM, isBoolT, isPtrT, isSliceT, uOk, Value.oneCell', Nat.reducePow, Int.reducePow, Nat.reduceAdd, Nat.reduceMul, Nat.reduceSub, Nat.reduceLT, Nat.reduceLeDiff, Nat.reduceEqDiff, Nat.reduceBEq, Nat.reduceDiv, Nat.reduceMod, ↓reduceIte, reduceCtorEq, Int.reduceToNat, Int.reduceLT, Int.reduceLE, TFSpK, SeqQ, BlkQ, LoopQ, BodyQ, y2, y3, q1, q2, p1, p2, p3, w8, FR.out])
            | (refine CallV.updM (cA) (perm1 (by simp only [hget, hdel, ↓reduceIte, FR.out, y2, y3, q1, q2, p1, p2, p3, w8]; first | done | rfl)) (Sm.out ?_))
            | ((first | refine ExF.up ?_ (cA) (Sm.out ?_) | refine ExG.up ?_ (fun _ => cA) (Sm.out ?_) | refine ExG.upJ ?_ (fun _ => cA) (Sm.out ?_) | refine ExG.upI ?_ (fun _ => cA) (Ob.out ?_) (Sm.out ?_)); focus (exact ⟨_, (perm1 (by simp only [hget, hdel, ↓reduceIte, FR.out, y2, y3, q1, q2, p1, p2, p3, w8]; first | done | rfl))⟩))
            | (first | refine CallV.fn (cU) (Sm.out ?_) | refine ExF.mk (cU) (Sm.out ?_) | refine ExG.mk (fun _ => cU) (Sm.out ?_) | refine ExG.mkJ (fun _ => cU) (Sm.out ?_) | refine ExG.mkI (Ob.out ?_) (fun _ => cU) (Sm.out ?_))
            | (first | refine CallV.fn (cW) (Sm.out ?_) | refine ExF.mk (cW) (Sm.out ?_) | refine ExG.mk (fun _ => cW) (Sm.out ?_) | refine ExG.mkJ (fun _ => cW) (Sm.out ?_) | refine ExG.mkI (Ob.out ?_) (fun _ => cW) (Sm.out ?_))
            | (first | refine CallV.fn (cN) (Sm.out ?_) | refine ExF.mk (cN) (Sm.out ?_) | refine ExG.mk (fun _ => cN) (Sm.out ?_) | refine ExG.mkJ (fun _ => cN) (Sm.out ?_) | refine ExG.mkI (Ob.out ?_) (fun _ => cN) (Sm.out ?_))
            | (refine WP.seq fun K hK => ?_)
            | (refine WP.region (rvc_sound _ _ (Sm.out ?_)))
            | (refine WP.drawK rfl mixed (by decide +kernel) (Sm.out ?_))
            | (refine Ob.mk ?_; focus (first | assumption | omega | decide | trivial | (intro hob; simp only [hob, ZF]; done) | (intros; (repeat' refine And.intro ?_ ?_) <;> first | assumption | omega | trivial | decide) | (intros; simp only [ZE] at *; (repeat' refine And.intro ?_ ?_) <;> first | assumption | omega | trivial)))
            | (refine And.intro (Ob.out ?_) ?_)
            | (refine WP.block ?_)
            | (refine WP.cond rfl (fun hc => ?_) (fun hc => ?_) <;> (try simp only [ZC, reduceCtorEq, ZD] at hc) <;> (try (exact absurd hc (by decide))) <;> (try (exfalso; omega)))
            | ((first | refine WP.skip ?_ | refine WP.exit ?_); simp only [SeqQ, BlkQ, LoopQ, BodyQ, ↓reduceIte, Nat.reduceEqDiff, reduceCtorEq, look, true_and])
            | (refine WP.ret (Sm.out ?_))
            | (first | refine ExG.no (Sm.out ?_) | refine Or.inl (ExG.no (Sm.out ?_)) | refine Or.inl (And.intro (fun hg => absurd hg (by decide)) (ExG.no (Sm.out ?_))))
            | (refine Rt.mk ?_; refine And.intro ?_ ?_ <;> (intro hg; first | exact absurd hg (by decide) | refine Sm.out ?_))
            | (refine Nu.mk ?_; first | (fail_if_success (have := nb1)); intro nb1 | (fail_if_success (have := nb2)); intro nb2 | (fail_if_success (have := nb3)); intro nb3 | (fail_if_success (have := nb4)); intro nb4 | intro nbz)
            | (refine Fr.mk ?_; intro hfr; (first | (have hFRb : _ ≤ _ ∧ _ ≤ _ := And.intro hfr.1 hfr.2.1) | (have hFRb : _ ≤ _ := hfr.1) | skip); replace FR := Sm.mk (And.intro hfr FR.out); clear hfr; refine Sm.out ?_)
            | (refine Two.mk ?_ ?_)
            | (refine Cs.mk ?_; intro hcs; first | exact False.elim hcs | (exfalso; omega) | (refine Sm.out ?_))
            | go_step
            | omega
            | (simp only [maxLen_eq]; omega))
      all_goals (refine OutQ.upd (by simp only [resv, ZK, look, loadv, loadn, loadnm, load1, load1m, hget, ↓reduceIte, Nat.reduceEqDiff, Nat.reduceAdd, Nat.reduceMul, Nat.reduceLeDiff, Nat.reduceLT, reduceCtorEq, TFSpK, FR.out]) (by simp only [resv, resA, ZK, look, loadv, loadn, loadnm, load1, load1m, hget, ↓reduceIte, Nat.reduceEqDiff, Nat.reduceAdd, Nat.reduceMul, Nat.reduceLeDiff, Nat.reduceLT, reduceCtorEq, TFSpK, FR.out]; first | done | rfl) (by simp only [hget, ↓reduceIte, if_true, if_false, FR.out]; first | done | rfl) ?_ <;> first | exact rfl | (simp only [ZK, look, loadv, loadn, loadnm, load1, load1m, hget, ↓reduceIte, Nat.reduceEqDiff, Nat.reduceAdd, Nat.reduceMul, Nat.reduceLeDiff, Nat.reduceLT, reduceCtorEq, TFSpK, FR.out]; done) | skip)
    all_goals
      subst hv0
      rcases hc with rfl | ⟨rfl, rfl⟩ | ⟨rfl, rfl, rfl⟩
    all_goals
      refine ACt.intro Tryd.func6 rfl (by kernel_rfl) (by simp [Tryd.ntmps6]) (fun cx => ?_)
      simp only [argE, Tryd.ntmps6, Tryd.results6]
    all_goals (
        first | (have FRx := FR; clear FRx) | (have FR : Sm (¬ ((1 : Nat) = 0)) := Sm.mk Nat.one_ne_zero)
        repeat' first
          | (refine Sm.mk ?_; try simp -dsimp only [ZK, rvc, drawF, headN, pureH, stp, dvc, calleeOf, gcall, pev, eff, newB, okd, og, ogs, ogo, ogp, slv, bltv, opd, litv, strip, one, both, putE, St.put, look, gdOf, gdv, picka, pickv, pickw, binv, bini, bins, binb, binp, binq, isSlT, bina, shp, eqCells, unv, convv, nilv, faddv, addp, idxav, idxp, load1, load1m, loadn, loadnm, loadv, hget, hset, hrep, hdel, slicev, bnd, shift1, lenv, capv, IntKind.bits, extractv, fieldv, indexv, min2v, max2v, mkiv, cellsA, fillA, buildv, stC, oneC, rowMB, intsA, plN, appE, appZ, appC, appNZ, appNC, VwL, srcC, srcZ, srcM, isBoolT, isPtrT, isSliceT, uOk, Value.oneCell', Nat.reducePow, Int.reducePow, Nat.reduceAdd, Nat.reduceMul, Nat.reduceSub, Nat.reduceLT, Nat.reduceLeDiff, Nat.reduceEqDiff, Nat.reduceBEq, Nat.reduceDiv, Nat.reduceMod, ↓reduceIte, reduceCtorEq, Int.reduceToNat, Int.reduceLT, Int.reduceLE, TFSpK, SeqQ, BlkQ, LoopQ, BodyQ, y2, y3, q1, q2, p1, p2, p3, FR.out])
          | (refine CallV.updM (cA) (perm1 (by simp only [hget, hdel, ↓reduceIte, FR.out, y2, y3, q1, q2, p1, p2, p3]; first | done | rfl)) (Sm.out ?_))
          | ((first | refine ExF.up ?_ (cA) (Sm.out ?_) | refine ExG.up ?_ (fun _ => cA) (Sm.out ?_) | refine ExG.upJ ?_ (fun _ => cA) (Sm.out ?_) | refine ExG.upI ?_ (fun _ => cA) (Ob.out ?_) (Sm.out ?_)); focus (exact ⟨_, (perm1 (by simp only [hget, hdel, ↓reduceIte, FR.out, y2, y3, q1, q2, p1, p2, p3]; first | done | rfl))⟩))
          | (first | refine CallV.fn (cU) (Sm.out ?_) | refine ExF.mk (cU) (Sm.out ?_) | refine ExG.mk (fun _ => cU) (Sm.out ?_) | refine ExG.mkJ (fun _ => cU) (Sm.out ?_) | refine ExG.mkI (Ob.out ?_) (fun _ => cU) (Sm.out ?_))
          | (first | refine CallV.fn (cN) (Sm.out ?_) | refine ExF.mk (cN) (Sm.out ?_) | refine ExG.mk (fun _ => cN) (Sm.out ?_) | refine ExG.mkJ (fun _ => cN) (Sm.out ?_) | refine ExG.mkI (Ob.out ?_) (fun _ => cN) (Sm.out ?_))
          | (refine WP.seq fun K hK => ?_)
          | (refine WP.region (rvc_sound _ _ (Sm.out ?_)))
          | (refine WP.drawK rfl mixed (by decide +kernel) (Sm.out ?_))
          | (refine Ob.mk ?_; focus (first | assumption | omega | decide | trivial | (intro hob; simp only [hob, ZF]; done) | (intros; (repeat' refine And.intro ?_ ?_) <;> first | assumption | omega | trivial | decide) | (intros; simp only [ZE] at *; (repeat' refine And.intro ?_ ?_) <;> first | assumption | omega | trivial)))
          | (refine And.intro (Ob.out ?_) ?_)
          | (refine WP.block ?_)
          | (refine WP.cond rfl (fun hc => ?_) (fun hc => ?_) <;> (try simp only [ZC, reduceCtorEq, ZD] at hc) <;> (try (exact absurd hc (by decide))) <;> (try (exfalso; omega)))
          | ((first | refine WP.skip ?_ | refine WP.exit ?_); simp only [SeqQ, BlkQ, LoopQ, BodyQ, ↓reduceIte, Nat.reduceEqDiff, reduceCtorEq, look, true_and])
          | (refine WP.ret (Sm.out ?_))
          | (first | refine ExG.no (Sm.out ?_) | refine Or.inl (ExG.no (Sm.out ?_)) | refine Or.inl (And.intro (fun hg => absurd hg (by decide)) (ExG.no (Sm.out ?_))))
          | (refine Rt.mk ?_; refine And.intro ?_ ?_ <;> (intro hg; first | exact absurd hg (by decide) | refine Sm.out ?_))
          | (refine Nu.mk ?_; first | (fail_if_success (have := nb1)); intro nb1 | (fail_if_success (have := nb2)); intro nb2 | (fail_if_success (have := nb3)); intro nb3 | (fail_if_success (have := nb4)); intro nb4 | intro nbz)
          | (refine Fr.mk ?_; intro hfr; (first | (have hFRb : _ ≤ _ ∧ _ ≤ _ := And.intro hfr.1 hfr.2.1) | (have hFRb : _ ≤ _ := hfr.1) | skip); replace FR := Sm.mk (And.intro hfr FR.out); clear hfr; refine Sm.out ?_)
          | (refine Two.mk ?_ ?_)
          | (refine Cs.mk ?_; intro hcs; first | exact False.elim hcs | (exfalso; omega) | (refine Sm.out ?_))
          | go_step
          | omega
          | (simp only [maxLen_eq]; omega))
    all_goals (refine OutQ.upd (by simp only [resv, ZK, look, loadv, loadn, loadnm, load1, load1m, hget, ↓reduceIte, Nat.reduceEqDiff, Nat.reduceAdd, Nat.reduceMul, Nat.reduceLeDiff, Nat.reduceLT, reduceCtorEq, TFSpK, FR.out]) (by simp only [resv, resA, ZK, look, loadv, loadn, loadnm, load1, load1m, hget, ↓reduceIte, Nat.reduceEqDiff, Nat.reduceAdd, Nat.reduceMul, Nat.reduceLeDiff, Nat.reduceLT, reduceCtorEq, TFSpK, FR.out]; first | done | rfl) (by simp only [hget, ↓reduceIte, if_true, if_false, FR.out]; first | done | rfl) ?_ <;> first | exact rfl | (simp only [ZK, look, loadv, loadn, loadnm, load1, load1m, hget, ↓reduceIte, Nat.reduceEqDiff, Nat.reduceAdd, Nat.reduceMul, Nat.reduceLeDiff, Nat.reduceLT, reduceCtorEq, TFSpK, FR.out]; done) | skip)
  · have hR : rightS n = true := by cases h : rightS n; exact absurd (.inl h) hbad; rfl
    have hU : 1 ≤ u := by by_cases h : u < 1; exact absurd (.inr h) hbad; omega
    obtain ⟨hn1, hn2⟩ := (rightS_iff n).1 hR
    obtain ⟨N, rfl⟩ := Int.eq_ofNat_of_zero_le hn1
    obtain ⟨M, rfl⟩ := Int.eq_ofNat_of_zero_le (show 0 ≤ u by omega)
    have cN := round_ct N M (by omega) (by omega) (by omega)
    have p1 : decide ((N : Int) < 0) = false := decide_eq_false (by omega)
    have p2 : decide ((N : Int) > 253402300799) = false := decide_eq_false (by omega)
    have p3 : decide ((M : Int) < 1) = false := decide_eq_false (by omega)
    have hu0 : ((M : Int) = 0) = False := eq_false (by omega)
    have hu1 : ((M : Int) == 0) = false := beq_eq_false_iff_ne.2 (by omega)
    have r1 : (N : Int).tdiv (M : Int) = ((N / M : Nat) : Int) := by rw [Int.tdiv_eq_ediv_of_nonneg (by omega)]; exact (Int.natCast_ediv N M).symm
    have r2 : (N : Int).tmod (M : Int) = ((N % M : Nat) : Int) := by rw [Int.tmod_eq_emod_of_nonneg (by omega)]; exact (Int.natCast_emod N M).symm
    have r3 : (253402300799 : Int).tdiv (M : Int) = ((253402300799 / M : Nat) : Int) := by rw [Int.tdiv_eq_ediv_of_nonneg (by omega)]; exact (Int.natCast_ediv 253402300799 M).symm
    have hlaw := rnd_law N M (by omega) (by omega)
    have d1 := Nat.div_le_self N M
    have d2 := Nat.div_le_self 253402300799 M
    have d3 := Nat.mod_le N M
    obtain ⟨R, hRn⟩ : ∃ R, R = rndN N M := ⟨_, rfl⟩
    rw [← hRn] at cN hlaw
    obtain ⟨q, hq⟩ : ∃ q, q = N / M := ⟨_, rfl⟩
    obtain ⟨Q, hQ⟩ : ∃ Q, Q = 253402300799 / M := ⟨_, rfl⟩
    obtain ⟨m, hm⟩ : ∃ m, m = N % M := ⟨_, rfl⟩
    rw [← hq] at r1 hlaw d1
    rw [← hQ] at r3 hlaw d2
    rw [← hm] at r2 hlaw d3
    have w1 : IntKind.i64.wrap (q : Int) = (q : Int) := wrap_i64 (by omega) (by omega)
    have w2 : IntKind.i64.wrap (m : Int) = (m : Int) := wrap_i64 (by omega) (by omega)
    have w3 : IntKind.i64.wrap (Q : Int) = (Q : Int) := wrap_i64 (by omega) (by omega)
    have hvv : (b1 = true ∧ b2 = true ∧ 0 < r ∧ r < 128) ∨ (b1 = false ∧ v = 0) ∨ (b1 = true ∧ b2 = false ∧ v = 0) := hb
    rcases hlaw with ⟨l1, l2⟩ | ⟨l1, l2, l3⟩ | ⟨l1, l2, l3, l4⟩ | ⟨l1, l2, l3, l4, l5⟩
    · have k1 : ((m : Int) == 0) = true := beq_iff_eq.2 (by omega)
      rw [l2] at cN
      rcases hb with ⟨rfl, rfl, hr1⟩ | ⟨rfl, hv0⟩ | ⟨rfl, rfl, hv0⟩
      · have cW := cW hr1
        have w8 := w8 hr1
        refine ACt.intro Tryd.func6 rfl (by kernel_rfl) (by simp [Tryd.ntmps6]) (fun cx => ?_)
        simp only [argE, Tryd.ntmps6, Tryd.results6]
        first | (have FRx := FR; clear FRx) | (have FR : Sm (¬ ((1 : Nat) = 0)) := Sm.mk Nat.one_ne_zero)
        repeat' first
          | (refine Sm.mk ?_; try simp -dsimp only [ZK, rvc, drawF, headN, pureH, stp, dvc, calleeOf, gcall, pev, eff, newB, okd, og, ogs, ogo, ogp, slv, bltv, opd, litv, strip, one, both, putE, St.put, look, gdOf, gdv, picka, pickv, pickw, binv, bini, bins, binb, binp, binq, isSlT, bina, shp, eqCells, unv, convv, nilv, faddv, addp, idxav, idxp, load1, load1m, loadn, loadnm, loadv, hget, hset, hrep, hdel, slicev, bnd, shift1, lenv, capv, IntKind.bits, extractv, fieldv, indexv, min2v, max2v, mkiv, cellsA, fillA, buildv, stC, oneC, rowMB, intsA, plN, appE, appZ, appC, appNZ, appNC, VwL, srcC, srcZ, srcM, isBoolT, isPtrT, isSliceT, uOk, Value.oneCell', Nat.reducePow, Int.reducePow, Nat.reduceAdd, Nat.reduceMul, Nat.reduceSub, Nat.reduceLT, Nat.reduceLeDiff, Nat.reduceEqDiff, Nat.reduceBEq, Nat.reduceDiv, Nat.reduceMod, ↓reduceIte, reduceCtorEq, Int.reduceToNat, Int.reduceLT, Int.reduceLE, TFSpK, SeqQ, BlkQ, LoopQ, BodyQ, y2, y3, q1, q2, p1, p2, p3, w8, hu0, hu1, r1, r2, r3, w1, w2, w3, k1, FR.out])
          | (refine CallV.updM (cA) (perm1 (by simp only [hget, hdel, ↓reduceIte, FR.out, y2, y3, q1, q2, p1, p2, p3, w8, hu0, hu1, r1, r2, r3, w1, w2, w3, k1]; first | done | rfl)) (Sm.out ?_))
          | ((first | refine ExF.up ?_ (cA) (Sm.out ?_) | refine ExG.up ?_ (fun _ => cA) (Sm.out ?_) | refine ExG.upJ ?_ (fun _ => cA) (Sm.out ?_) | refine ExG.upI ?_ (fun _ => cA) (Ob.out ?_) (Sm.out ?_)); focus (exact ⟨_, (perm1 (by simp only [hget, hdel, ↓reduceIte, FR.out, y2, y3, q1, q2, p1, p2, p3, w8, hu0, hu1, r1, r2, r3, w1, w2, w3, k1]; first | done | rfl))⟩))
          | (first | refine CallV.fn (cU) (Sm.out ?_) | refine ExF.mk (cU) (Sm.out ?_) | refine ExG.mk (fun _ => cU) (Sm.out ?_) | refine ExG.mkJ (fun _ => cU) (Sm.out ?_) | refine ExG.mkI (Ob.out ?_) (fun _ => cU) (Sm.out ?_))
          | (first | refine CallV.fn (cW) (Sm.out ?_) | refine ExF.mk (cW) (Sm.out ?_) | refine ExG.mk (fun _ => cW) (Sm.out ?_) | refine ExG.mkJ (fun _ => cW) (Sm.out ?_) | refine ExG.mkI (Ob.out ?_) (fun _ => cW) (Sm.out ?_))
          | (first | refine CallV.fn (cN) (Sm.out ?_) | refine ExF.mk (cN) (Sm.out ?_) | refine ExG.mk (fun _ => cN) (Sm.out ?_) | refine ExG.mkJ (fun _ => cN) (Sm.out ?_) | refine ExG.mkI (Ob.out ?_) (fun _ => cN) (Sm.out ?_))
          | (refine WP.seq fun K hK => ?_)
          | (refine WP.region (rvc_sound _ _ (Sm.out ?_)))
          | (refine WP.drawK rfl mixed (by decide +kernel) (Sm.out ?_))
          | (refine Ob.mk ?_; focus (first | assumption | omega | decide | trivial | (intro hob; simp only [hob, ZF]; done) | (intros; (repeat' refine And.intro ?_ ?_) <;> first | assumption | omega | trivial | decide) | (intros; simp only [ZE] at *; (repeat' refine And.intro ?_ ?_) <;> first | assumption | omega | trivial)))
          | (refine And.intro (Ob.out ?_) ?_)
          | (refine WP.block ?_)
          | (refine WP.cond rfl (fun hc => ?_) (fun hc => ?_) <;> (try simp only [ZC, reduceCtorEq, ZD] at hc) <;> (try (exact absurd hc (by decide))) <;> (try (exfalso; omega)))
          | ((first | refine WP.skip ?_ | refine WP.exit ?_); simp only [SeqQ, BlkQ, LoopQ, BodyQ, ↓reduceIte, Nat.reduceEqDiff, reduceCtorEq, look, true_and])
          | (refine WP.ret (Sm.out ?_))
          | (first | refine ExG.no (Sm.out ?_) | refine Or.inl (ExG.no (Sm.out ?_)) | refine Or.inl (And.intro (fun hg => absurd hg (by decide)) (ExG.no (Sm.out ?_))))
          | (refine Rt.mk ?_; refine And.intro ?_ ?_ <;> (intro hg; first | exact absurd hg (by decide) | refine Sm.out ?_))
          | (refine Nu.mk ?_; first | (fail_if_success (have := nb1)); intro nb1 | (fail_if_success (have := nb2)); intro nb2 | (fail_if_success (have := nb3)); intro nb3 | (fail_if_success (have := nb4)); intro nb4 | intro nbz)
          | (refine Fr.mk ?_; intro hfr; (first | (have hFRb : _ ≤ _ ∧ _ ≤ _ := And.intro hfr.1 hfr.2.1) | (have hFRb : _ ≤ _ := hfr.1) | skip); replace FR := Sm.mk (And.intro hfr FR.out); clear hfr; refine Sm.out ?_)
          | (refine Two.mk ?_ ?_)
          | (refine Cs.mk ?_; intro hcs; first | exact False.elim hcs | (exfalso; omega) | (refine Sm.out ?_))
          | go_step
          | omega
          | (simp only [maxLen_eq]; omega)
        (refine OutQ.upd (by simp only [resv, ZK, look, loadv, loadn, loadnm, load1, load1m, hget, ↓reduceIte, Nat.reduceEqDiff, Nat.reduceAdd, Nat.reduceMul, Nat.reduceLeDiff, Nat.reduceLT, reduceCtorEq, TFSpK, FR.out]) (by simp only [resv, resA, ZK, look, loadv, loadn, loadnm, load1, load1m, hget, ↓reduceIte, Nat.reduceEqDiff, Nat.reduceAdd, Nat.reduceMul, Nat.reduceLeDiff, Nat.reduceLT, reduceCtorEq, TFSpK, FR.out]; first | done | rfl) (by simp only [hget, ↓reduceIte, if_true, if_false, FR.out]; first | done | rfl) ?_ <;> first | exact rfl | (simp only [ZK, look, loadv, loadn, loadnm, load1, load1m, hget, ↓reduceIte, Nat.reduceEqDiff, Nat.reduceAdd, Nat.reduceMul, Nat.reduceLeDiff, Nat.reduceLT, reduceCtorEq, TFSpK, FR.out]; done) | skip)
      all_goals
        subst hv0
        refine ACt.intro Tryd.func6 rfl (by kernel_rfl) (by simp [Tryd.ntmps6]) (fun cx => ?_)
        simp only [argE, Tryd.ntmps6, Tryd.results6]
      all_goals (
          first | (have FRx := FR; clear FRx) | (have FR : Sm (¬ ((1 : Nat) = 0)) := Sm.mk Nat.one_ne_zero)
          repeat' first
            | (refine Sm.mk ?_; try simp -dsimp only [ZK, rvc, drawF, headN, pureH, stp, dvc, calleeOf, gcall, pev, eff, newB, okd, og, ogs, ogo, ogp, slv, bltv, opd, litv, strip, one, both, putE, St.put, look, gdOf, gdv, picka, pickv, pickw, binv, bini, bins, binb, binp, binq, isSlT, bina, shp, eqCells, unv, convv, nilv, faddv, addp, idxav, idxp, load1, load1m, loadn, loadnm, loadv, hget, hset, hrep, hdel, slicev, bnd, shift1, lenv, capv, IntKind.bits, extractv, fieldv, indexv, min2v, max2v, mkiv, cellsA, fillA, buildv, stC, oneC, rowMB, intsA, plN, appE, appZ, appC, appNZ, appNC, VwL, srcC, srcZ, srcM, isBoolT, isPtrT, isSliceT, uOk, Value.oneCell', Nat.reducePow, Int.reducePow, Nat.reduceAdd, Nat.reduceMul, Nat.reduceSub, Nat.reduceLT, Nat.reduceLeDiff, Nat.reduceEqDiff, Nat.reduceBEq, Nat.reduceDiv, Nat.reduceMod, ↓reduceIte, reduceCtorEq, Int.reduceToNat, Int.reduceLT, Int.reduceLE, TFSpK, SeqQ, BlkQ, LoopQ, BodyQ, y2, y3, q1, q2, p1, p2, p3, hu0, hu1, r1, r2, r3, w1, w2, w3, k1, FR.out])
            | (refine CallV.updM (cA) (perm1 (by simp only [hget, hdel, ↓reduceIte, FR.out, y2, y3, q1, q2, p1, p2, p3, hu0, hu1, r1, r2, r3, w1, w2, w3, k1]; first | done | rfl)) (Sm.out ?_))
            | ((first | refine ExF.up ?_ (cA) (Sm.out ?_) | refine ExG.up ?_ (fun _ => cA) (Sm.out ?_) | refine ExG.upJ ?_ (fun _ => cA) (Sm.out ?_) | refine ExG.upI ?_ (fun _ => cA) (Ob.out ?_) (Sm.out ?_)); focus (exact ⟨_, (perm1 (by simp only [hget, hdel, ↓reduceIte, FR.out, y2, y3, q1, q2, p1, p2, p3, hu0, hu1, r1, r2, r3, w1, w2, w3, k1]; first | done | rfl))⟩))
            | (first | refine CallV.fn (cU) (Sm.out ?_) | refine ExF.mk (cU) (Sm.out ?_) | refine ExG.mk (fun _ => cU) (Sm.out ?_) | refine ExG.mkJ (fun _ => cU) (Sm.out ?_) | refine ExG.mkI (Ob.out ?_) (fun _ => cU) (Sm.out ?_))
            | (first | refine CallV.fn (cN) (Sm.out ?_) | refine ExF.mk (cN) (Sm.out ?_) | refine ExG.mk (fun _ => cN) (Sm.out ?_) | refine ExG.mkJ (fun _ => cN) (Sm.out ?_) | refine ExG.mkI (Ob.out ?_) (fun _ => cN) (Sm.out ?_))
            | (refine WP.seq fun K hK => ?_)
            | (refine WP.region (rvc_sound _ _ (Sm.out ?_)))
            | (refine WP.drawK rfl mixed (by decide +kernel) (Sm.out ?_))
            | (refine Ob.mk ?_; focus (first | assumption | omega | decide | trivial | (intro hob; simp only [hob, ZF]; done) | (intros; (repeat' refine And.intro ?_ ?_) <;> first | assumption | omega | trivial | decide) | (intros; simp only [ZE] at *; (repeat' refine And.intro ?_ ?_) <;> first | assumption | omega | trivial)))
            | (refine And.intro (Ob.out ?_) ?_)
            | (refine WP.block ?_)
            | (refine WP.cond rfl (fun hc => ?_) (fun hc => ?_) <;> (try simp only [ZC, reduceCtorEq, ZD] at hc) <;> (try (exact absurd hc (by decide))) <;> (try (exfalso; omega)))
            | ((first | refine WP.skip ?_ | refine WP.exit ?_); simp only [SeqQ, BlkQ, LoopQ, BodyQ, ↓reduceIte, Nat.reduceEqDiff, reduceCtorEq, look, true_and])
            | (refine WP.ret (Sm.out ?_))
            | (first | refine ExG.no (Sm.out ?_) | refine Or.inl (ExG.no (Sm.out ?_)) | refine Or.inl (And.intro (fun hg => absurd hg (by decide)) (ExG.no (Sm.out ?_))))
            | (refine Rt.mk ?_; refine And.intro ?_ ?_ <;> (intro hg; first | exact absurd hg (by decide) | refine Sm.out ?_))
            | (refine Nu.mk ?_; first | (fail_if_success (have := nb1)); intro nb1 | (fail_if_success (have := nb2)); intro nb2 | (fail_if_success (have := nb3)); intro nb3 | (fail_if_success (have := nb4)); intro nb4 | intro nbz)
            | (refine Fr.mk ?_; intro hfr; (first | (have hFRb : _ ≤ _ ∧ _ ≤ _ := And.intro hfr.1 hfr.2.1) | (have hFRb : _ ≤ _ := hfr.1) | skip); replace FR := Sm.mk (And.intro hfr FR.out); clear hfr; refine Sm.out ?_)
            | (refine Two.mk ?_ ?_)
            | (refine Cs.mk ?_; intro hcs; first | exact False.elim hcs | (exfalso; omega) | (refine Sm.out ?_))
            | go_step
            | omega
            | (simp only [maxLen_eq]; omega))
      all_goals (refine OutQ.upd (by simp only [resv, ZK, look, loadv, loadn, loadnm, load1, load1m, hget, ↓reduceIte, Nat.reduceEqDiff, Nat.reduceAdd, Nat.reduceMul, Nat.reduceLeDiff, Nat.reduceLT, reduceCtorEq, TFSpK, FR.out]) (by simp only [resv, resA, ZK, look, loadv, loadn, loadnm, load1, load1m, hget, ↓reduceIte, Nat.reduceEqDiff, Nat.reduceAdd, Nat.reduceMul, Nat.reduceLeDiff, Nat.reduceLT, reduceCtorEq, TFSpK, FR.out]; first | done | rfl) (by simp only [hget, ↓reduceIte, if_true, if_false, FR.out]; first | done | rfl) ?_ <;> first | exact rfl | (simp only [ZK, look, loadv, loadn, loadnm, load1, load1m, hget, ↓reduceIte, Nat.reduceEqDiff, Nat.reduceAdd, Nat.reduceMul, Nat.reduceLeDiff, Nat.reduceLT, reduceCtorEq, TFSpK, FR.out]; done) | skip)
    · have k1 : ((m : Int) == 0) = false := beq_eq_false_iff_ne.2 (by omega)
      have k2 : decide ((M : Int) > 253402300799) = true := decide_eq_true (by omega)
      rw [l3] at cN
      rcases hb with ⟨rfl, rfl, hr1⟩ | ⟨rfl, hv0⟩ | ⟨rfl, rfl, hv0⟩
      · have cW := cW hr1
        have w8 := w8 hr1
        refine ACt.intro Tryd.func6 rfl (by kernel_rfl) (by simp [Tryd.ntmps6]) (fun cx => ?_)
        simp only [argE, Tryd.ntmps6, Tryd.results6]
        first | (have FRx := FR; clear FRx) | (have FR : Sm (¬ ((1 : Nat) = 0)) := Sm.mk Nat.one_ne_zero)
        repeat' first
          | (refine Sm.mk ?_; try simp -dsimp only [ZK, rvc, drawF, headN, pureH, stp, dvc, calleeOf, gcall, pev, eff, newB, okd, og, ogs, ogo, ogp, slv, bltv, opd, litv, strip, one, both, putE, St.put, look, gdOf, gdv, picka, pickv, pickw, binv, bini, bins, binb, binp, binq, isSlT, bina, shp, eqCells, unv, convv, nilv, faddv, addp, idxav, idxp, load1, load1m, loadn, loadnm, loadv, hget, hset, hrep, hdel, slicev, bnd, shift1, lenv, capv, IntKind.bits, extractv, fieldv, indexv, min2v, max2v, mkiv, cellsA, fillA, buildv, stC, oneC, rowMB, intsA, plN, appE, appZ, appC, appNZ, appNC, VwL, srcC, srcZ, srcM, isBoolT, isPtrT, isSliceT, uOk, Value.oneCell', Nat.reducePow, Int.reducePow, Nat.reduceAdd, Nat.reduceMul, Nat.reduceSub, Nat.reduceLT, Nat.reduceLeDiff, Nat.reduceEqDiff, Nat.reduceBEq, Nat.reduceDiv, Nat.reduceMod, ↓reduceIte, reduceCtorEq, Int.reduceToNat, Int.reduceLT, Int.reduceLE, TFSpK, SeqQ, BlkQ, LoopQ, BodyQ, y2, y3, q1, q2, p1, p2, p3, w8, hu0, hu1, r1, r2, r3, w1, w2, w3, k1, k2, FR.out])
          | (refine CallV.updM (cA) (perm1 (by simp only [hget, hdel, ↓reduceIte, FR.out, y2, y3, q1, q2, p1, p2, p3, w8, hu0, hu1, r1, r2, r3, w1, w2, w3, k1, k2]; first | done | rfl)) (Sm.out ?_))
          | ((first | refine ExF.up ?_ (cA) (Sm.out ?_) | refine ExG.up ?_ (fun _ => cA) (Sm.out ?_) | refine ExG.upJ ?_ (fun _ => cA) (Sm.out ?_) | refine ExG.upI ?_ (fun _ => cA) (Ob.out ?_) (Sm.out ?_)); focus (exact ⟨_, (perm1 (by simp only [hget, hdel, ↓reduceIte, FR.out, y2, y3, q1, q2, p1, p2, p3, w8, hu0, hu1, r1, r2, r3, w1, w2, w3, k1, k2]; first | done | rfl))⟩))
          | (first | refine CallV.fn (cU) (Sm.out ?_) | refine ExF.mk (cU) (Sm.out ?_) | refine ExG.mk (fun _ => cU) (Sm.out ?_) | refine ExG.mkJ (fun _ => cU) (Sm.out ?_) | refine ExG.mkI (Ob.out ?_) (fun _ => cU) (Sm.out ?_))
          | (first | refine CallV.fn (cW) (Sm.out ?_) | refine ExF.mk (cW) (Sm.out ?_) | refine ExG.mk (fun _ => cW) (Sm.out ?_) | refine ExG.mkJ (fun _ => cW) (Sm.out ?_) | refine ExG.mkI (Ob.out ?_) (fun _ => cW) (Sm.out ?_))
          | (first | refine CallV.fn (cN) (Sm.out ?_) | refine ExF.mk (cN) (Sm.out ?_) | refine ExG.mk (fun _ => cN) (Sm.out ?_) | refine ExG.mkJ (fun _ => cN) (Sm.out ?_) | refine ExG.mkI (Ob.out ?_) (fun _ => cN) (Sm.out ?_))
          | (refine WP.seq fun K hK => ?_)
          | (refine WP.region (rvc_sound _ _ (Sm.out ?_)))
          | (refine WP.drawK rfl mixed (by decide +kernel) (Sm.out ?_))
          | (refine Ob.mk ?_; focus (first | assumption | omega | decide | trivial | (intro hob; simp only [hob, ZF]; done) | (intros; (repeat' refine And.intro ?_ ?_) <;> first | assumption | omega | trivial | decide) | (intros; simp only [ZE] at *; (repeat' refine And.intro ?_ ?_) <;> first | assumption | omega | trivial)))
          | (refine And.intro (Ob.out ?_) ?_)
          | (refine WP.block ?_)
          | (refine WP.cond rfl (fun hc => ?_) (fun hc => ?_) <;> (try simp only [ZC, reduceCtorEq, ZD] at hc) <;> (try (exact absurd hc (by decide))) <;> (try (exfalso; omega)))
          | ((first | refine WP.skip ?_ | refine WP.exit ?_); simp only [SeqQ, BlkQ, LoopQ, BodyQ, ↓reduceIte, Nat.reduceEqDiff, reduceCtorEq, look, true_and])
          | (refine WP.ret (Sm.out ?_))
          | (first | refine ExG.no (Sm.out ?_) | refine Or.inl (ExG.no (Sm.out ?_)) | refine Or.inl (And.intro (fun hg => absurd hg (by decide)) (ExG.no (Sm.out ?_))))
          | (refine Rt.mk ?_; refine And.intro ?_ ?_ <;> (intro hg; first | exact absurd hg (by decide) | refine Sm.out ?_))
          | (refine Nu.mk ?_; first | (fail_if_success (have := nb1)); intro nb1 | (fail_if_success (have := nb2)); intro nb2 | (fail_if_success (have := nb3)); intro nb3 | (fail_if_success (have := nb4)); intro nb4 | intro nbz)
          | (refine Fr.mk ?_; intro hfr; (first | (have hFRb : _ ≤ _ ∧ _ ≤ _ := And.intro hfr.1 hfr.2.1) | (have hFRb : _ ≤ _ := hfr.1) | skip); replace FR := Sm.mk (And.intro hfr FR.out); clear hfr; refine Sm.out ?_)
          | (refine Two.mk ?_ ?_)
          | (refine Cs.mk ?_; intro hcs; first | exact False.elim hcs | (exfalso; omega) | (refine Sm.out ?_))
          | go_step
          | omega
          | (simp only [maxLen_eq]; omega)
        (refine OutQ.upd (by simp only [resv, ZK, look, loadv, loadn, loadnm, load1, load1m, hget, ↓reduceIte, Nat.reduceEqDiff, Nat.reduceAdd, Nat.reduceMul, Nat.reduceLeDiff, Nat.reduceLT, reduceCtorEq, TFSpK, FR.out]) (by simp only [resv, resA, ZK, look, loadv, loadn, loadnm, load1, load1m, hget, ↓reduceIte, Nat.reduceEqDiff, Nat.reduceAdd, Nat.reduceMul, Nat.reduceLeDiff, Nat.reduceLT, reduceCtorEq, TFSpK, FR.out]; first | done | rfl) (by simp only [hget, ↓reduceIte, if_true, if_false, FR.out]; first | done | rfl) ?_ <;> first | exact rfl | (simp only [ZK, look, loadv, loadn, loadnm, load1, load1m, hget, ↓reduceIte, Nat.reduceEqDiff, Nat.reduceAdd, Nat.reduceMul, Nat.reduceLeDiff, Nat.reduceLT, reduceCtorEq, TFSpK, FR.out]; done) | skip)
      all_goals
        subst hv0
        refine ACt.intro Tryd.func6 rfl (by kernel_rfl) (by simp [Tryd.ntmps6]) (fun cx => ?_)
        simp only [argE, Tryd.ntmps6, Tryd.results6]
      all_goals (
          first | (have FRx := FR; clear FRx) | (have FR : Sm (¬ ((1 : Nat) = 0)) := Sm.mk Nat.one_ne_zero)
          repeat' first
            | (refine Sm.mk ?_; try simp -dsimp only [ZK, rvc, drawF, headN, pureH, stp, dvc, calleeOf, gcall, pev, eff, newB, okd, og, ogs, ogo, ogp, slv, bltv, opd, litv, strip, one, both, putE, St.put, look, gdOf, gdv, picka, pickv, pickw, binv, bini, bins, binb, binp, binq, isSlT, bina, shp, eqCells, unv, convv, nilv, faddv, addp, idxav, idxp, load1, load1m, loadn, loadnm, loadv, hget, hset, hrep, hdel, slicev, bnd, shift1, lenv, capv, IntKind.bits, extractv, fieldv, indexv, min2v, max2v, mkiv, cellsA, fillA, buildv, stC, oneC, rowMB, intsA, plN, appE, appZ, appC, appNZ, appNC, VwL, srcC, srcZ, srcM, isBoolT, isPtrT, isSliceT, uOk, Value.oneCell', Nat.reducePow, Int.reducePow, Nat.reduceAdd, Nat.reduceMul, Nat.reduceSub, Nat.reduceLT, Nat.reduceLeDiff, Nat.reduceEqDiff, Nat.reduceBEq, Nat.reduceDiv, Nat.reduceMod, ↓reduceIte, reduceCtorEq, Int.reduceToNat, Int.reduceLT, Int.reduceLE, TFSpK, SeqQ, BlkQ, LoopQ, BodyQ, y2, y3, q1, q2, p1, p2, p3, hu0, hu1, r1, r2, r3, w1, w2, w3, k1, k2, FR.out])
            | (refine CallV.updM (cA) (perm1 (by simp only [hget, hdel, ↓reduceIte, FR.out, y2, y3, q1, q2, p1, p2, p3, hu0, hu1, r1, r2, r3, w1, w2, w3, k1, k2]; first | done | rfl)) (Sm.out ?_))
            | ((first | refine ExF.up ?_ (cA) (Sm.out ?_) | refine ExG.up ?_ (fun _ => cA) (Sm.out ?_) | refine ExG.upJ ?_ (fun _ => cA) (Sm.out ?_) | refine ExG.upI ?_ (fun _ => cA) (Ob.out ?_) (Sm.out ?_)); focus (exact ⟨_, (perm1 (by simp only [hget, hdel, ↓reduceIte, FR.out, y2, y3, q1, q2, p1, p2, p3, hu0, hu1, r1, r2, r3, w1, w2, w3, k1, k2]; first | done | rfl))⟩))
            | (first | refine CallV.fn (cU) (Sm.out ?_) | refine ExF.mk (cU) (Sm.out ?_) | refine ExG.mk (fun _ => cU) (Sm.out ?_) | refine ExG.mkJ (fun _ => cU) (Sm.out ?_) | refine ExG.mkI (Ob.out ?_) (fun _ => cU) (Sm.out ?_))
            | (first | refine CallV.fn (cN) (Sm.out ?_) | refine ExF.mk (cN) (Sm.out ?_) | refine ExG.mk (fun _ => cN) (Sm.out ?_) | refine ExG.mkJ (fun _ => cN) (Sm.out ?_) | refine ExG.mkI (Ob.out ?_) (fun _ => cN) (Sm.out ?_))
            | (refine WP.seq fun K hK => ?_)
            | (refine WP.region (rvc_sound _ _ (Sm.out ?_)))
            | (refine WP.drawK rfl mixed (by decide +kernel) (Sm.out ?_))
            | (refine Ob.mk ?_; focus (first | assumption | omega | decide | trivial | (intro hob; simp only [hob, ZF]; done) | (intros; (repeat' refine And.intro ?_ ?_) <;> first | assumption | omega | trivial | decide) | (intros; simp only [ZE] at *; (repeat' refine And.intro ?_ ?_) <;> first | assumption | omega | trivial)))
            | (refine And.intro (Ob.out ?_) ?_)
            | (refine WP.block ?_)
            | (refine WP.cond rfl (fun hc => ?_) (fun hc => ?_) <;> (try simp only [ZC, reduceCtorEq, ZD] at hc) <;> (try (exact absurd hc (by decide))) <;> (try (exfalso; omega)))
            | ((first | refine WP.skip ?_ | refine WP.exit ?_); simp only [SeqQ, BlkQ, LoopQ, BodyQ, ↓reduceIte, Nat.reduceEqDiff, reduceCtorEq, look, true_and])
            | (refine WP.ret (Sm.out ?_))
            | (first | refine ExG.no (Sm.out ?_) | refine Or.inl (ExG.no (Sm.out ?_)) | refine Or.inl (And.intro (fun hg => absurd hg (by decide)) (ExG.no (Sm.out ?_))))
            | (refine Rt.mk ?_; refine And.intro ?_ ?_ <;> (intro hg; first | exact absurd hg (by decide) | refine Sm.out ?_))
            | (refine Nu.mk ?_; first | (fail_if_success (have := nb1)); intro nb1 | (fail_if_success (have := nb2)); intro nb2 | (fail_if_success (have := nb3)); intro nb3 | (fail_if_success (have := nb4)); intro nb4 | intro nbz)
            | (refine Fr.mk ?_; intro hfr; (first | (have hFRb : _ ≤ _ ∧ _ ≤ _ := And.intro hfr.1 hfr.2.1) | (have hFRb : _ ≤ _ := hfr.1) | skip); replace FR := Sm.mk (And.intro hfr FR.out); clear hfr; refine Sm.out ?_)
            | (refine Two.mk ?_ ?_)
            | (refine Cs.mk ?_; intro hcs; first | exact False.elim hcs | (exfalso; omega) | (refine Sm.out ?_))
            | go_step
            | omega
            | (simp only [maxLen_eq]; omega))
      all_goals (refine OutQ.upd (by simp only [resv, ZK, look, loadv, loadn, loadnm, load1, load1m, hget, ↓reduceIte, Nat.reduceEqDiff, Nat.reduceAdd, Nat.reduceMul, Nat.reduceLeDiff, Nat.reduceLT, reduceCtorEq, TFSpK, FR.out]) (by simp only [resv, resA, ZK, look, loadv, loadn, loadnm, load1, load1m, hget, ↓reduceIte, Nat.reduceEqDiff, Nat.reduceAdd, Nat.reduceMul, Nat.reduceLeDiff, Nat.reduceLT, reduceCtorEq, TFSpK, FR.out]; first | done | rfl) (by simp only [hget, ↓reduceIte, if_true, if_false, FR.out]; first | done | rfl) ?_ <;> first | exact rfl | (simp only [ZK, look, loadv, loadn, loadnm, load1, load1m, hget, ↓reduceIte, Nat.reduceEqDiff, Nat.reduceAdd, Nat.reduceMul, Nat.reduceLeDiff, Nat.reduceLT, reduceCtorEq, TFSpK, FR.out]; done) | skip)
    · have k1 : ((m : Int) == 0) = false := beq_eq_false_iff_ne.2 (by omega)
      have k2 : decide ((M : Int) > 253402300799) = false := decide_eq_false (by omega)
      have k3 : decide ((q : Int) ≥ (Q : Int)) = true := decide_eq_true (by omega)
      rw [l4] at cN
      rcases hb with ⟨rfl, rfl, hr1⟩ | ⟨rfl, hv0⟩ | ⟨rfl, rfl, hv0⟩
      · have cW := cW hr1
        have w8 := w8 hr1
        refine ACt.intro Tryd.func6 rfl (by kernel_rfl) (by simp [Tryd.ntmps6]) (fun cx => ?_)
        simp only [argE, Tryd.ntmps6, Tryd.results6]
        first | (have FRx := FR; clear FRx) | (have FR : Sm (¬ ((1 : Nat) = 0)) := Sm.mk Nat.one_ne_zero)
        repeat' first
          | (refine Sm.mk ?_; try simp -dsimp only [ZK, rvc, drawF, headN, pureH, stp, dvc, calleeOf, gcall, pev, eff, newB, okd, og, ogs, ogo, ogp, slv, bltv, opd, litv, strip, one, both, putE, St.put, look, gdOf, gdv, picka, pickv, pickw, binv, bini, bins, binb, binp, binq, isSlT, bina, shp, eqCells, unv, convv, nilv, faddv, addp, idxav, idxp, load1, load1m, loadn, loadnm, loadv, hget, hset, hrep, hdel, slicev, bnd, shift1, lenv, capv, IntKind.bits, extractv, fieldv, indexv, min2v, max2v, mkiv, cellsA, fillA, buildv, stC, oneC, rowMB, intsA, plN, appE, appZ, appC, appNZ, appNC, VwL, srcC, srcZ, srcM, isBoolT, isPtrT, isSliceT, uOk, Value.oneCell', Nat.reducePow, Int.reducePow, Nat.reduceAdd, Nat.reduceMul, Nat.reduceSub, Nat.reduceLT, Nat.reduceLeDiff, Nat.reduceEqDiff, Nat.reduceBEq, Nat.reduceDiv, Nat.reduceMod, ↓reduceIte, reduceCtorEq, Int.reduceToNat, Int.reduceLT, Int.reduceLE, TFSpK, SeqQ, BlkQ, LoopQ, BodyQ, y2, y3, q1, q2, p1, p2, p3, w8, hu0, hu1, r1, r2, r3, w1, w2, w3, k1, k2, k3, FR.out])
          | (refine CallV.updM (cA) (perm1 (by simp only [hget, hdel, ↓reduceIte, FR.out, y2, y3, q1, q2, p1, p2, p3, w8, hu0, hu1, r1, r2, r3, w1, w2, w3, k1, k2, k3]; first | done | rfl)) (Sm.out ?_))
          | ((first | refine ExF.up ?_ (cA) (Sm.out ?_) | refine ExG.up ?_ (fun _ => cA) (Sm.out ?_) | refine ExG.upJ ?_ (fun _ => cA) (Sm.out ?_) | refine ExG.upI ?_ (fun _ => cA) (Ob.out ?_) (Sm.out ?_)); focus (exact ⟨_, (perm1 (by simp only [hget, hdel, ↓reduceIte, FR.out, y2, y3, q1, q2, p1, p2, p3, w8, hu0, hu1, r1, r2, r3, w1, w2, w3, k1, k2, k3]; first | done | rfl))⟩))
          | (first | refine CallV.fn (cU) (Sm.out ?_) | refine ExF.mk (cU) (Sm.out ?_) | refine ExG.mk (fun _ => cU) (Sm.out ?_) | refine ExG.mkJ (fun _ => cU) (Sm.out ?_) | refine ExG.mkI (Ob.out ?_) (fun _ => cU) (Sm.out ?_))
          | (first | refine CallV.fn (cW) (Sm.out ?_) | refine ExF.mk (cW) (Sm.out ?_) | refine ExG.mk (fun _ => cW) (Sm.out ?_) | refine ExG.mkJ (fun _ => cW) (Sm.out ?_) | refine ExG.mkI (Ob.out ?_) (fun _ => cW) (Sm.out ?_))
          | (first | refine CallV.fn (cN) (Sm.out ?_) | refine ExF.mk (cN) (Sm.out ?_) | refine ExG.mk (fun _ => cN) (Sm.out ?_) | refine ExG.mkJ (fun _ => cN) (Sm.out ?_) | refine ExG.mkI (Ob.out ?_) (fun _ => cN) (Sm.out ?_))
          | (refine WP.seq fun K hK => ?_)
          | (refine WP.region (rvc_sound _ _ (Sm.out ?_)))
          | (refine WP.drawK rfl mixed (by decide +kernel) (Sm.out ?_))
          | (refine Ob.mk ?_; focus (first | assumption | omega | decide | trivial | (intro hob; simp only [hob, ZF]; done) | (intros; (repeat' refine And.intro ?_ ?_) <;> first | assumption | omega | trivial | decide) | (intros; simp only [ZE] at *; (repeat' refine And.intro ?_ ?_) <;> first | assumption | omega | trivial)))
          | (refine And.intro (Ob.out ?_) ?_)
          | (refine WP.block ?_)
          | (refine WP.cond rfl (fun hc => ?_) (fun hc => ?_) <;> (try simp only [ZC, reduceCtorEq, ZD] at hc) <;> (try (exact absurd hc (by decide))) <;> (try (exfalso; omega)))
          | ((first | refine WP.skip ?_ | refine WP.exit ?_); simp only [SeqQ, BlkQ, LoopQ, BodyQ, ↓reduceIte, Nat.reduceEqDiff, reduceCtorEq, look, true_and])
          | (refine WP.ret (Sm.out ?_))
          | (first | refine ExG.no (Sm.out ?_) | refine Or.inl (ExG.no (Sm.out ?_)) | refine Or.inl (And.intro (fun hg => absurd hg (by decide)) (ExG.no (Sm.out ?_))))
          | (refine Rt.mk ?_; refine And.intro ?_ ?_ <;> (intro hg; first | exact absurd hg (by decide) | refine Sm.out ?_))
          | (refine Nu.mk ?_; first | (fail_if_success (have := nb1)); intro nb1 | (fail_if_success (have := nb2)); intro nb2 | (fail_if_success (have := nb3)); intro nb3 | (fail_if_success (have := nb4)); intro nb4 | intro nbz)
          | (refine Fr.mk ?_; intro hfr; (first | (have hFRb : _ ≤ _ ∧ _ ≤ _ := And.intro hfr.1 hfr.2.1) | (have hFRb : _ ≤ _ := hfr.1) | skip); replace FR := Sm.mk (And.intro hfr FR.out); clear hfr; refine Sm.out ?_)
          | (refine Two.mk ?_ ?_)
          | (refine Cs.mk ?_; intro hcs; first | exact False.elim hcs | (exfalso; omega) | (refine Sm.out ?_))
          | go_step
          | omega
          | (simp only [maxLen_eq]; omega)
        (refine OutQ.upd (by simp only [resv, ZK, look, loadv, loadn, loadnm, load1, load1m, hget, ↓reduceIte, Nat.reduceEqDiff, Nat.reduceAdd, Nat.reduceMul, Nat.reduceLeDiff, Nat.reduceLT, reduceCtorEq, TFSpK, FR.out]) (by simp only [resv, resA, ZK, look, loadv, loadn, loadnm, load1, load1m, hget, ↓reduceIte, Nat.reduceEqDiff, Nat.reduceAdd, Nat.reduceMul, Nat.reduceLeDiff, Nat.reduceLT, reduceCtorEq, TFSpK, FR.out]; first | done | rfl) (by simp only [hget, ↓reduceIte, if_true, if_false, FR.out]; first | done | rfl) ?_ <;> first | exact rfl | (simp only [ZK, look, loadv, loadn, loadnm, load1, load1m, hget, ↓reduceIte, Nat.reduceEqDiff, Nat.reduceAdd, Nat.reduceMul, Nat.reduceLeDiff, Nat.reduceLT, reduceCtorEq, TFSpK, FR.out]; done) | skip)
      all_goals
        subst hv0
        refine ACt.intro Tryd.func6 rfl (by kernel_rfl) (by simp [Tryd.ntmps6]) (fun cx => ?_)
        simp only [argE, Tryd.ntmps6, Tryd.results6]
      all_goals (
          first | (have FRx := FR; clear FRx) | (have FR : Sm (¬ ((1 : Nat) = 0)) := Sm.mk Nat.one_ne_zero)
          repeat' first
            | (refine Sm.mk ?_; try simp -dsimp only [ZK, rvc, drawF, headN, pureH, stp, dvc, calleeOf, gcall, pev, eff, newB, okd, og, ogs, ogo, ogp, slv, bltv, opd, litv, strip, one, both, putE, St.put, look, gdOf, gdv, picka, pickv, pickw, binv, bini, bins, binb, binp, binq, isSlT, bina, shp, eqCells, unv, convv, nilv, faddv, addp, idxav, idxp, load1, load1m, loadn, loadnm, loadv, hget, hset, hrep, hdel, slicev, bnd, shift1, lenv, capv, IntKind.bits, extractv, fieldv, indexv, min2v, max2v, mkiv, cellsA, fillA, buildv, stC, oneC, rowMB, intsA, plN, appE, appZ, appC, appNZ, appNC, VwL, srcC, srcZ, srcM, isBoolT, isPtrT, isSliceT, uOk, Value.oneCell', Nat.reducePow, Int.reducePow, Nat.reduceAdd, Nat.reduceMul, Nat.reduceSub, Nat.reduceLT, Nat.reduceLeDiff, Nat.reduceEqDiff, Nat.reduceBEq, Nat.reduceDiv, Nat.reduceMod, ↓reduceIte, reduceCtorEq, Int.reduceToNat, Int.reduceLT, Int.reduceLE, TFSpK, SeqQ, BlkQ, LoopQ, BodyQ, y2, y3, q1, q2, p1, p2, p3, hu0, hu1, r1, r2, r3, w1, w2, w3, k1, k2, k3, FR.out])
            | (refine CallV.updM (cA) (perm1 (by simp only [hget, hdel, ↓reduceIte, FR.out, y2, y3, q1, q2, p1, p2, p3, hu0, hu1, r1, r2, r3, w1, w2, w3, k1, k2, k3]; first | done | rfl)) (Sm.out ?_))
            | ((first | refine ExF.up ?_ (cA) (Sm.out ?_) | refine ExG.up ?_ (fun _ => cA) (Sm.out ?_) | refine ExG.upJ ?_ (fun _ => cA) (Sm.out ?_) | refine ExG.upI ?_ (fun _ => cA) (Ob.out ?_) (Sm.out ?_)); focus (exact ⟨_, (perm1 (by simp only [hget, hdel, ↓reduceIte, FR.out, y2, y3, q1, q2, p1, p2, p3, hu0, hu1, r1, r2, r3, w1, w2, w3, k1, k2, k3]; first | done | rfl))⟩))
            | (first | refine CallV.fn (cU) (Sm.out ?_) | refine ExF.mk (cU) (Sm.out ?_) | refine ExG.mk (fun _ => cU) (Sm.out ?_) | refine ExG.mkJ (fun _ => cU) (Sm.out ?_) | refine ExG.mkI (Ob.out ?_) (fun _ => cU) (Sm.out ?_))
            | (first | refine CallV.fn (cN) (Sm.out ?_) | refine ExF.mk (cN) (Sm.out ?_) | refine ExG.mk (fun _ => cN) (Sm.out ?_) | refine ExG.mkJ (fun _ => cN) (Sm.out ?_) | refine ExG.mkI (Ob.out ?_) (fun _ => cN) (Sm.out ?_))
            | (refine WP.seq fun K hK => ?_)
            | (refine WP.region (rvc_sound _ _ (Sm.out ?_)))
            | (refine WP.drawK rfl mixed (by decide +kernel) (Sm.out ?_))
            | (refine Ob.mk ?_; focus (first | assumption | omega | decide | trivial | (intro hob; simp only [hob, ZF]; done) | (intros; (repeat' refine And.intro ?_ ?_) <;> first | assumption | omega | trivial | decide) | (intros; simp only [ZE] at *; (repeat' refine And.intro ?_ ?_) <;> first | assumption | omega | trivial)))
            | (refine And.intro (Ob.out ?_) ?_)
            | (refine WP.block ?_)
            | (refine WP.cond rfl (fun hc => ?_) (fun hc => ?_) <;> (try simp only [ZC, reduceCtorEq, ZD] at hc) <;> (try (exact absurd hc (by decide))) <;> (try (exfalso; omega)))
            | ((first | refine WP.skip ?_ | refine WP.exit ?_); simp only [SeqQ, BlkQ, LoopQ, BodyQ, ↓reduceIte, Nat.reduceEqDiff, reduceCtorEq, look, true_and])
            | (refine WP.ret (Sm.out ?_))
            | (first | refine ExG.no (Sm.out ?_) | refine Or.inl (ExG.no (Sm.out ?_)) | refine Or.inl (And.intro (fun hg => absurd hg (by decide)) (ExG.no (Sm.out ?_))))
            | (refine Rt.mk ?_; refine And.intro ?_ ?_ <;> (intro hg; first | exact absurd hg (by decide) | refine Sm.out ?_))
            | (refine Nu.mk ?_; first | (fail_if_success (have := nb1)); intro nb1 | (fail_if_success (have := nb2)); intro nb2 | (fail_if_success (have := nb3)); intro nb3 | (fail_if_success (have := nb4)); intro nb4 | intro nbz)
            | (refine Fr.mk ?_; intro hfr; (first | (have hFRb : _ ≤ _ ∧ _ ≤ _ := And.intro hfr.1 hfr.2.1) | (have hFRb : _ ≤ _ := hfr.1) | skip); replace FR := Sm.mk (And.intro hfr FR.out); clear hfr; refine Sm.out ?_)
            | (refine Two.mk ?_ ?_)
            | (refine Cs.mk ?_; intro hcs; first | exact False.elim hcs | (exfalso; omega) | (refine Sm.out ?_))
            | go_step
            | omega
            | (simp only [maxLen_eq]; omega))
      all_goals (refine OutQ.upd (by simp only [resv, ZK, look, loadv, loadn, loadnm, load1, load1m, hget, ↓reduceIte, Nat.reduceEqDiff, Nat.reduceAdd, Nat.reduceMul, Nat.reduceLeDiff, Nat.reduceLT, reduceCtorEq, TFSpK, FR.out]) (by simp only [resv, resA, ZK, look, loadv, loadn, loadnm, load1, load1m, hget, ↓reduceIte, Nat.reduceEqDiff, Nat.reduceAdd, Nat.reduceMul, Nat.reduceLeDiff, Nat.reduceLT, reduceCtorEq, TFSpK, FR.out]; first | done | rfl) (by simp only [hget, ↓reduceIte, if_true, if_false, FR.out]; first | done | rfl) ?_ <;> first | exact rfl | (simp only [ZK, look, loadv, loadn, loadnm, load1, load1m, hget, ↓reduceIte, Nat.reduceEqDiff, Nat.reduceAdd, Nat.reduceMul, Nat.reduceLeDiff, Nat.reduceLT, reduceCtorEq, TFSpK, FR.out]; done) | skip)
    · have k1 : ((m : Int) == 0) = false := beq_eq_false_iff_ne.2 (by omega)
      have k2 : decide ((M : Int) > 253402300799) = false := decide_eq_false (by omega)
      have k3 : decide ((q : Int) ≥ (Q : Int)) = false := decide_eq_false (by omega)
      have v1 : IntKind.i64.wrap ((q : Int) + 1) = ((q + 1 : Nat) : Int) := by rw [wrap_i64 (by omega) (by omega)]; omega
      have v2 : IntKind.i64.wrap (((q + 1 : Nat) : Int) * (M : Int)) = (R : Int) := by
        have : ((q + 1 : Nat) : Int) * (M : Int) = (((q + 1) * M : Nat) : Int) := (Int.natCast_mul _ _).symm
        rw [this, l4, wrap_i64 (by omega) (by omega)]
      rcases hb with ⟨rfl, rfl, hr1⟩ | ⟨rfl, hv0⟩ | ⟨rfl, rfl, hv0⟩
      · have cW := cW hr1
        have w8 := w8 hr1
        refine ACt.intro Tryd.func6 rfl (by kernel_rfl) (by simp [Tryd.ntmps6]) (fun cx => ?_)
        simp only [argE, Tryd.ntmps6, Tryd.results6]
        first | (have FRx := FR; clear FRx) | (have FR : Sm (¬ ((1 : Nat) = 0)) := Sm.mk Nat.one_ne_zero)
        repeat' first
          | (refine Sm.mk ?_; try simp -dsimp only [ZK, rvc, drawF, headN, pureH, stp, dvc, calleeOf, gcall, pev, eff, newB, okd, og, ogs, ogo, ogp, slv, bltv, opd, litv, strip, one, both, putE, St.put, look, gdOf, gdv, picka, pickv, pickw, binv, bini, bins, binb, binp, binq, isSlT, bina, shp, eqCells, unv, convv, nilv, faddv, addp, idxav, idxp, load1, load1m, loadn, loadnm, loadv, hget, hset, hrep, hdel, slicev, bnd, shift1, lenv, capv, IntKind.bits, extractv, fieldv, indexv, min2v, max2v, mkiv, cellsA, fillA, buildv, stC, oneC, rowMB, intsA, plN, appE, appZ, appC, appNZ, appNC, VwL, srcC, srcZ, srcM, isBoolT, isPtrT, isSliceT, uOk, Value.oneCell', Nat.reducePow, Int.reducePow, Nat.reduceAdd, Nat.reduceMul, Nat.reduceSub, Nat.reduceLT, Nat.reduceLeDiff, Nat.reduceEqDiff, Nat.reduceBEq, Nat.reduceDiv, Nat.reduceMod, ↓reduceIte, reduceCtorEq, Int.reduceToNat, Int.reduceLT, Int.reduceLE, TFSpK, SeqQ, BlkQ, LoopQ, BodyQ, y2, y3, q1, q2, p1, p2, p3, w8, hu0, hu1, r1, r2, r3, w1, w2, w3, k1, k2, k3, v1, v2, FR.out])
          | (refine CallV.updM (cA) (perm1 (by simp only [hget, hdel, ↓reduceIte, FR.out, y2, y3, q1, q2, p1, p2, p3, w8, hu0, hu1, r1, r2, r3, w1, w2, w3, k1, k2, k3, v1, v2]; first | done | rfl)) (Sm.out ?_))
          | ((first | refine ExF.up ?_ (cA) (Sm.out ?_) | refine ExG.up ?_ (fun _ => cA) (Sm.out ?_) | refine ExG.upJ ?_ (fun _ => cA) (Sm.out ?_) | refine ExG.upI ?_ (fun _ => cA) (Ob.out ?_) (Sm.out ?_)); focus (exact ⟨_, (perm1 (by simp only [hget, hdel, ↓reduceIte, FR.out, y2, y3, q1, q2, p1, p2, p3, w8, hu0, hu1, r1, r2, r3, w1, w2, w3, k1, k2, k3, v1, v2]; first | done | rfl))⟩))
          | (first | refine CallV.fn (cU) (Sm.out ?_) | refine ExF.mk (cU) (Sm.out ?_) | refine ExG.mk (fun _ => cU) (Sm.out ?_) | refine ExG.mkJ (fun _ => cU) (Sm.out ?_) | refine ExG.mkI (Ob.out ?_) (fun _ => cU) (Sm.out ?_))
          | (first | refine CallV.fn (cW) (Sm.out ?_) | refine ExF.mk (cW) (Sm.out ?_) | refine ExG.mk (fun _ => cW) (Sm.out ?_) | refine ExG.mkJ (fun _ => cW) (Sm.out ?_) | refine ExG.mkI (Ob.out ?_) (fun _ => cW) (Sm.out ?_))
          | (first | refine CallV.fn (cN) (Sm.out ?_) | refine ExF.mk (cN) (Sm.out ?_) | refine ExG.mk (fun _ => cN) (Sm.out ?_) | refine ExG.mkJ (fun _ => cN) (Sm.out ?_) | refine ExG.mkI (Ob.out ?_) (fun _ => cN) (Sm.out ?_))
          | (refine WP.seq fun K hK => ?_)
          | (refine WP.region (rvc_sound _ _ (Sm.out ?_)))
          | (refine WP.drawK rfl mixed (by decide +kernel) (Sm.out ?_))
          | (refine Ob.mk ?_; focus (first | assumption | omega | decide | trivial | (intro hob; simp only [hob, ZF]; done) | (intros; (repeat' refine And.intro ?_ ?_) <;> first | assumption | omega | trivial | decide) | (intros; simp only [ZE] at *; (repeat' refine And.intro ?_ ?_) <;> first | assumption | omega | trivial)))
          | (refine And.intro (Ob.out ?_) ?_)
          | (refine WP.block ?_)
          | (refine WP.cond rfl (fun hc => ?_) (fun hc => ?_) <;> (try simp only [ZC, reduceCtorEq, ZD] at hc) <;> (try (exact absurd hc (by decide))) <;> (try (exfalso; omega)))
          | ((first | refine WP.skip ?_ | refine WP.exit ?_); simp only [SeqQ, BlkQ, LoopQ, BodyQ, ↓reduceIte, Nat.reduceEqDiff, reduceCtorEq, look, true_and])
          | (refine WP.ret (Sm.out ?_))
          | (first | refine ExG.no (Sm.out ?_) | refine Or.inl (ExG.no (Sm.out ?_)) | refine Or.inl (And.intro (fun hg => absurd hg (by decide)) (ExG.no (Sm.out ?_))))
          | (refine Rt.mk ?_; refine And.intro ?_ ?_ <;> (intro hg; first | exact absurd hg (by decide) | refine Sm.out ?_))
          | (refine Nu.mk ?_; first | (fail_if_success (have := nb1)); intro nb1 | (fail_if_success (have := nb2)); intro nb2 | (fail_if_success (have := nb3)); intro nb3 | (fail_if_success (have := nb4)); intro nb4 | intro nbz)
          | (refine Fr.mk ?_; intro hfr; (first | (have hFRb : _ ≤ _ ∧ _ ≤ _ := And.intro hfr.1 hfr.2.1) | (have hFRb : _ ≤ _ := hfr.1) | skip); replace FR := Sm.mk (And.intro hfr FR.out); clear hfr; refine Sm.out ?_)
          | (refine Two.mk ?_ ?_)
          | (refine Cs.mk ?_; intro hcs; first | exact False.elim hcs | (exfalso; omega) | (refine Sm.out ?_))
          | go_step
          | omega
          | (simp only [maxLen_eq]; omega)
        (refine OutQ.upd (by simp only [resv, ZK, look, loadv, loadn, loadnm, load1, load1m, hget, ↓reduceIte, Nat.reduceEqDiff, Nat.reduceAdd, Nat.reduceMul, Nat.reduceLeDiff, Nat.reduceLT, reduceCtorEq, TFSpK, FR.out]) (by simp only [resv, resA, ZK, look, loadv, loadn, loadnm, load1, load1m, hget, ↓reduceIte, Nat.reduceEqDiff, Nat.reduceAdd, Nat.reduceMul, Nat.reduceLeDiff, Nat.reduceLT, reduceCtorEq, TFSpK, FR.out]; first | done | rfl) (by simp only [hget, ↓reduceIte, if_true, if_false, FR.out]; first | done | rfl) ?_ <;> first | exact rfl | (simp only [ZK, look, loadv, loadn, loadnm, load1, load1m, hget, ↓reduceIte, Nat.reduceEqDiff, Nat.reduceAdd, Nat.reduceMul, Nat.reduceLeDiff, Nat.reduceLT, reduceCtorEq, TFSpK, FR.out]; done) | skip)
      all_goals
        subst hv0
        refine ACt.intro Tryd.func6 rfl (by kernel_rfl) (by simp [Tryd.ntmps6]) (fun cx => ?_)
        simp only [argE, Tryd.ntmps6, Tryd.results6]
      all_goals (
          first | (have FRx := FR; clear FRx) | (have FR : Sm (¬ ((1 : Nat) = 0)) := Sm.mk Nat.one_ne_zero)
          repeat' first
            | (refine Sm.mk ?_; try simp -dsimp only [ZK, rvc, drawF, headN, pureH, stp, dvc, calleeOf, gcall, pev, eff, newB, okd, og, ogs, ogo, ogp, slv, bltv, opd, litv, strip, one, both, putE, St.put, look, gdOf, gdv, picka, pickv, pickw, binv, bini, bins, binb, binp, binq, isSlT, bina, shp, eqCells, unv, convv, nilv, faddv, addp, idxav, idxp, load1, load1m, loadn, loadnm, loadv, hget, hset, hrep, hdel, slicev, bnd, shift1, lenv, capv, IntKind.bits, extractv, fieldv, indexv, min2v, max2v, mkiv, cellsA, fillA, buildv, stC, oneC, rowMB, intsA, plN, appE, appZ, appC, appNZ, appNC, VwL, srcC, srcZ, srcM, isBoolT, isPtrT, isSliceT, uOk, Value.oneCell', Nat.reducePow, Int.reducePow, Nat.reduceAdd, Nat.reduceMul, Nat.reduceSub, Nat.reduceLT, Nat.reduceLeDiff, Nat.reduceEqDiff, Nat.reduceBEq, Nat.reduceDiv, Nat.reduceMod, ↓reduceIte, reduceCtorEq, Int.reduceToNat, Int.reduceLT, Int.reduceLE, TFSpK, SeqQ, BlkQ, LoopQ, BodyQ, y2, y3, q1, q2, p1, p2, p3, hu0, hu1, r1, r2, r3, w1, w2, w3, k1, k2, k3, v1, v2, FR.out])
            | (refine CallV.updM (cA) (perm1 (by simp only [hget, hdel, ↓reduceIte, FR.out, y2, y3, q1, q2, p1, p2, p3, hu0, hu1, r1, r2, r3, w1, w2, w3, k1, k2, k3, v1, v2]; first | done | rfl)) (Sm.out ?_))
            | ((first | refine ExF.up ?_ (cA) (Sm.out ?_) | refine ExG.up ?_ (fun _ => cA) (Sm.out ?_) | refine ExG.upJ ?_ (fun _ => cA) (Sm.out ?_) | refine ExG.upI ?_ (fun _ => cA) (Ob.out ?_) (Sm.out ?_)); focus (exact ⟨_, (perm1 (by simp only [hget, hdel, ↓reduceIte, FR.out, y2, y3, q1, q2, p1, p2, p3, hu0, hu1, r1, r2, r3, w1, w2, w3, k1, k2, k3, v1, v2]; first | done | rfl))⟩))
            | (first | refine CallV.fn (cU) (Sm.out ?_) | refine ExF.mk (cU) (Sm.out ?_) | refine ExG.mk (fun _ => cU) (Sm.out ?_) | refine ExG.mkJ (fun _ => cU) (Sm.out ?_) | refine ExG.mkI (Ob.out ?_) (fun _ => cU) (Sm.out ?_))
            | (first | refine CallV.fn (cN) (Sm.out ?_) | refine ExF.mk (cN) (Sm.out ?_) | refine ExG.mk (fun _ => cN) (Sm.out ?_) | refine ExG.mkJ (fun _ => cN) (Sm.out ?_) | refine ExG.mkI (Ob.out ?_) (fun _ => cN) (Sm.out ?_))
            | (refine WP.seq fun K hK => ?_)
            | (refine WP.region (rvc_sound _ _ (Sm.out ?_)))
            | (refine WP.drawK rfl mixed (by decide +kernel) (Sm.out ?_))
            | (refine Ob.mk ?_; focus (first | assumption | omega | decide | trivial | (intro hob; simp only [hob, ZF]; done) | (intros; (repeat' refine And.intro ?_ ?_) <;> first | assumption | omega | trivial | decide) | (intros; simp only [ZE] at *; (repeat' refine And.intro ?_ ?_) <;> first | assumption | omega | trivial)))
            | (refine And.intro (Ob.out ?_) ?_)
            | (refine WP.block ?_)
            | (refine WP.cond rfl (fun hc => ?_) (fun hc => ?_) <;> (try simp only [ZC, reduceCtorEq, ZD] at hc) <;> (try (exact absurd hc (by decide))) <;> (try (exfalso; omega)))
            | ((first | refine WP.skip ?_ | refine WP.exit ?_); simp only [SeqQ, BlkQ, LoopQ, BodyQ, ↓reduceIte, Nat.reduceEqDiff, reduceCtorEq, look, true_and])
            | (refine WP.ret (Sm.out ?_))
            | (first | refine ExG.no (Sm.out ?_) | refine Or.inl (ExG.no (Sm.out ?_)) | refine Or.inl (And.intro (fun hg => absurd hg (by decide)) (ExG.no (Sm.out ?_))))
            | (refine Rt.mk ?_; refine And.intro ?_ ?_ <;> (intro hg; first | exact absurd hg (by decide) | refine Sm.out ?_))
            | (refine Nu.mk ?_; first | (fail_if_success (have := nb1)); intro nb1 | (fail_if_success (have := nb2)); intro nb2 | (fail_if_success (have := nb3)); intro nb3 | (fail_if_success (have := nb4)); intro nb4 | intro nbz)
            | (refine Fr.mk ?_; intro hfr; (first | (have hFRb : _ ≤ _ ∧ _ ≤ _ := And.intro hfr.1 hfr.2.1) | (have hFRb : _ ≤ _ := hfr.1) | skip); replace FR := Sm.mk (And.intro hfr FR.out); clear hfr; refine Sm.out ?_)
            | (refine Two.mk ?_ ?_)
            | (refine Cs.mk ?_; intro hcs; first | exact False.elim hcs | (exfalso; omega) | (refine Sm.out ?_))
            | go_step
            | omega
            | (simp only [maxLen_eq]; omega))
      all_goals (refine OutQ.upd (by simp only [resv, ZK, look, loadv, loadn, loadnm, load1, load1m, hget, ↓reduceIte, Nat.reduceEqDiff, Nat.reduceAdd, Nat.reduceMul, Nat.reduceLeDiff, Nat.reduceLT, reduceCtorEq, TFSpK, FR.out]) (by simp only [resv, resA, ZK, look, loadv, loadn, loadnm, load1, load1m, hget, ↓reduceIte, Nat.reduceEqDiff, Nat.reduceAdd, Nat.reduceMul, Nat.reduceLeDiff, Nat.reduceLT, reduceCtorEq, TFSpK, FR.out]; first | done | rfl) (by simp only [hget, ↓reduceIte, if_true, if_false, FR.out]; first | done | rfl) ?_ <;> first | exact rfl | (simp only [ZK, look, loadv, loadn, loadnm, load1, load1m, hget, ↓reduceIte, Nat.reduceEqDiff, Nat.reduceAdd, Nat.reduceMul, Nat.reduceLeDiff, Nat.reduceLT, reduceCtorEq, TFSpK, FR.out]; done) | skip)
end Go.Proofs.YtdfkpnkohikcgaaDoor
