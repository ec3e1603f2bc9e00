/-
  The walks and the laws that the statement leans on, part 8.
-/
import Derived.Test.YtngdgicgppaeaaaZ7
namespace Go.Proofs.Ytngdgicgppaeaaa
open Go
set_option linter.unusedVariables false
set_option linter.unusedSimpArgs false
theorem TFExP : (((((type_of% tyc0) ∧ (type_of% tyc3)) ∧ ((type_of% zmb3) ∧ (type_of% tyc4))) ∧ (((type_of% zmb4) ∧ (type_of% tyc37)) ∧ ((type_of% elt37) ∧ (type_of% mkz37)))) ∧ ((((type_of% mkc37) ∧ (type_of% apT37)) ∧ ((type_of% elk37) ∧ (type_of% zmb37))) ∧ (((type_of% Try.underlying0) ∧ (type_of% Try.underlying3)) ∧ ((type_of% Try.underlying4) ∧ (type_of% Try.underlying37))))) :=
  ⟨⟨⟨⟨tyc0, tyc3⟩, ⟨zmb3, tyc4⟩⟩, ⟨⟨zmb4, tyc37⟩, ⟨elt37, mkz37⟩⟩⟩, ⟨⟨⟨mkc37, apT37⟩, ⟨elk37, zmb37⟩⟩, ⟨⟨Try.underlying0, Try.underlying3⟩, ⟨Try.underlying4, Try.underlying37⟩⟩⟩⟩
/-- quotient and rest behind so many of the highest bits -/
def divS (a n : List Bool) : Nat → List Bool × List Bool
  | 0 => (List.replicate a.length false, [])
  | j + 1 => if valB n ≤ valB (a.getD (a.length - (j + 1)) false :: (divS a n j).2) then ((divS a n j).1.set (a.length - (j + 1)) true, minusF (a.getD (a.length - (j + 1)) false :: (divS a n j).2) n)
      else ((divS a n j).1, a.getD (a.length - (j + 1)) false :: (divS a n j).2)
theorem minusF_len (x y : List Bool) : (minusF x y).length = x.length := minusG_len x y _ 0 0
theorem valB_set : ∀ (l : List Bool) (i : Nat), i < l.length → l.getD i false = false → valB (l.set i true) = valB l + 2 ^ i
  | [], i, h, _ => by simp at h
  | b :: l, 0, _, h => by simp at h; subst h; simp [valB]; omega
  | b :: l, i + 1, h, h2 => by
    have := valB_set l i (by simpa using h) (by simpa using h2)
    simp only [List.set_cons_succ, valB, this, Nat.pow_succ]; omega
structure DivI (a n : List Bool) (j : Nat) : Prop where
  len1 : (divS a n j).1.length = a.length
  len2 : (divS a n j).2.length = j
  zero : ∀ i, i < a.length - j → (divS a n j).1.getD i false = false
  quo : valB (divS a n j).1 = 2 ^ (a.length - j) * (valB (a.drop (a.length - j)) / valB n)
  rest : valB (divS a n j).2 = valB (a.drop (a.length - j)) % valB n
theorem divI (a n : List Bool) (hn : 0 < valB n) : ∀ j, j ≤ a.length → DivI a n j
  | 0, _ => by
    refine ⟨by simp [divS], by simp [divS], fun i hi => by simp [divS, List.getD, List.getElem?_replicate]; split <;> rfl, ?_, ?_⟩
    · have : ∀ k, valB (List.replicate k false) = 0 := fun k => by have := valB_rep k []; simpa [valB] using this
      simp [divS, this, valB]
    · simp [divS, valB]
  | j + 1, hj => by
    have D := divI a n hn j (by omega)
    have d := valB_drop a (a.length - (j + 1))
    rw [bitA_eq, show a.length - (j + 1) + 1 = a.length - j by omega] at d
    have hp : 2 ^ (a.length - j) = 2 * 2 ^ (a.length - (j + 1)) := by rw [show a.length - j = a.length - (j + 1) + 1 by omega, Nat.pow_succ, Nat.mul_comm]
    have hq := D.quo
    have hr := D.rest
    rw [hp] at hq
    have hlt := Nat.mod_lt (valB (a.drop (a.length - j))) hn
    have hdm := Nat.div_add_mod (valB (a.drop (a.length - j))) (valB n)
    have hv : valB (a.getD (a.length - (j + 1)) false :: (divS a n j).2) = (a.getD (a.length - (j + 1)) false).toNat + 2 * (valB (a.drop (a.length - j)) % valB n) := by rw [valB, hr]
    have hb : (a.getD (a.length - (j + 1)) false).toNat ≤ 1 := by cases a.getD (a.length - (j + 1)) false <;> decide
    have e : valB (a.drop (a.length - (j + 1))) = ((a.getD (a.length - (j + 1)) false).toNat + 2 * (valB (a.drop (a.length - j)) % valB n)) + valB n * (2 * (valB (a.drop (a.length - j)) / valB n)) := by
      rw [d]
      have : valB n * (2 * (valB (a.drop (a.length - j)) / valB n)) = 2 * (valB n * (valB (a.drop (a.length - j)) / valB n)) := Nat.mul_left_comm _ _ _
      omega
    have e1 : valB (a.drop (a.length - (j + 1))) / valB n = ((a.getD (a.length - (j + 1)) false).toNat + 2 * (valB (a.drop (a.length - j)) % valB n)) / valB n + 2 * (valB (a.drop (a.length - j)) / valB n) := by rw [e, Nat.add_mul_div_left _ _ hn]
    have e2 : valB (a.drop (a.length - (j + 1))) % valB n = ((a.getD (a.length - (j + 1)) false).toNat + 2 * (valB (a.drop (a.length - j)) % valB n)) % valB n := by rw [e, Nat.add_mul_mod_self_left]
    obtain ⟨v, hv'⟩ : ∃ v, v = (a.getD (a.length - (j + 1)) false).toNat + 2 * (valB (a.drop (a.length - j)) % valB n) := ⟨_, rfl⟩
    rw [← hv'] at hv e1 e2
    by_cases hc : valB n ≤ valB (a.getD (a.length - (j + 1)) false :: (divS a n j).2)
    · have hs : divS a n (j + 1) = ((divS a n j).1.set (a.length - (j + 1)) true, minusF (a.getD (a.length - (j + 1)) false :: (divS a n j).2) n) := by rw [divS, if_pos hc]
      have hz := D.zero (a.length - (j + 1)) (by omega)
      rw [hv] at hc
      have f1 : v / valB n = 1 := Nat.div_eq_of_lt_le (by omega) (by omega)
      have f2 : v % valB n = v - valB n := by rw [Nat.mod_eq_sub_mod hc, Nat.mod_eq_of_lt (by omega)]
      refine ⟨by rw [hs]; simp [D.len1], by rw [hs]; simp [minusF_len, D.len2], fun i hi => ?_, ?_, ?_⟩
      · rw [hs]
        have := D.zero i (by omega)
        simp only [List.getD, List.getElem?_set] at this ⊢
        rw [if_neg (by omega)]; exact this
      · rw [hs]
        simp only
        rw [valB_set _ _ (by rw [D.len1]; omega) hz, hq, e1, f1, Nat.mul_add, Nat.mul_one]
        have : 2 * 2 ^ (a.length - (j + 1)) * (valB (a.drop (a.length - j)) / valB n) = 2 ^ (a.length - (j + 1)) * (2 * (valB (a.drop (a.length - j)) / valB n)) := by rw [Nat.mul_comm 2, Nat.mul_assoc]
        omega
      · rw [hs]
        simp only
        rw [minusF_val _ _ (by rw [hv]; exact hc), hv, e2, f2]
    · have hs : divS a n (j + 1) = ((divS a n j).1, a.getD (a.length - (j + 1)) false :: (divS a n j).2) := by rw [divS, if_neg hc]
      rw [hv] at hc
      have f1 : v / valB n = 0 := Nat.div_eq_of_lt (by omega)
      have f2 : v % valB n = v := Nat.mod_eq_of_lt (by omega)
      refine ⟨by rw [hs]; exact D.len1, by rw [hs]; simp [D.len2], fun i hi => by rw [hs]; exact D.zero i (by omega), ?_, ?_⟩
      · rw [hs]
        simp only
        rw [hq, e1, f1, Nat.zero_add, Nat.mul_comm 2, Nat.mul_assoc]
      · rw [hs]
        simp only
        rw [hv, e2, f2]
theorem div_all (a n : List Bool) (hn : 0 < valB n) : valB (divS a n a.length).1 = valB a / valB n ∧ valB (divS a n a.length).2 = valB a % valB n ∧ (divS a n a.length).1.length = a.length ∧ (divS a n a.length).2.length = a.length := by
  have D := divI a n hn a.length (Nat.le_refl _)
  have h1 := D.quo
  have h2 := D.rest
  rw [Nat.sub_self, List.drop_zero] at h1 h2
  exact ⟨by rw [h1]; simp, h2, D.len1, D.len2⟩
set_option maxRecDepth 8000 in
set_option maxHeartbeats 2000000 in
theorem divide_ct (a n : List Bool) (p m : Nat) (hp : a.length = p) (hm : n.length = m) (ha : p ≤ 100000) (hn : m ≤ 100000) (h0 : 0 < valB n) :
    ACt Try.prog 49 [.sl p (bl a), .sl m (bl n)] [] (Fn (.tup [.sl p (bl (divS a n p).1), .sl p (bl (divS a n p).2)])) := by
  subst hp hm
  refine ACt.intro Try.func49 rfl (by kernel_rfl) (by simp [Try.ntmps49]) (fun cx => ?_)
  simp only [argE, Try.ntmps49, Try.results49]
  have g0 : IntKind.i64.wrap ((a.length : Int) - 1) = (a.length : Int) - 1 := wrap_i64 (by omega) (by omega)
  first | (have FRx := FR; clear FRx) | (have FR : ¬ ((1 : Nat) = 0) := Nat.one_ne_zero)
  repeat' first
    | (refine Sm.mk ?_; try simp -dsimp only [ZK, rvc, drawF, headN, pureH, stp, dvc, calleeOf, gcall, pev, eff, newB, okd, og, ogs, ogo, ogp, slv, bltv, opd, litv, strip, one, both, putE, St.put, look, gdOf, gdv, picka, pickv, pickw, binv, bini, bins, binb, binp, binq, isSlT, bina, shp, eqCells, unv, convv, nilv, faddv, addp, idxav, idxp, load1, load1m, loadn, loadnm, loadv, hget, hset, hrep, hdel, slicev, bnd, shift1, lenv, capv, IntKind.bits, extractv, fieldv, indexv, min2v, max2v, mkiv, cellsA, fillA, buildv, stC, oneC, rowMB, intsA, plN, appE, appZ, appC, appNZ, appNC, VwL, srcC, srcZ, srcM, isBoolT, isPtrT, isSliceT, uOk, Value.oneCell', Nat.reducePow, Int.reducePow, Nat.reduceAdd, Nat.reduceMul, Nat.reduceSub, Nat.reduceLT, Nat.reduceLeDiff, Nat.reduceEqDiff, Nat.reduceBEq, Nat.reduceDiv, Nat.reduceMod, ↓reduceIte, reduceCtorEq, Int.reduceToNat, Int.reduceLT, Int.reduceLE, TFExP, SeqQ, BlkQ, LoopQ, BodyQ, bl_len, FR])
    | (refine WP.seq fun K hK => ?_)
    | ((fail_if_success (show WP _ _ _ (.region 3 _ _) _ _)); refine WP.region (rvc_sound _ _ (Sm.out ?_)))
    | ((fail_if_success (show WP _ _ _ (.region 3 _ _) _ _)); refine WP.drawK rfl mixed (by decide +kernel) (Sm.out ?_))
    | (refine Ob.mk ?_; focus (first | assumption | omega | decide | trivial | (intro hob; simp only [hob, ZF]; done) | (intros; (repeat' refine And.intro ?_ ?_) <;> first | assumption | omega | trivial | decide) | (intros; simp only [ZE] at *; (repeat' refine And.intro ?_ ?_) <;> first | assumption | omega | trivial)))
    | (refine And.intro (Ob.out ?_) ?_)
    | (refine WP.block ?_)
    | (refine WP.cond rfl (fun hc => ?_) (fun hc => ?_) <;> (try simp only [ZC, reduceCtorEq, ZD] at hc) <;> (try (exact absurd hc (by decide))) <;> (try (exfalso; omega)))
    | ((first | refine WP.skip ?_ | refine WP.exit ?_); simp only [SeqQ, BlkQ, LoopQ, BodyQ, ↓reduceIte, Nat.reduceEqDiff, reduceCtorEq, look, true_and])
    | (refine WP.ret (Sm.out ?_))
    | (first | refine ExG.no (Sm.out ?_) | refine Or.inl (ExG.no (Sm.out ?_)) | refine Or.inl (And.intro (fun hg => absurd hg (by decide)) (ExG.no (Sm.out ?_))))
    | (refine Rt.mk ?_; refine And.intro ?_ ?_ <;> (intro hg; first | exact absurd hg (by decide) | refine Sm.out ?_))
    | (refine Nu.mk ?_; first | (fail_if_success (have := nb1)); intro nb1 | (fail_if_success (have := nb2)); intro nb2 | (fail_if_success (have := nb3)); intro nb3 | (fail_if_success (have := nb4)); intro nb4 | (fail_if_success (have := nb5)); intro nb5 | intro nbz)
    | (refine Fr.mk ?_; intro hfr; replace FR := And.intro hfr FR; clear hfr; refine Sm.out ?_)
    | (refine Two.mk ?_ ?_)
    | (refine Cs.mk ?_; intro hcs; first | exact False.elim hcs | (exfalso; omega) | (refine Sm.out ?_))
    | go_step
    | omega
    | (simp only [maxLen_eq]; omega)
  (refine WP.wk (Wk.freezeC (nb2) (1) (by simp only [ZK, rvc, drawF, headN, pureH, stp, dvc, calleeOf, gcall, pev, eff, newB, okd, og, ogs, ogo, ogp, slv, bltv, opd, litv, strip, one, both, putE, St.put, look, gdOf, gdv, picka, pickv, pickw, binv, bini, bins, binb, binp, binq, isSlT, bina, shp, eqCells, unv, convv, nilv, faddv, addp, idxav, idxp, load1, load1m, loadn, loadnm, loadv, hget, hset, hrep, hdel, slicev, bnd, shift1, lenv, capv, IntKind.bits, extractv, fieldv, indexv, min2v, max2v, mkiv, cellsA, fillA, buildv, stC, oneC, rowMB, intsA, plN, appE, appZ, appC, appNZ, appNC, VwL, srcC, srcZ, srcM, isBoolT, isPtrT, isSliceT, uOk, Value.oneCell', Nat.reducePow, Int.reducePow, Nat.reduceAdd, Nat.reduceMul, Nat.reduceSub, Nat.reduceLT, Nat.reduceLeDiff, Nat.reduceEqDiff, Nat.reduceBEq, Nat.reduceDiv, Nat.reduceMod, ↓reduceIte, reduceCtorEq, Int.reduceToNat, Int.reduceLT, Int.reduceLE, TFExP, SeqQ, BlkQ, LoopQ, BodyQ, FR]; first | done | rfl)) ?_; simp only [frzCE, frzC, ZK, rvc, drawF, headN, pureH, stp, dvc, calleeOf, gcall, pev, eff, newB, okd, og, ogs, ogo, ogp, slv, bltv, opd, litv, strip, one, both, putE, St.put, look, gdOf, gdv, picka, pickv, pickw, binv, bini, bins, binb, binp, binq, isSlT, bina, shp, eqCells, unv, convv, nilv, faddv, addp, idxav, idxp, load1, load1m, loadn, loadnm, loadv, hget, hset, hrep, hdel, slicev, bnd, shift1, lenv, capv, IntKind.bits, extractv, fieldv, indexv, min2v, max2v, mkiv, cellsA, fillA, buildv, stC, oneC, rowMB, intsA, plN, appE, appZ, appC, appNZ, appNC, VwL, srcC, srcZ, srcM, isBoolT, isPtrT, isSliceT, uOk, Value.oneCell', Nat.reducePow, Int.reducePow, Nat.reduceAdd, Nat.reduceMul, Nat.reduceSub, Nat.reduceLT, Nat.reduceLeDiff, Nat.reduceEqDiff, Nat.reduceBEq, Nat.reduceDiv, Nat.reduceMod, ↓reduceIte, reduceCtorEq, Int.reduceToNat, Int.reduceLT, Int.reduceLE, TFExP, SeqQ, BlkQ, LoopQ, BodyQ, FR])
  first | (have FRx := FR; clear FRx) | (have FR : ¬ ((1 : Nat) = 0) := Nat.one_ne_zero)
  repeat' first
    | (refine Sm.mk ?_; try simp -dsimp only [ZK, rvc, drawF, headN, pureH, stp, dvc, calleeOf, gcall, pev, eff, newB, okd, og, ogs, ogo, ogp, slv, bltv, opd, litv, strip, one, both, putE, St.put, look, gdOf, gdv, picka, pickv, pickw, binv, bini, bins, binb, binp, binq, isSlT, bina, shp, eqCells, unv, convv, nilv, faddv, addp, idxav, idxp, load1, load1m, loadn, loadnm, loadv, hget, hset, hrep, hdel, slicev, bnd, shift1, lenv, capv, IntKind.bits, extractv, fieldv, indexv, min2v, max2v, mkiv, cellsA, fillA, buildv, stC, oneC, rowMB, intsA, plN, appE, appZ, appC, appNZ, appNC, VwL, srcC, srcZ, srcM, isBoolT, isPtrT, isSliceT, uOk, Value.oneCell', Nat.reducePow, Int.reducePow, Nat.reduceAdd, Nat.reduceMul, Nat.reduceSub, Nat.reduceLT, Nat.reduceLeDiff, Nat.reduceEqDiff, Nat.reduceBEq, Nat.reduceDiv, Nat.reduceMod, ↓reduceIte, reduceCtorEq, Int.reduceToNat, Int.reduceLT, Int.reduceLE, TFExP, SeqQ, BlkQ, LoopQ, BodyQ, g0, bl_len, FR])
    | (refine WP.seq fun K hK => ?_)
    | (refine WP.region (rvc_sound _ _ (Sm.out ?_)))
    | (refine WP.drawK rfl mixed (by decide +kernel) (Sm.out ?_))
    | (refine Ob.mk ?_; focus (first | assumption | omega | decide | trivial | (intro hob; simp only [hob, ZF]; done) | (intros; (repeat' refine And.intro ?_ ?_) <;> first | assumption | omega | trivial | decide) | (intros; simp only [ZE] at *; (repeat' refine And.intro ?_ ?_) <;> first | assumption | omega | trivial)))
    | (refine And.intro (Ob.out ?_) ?_)
    | (refine WP.block ?_)
    | (refine WP.cond rfl (fun hc => ?_) (fun hc => ?_) <;> (try simp only [ZC, reduceCtorEq, ZD] at hc) <;> (try (exact absurd hc (by decide))) <;> (try (exfalso; omega)))
    | ((first | refine WP.skip ?_ | refine WP.exit ?_); simp only [SeqQ, BlkQ, LoopQ, BodyQ, ↓reduceIte, Nat.reduceEqDiff, reduceCtorEq, look, true_and])
    | (refine WP.ret (Sm.out ?_))
    | (first | refine ExG.no (Sm.out ?_) | refine Or.inl (ExG.no (Sm.out ?_)) | refine Or.inl (And.intro (fun hg => absurd hg (by decide)) (ExG.no (Sm.out ?_))))
    | (refine Rt.mk ?_; refine And.intro ?_ ?_ <;> (intro hg; first | exact absurd hg (by decide) | refine Sm.out ?_))
    | (refine Nu.mk ?_; first | (fail_if_success (have := nb1)); intro nb1 | (fail_if_success (have := nb2)); intro nb2 | (fail_if_success (have := nb3)); intro nb3 | (fail_if_success (have := nb4)); intro nb4 | (fail_if_success (have := nb5)); intro nb5 | intro nbz)
    | (refine Fr.mk ?_; intro hfr; replace FR := And.intro hfr FR; clear hfr; refine Sm.out ?_)
    | (refine Two.mk ?_ ?_)
    | (refine Cs.mk ?_; intro hcs; first | exact False.elim hcs | (exfalso; omega) | (refine Sm.out ?_))
    | go_step
    | omega
    | (simp only [maxLen_eq]; omega)
  have hrp : bl (List.replicate a.length false) = List.replicate a.length (AV.lit (.bool false)) := by simp
  refine WP.loop (Γ := Nat) (fun j => ⟨[(8, iv .i64 (((a.length - j : Nat) : Int) - 1)), (7, .sl j (bl (divS a n j).2)), (6, ms nb1 0 a.length a.length), (0, .sl a.length (bl a)), (1, .sl n.length (bl n))],
      [(nb1, .cells (bl (divS a n j).1) a.length 4)]⟩) (fun j => j ≤ a.length) (fun j => a.length - j) 0 (by omega) (Sub.pick (by simp only [divS, hrp]; simp [pickB, hget, hdel, FR]) (by simp [look, divS, bl])) ?_
  intro j hj
  have D := divI a n h0 j hj
  obtain ⟨Q, hQ⟩ : ∃ Q, Q = (divS a n j).1 := ⟨_, rfl⟩
  obtain ⟨L, hL⟩ : ∃ L, L = (divS a n j).2 := ⟨_, rfl⟩
  have l1 := D.len1
  have l2 := D.len2
  rw [← hQ] at l1 ⊢
  rw [← hL] at l2 ⊢
  have hbQ : (bl Q).length = a.length := by rw [bl_len, l1]
  have hbL : (bl L).length = j := by rw [bl_len, l2]
  by_cases hi : j < a.length
  · obtain ⟨i, hi2⟩ : ∃ i, a.length - j = i + 1 := ⟨a.length - j - 1, by omega⟩
    have hi3 : a.length - (j + 1) = i := by omega
    have e0 : ((a.length - j : Nat) : Int) - 1 = (i : Int) := by omega
    have k1 : decide ((i : Int) ≥ 0) = true := by simp
    have g1 : IntKind.i64.wrap ((i : Int) - 1) = (i : Int) - 1 := wrap_i64 (by omega) (by omega)
    have e3 := bl_at a i (by omega)
    obtain ⟨b, hb⟩ : ∃ b, b = a.getD i false := ⟨_, rfl⟩
    rw [← hb] at e3
    obtain ⟨M, hM⟩ : ∃ M, M = b :: L := ⟨_, rfl⟩
    have lM : M.length = j + 1 := by rw [hM]; simp [l2]
    have hone : (bl L).all oneC = true := bl_one L
    have hnext : divS a n (j + 1) = if valB n ≤ valB M then (Q.set i true, minusF M n) else (Q, M) := by rw [divS, hi3, ← hQ, ← hL, ← hb, ← hM]
    first | (have FRx := FR; clear FRx) | (have FR : ¬ ((1 : Nat) = 0) := Nat.one_ne_zero)
    repeat' first
      | (refine Sm.mk ?_; try simp -dsimp only [ZK, rvc, drawF, headN, pureH, stp, dvc, calleeOf, gcall, pev, eff, newB, okd, og, ogs, ogo, ogp, slv, bltv, opd, litv, strip, one, both, putE, St.put, look, gdOf, gdv, picka, pickv, pickw, binv, bini, bins, binb, binp, binq, isSlT, bina, shp, eqCells, unv, convv, nilv, faddv, addp, idxav, idxp, load1, load1m, loadn, loadnm, loadv, hget, hset, hrep, hdel, slicev, bnd, shift1, lenv, capv, IntKind.bits, extractv, fieldv, indexv, min2v, max2v, mkiv, cellsA, fillA, buildv, stC, oneC, rowMB, intsA, plN, appE, appZ, appC, appNZ, appNC, VwL, srcC, srcZ, srcM, isBoolT, isPtrT, isSliceT, uOk, Value.oneCell', Nat.reducePow, Int.reducePow, Nat.reduceAdd, Nat.reduceMul, Nat.reduceSub, Nat.reduceLT, Nat.reduceLeDiff, Nat.reduceEqDiff, Nat.reduceBEq, Nat.reduceDiv, Nat.reduceMod, ↓reduceIte, reduceCtorEq, Int.reduceToNat, Int.reduceLT, Int.reduceLE, TFExP, SeqQ, BlkQ, LoopQ, BodyQ, e0, k1, e3, bl_len, hbQ, hbL, hone, FR])
      | (refine WP.seq fun K hK => ?_)
      | ((fail_if_success (show WP _ _ _ (.region 7 _ _) _ _)); refine WP.region (rvc_sound _ _ (Sm.out ?_)))
      | ((fail_if_success (show WP _ _ _ (.region 7 _ _) _ _)); refine WP.drawK rfl mixed (by decide +kernel) (Sm.out ?_))
      | (refine Ob.mk ?_; focus (first | assumption | omega | decide | trivial | (intro hob; simp only [hob, ZF]; done) | (intros; (repeat' refine And.intro ?_ ?_) <;> first | assumption | omega | trivial | decide) | (intros; simp only [ZE] at *; (repeat' refine And.intro ?_ ?_) <;> first | assumption | omega | trivial)))
      | (refine And.intro (Ob.out ?_) ?_)
      | (refine WP.block ?_)
      | (refine WP.cond rfl (fun hc => ?_) (fun hc => ?_) <;> (try simp only [ZC, reduceCtorEq, ZD] at hc) <;> (try (exact absurd hc (by decide))) <;> (try (exfalso; omega)))
      | ((first | refine WP.skip ?_ | refine WP.exit ?_); simp only [SeqQ, BlkQ, LoopQ, BodyQ, ↓reduceIte, Nat.reduceEqDiff, reduceCtorEq, look, true_and])
      | (refine WP.ret (Sm.out ?_))
      | (first | refine ExG.no (Sm.out ?_) | refine Or.inl (ExG.no (Sm.out ?_)) | refine Or.inl (And.intro (fun hg => absurd hg (by decide)) (ExG.no (Sm.out ?_))))
      | (refine Rt.mk ?_; refine And.intro ?_ ?_ <;> (intro hg; first | exact absurd hg (by decide) | refine Sm.out ?_))
      | (refine Nu.mk ?_; first | (fail_if_success (have := nb1)); intro nb1 | (fail_if_success (have := nb2)); intro nb2 | (fail_if_success (have := nb3)); intro nb3 | (fail_if_success (have := nb4)); intro nb4 | (fail_if_success (have := nb5)); intro nb5 | intro nbz)
      | (refine Fr.mk ?_; intro hfr; replace FR := And.intro hfr FR; clear hfr; refine Sm.out ?_)
      | (refine Two.mk ?_ ?_)
      | (refine Cs.mk ?_; intro hcs; first | exact False.elim hcs | (exfalso; omega) | (refine Sm.out ?_))
      | go_step
      | omega
      | (simp only [maxLen_eq]; omega)
    have hS' : (AV.lit (.bool b) :: bl L).take (1 + j) = bl M := by
      rw [List.take_of_length_le (by simp [hbL]; omega), hM]; simp
    have q3 : 1 + j ≤ nb5 := by omega
    have q4 : nb5 ≤ 9223372036854775807 := by omega
    have q6 : 1 + j ≤ j + 1 := by omega
    (refine WP.wk (Wk.freezeC (nb4) (1) (by simp only [ZK, rvc, drawF, headN, pureH, stp, dvc, calleeOf, gcall, pev, eff, newB, okd, og, ogs, ogo, ogp, slv, bltv, opd, litv, strip, one, both, putE, St.put, look, gdOf, gdv, picka, pickv, pickw, binv, bini, bins, binb, binp, binq, isSlT, bina, shp, eqCells, unv, convv, nilv, faddv, addp, idxav, idxp, load1, load1m, loadn, loadnm, loadv, hget, hset, hrep, hdel, slicev, bnd, shift1, lenv, capv, IntKind.bits, extractv, fieldv, indexv, min2v, max2v, mkiv, cellsA, fillA, buildv, stC, oneC, rowMB, intsA, plN, appE, appZ, appC, appNZ, appNC, VwL, srcC, srcZ, srcM, isBoolT, isPtrT, isSliceT, uOk, Value.oneCell', Nat.reducePow, Int.reducePow, Nat.reduceAdd, Nat.reduceMul, Nat.reduceSub, Nat.reduceLT, Nat.reduceLeDiff, Nat.reduceEqDiff, Nat.reduceBEq, Nat.reduceDiv, Nat.reduceMod, ↓reduceIte, reduceCtorEq, Int.reduceToNat, Int.reduceLT, Int.reduceLE, TFExP, SeqQ, BlkQ, LoopQ, BodyQ, bl_len, hS', q3, q4, q6, hbL, FR]; first | done | rfl)) ?_; simp only [frzCE, frzC, ZK, rvc, drawF, headN, pureH, stp, dvc, calleeOf, gcall, pev, eff, newB, okd, og, ogs, ogo, ogp, slv, bltv, opd, litv, strip, one, both, putE, St.put, look, gdOf, gdv, picka, pickv, pickw, binv, bini, bins, binb, binp, binq, isSlT, bina, shp, eqCells, unv, convv, nilv, faddv, addp, idxav, idxp, load1, load1m, loadn, loadnm, loadv, hget, hset, hrep, hdel, slicev, bnd, shift1, lenv, capv, IntKind.bits, extractv, fieldv, indexv, min2v, max2v, mkiv, cellsA, fillA, buildv, stC, oneC, rowMB, intsA, plN, appE, appZ, appC, appNZ, appNC, VwL, srcC, srcZ, srcM, isBoolT, isPtrT, isSliceT, uOk, Value.oneCell', Nat.reducePow, Int.reducePow, Nat.reduceAdd, Nat.reduceMul, Nat.reduceSub, Nat.reduceLT, Nat.reduceLeDiff, Nat.reduceEqDiff, Nat.reduceBEq, Nat.reduceDiv, Nat.reduceMod, ↓reduceIte, reduceCtorEq, Int.reduceToNat, Int.reduceLT, Int.reduceLE, TFExP, SeqQ, BlkQ, LoopQ, BodyQ, bl_len, hS', q3, q4, q6, hbL, FR])
    have r1 := rcmp_ct M n (1 + j) n.length (by omega) rfl (by omega) (by omega)
    have e5 : ((i : Nat) : Int) - 1 = ((a.length - (j + 1) : Nat) : Int) - 1 := by rw [hi3]
    have e6 : 1 + j = j + 1 := by omega
    by_cases hc : valB n ≤ valB M
    · have k2 : decide (cmpN (valB M) (valB n) ≥ 0) = true := by
        unfold cmpN; rw [if_neg (by omega)]; split <;> rfl
      rw [if_pos hc] at hnext
      have m1 := minus_ct M n (1 + j) n.length (by omega) rfl (by omega) (by omega)
      have e7 : (bl Q).set i (bv true) = bl (Q.set i true) := by simp
      have q5 : i < a.length := by omega
      first | (have FRx := FR; clear FRx) | (have FR : ¬ ((1 : Nat) = 0) := Nat.one_ne_zero)
      repeat' first
        | (refine Sm.mk ?_; try simp -dsimp only [ZK, rvc, drawF, headN, pureH, stp, dvc, calleeOf, gcall, pev, eff, newB, okd, og, ogs, ogo, ogp, slv, bltv, opd, litv, strip, one, both, putE, St.put, look, gdOf, gdv, picka, pickv, pickw, binv, bini, bins, binb, binp, binq, isSlT, bina, shp, eqCells, unv, convv, nilv, faddv, addp, idxav, idxp, load1, load1m, loadn, loadnm, loadv, hget, hset, hrep, hdel, slicev, bnd, shift1, lenv, capv, IntKind.bits, extractv, fieldv, indexv, min2v, max2v, mkiv, cellsA, fillA, buildv, stC, oneC, rowMB, intsA, plN, appE, appZ, appC, appNZ, appNC, VwL, srcC, srcZ, srcM, isBoolT, isPtrT, isSliceT, uOk, Value.oneCell', Nat.reducePow, Int.reducePow, Nat.reduceAdd, Nat.reduceMul, Nat.reduceSub, Nat.reduceLT, Nat.reduceLeDiff, Nat.reduceEqDiff, Nat.reduceBEq, Nat.reduceDiv, Nat.reduceMod, ↓reduceIte, reduceCtorEq, Int.reduceToNat, Int.reduceLT, Int.reduceLE, TFExP, SeqQ, BlkQ, LoopQ, BodyQ, k2, g1, e7, bl_len, hbQ, q5, FR])
        | (first | refine CallV.fn (r1) (Sm.out ?_) | refine ExF.mk (r1) (Sm.out ?_) | refine ExG.mk (fun _ => r1) (Sm.out ?_) | refine ExG.mkJ (fun _ => r1) (Sm.out ?_) | refine ExG.mkI (Ob.out ?_) (fun _ => r1) (Sm.out ?_))
        | (first | refine CallV.fn (m1) (Sm.out ?_) | refine ExF.mk (m1) (Sm.out ?_) | refine ExG.mk (fun _ => m1) (Sm.out ?_) | refine ExG.mkJ (fun _ => m1) (Sm.out ?_) | refine ExG.mkI (Ob.out ?_) (fun _ => m1) (Sm.out ?_))
        | (refine WP.seq fun K hK => ?_)
        | (refine WP.region (rvc_sound _ _ (Sm.out ?_)))
        | (refine WP.drawK rfl mixed (by decide +kernel) (Sm.out ?_))
        | (refine Ob.mk ?_; focus (first | assumption | omega | decide | trivial | (intro hob; simp only [hob, ZF]; done) | (intros; (repeat' refine And.intro ?_ ?_) <;> first | assumption | omega | trivial | decide) | (intros; simp only [ZE] at *; (repeat' refine And.intro ?_ ?_) <;> first | assumption | omega | trivial)))
        | (refine And.intro (Ob.out ?_) ?_)
        | (refine WP.block ?_)
        | (refine WP.cond rfl (fun hc => ?_) (fun hc => ?_) <;> (try simp only [ZC, reduceCtorEq, ZD] at hc) <;> (try (exact absurd hc (by decide))) <;> (try (exfalso; omega)))
        | ((first | refine WP.skip ?_ | refine WP.exit ?_); simp only [SeqQ, BlkQ, LoopQ, BodyQ, ↓reduceIte, Nat.reduceEqDiff, reduceCtorEq, look, true_and])
        | (refine WP.ret (Sm.out ?_))
        | (first | refine ExG.no (Sm.out ?_) | refine Or.inl (ExG.no (Sm.out ?_)) | refine Or.inl (And.intro (fun hg => absurd hg (by decide)) (ExG.no (Sm.out ?_))))
        | (refine Rt.mk ?_; refine And.intro ?_ ?_ <;> (intro hg; first | exact absurd hg (by decide) | refine Sm.out ?_))
        | (refine Nu.mk ?_; first | (fail_if_success (have := nb1)); intro nb1 | (fail_if_success (have := nb2)); intro nb2 | (fail_if_success (have := nb3)); intro nb3 | (fail_if_success (have := nb4)); intro nb4 | (fail_if_success (have := nb5)); intro nb5 | intro nbz)
        | (refine Fr.mk ?_; intro hfr; replace FR := And.intro hfr FR; clear hfr; refine Sm.out ?_)
        | (refine Two.mk ?_ ?_)
        | (refine Cs.mk ?_; intro hcs; first | exact False.elim hcs | (exfalso; omega) | (refine Sm.out ?_))
        | go_step
        | omega
        | (simp only [maxLen_eq]; omega)
      exact ⟨j + 1, by omega, by omega, Sub.pick (by simp only [hnext]; simp [pickB, hget, hdel, FR]) (by simp [look, hnext, e5, e6, hi3, bl])⟩
    · have k2 : decide (cmpN (valB M) (valB n) ≥ 0) = false := by
        unfold cmpN; rw [if_pos (by omega)]; rfl
      rw [if_neg hc] at hnext
      first | (have FRx := FR; clear FRx) | (have FR : ¬ ((1 : Nat) = 0) := Nat.one_ne_zero)
      repeat' first
        | (refine Sm.mk ?_; try simp -dsimp only [ZK, rvc, drawF, headN, pureH, stp, dvc, calleeOf, gcall, pev, eff, newB, okd, og, ogs, ogo, ogp, slv, bltv, opd, litv, strip, one, both, putE, St.put, look, gdOf, gdv, picka, pickv, pickw, binv, bini, bins, binb, binp, binq, isSlT, bina, shp, eqCells, unv, convv, nilv, faddv, addp, idxav, idxp, load1, load1m, loadn, loadnm, loadv, hget, hset, hrep, hdel, slicev, bnd, shift1, lenv, capv, IntKind.bits, extractv, fieldv, indexv, min2v, max2v, mkiv, cellsA, fillA, buildv, stC, oneC, rowMB, intsA, plN, appE, appZ, appC, appNZ, appNC, VwL, srcC, srcZ, srcM, isBoolT, isPtrT, isSliceT, uOk, Value.oneCell', Nat.reducePow, Int.reducePow, Nat.reduceAdd, Nat.reduceMul, Nat.reduceSub, Nat.reduceLT, Nat.reduceLeDiff, Nat.reduceEqDiff, Nat.reduceBEq, Nat.reduceDiv, Nat.reduceMod, ↓reduceIte, reduceCtorEq, Int.reduceToNat, Int.reduceLT, Int.reduceLE, TFExP, SeqQ, BlkQ, LoopQ, BodyQ, k2, g1, bl_len, hbQ, FR])
        | (first | refine CallV.fn (r1) (Sm.out ?_) | refine ExF.mk (r1) (Sm.out ?_) | refine ExG.mk (fun _ => r1) (Sm.out ?_) | refine ExG.mkJ (fun _ => r1) (Sm.out ?_) | refine ExG.mkI (Ob.out ?_) (fun _ => r1) (Sm.out ?_))
        | (refine WP.seq fun K hK => ?_)
        | (refine WP.region (rvc_sound _ _ (Sm.out ?_)))
        | (refine WP.drawK rfl mixed (by decide +kernel) (Sm.out ?_))
        | (refine Ob.mk ?_; focus (first | assumption | omega | decide | trivial | (intro hob; simp only [hob, ZF]; done) | (intros; (repeat' refine And.intro ?_ ?_) <;> first | assumption | omega | trivial | decide) | (intros; simp only [ZE] at *; (repeat' refine And.intro ?_ ?_) <;> first | assumption | omega | trivial)))
        | (refine And.intro (Ob.out ?_) ?_)
        | (refine WP.block ?_)
        | (refine WP.cond rfl (fun hc => ?_) (fun hc => ?_) <;> (try simp only [ZC, reduceCtorEq, ZD] at hc) <;> (try (exact absurd hc (by decide))) <;> (try (exfalso; omega)))
        | ((first | refine WP.skip ?_ | refine WP.exit ?_); simp only [SeqQ, BlkQ, LoopQ, BodyQ, ↓reduceIte, Nat.reduceEqDiff, reduceCtorEq, look, true_and])
        | (refine WP.ret (Sm.out ?_))
        | (first | refine ExG.no (Sm.out ?_) | refine Or.inl (ExG.no (Sm.out ?_)) | refine Or.inl (And.intro (fun hg => absurd hg (by decide)) (ExG.no (Sm.out ?_))))
        | (refine Rt.mk ?_; refine And.intro ?_ ?_ <;> (intro hg; first | exact absurd hg (by decide) | refine Sm.out ?_))
        | (refine Nu.mk ?_; first | (fail_if_success (have := nb1)); intro nb1 | (fail_if_success (have := nb2)); intro nb2 | (fail_if_success (have := nb3)); intro nb3 | (fail_if_success (have := nb4)); intro nb4 | (fail_if_success (have := nb5)); intro nb5 | intro nbz)
        | (refine Fr.mk ?_; intro hfr; replace FR := And.intro hfr FR; clear hfr; refine Sm.out ?_)
        | (refine Two.mk ?_ ?_)
        | (refine Cs.mk ?_; intro hcs; first | exact False.elim hcs | (exfalso; omega) | (refine Sm.out ?_))
        | go_step
        | omega
        | (simp only [maxLen_eq]; omega)
      exact ⟨j + 1, by omega, by omega, Sub.pick (by simp only [hnext]; simp [pickB, hget, hdel, FR]) (by simp [look, hnext, e5, e6, hi3, bl])⟩
  · obtain rfl : j = a.length := by omega
    have e0 : ((a.length - a.length : Nat) : Int) - 1 = -1 := by omega
    have k1 : decide ((-1 : Int) ≥ 0) = false := by decide
    have e5 : (bl Q).take a.length = bl Q := List.take_of_length_le (by rw [hbQ]; omega)
    first | (have FRx := FR; clear FRx) | (have FR : ¬ ((1 : Nat) = 0) := Nat.one_ne_zero)
    repeat' first
      | (refine Sm.mk ?_; try simp -dsimp only [ZK, rvc, drawF, headN, pureH, stp, dvc, calleeOf, gcall, pev, eff, newB, okd, og, ogs, ogo, ogp, slv, bltv, opd, litv, strip, one, both, putE, St.put, look, gdOf, gdv, picka, pickv, pickw, binv, bini, bins, binb, binp, binq, isSlT, bina, shp, eqCells, unv, convv, nilv, faddv, addp, idxav, idxp, load1, load1m, loadn, loadnm, loadv, hget, hset, hrep, hdel, slicev, bnd, shift1, lenv, capv, IntKind.bits, extractv, fieldv, indexv, min2v, max2v, mkiv, cellsA, fillA, buildv, stC, oneC, rowMB, intsA, plN, appE, appZ, appC, appNZ, appNC, VwL, srcC, srcZ, srcM, isBoolT, isPtrT, isSliceT, uOk, Value.oneCell', Nat.reducePow, Int.reducePow, Nat.reduceAdd, Nat.reduceMul, Nat.reduceSub, Nat.reduceLT, Nat.reduceLeDiff, Nat.reduceEqDiff, Nat.reduceBEq, Nat.reduceDiv, Nat.reduceMod, ↓reduceIte, reduceCtorEq, Int.reduceToNat, Int.reduceLT, Int.reduceLE, TFExP, SeqQ, BlkQ, LoopQ, BodyQ, e0, k1, hbQ, FR])
      | (refine WP.seq fun K hK => ?_)
      | (refine WP.region (rvc_sound _ _ (Sm.out ?_)))
      | (refine WP.drawK rfl mixed (by decide +kernel) (Sm.out ?_))
      | (refine Ob.mk ?_; focus (first | assumption | omega | decide | trivial | (intro hob; simp only [hob, ZF]; done) | (intros; (repeat' refine And.intro ?_ ?_) <;> first | assumption | omega | trivial | decide) | (intros; simp only [ZE] at *; (repeat' refine And.intro ?_ ?_) <;> first | assumption | omega | trivial)))
      | (refine And.intro (Ob.out ?_) ?_)
      | (refine WP.block ?_)
      | (refine WP.cond rfl (fun hc => ?_) (fun hc => ?_) <;> (try simp only [ZC, reduceCtorEq, ZD] at hc) <;> (try (exact absurd hc (by decide))) <;> (try (exfalso; omega)))
      | ((first | refine WP.skip ?_ | refine WP.exit ?_); simp only [SeqQ, BlkQ, LoopQ, BodyQ, ↓reduceIte, Nat.reduceEqDiff, reduceCtorEq, look, true_and])
      | (refine WP.ret (Sm.out ?_))
      | (first | refine ExG.no (Sm.out ?_) | refine Or.inl (ExG.no (Sm.out ?_)) | refine Or.inl (And.intro (fun hg => absurd hg (by decide)) (ExG.no (Sm.out ?_))))
      | (refine Rt.mk ?_; refine And.intro ?_ ?_ <;> (intro hg; first | exact absurd hg (by decide) | refine Sm.out ?_))
      | (refine Nu.mk ?_; first | (fail_if_success (have := nb1)); intro nb1 | (fail_if_success (have := nb2)); intro nb2 | (fail_if_success (have := nb3)); intro nb3 | (fail_if_success (have := nb4)); intro nb4 | (fail_if_success (have := nb5)); intro nb5 | intro nbz)
      | (refine Fr.mk ?_; intro hfr; replace FR := And.intro hfr FR; clear hfr; refine Sm.out ?_)
      | (refine Two.mk ?_ ?_)
      | (refine Cs.mk ?_; intro hcs; first | exact False.elim hcs | (exfalso; omega) | (refine Sm.out ?_))
      | go_step
      | omega
      | (simp only [maxLen_eq]; omega)
    (refine OutQ.wk (Wk.freezeC (nb1) (1) (by simp only [ZK, rvc, drawF, headN, pureH, stp, dvc, calleeOf, gcall, pev, eff, newB, okd, og, ogs, ogo, ogp, slv, bltv, opd, litv, strip, one, both, putE, St.put, look, gdOf, gdv, picka, pickv, pickw, binv, bini, bins, binb, binp, binq, isSlT, bina, shp, eqCells, unv, convv, nilv, faddv, addp, idxav, idxp, load1, load1m, loadn, loadnm, loadv, hget, hset, hrep, hdel, slicev, bnd, shift1, lenv, capv, IntKind.bits, extractv, fieldv, indexv, min2v, max2v, mkiv, cellsA, fillA, buildv, stC, oneC, rowMB, intsA, plN, appE, appZ, appC, appNZ, appNC, VwL, srcC, srcZ, srcM, isBoolT, isPtrT, isSliceT, uOk, Value.oneCell', Nat.reducePow, Int.reducePow, Nat.reduceAdd, Nat.reduceMul, Nat.reduceSub, Nat.reduceLT, Nat.reduceLeDiff, Nat.reduceEqDiff, Nat.reduceBEq, Nat.reduceDiv, Nat.reduceMod, ↓reduceIte, reduceCtorEq, Int.reduceToNat, Int.reduceLT, Int.reduceLE, TFExP, SeqQ, BlkQ, LoopQ, BodyQ, hbQ, e5, FR]; first | done | rfl)) ?_; simp only [frzCE, frzC, ZK, rvc, drawF, headN, pureH, stp, dvc, calleeOf, gcall, pev, eff, newB, okd, og, ogs, ogo, ogp, slv, bltv, opd, litv, strip, one, both, putE, St.put, look, gdOf, gdv, picka, pickv, pickw, binv, bini, bins, binb, binp, binq, isSlT, bina, shp, eqCells, unv, convv, nilv, faddv, addp, idxav, idxp, load1, load1m, loadn, loadnm, loadv, hget, hset, hrep, hdel, slicev, bnd, shift1, lenv, capv, IntKind.bits, extractv, fieldv, indexv, min2v, max2v, mkiv, cellsA, fillA, buildv, stC, oneC, rowMB, intsA, plN, appE, appZ, appC, appNZ, appNC, VwL, srcC, srcZ, srcM, isBoolT, isPtrT, isSliceT, uOk, Value.oneCell', Nat.reducePow, Int.reducePow, Nat.reduceAdd, Nat.reduceMul, Nat.reduceSub, Nat.reduceLT, Nat.reduceLeDiff, Nat.reduceEqDiff, Nat.reduceBEq, Nat.reduceDiv, Nat.reduceMod, ↓reduceIte, reduceCtorEq, Int.reduceToNat, Int.reduceLT, Int.reduceLE, TFExP, SeqQ, BlkQ, LoopQ, BodyQ, hbQ, e5, FR])
    (refine OutQ.all ?_ ?_; (focus (simp only [resv, ZK, look, loadv, loadn, loadnm, load1, load1m, hget, ↓reduceIte, Nat.reduceEqDiff, Nat.reduceAdd, Nat.reduceMul, Nat.reduceLeDiff, Nat.reduceLT, reduceCtorEq, TFExP, hQ, hL])); (try simp only [resv, resA, Fn, ZK, look, loadv, loadn, loadnm, load1, load1m, hget, ↓reduceIte, Nat.reduceEqDiff, Nat.reduceAdd, Nat.reduceMul, Nat.reduceLeDiff, Nat.reduceLT, reduceCtorEq, TFExP, hQ, hL]); (try simp [resA, Fn, look, hQ, hL]))
    omega
end Go.Proofs.Ytngdgicgppaeaaa
namespace Go.Proofs.Ytngdgicgppaeaaa
open Go
set_option linter.unusedVariables false
set_option linter.unusedSimpArgs false
theorem bitsW_ct (a : Nat) (ha : a < 340282366920938463463374607431768211456) : ACt Try.prog 13 [wideA a] [] (Fn (.sl 128 (bl (bitsN a 128)))) := by
  have := bits_ct (a / 18446744073709551616) (a % 18446744073709551616) (by omega) (by omega)
  rw [show a / 18446744073709551616 * 18446744073709551616 + a % 18446744073709551616 = a by omega] at this
  exact this
theorem bits_val (a : Nat) (ha : a < 340282366920938463463374607431768211456) : valB (bitsN a 128) = a := by
  have p : (2 : Nat) ^ 128 = 340282366920938463463374607431768211456 := by decide
  rw [valB_bitsN, p, Nat.mod_eq_of_lt ha]
end Go.Proofs.Ytngdgicgppaeaaa
namespace Go.Proofs.Ytngdgicgppaeaaa
open Go
set_option linter.unusedVariables false
set_option linter.unusedSimpArgs false
def isD (x : Int) : Bool := decide (48 ≤ x) && decide (x ≤ 57)
def okZ (zs : List Int) : Bool := !zs.isEmpty && zs.all isD && !(zs.getD 0 0 == 48 && decide (1 < zs.length))
def decV (zs : List Int) : Nat := zs.foldl (fun a d => a * 10 + (d - 48).toNat) 0
theorem decV_snoc (ys : List Int) (d : Int) : decV (ys ++ [d]) = decV ys * 10 + (d - 48).toNat := by simp [decV, List.foldl_append]
theorem decV_take (zs : List Int) (i : Nat) (h : i < zs.length) : decV (zs.take (i + 1)) = decV (zs.take i) * 10 + (zs.getD i 0 - 48).toNat := by
  rw [List.take_add_one, List.getElem?_eq_getElem h]
  rw [show (some zs[i]).toList = [zs[i]] from rfl, decV_snoc]
  simp [List.getD_eq_getElem?_getD, List.getElem?_eq_getElem h]
theorem decV_mono (zs : List Int) : ∀ k i, i + k = zs.length → decV (zs.take i) ≤ decV zs
  | 0, i, h => by rw [List.take_of_length_le (by omega)]; exact Nat.le_refl _
  | k + 1, i, h => by
    have h1 := decV_mono zs k (i + 1) (by omega)
    have h2 := decV_take zs i (by omega)
    omega
theorem decV_le {zs : List Int} {i : Nat} (h : i ≤ zs.length) : decV (zs.take i) ≤ decV zs := decV_mono zs (zs.length - i) i (by omega)
theorem isD_of {zs : List Int} (h : zs.all isD = true) {i : Nat} (hi : i < zs.length) : 48 ≤ zs.getD i 0 ∧ zs.getD i 0 ≤ 57 := by
  have := List.all_eq_true.1 h _ (List.getElem_mem hi)
  simp only [isD, Bool.and_eq_true, decide_eq_true_eq] at this
  simpa [List.getD_eq_getElem?_getD, List.getElem?_eq_getElem hi] using this
structure OkZ (zs : List Int) : Prop where
  ne : 0 < zs.length
  d : ∀ i, i < zs.length → 48 ≤ zs.getD i 0 ∧ zs.getD i 0 ≤ 57
  z : zs.getD 0 0 = 48 → zs.length = 1
theorem okZ_iff (zs : List Int) : okZ zs = true ↔ OkZ zs := by
  unfold okZ
  constructor
  · intro h
    simp only [Bool.and_eq_true, Bool.not_eq_true', Bool.and_eq_false_imp, beq_iff_eq, decide_eq_false_iff_not] at h
    obtain ⟨⟨h1, h2⟩, h3⟩ := h
    have h0 : 0 < zs.length := by
      cases zs with
      | nil => simp at h1
      | cons a r => simp
    exact ⟨h0, fun i hi => isD_of h2 hi, fun h => by have := h3 h; omega⟩
  · intro h
    have h1 : zs.isEmpty = false := by
      cases zs with
      | nil => have := h.ne; simp at this
      | cons a r => rfl
    have h2 : zs.all isD = true := by
      rw [List.all_eq_true]
      intro x hx
      obtain ⟨i, hi, rfl⟩ := List.mem_iff_getElem.1 hx
      have := h.d i hi
      simpa [isD, List.getD_eq_getElem?_getD, List.getElem?_eq_getElem hi] using this
    have h3 : (zs.getD 0 0 == 48 && decide (1 < zs.length)) = false := by
      by_cases hz : zs.getD 0 0 = 48
      · have := h.z hz; simp [this]
      · rw [beq_eq_false_iff_ne.2 hz]; rfl
    rw [h1, h2, h3]; rfl
theorem OkZ.init {ys : List Int} {d : Int} (h : OkZ (ys ++ [d])) (hy : 0 < ys.length) : OkZ ys ∧ ys.getD 0 0 ≠ 48 := by
  have e : ∀ i, i < ys.length → (ys ++ [d]).getD i 0 = ys.getD i 0 := fun i hi => by simp [List.getD_eq_getElem?_getD, List.getElem?_append_left hi]
  have hz : ys.getD 0 0 ≠ 48 := fun h0 => by
    have := h.z (by rw [e 0 hy]; exact h0)
    rw [List.length_append, List.length_singleton] at this; omega
  exact ⟨⟨hy, fun i hi => by rw [← e i hi]; exact h.d i (by simp; omega), fun h0 => absurd h0 hz⟩, hz⟩
theorem OkZ.pos {zs : List Int} : ∀ n, zs.length = n → OkZ zs → zs.getD 0 0 ≠ 48 → 10 ^ (n - 1) ≤ decV zs := by
  intro n
  induction n generalizing zs with
  | zero => intro h hk; have := hk.ne; omega
  | succ n ih =>
    intro h hk hz
    obtain ⟨ys, d, rfl⟩ : ∃ ys d, zs = ys ++ [d] := ⟨zs.dropLast, zs.getLast (by intro h0; simp [h0] at h), (List.dropLast_concat_getLast _).symm⟩
    have hl : ys.length = n := by simpa using h
    rw [decV_snoc]
    by_cases hy : 0 < ys.length
    · obtain ⟨h1, h2⟩ := hk.init hy
      have := ih hl h1 h2
      obtain ⟨m, rfl⟩ : ∃ m, n = m + 1 := ⟨n - 1, by omega⟩
      simp only [Nat.add_sub_cancel] at this ⊢
      rw [Nat.pow_succ]
      omega
    · have hy0 : ys = [] := List.eq_nil_of_length_eq_zero (by omega)
      subst hy0
      have hn : n = 0 := by simpa using hl.symm
      subst hn
      have hd := hk.d 0 (by simp)
      simp at hd hz ⊢
      omega
theorem digF_succ (f n : Nat) : digF (f + 1) n = (if n / 10 = 0 then [] else digF f (n / 10)) ++ [((48 + n % 10 : Nat) : Int)] := rfl
/-- what is written in digits is those digits of its value -/
theorem OkZ.digits {zs : List Int} : ∀ n f, zs.length = n → n ≤ f → OkZ zs → zs = digF f (decV zs) := by
  intro n
  induction n generalizing zs with
  | zero => intro f h _ hk; have := hk.ne; omega
  | succ n ih =>
    intro f h hf hk
    obtain ⟨g, rfl⟩ : ∃ g, f = g + 1 := ⟨f - 1, by omega⟩
    obtain ⟨ys, d, rfl⟩ : ∃ ys d, zs = ys ++ [d] := ⟨zs.dropLast, zs.getLast (by intro h0; simp [h0] at h), (List.dropLast_concat_getLast _).symm⟩
    have hl : ys.length = n := by simpa using h
    have hd := hk.d n (by simp; omega)
    have e : (ys ++ [d]).getD n 0 = d := by simp [List.getD_eq_getElem?_getD, ← hl]
    rw [e] at hd
    rw [decV_snoc, digF_succ]
    have q : (decV ys * 10 + (d - 48).toNat) / 10 = decV ys := by omega
    have r : ((48 + (decV ys * 10 + (d - 48).toNat) % 10 : Nat) : Int) = d := by omega
    rw [q, r]
    by_cases hy : 0 < ys.length
    · obtain ⟨h1, h2⟩ := hk.init hy
      have hp := OkZ.pos _ rfl h1 h2
      have : 0 < 10 ^ (ys.length - 1) := Nat.pow_pos (by omega)
      rw [if_neg (by omega), ← ih g hl (by omega) h1]
    · have hy0 : ys = [] := List.eq_nil_of_length_eq_zero (by omega)
      subst hy0
      rw [if_pos (by simp [decV])]
theorem digF_len : ∀ f n, (digF f n).length ≤ f
  | 0, n => by simp [digF]
  | f + 1, n => by
    rw [digF_succ]; split
    · simp
    · have := digF_len f (n / 10); simp; omega
theorem digF_ok : ∀ f n, 1 ≤ f → n < 10 ^ f → OkZ (digF f n) ∧ decV (digF f n) = n ∧ (0 < n → (digF f n).getD 0 0 ≠ 48)
  | f + 1, n, _, hn => by
    rw [digF_succ]
    by_cases hq : n / 10 = 0
    · rw [if_pos hq, List.nil_append]
      refine ⟨⟨by simp, fun i hi => ?_, fun _ => by simp⟩, ?_, fun h0 => ?_⟩
      · obtain rfl : i = 0 := by simpa using hi
        simp; omega
      · simp [decV]; omega
      · simp; omega
    · rw [if_neg hq]
      have hf : 1 ≤ f := by
        rcases Nat.eq_zero_or_pos f with h | h
        · subst h; simp at hn; omega
        · exact h
      obtain ⟨h1, h2, h3⟩ := digF_ok f (n / 10) hf (by rw [Nat.pow_succ] at hn; omega)
      have h4 := h3 (by omega)
      have e : ∀ i, i < (digF f (n / 10)).length → (digF f (n / 10) ++ [((48 + n % 10 : Nat) : Int)]).getD i 0 = (digF f (n / 10)).getD i 0 := fun i hi => by simp [List.getD_eq_getElem?_getD, List.getElem?_append_left hi]
      have hne := h1.ne
      refine ⟨⟨by simp, fun i hi => ?_, fun h0 => ?_⟩, ?_, fun _ => ?_⟩
      · by_cases hi' : i < (digF f (n / 10)).length
        · rw [e i hi']; exact h1.d i hi'
        · have : i = (digF f (n / 10)).length := by simp at hi; omega
          subst this
          simp [List.getD_eq_getElem?_getD]; omega
      · rw [e 0 hne] at h0; exact absurd h0 h4
      · rw [decV_snoc, h2]; omega
      · rw [e 0 hne]; exact h4
theorem big39 {zs : List Int} (h : OkZ zs) (hl : 39 < zs.length) : ¬ decV zs < 340282366920938463463374607431768211456 := by
  have hz : zs.getD 0 0 ≠ 48 := fun h0 => by have := h.z h0; omega
  have := OkZ.pos _ rfl h hz
  have h2 : 10 ^ 39 ≤ 10 ^ (zs.length - 1) := Nat.pow_le_pow_right (by omega) (by omega)
  omega
/-- what is read of a text -/
def rdA (zs : List Int) : AV := if okZ zs = true then .tup [wideV (decV zs), iv .i64 (codeV (decV zs))] else .tup [.agg [iv .u64 0, iv .u64 0], iv .i64 5]
end Go.Proofs.Ytngdgicgppaeaaa
namespace Go.Proofs.Ytngdgicgppaeaaa
open Go
set_option linter.unusedVariables false
set_option linter.unusedSimpArgs false
theorem TFExS : (((((type_of% tyc0) ∧ ((type_of% tyc3) ∧ (type_of% zmb3))) ∧ (((type_of% tyc4) ∧ (type_of% zmb4)) ∧ ((type_of% tyc9) ∧ (type_of% zmb9)))) ∧ ((((type_of% tyc21) ∧ (type_of% zmb21)) ∧ ((type_of% tyc22) ∧ (type_of% zmb22))) ∧ (((type_of% tyc24) ∧ (type_of% foff24_0)) ∧ ((type_of% fpart24_0) ∧ (type_of% foff24_1))))) ∧ (((((type_of% fpart24_1) ∧ (type_of% fe24)) ∧ ((type_of% zmb24) ∧ (type_of% bldT24))) ∧ (((type_of% tyc29) ∧ (type_of% zmb29)) ∧ ((type_of% tyc54) ∧ (type_of% Try.underlying0)))) ∧ ((((type_of% Try.underlying3) ∧ (type_of% Try.underlying4)) ∧ ((type_of% Try.underlying9) ∧ (type_of% Try.underlying21))) ∧ (((type_of% Try.underlying22) ∧ (type_of% Try.underlying24)) ∧ ((type_of% Try.underlying29) ∧ (type_of% Try.underlying54)))))) :=
  ⟨⟨⟨⟨tyc0, ⟨tyc3, zmb3⟩⟩, ⟨⟨tyc4, zmb4⟩, ⟨tyc9, zmb9⟩⟩⟩, ⟨⟨⟨tyc21, zmb21⟩, ⟨tyc22, zmb22⟩⟩, ⟨⟨tyc24, foff24_0⟩, ⟨fpart24_0, foff24_1⟩⟩⟩⟩, ⟨⟨⟨⟨fpart24_1, fe24⟩, ⟨zmb24, bldT24⟩⟩, ⟨⟨tyc29, zmb29⟩, ⟨tyc54, Try.underlying0⟩⟩⟩, ⟨⟨⟨Try.underlying3, Try.underlying4⟩, ⟨Try.underlying9, Try.underlying21⟩⟩, ⟨⟨Try.underlying22, Try.underlying24⟩, ⟨Try.underlying29, Try.underlying54⟩⟩⟩⟩⟩
abbrev stz (zs : List Int) : AV := .lit (.string (bstr zs))
theorem bstr_size (zs : List Int) : (bstr zs).size = zs.length := by simp [bstr, ByteArray.size]
def By (zs : List Int) : Prop := ∀ i, i < zs.length → 0 ≤ zs.getD i 0 ∧ zs.getD i 0 ≤ 255
theorem bstr_get {zs : List Int} (hb : By zs) {i : Nat} (h : i < zs.length) : (((bstr zs).get! i).toNat : Int) = zs.getD i 0 := by
  have hb := hb i h
  have e : (bstr zs).get! i = UInt8.ofNat (zs.getD i 0).toNat := by
    unfold bstr
    show (Array.mk _)[i]! = _
    rw [getElem!_pos _ _ (by simpa using h)]
    simp [List.getD_eq_getElem?_getD, List.getElem?_eq_getElem h]
  rw [e]
  have : (UInt8.ofNat (zs.getD i 0).toNat).toNat = (zs.getD i 0).toNat := by rw [UInt8.toNat_ofNat']; exact Nat.mod_eq_of_lt (by omega)
  rw [this]
  omega
theorem dec_lo {zs : List Int} (hb : By zs) {i : Nat} (h : i < zs.length) (hl : zs.getD i 0 < 128) : Utf8.decode (bstr zs) i = ((zs.getD i 0).toNat, 1) := by
  have hg := bstr_get hb h
  unfold Utf8.decode
  simp only [Nat.add_zero]
  rw [if_pos (by omega)]
  congr 1
  omega
theorem dec_hi {zs : List Int} (hb : By zs) {i : Nat} (h : i < zs.length) (hl : ¬ zs.getD i 0 < 128) : 128 ≤ (Utf8.decode (bstr zs) i).1 ∧ (Utf8.decode (bstr zs) i).1 < 2000000 := by
  have hg := bstr_get hb h
  unfold Utf8.decode
  simp only [Nat.add_zero]
  rw [if_neg (by omega)]
  have hv : ∀ c : Nat, Utf8.valid (c : Int) = true → c < 2000000 := fun c hc => by
    unfold Utf8.valid at hc
    simp only [Bool.and_eq_true, Bool.or_eq_true, decide_eq_true_eq] at hc
    omega
  have hr : 128 ≤ Utf8.runeError ∧ Utf8.runeError < 2000000 := by decide
  split
  · split
    · exact ⟨by omega, by omega⟩
    · exact hr
  · split
    · split
      · rename_i hc
        simp only [Bool.and_eq_true, decide_eq_true_eq] at hc
        exact ⟨by simp only; omega, hv _ hc.2⟩
      · exact hr
    · split
      · split
        · rename_i hc
          simp only [Bool.and_eq_true, decide_eq_true_eq] at hc
          exact ⟨by simp only; omega, hv _ hc.2⟩
        · exact hr
      · exact hr
theorem bstr_nil {zs : List Int} : (bstr zs != (⟨#[]⟩ : ByteArray)) = !zs.isEmpty := by
  cases zs with
  | nil => rfl
  | cons a r => rfl
theorem digits_ct (zs : List Int) (hb : By zs) (hl : zs.length ≤ 1000) : ACt Try.prog 46 [stz zs] [] (Fn (bv (okZ zs))) := by
  refine ACt.intro Try.func46 rfl (by kernel_rfl) (by simp [Try.ntmps46]) (fun cx => ?_)
  simp only [argE, Try.ntmps46, Try.results46]
  have hs := bstr_size zs
  have hn := bstr_nil (zs := zs)
  obtain ⟨B, hB⟩ : ∃ B, B = bstr zs := ⟨_, rfl⟩
  unfold stz
  rw [← hB] at hs hn ⊢
  first | (have FRx := FR; clear FRx) | (have FR : Sm (¬ ((1 : Nat) = 0)) := Sm.mk Nat.one_ne_zero)
  repeat' first
    | (refine Sm.mk ?_; try simp -dsimp only [ZK, rvc, drawF, headN, pureH, stp, dvc, calleeOf, gcall, pev, eff, newB, okd, og, ogs, ogo, ogp, slv, bltv, opd, litv, strip, one, both, putE, St.put, look, gdOf, gdv, picka, pickv, pickw, binv, bini, bins, binb, binp, binq, isSlT, bina, shp, eqCells, unv, convv, nilv, faddv, addp, idxav, idxp, load1, load1m, loadn, loadnm, loadv, hget, hset, hrep, hdel, slicev, bnd, shift1, lenv, capv, IntKind.bits, extractv, fieldv, indexv, min2v, max2v, mkiv, cellsA, fillA, buildv, stC, oneC, rowMB, intsA, plN, appE, appZ, appC, appNZ, appNC, VwL, srcC, srcZ, srcM, isBoolT, isPtrT, isSliceT, uOk, Value.oneCell', Nat.reducePow, Int.reducePow, Nat.reduceAdd, Nat.reduceMul, Nat.reduceSub, Nat.reduceLT, Nat.reduceLeDiff, Nat.reduceEqDiff, Nat.reduceBEq, Nat.reduceDiv, Nat.reduceMod, ↓reduceIte, reduceCtorEq, Int.reduceToNat, Int.reduceLT, Int.reduceLE, TFExS, SeqQ, BlkQ, LoopQ, BodyQ, FR.out])
    | (refine WP.seq fun K hK => ?_)
    | (refine WP.region (rvc_sound _ _ (Sm.out ?_)))
    | (refine WP.drawK rfl mixed (by decide +kernel) (Sm.out ?_))
    | (refine Ob.mk ?_; focus (first | assumption | omega | decide | trivial | (intro hob; simp only [hob, ZF]; done) | (intros; (repeat' refine And.intro ?_ ?_) <;> first | assumption | omega | trivial | decide) | (intros; simp only [ZE] at *; (repeat' refine And.intro ?_ ?_) <;> first | assumption | omega | trivial)))
    | (refine And.intro (Ob.out ?_) ?_)
    | (refine WP.block ?_)
    | (refine WP.cond rfl (fun hc => ?_) (fun hc => ?_) <;> (try simp only [ZC, reduceCtorEq, ZD] at hc) <;> (try (exact absurd hc (by decide))) <;> (try (exfalso; omega)))
    | ((first | refine WP.skip ?_ | refine WP.exit ?_); simp only [SeqQ, BlkQ, LoopQ, BodyQ, ↓reduceIte, Nat.reduceEqDiff, reduceCtorEq, look, true_and])
    | (refine WP.ret (Sm.out ?_))
    | (first | refine ExG.no (Sm.out ?_) | refine Or.inl (ExG.no (Sm.out ?_)) | refine Or.inl (And.intro (fun hg => absurd hg (by decide)) (ExG.no (Sm.out ?_))))
    | (refine Rt.mk ?_; refine And.intro ?_ ?_ <;> (intro hg; first | exact absurd hg (by decide) | refine Sm.out ?_))
    | (refine Nu.mk ?_; first | (fail_if_success (have := nb1)); intro nb1 | (fail_if_success (have := nb2)); intro nb2 | (fail_if_success (have := nb3)); intro nb3 | intro nbz)
    | (refine Fr.mk ?_; intro hfr; (first | (have hFRb : _ ≤ _ ∧ _ ≤ _ := And.intro hfr.1 hfr.2.1) | (have hFRb : _ ≤ _ := hfr.1) | skip); replace FR := Sm.mk (And.intro hfr FR.out); clear hfr; refine Sm.out ?_)
    | (refine Two.mk ?_ ?_)
    | (refine Cs.mk ?_; intro hcs; first | exact False.elim hcs | (exfalso; omega) | (refine Sm.out ?_))
    | go_step
    | omega
    | (simp only [maxLen_eq]; omega)
  refine WP.loop (Γ := Nat) (fun i => ⟨[(6, pt nb1 0), (0, .lit (.string B))], [(nb1, .obj (.stringIter B i))]⟩)
    (fun i => i ≤ zs.length ∧ (∀ j, j < i → 48 ≤ zs.getD j 0 ∧ zs.getD j 0 ≤ 57) ∧ (0 < i → zs.getD 0 0 = 48 → zs.length = 1)) (fun i => zs.length - i) 0 ⟨by omega, fun j hj => by omega, fun h => by omega⟩ (Sub.pick (by simp [pickB, hget, hdel, FR.out]) (by simp [look])) ?_
  intro i ⟨hi, hd, hz⟩
  have FR : Sm (¬ ((1 : Nat) = 0)) := Sm.mk Nat.one_ne_zero
  by_cases hlt : i < zs.length
  · have hbi := hb i hlt
    obtain ⟨c, hc0⟩ : ∃ c, c = zs.getD i 0 := ⟨_, rfl⟩
    by_cases hc : c < 128
    · have hdec := dec_lo hb hlt (by rw [← hc0]; exact hc)
      rw [← hB, ← hc0] at hdec
      rw [← hc0] at hbi
      have e1 : ((c.toNat : Nat) : Int) = c := by omega
      by_cases hok : (48 ≤ c ∧ c ≤ 57) ∧ (i = 0 → c = 48 → zs.length = 1)
      · have k1 : (decide (c < 48) || decide (c > 57) || ((i : Int) == 0 && c == 48 && decide ((zs.length : Int) > 1))) = false := by
          have h1 : decide (c < 48) = false := by simp; omega
          have h2 : decide (c > 57) = false := by simp; omega
          rw [h1, h2]
          by_cases h0 : i = 0 ∧ c = 48
          · have := hok.2 h0.1 h0.2
            simp [this]
          · have : ((i : Int) == 0 && c == 48) = false := by
              simp only [Bool.and_eq_false_imp, beq_iff_eq]; intro h; simp; omega
            rw [this]; rfl
        first | (have FRx := FR; clear FRx) | (have FR : Sm (¬ ((1 : Nat) = 0)) := Sm.mk Nat.one_ne_zero)
        repeat' first
          | (refine Sm.mk ?_; try simp -dsimp only [ZK, rvc, drawF, headN, pureH, stp, dvc, calleeOf, gcall, pev, eff, newB, okd, og, ogs, ogo, ogp, slv, bltv, opd, litv, strip, one, both, putE, St.put, look, gdOf, gdv, picka, pickv, pickw, binv, bini, bins, binb, binp, binq, isSlT, bina, shp, eqCells, unv, convv, nilv, faddv, addp, idxav, idxp, load1, load1m, loadn, loadnm, loadv, hget, hset, hrep, hdel, slicev, bnd, shift1, lenv, capv, IntKind.bits, extractv, fieldv, indexv, min2v, max2v, mkiv, cellsA, fillA, buildv, stC, oneC, rowMB, intsA, plN, appE, appZ, appC, appNZ, appNC, VwL, srcC, srcZ, srcM, isBoolT, isPtrT, isSliceT, uOk, Value.oneCell', Nat.reducePow, Int.reducePow, Nat.reduceAdd, Nat.reduceMul, Nat.reduceSub, Nat.reduceLT, Nat.reduceLeDiff, Nat.reduceEqDiff, Nat.reduceBEq, Nat.reduceDiv, Nat.reduceMod, ↓reduceIte, reduceCtorEq, Int.reduceToNat, Int.reduceLT, Int.reduceLE, TFExS, SeqQ, BlkQ, LoopQ, BodyQ, hdec, e1, k1, hs, FR.out])
          | (refine WP.seq fun K hK => ?_)
          | (refine WP.region (rvc_sound _ _ (Sm.out ?_)))
          | (refine WP.drawK rfl mixed (by decide +kernel) (Sm.out ?_))
          | (refine Ob.mk ?_; focus (first | assumption | omega | decide | trivial | (intro hob; simp only [hob, ZF]; done) | (intros; (repeat' refine And.intro ?_ ?_) <;> first | assumption | omega | trivial | decide) | (intros; simp only [ZE] at *; (repeat' refine And.intro ?_ ?_) <;> first | assumption | omega | trivial)))
          | (refine And.intro (Ob.out ?_) ?_)
          | (refine WP.block ?_)
          | (refine WP.cond rfl (fun hc => ?_) (fun hc => ?_) <;> (try simp only [ZC, reduceCtorEq, ZD] at hc) <;> (try (exact absurd hc (by decide))) <;> (try (exfalso; omega)))
          | ((first | refine WP.skip ?_ | refine WP.exit ?_); simp only [SeqQ, BlkQ, LoopQ, BodyQ, ↓reduceIte, Nat.reduceEqDiff, reduceCtorEq, look, true_and])
          | (refine WP.ret (Sm.out ?_))
          | (first | refine ExG.no (Sm.out ?_) | refine Or.inl (ExG.no (Sm.out ?_)) | refine Or.inl (And.intro (fun hg => absurd hg (by decide)) (ExG.no (Sm.out ?_))))
          | (refine Rt.mk ?_; refine And.intro ?_ ?_ <;> (intro hg; first | exact absurd hg (by decide) | refine Sm.out ?_))
          | (refine Nu.mk ?_; first | (fail_if_success (have := nb1)); intro nb1 | (fail_if_success (have := nb2)); intro nb2 | (fail_if_success (have := nb3)); intro nb3 | intro nbz)
          | (refine Fr.mk ?_; intro hfr; (first | (have hFRb : _ ≤ _ ∧ _ ≤ _ := And.intro hfr.1 hfr.2.1) | (have hFRb : _ ≤ _ := hfr.1) | skip); replace FR := Sm.mk (And.intro hfr FR.out); clear hfr; refine Sm.out ?_)
          | (refine Two.mk ?_ ?_)
          | (refine Cs.mk ?_; intro hcs; first | exact False.elim hcs | (exfalso; omega) | (refine Sm.out ?_))
          | go_step
          | omega
          | (simp only [maxLen_eq]; omega)
        refine ⟨i + 1, ⟨by omega, fun j hj => ?_, fun _ h48 => ?_⟩, by omega, (Sub.pick (by simp [pickB, hget, hdel, FR.out]) (by simp [look]))⟩
        · by_cases hji : j = i
          · subst hji; rw [← hc0]; exact hok.1
          · exact hd j (by omega)
        · by_cases h0 : i = 0
          · subst h0; exact hok.2 rfl (by rw [hc0]; exact h48)
          · exact hz (by omega) h48
      · have hno : okZ zs = false := by
          cases h : okZ zs with
          | false => rfl
          | true =>
            have h' := (okZ_iff zs).1 h
            have h1 := h'.d i hlt
            rw [← hc0] at h1
            exact absurd ⟨h1, fun h0 h48 => h'.z (by subst h0; rw [← hc0]; exact h48)⟩ hok
        first | (have FRx := FR; clear FRx) | (have FR : Sm (¬ ((1 : Nat) = 0)) := Sm.mk Nat.one_ne_zero)
        repeat' first
          | (refine Sm.mk ?_; try simp -dsimp only [ZK, rvc, drawF, headN, pureH, stp, dvc, calleeOf, gcall, pev, eff, newB, okd, og, ogs, ogo, ogp, slv, bltv, opd, litv, strip, one, both, putE, St.put, look, gdOf, gdv, picka, pickv, pickw, binv, bini, bins, binb, binp, binq, isSlT, bina, shp, eqCells, unv, convv, nilv, faddv, addp, idxav, idxp, load1, load1m, loadn, loadnm, loadv, hget, hset, hrep, hdel, slicev, bnd, shift1, lenv, capv, IntKind.bits, extractv, fieldv, indexv, min2v, max2v, mkiv, cellsA, fillA, buildv, stC, oneC, rowMB, intsA, plN, appE, appZ, appC, appNZ, appNC, VwL, srcC, srcZ, srcM, isBoolT, isPtrT, isSliceT, uOk, Value.oneCell', Nat.reducePow, Int.reducePow, Nat.reduceAdd, Nat.reduceMul, Nat.reduceSub, Nat.reduceLT, Nat.reduceLeDiff, Nat.reduceEqDiff, Nat.reduceBEq, Nat.reduceDiv, Nat.reduceMod, ↓reduceIte, reduceCtorEq, Int.reduceToNat, Int.reduceLT, Int.reduceLE, TFExS, SeqQ, BlkQ, LoopQ, BodyQ, hdec, e1, hs, FR.out])
          | (refine WP.seq fun K hK => ?_)
          | (refine WP.region (rvc_sound _ _ (Sm.out ?_)))
          | (refine WP.drawK rfl mixed (by decide +kernel) (Sm.out ?_))
          | (refine Ob.mk ?_; focus (first | assumption | omega | decide | trivial | (intro hob; simp only [hob, ZF]; done) | (intros; (repeat' refine And.intro ?_ ?_) <;> first | assumption | omega | trivial | decide) | (intros; simp only [ZE] at *; (repeat' refine And.intro ?_ ?_) <;> first | assumption | omega | trivial)))
          | (refine And.intro (Ob.out ?_) ?_)
          | (refine WP.block ?_)
          | (refine WP.cond rfl (fun hc => ?_) (fun hc => ?_) <;> (try simp only [ZC, reduceCtorEq, ZD] at hc) <;> (try (exact absurd hc (by decide))) <;> (try (exfalso; omega)))
          | ((first | refine WP.skip ?_ | refine WP.exit ?_); simp only [SeqQ, BlkQ, LoopQ, BodyQ, ↓reduceIte, Nat.reduceEqDiff, reduceCtorEq, look, true_and])
          | (refine WP.ret (Sm.out ?_))
          | (first | refine ExG.no (Sm.out ?_) | refine Or.inl (ExG.no (Sm.out ?_)) | refine Or.inl (And.intro (fun hg => absurd hg (by decide)) (ExG.no (Sm.out ?_))))
          | (refine Rt.mk ?_; refine And.intro ?_ ?_ <;> (intro hg; first | exact absurd hg (by decide) | refine Sm.out ?_))
          | (refine Nu.mk ?_; first | (fail_if_success (have := nb1)); intro nb1 | (fail_if_success (have := nb2)); intro nb2 | (fail_if_success (have := nb3)); intro nb3 | intro nbz)
          | (refine Fr.mk ?_; intro hfr; (first | (have hFRb : _ ≤ _ ∧ _ ≤ _ := And.intro hfr.1 hfr.2.1) | (have hFRb : _ ≤ _ := hfr.1) | skip); replace FR := Sm.mk (And.intro hfr FR.out); clear hfr; refine Sm.out ?_)
          | (refine Two.mk ?_ ?_)
          | (refine Cs.mk ?_; intro hcs; first | exact False.elim hcs | (exfalso; omega) | (refine Sm.out ?_))
          | go_step
          | omega
          | (simp only [maxLen_eq]; omega)
        (refine OutQ.all ?_ ?_; (focus (simp only [resv, ZK, look, loadv, loadn, loadnm, load1, load1m, hget, ↓reduceIte, Nat.reduceEqDiff, Nat.reduceAdd, Nat.reduceMul, Nat.reduceLeDiff, Nat.reduceLT, reduceCtorEq, TFExS, hno])); (try simp only [resv, resA, Fn, ZK, look, loadv, loadn, loadnm, load1, load1m, hget, ↓reduceIte, Nat.reduceEqDiff, Nat.reduceAdd, Nat.reduceMul, Nat.reduceLeDiff, Nat.reduceLT, reduceCtorEq, TFExS, hno]); (try simp [resA, Fn, look, hno]))
    · have hdec := dec_hi hb hlt (by rw [← hc0]; exact hc)
      rw [← hB] at hdec
      obtain ⟨⟨r, w⟩, hp⟩ : ∃ p, p = Utf8.decode B i := ⟨_, rfl⟩
      have hp := hp.symm
      rw [hp] at hdec
      have k1 : (decide ((r : Int) < 48) || decide ((r : Int) > 57)) = true := by simp; omega
      have hno : okZ zs = false := by
        cases h : okZ zs with
        | false => rfl
        | true =>
          have h1 := ((okZ_iff zs).1 h).d i hlt
          omega
      first | (have FRx := FR; clear FRx) | (have FR : Sm (¬ ((1 : Nat) = 0)) := Sm.mk Nat.one_ne_zero)
      repeat' first
        | (refine Sm.mk ?_; try simp -dsimp only [ZK, rvc, drawF, headN, pureH, stp, dvc, calleeOf, gcall, pev, eff, newB, okd, og, ogs, ogo, ogp, slv, bltv, opd, litv, strip, one, both, putE, St.put, look, gdOf, gdv, picka, pickv, pickw, binv, bini, bins, binb, binp, binq, isSlT, bina, shp, eqCells, unv, convv, nilv, faddv, addp, idxav, idxp, load1, load1m, loadn, loadnm, loadv, hget, hset, hrep, hdel, slicev, bnd, shift1, lenv, capv, IntKind.bits, extractv, fieldv, indexv, min2v, max2v, mkiv, cellsA, fillA, buildv, stC, oneC, rowMB, intsA, plN, appE, appZ, appC, appNZ, appNC, VwL, srcC, srcZ, srcM, isBoolT, isPtrT, isSliceT, uOk, Value.oneCell', Nat.reducePow, Int.reducePow, Nat.reduceAdd, Nat.reduceMul, Nat.reduceSub, Nat.reduceLT, Nat.reduceLeDiff, Nat.reduceEqDiff, Nat.reduceBEq, Nat.reduceDiv, Nat.reduceMod, ↓reduceIte, reduceCtorEq, Int.reduceToNat, Int.reduceLT, Int.reduceLE, TFExS, SeqQ, BlkQ, LoopQ, BodyQ, hp, k1, hs, FR.out])
        | (refine WP.seq fun K hK => ?_)
        | (refine WP.region (rvc_sound _ _ (Sm.out ?_)))
        | (refine WP.drawK rfl mixed (by decide +kernel) (Sm.out ?_))
        | (refine Ob.mk ?_; focus (first | assumption | omega | decide | trivial | (intro hob; simp only [hob, ZF]; done) | (intros; (repeat' refine And.intro ?_ ?_) <;> first | assumption | omega | trivial | decide) | (intros; simp only [ZE] at *; (repeat' refine And.intro ?_ ?_) <;> first | assumption | omega | trivial)))
        | (refine And.intro (Ob.out ?_) ?_)
        | (refine WP.block ?_)
        | (refine WP.cond rfl (fun hc => ?_) (fun hc => ?_) <;> (try simp only [ZC, reduceCtorEq, ZD] at hc) <;> (try (exact absurd hc (by decide))) <;> (try (exfalso; omega)))
        | ((first | refine WP.skip ?_ | refine WP.exit ?_); simp only [SeqQ, BlkQ, LoopQ, BodyQ, ↓reduceIte, Nat.reduceEqDiff, reduceCtorEq, look, true_and])
        | (refine WP.ret (Sm.out ?_))
        | (first | refine ExG.no (Sm.out ?_) | refine Or.inl (ExG.no (Sm.out ?_)) | refine Or.inl (And.intro (fun hg => absurd hg (by decide)) (ExG.no (Sm.out ?_))))
        | (refine Rt.mk ?_; refine And.intro ?_ ?_ <;> (intro hg; first | exact absurd hg (by decide) | refine Sm.out ?_))
        | (refine Nu.mk ?_; first | (fail_if_success (have := nb1)); intro nb1 | (fail_if_success (have := nb2)); intro nb2 | (fail_if_success (have := nb3)); intro nb3 | intro nbz)
        | (refine Fr.mk ?_; intro hfr; (first | (have hFRb : _ ≤ _ ∧ _ ≤ _ := And.intro hfr.1 hfr.2.1) | (have hFRb : _ ≤ _ := hfr.1) | skip); replace FR := Sm.mk (And.intro hfr FR.out); clear hfr; refine Sm.out ?_)
        | (refine Two.mk ?_ ?_)
        | (refine Cs.mk ?_; intro hcs; first | exact False.elim hcs | (exfalso; omega) | (refine Sm.out ?_))
        | go_step
        | omega
        | (simp only [maxLen_eq]; omega)
      (refine OutQ.all ?_ ?_; (focus (simp only [resv, ZK, look, loadv, loadn, loadnm, load1, load1m, hget, ↓reduceIte, Nat.reduceEqDiff, Nat.reduceAdd, Nat.reduceMul, Nat.reduceLeDiff, Nat.reduceLT, reduceCtorEq, TFExS, hno])); (try simp only [resv, resA, Fn, ZK, look, loadv, loadn, loadnm, load1, load1m, hget, ↓reduceIte, Nat.reduceEqDiff, Nat.reduceAdd, Nat.reduceMul, Nat.reduceLeDiff, Nat.reduceLT, reduceCtorEq, TFExS, hno]); (try simp [resA, Fn, look, hno]))
  · obtain rfl : i = zs.length := by omega
    have hfin : okZ zs = !zs.isEmpty := by
      cases zs with
      | nil => rfl
      | cons a r =>
        rw [(okZ_iff _).2 ⟨by simp, fun j hj => hd j hj, fun h => hz (by simp) h⟩]
        rfl
    have hn2 : (B.toList == (⟨#[]⟩ : ByteArray).toList) = zs.isEmpty := by
      first | rw [beq_toListBytes, hB] | rw [← beq_toListBytes, hB]
      cases zs <;> rfl
    first | (have FRx := FR; clear FRx) | (have FR : Sm (¬ ((1 : Nat) = 0)) := Sm.mk Nat.one_ne_zero)
    repeat' first
      | (refine Sm.mk ?_; try simp -dsimp only [ZK, rvc, drawF, headN, pureH, stp, dvc, calleeOf, gcall, pev, eff, newB, okd, og, ogs, ogo, ogp, slv, bltv, opd, litv, strip, one, both, putE, St.put, look, gdOf, gdv, picka, pickv, pickw, binv, bini, bins, binb, binp, binq, isSlT, bina, shp, eqCells, unv, convv, nilv, faddv, addp, idxav, idxp, load1, load1m, loadn, loadnm, loadv, hget, hset, hrep, hdel, slicev, bnd, shift1, lenv, capv, IntKind.bits, extractv, fieldv, indexv, min2v, max2v, mkiv, cellsA, fillA, buildv, stC, oneC, rowMB, intsA, plN, appE, appZ, appC, appNZ, appNC, VwL, srcC, srcZ, srcM, isBoolT, isPtrT, isSliceT, uOk, Value.oneCell', Nat.reducePow, Int.reducePow, Nat.reduceAdd, Nat.reduceMul, Nat.reduceSub, Nat.reduceLT, Nat.reduceLeDiff, Nat.reduceEqDiff, Nat.reduceBEq, Nat.reduceDiv, Nat.reduceMod, ↓reduceIte, reduceCtorEq, Int.reduceToNat, Int.reduceLT, Int.reduceLE, TFExS, SeqQ, BlkQ, LoopQ, BodyQ, hs, hn, hn2, FR.out])
      | (refine WP.seq fun K hK => ?_)
      | (refine WP.region (rvc_sound _ _ (Sm.out ?_)))
      | (refine WP.drawK rfl mixed (by decide +kernel) (Sm.out ?_))
      | (refine Ob.mk ?_; focus (first | assumption | omega | decide | trivial | (intro hob; simp only [hob, ZF]; done) | (intros; (repeat' refine And.intro ?_ ?_) <;> first | assumption | omega | trivial | decide) | (intros; simp only [ZE] at *; (repeat' refine And.intro ?_ ?_) <;> first | assumption | omega | trivial)))
      | (refine And.intro (Ob.out ?_) ?_)
      | (refine WP.block ?_)
      | (refine WP.cond rfl (fun hc => ?_) (fun hc => ?_) <;> (try simp only [ZC, reduceCtorEq, ZD] at hc) <;> (try (exact absurd hc (by decide))) <;> (try (exfalso; omega)))
      | ((first | refine WP.skip ?_ | refine WP.exit ?_); simp only [SeqQ, BlkQ, LoopQ, BodyQ, ↓reduceIte, Nat.reduceEqDiff, reduceCtorEq, look, true_and])
      | (refine WP.ret (Sm.out ?_))
      | (first | refine ExG.no (Sm.out ?_) | refine Or.inl (ExG.no (Sm.out ?_)) | refine Or.inl (And.intro (fun hg => absurd hg (by decide)) (ExG.no (Sm.out ?_))))
      | (refine Rt.mk ?_; refine And.intro ?_ ?_ <;> (intro hg; first | exact absurd hg (by decide) | refine Sm.out ?_))
      | (refine Nu.mk ?_; first | (fail_if_success (have := nb1)); intro nb1 | (fail_if_success (have := nb2)); intro nb2 | (fail_if_success (have := nb3)); intro nb3 | intro nbz)
      | (refine Fr.mk ?_; intro hfr; (first | (have hFRb : _ ≤ _ ∧ _ ≤ _ := And.intro hfr.1 hfr.2.1) | (have hFRb : _ ≤ _ := hfr.1) | skip); replace FR := Sm.mk (And.intro hfr FR.out); clear hfr; refine Sm.out ?_)
      | (refine Two.mk ?_ ?_)
      | (refine Cs.mk ?_; intro hcs; first | exact False.elim hcs | (exfalso; omega) | (refine Sm.out ?_))
      | go_step
      | omega
      | (simp only [maxLen_eq]; omega)
    (refine OutQ.all ?_ ?_; (focus (simp only [resv, ZK, look, loadv, loadn, loadnm, load1, load1m, hget, ↓reduceIte, Nat.reduceEqDiff, Nat.reduceAdd, Nat.reduceMul, Nat.reduceLeDiff, Nat.reduceLT, reduceCtorEq, TFExS, FR.out, hfin, hn, hn2, Fn])); (simp only [resv, resA, ZK, look, loadv, loadn, loadnm, load1, load1m, hget, ↓reduceIte, Nat.reduceEqDiff, Nat.reduceAdd, Nat.reduceMul, Nat.reduceLeDiff, Nat.reduceLT, reduceCtorEq, TFExS, FR.out, hfin, hn, hn2, Fn]))
/-- the digits of what is read -/
theorem read_ct (zs : List Int) (hb : By zs) (hl : zs.length ≤ 1000) : ACt Try.prog 36 [stz zs] [] (Fn (rdA zs)) := by
  have c0 := digits_ct zs hb hl
  refine ACt.intro Try.func36 rfl (by kernel_rfl) (by simp [Try.ntmps36]) (fun cx => ?_)
  simp only [argE, Try.ntmps36, Try.results36]
  have hs := bstr_size zs
  obtain ⟨B, hB⟩ : ∃ B, B = bstr zs := ⟨_, rfl⟩
  unfold stz at c0 ⊢
  rw [← hB] at hs c0 ⊢
  cases hok : okZ zs
  · rw [hok] at c0
    have e : rdA zs = .tup [.agg [iv .u64 0, iv .u64 0], iv .i64 5] := by unfold rdA; rw [if_neg (by rw [hok]; simp)]
    rw [e]
    first | (have FRx := FR; clear FRx) | (have FR : Sm (¬ ((1 : Nat) = 0)) := Sm.mk Nat.one_ne_zero)
    repeat' first
      | (refine Sm.mk ?_; try simp -dsimp only [ZK, rvc, drawF, headN, pureH, stp, dvc, calleeOf, gcall, pev, eff, newB, okd, og, ogs, ogo, ogp, slv, bltv, opd, litv, strip, one, both, putE, St.put, look, gdOf, gdv, picka, pickv, pickw, binv, bini, bins, binb, binp, binq, isSlT, bina, shp, eqCells, unv, convv, nilv, faddv, addp, idxav, idxp, load1, load1m, loadn, loadnm, loadv, hget, hset, hrep, hdel, slicev, bnd, shift1, lenv, capv, IntKind.bits, extractv, fieldv, indexv, min2v, max2v, mkiv, cellsA, fillA, buildv, stC, oneC, rowMB, intsA, plN, appE, appZ, appC, appNZ, appNC, VwL, srcC, srcZ, srcM, isBoolT, isPtrT, isSliceT, uOk, Value.oneCell', Nat.reducePow, Int.reducePow, Nat.reduceAdd, Nat.reduceMul, Nat.reduceSub, Nat.reduceLT, Nat.reduceLeDiff, Nat.reduceEqDiff, Nat.reduceBEq, Nat.reduceDiv, Nat.reduceMod, ↓reduceIte, reduceCtorEq, Int.reduceToNat, Int.reduceLT, Int.reduceLE, TFExS, SeqQ, BlkQ, LoopQ, BodyQ, FR.out])
      | (first | refine CallV.fn (c0) (Sm.out ?_) | refine ExF.mk (c0) (Sm.out ?_) | refine ExG.mk (fun _ => c0) (Sm.out ?_) | refine ExG.mkJ (fun _ => c0) (Sm.out ?_) | refine ExG.mkI (Ob.out ?_) (fun _ => c0) (Sm.out ?_))
      | (refine WP.seq fun K hK => ?_)
      | (refine WP.region (rvc_sound _ _ (Sm.out ?_)))
      | (refine WP.drawK rfl mixed (by decide +kernel) (Sm.out ?_))
      | (refine Ob.mk ?_; focus (first | assumption | omega | decide | trivial | (intro hob; simp only [hob, ZF]; done) | (intros; (repeat' refine And.intro ?_ ?_) <;> first | assumption | omega | trivial | decide) | (intros; simp only [ZE] at *; (repeat' refine And.intro ?_ ?_) <;> first | assumption | omega | trivial)))
      | (refine And.intro (Ob.out ?_) ?_)
      | (refine WP.block ?_)
      | (refine WP.cond rfl (fun hc => ?_) (fun hc => ?_) <;> (try simp only [ZC, reduceCtorEq, ZD] at hc) <;> (try (exact absurd hc (by decide))) <;> (try (exfalso; omega)))
      | ((first | refine WP.skip ?_ | refine WP.exit ?_); simp only [SeqQ, BlkQ, LoopQ, BodyQ, ↓reduceIte, Nat.reduceEqDiff, reduceCtorEq, look, true_and])
      | (refine WP.ret (Sm.out ?_))
      | (first | refine ExG.no (Sm.out ?_) | refine Or.inl (ExG.no (Sm.out ?_)) | refine Or.inl (And.intro (fun hg => absurd hg (by decide)) (ExG.no (Sm.out ?_))))
      | (refine Rt.mk ?_; refine And.intro ?_ ?_ <;> (intro hg; first | exact absurd hg (by decide) | refine Sm.out ?_))
      | (refine Nu.mk ?_; first | (fail_if_success (have := nb1)); intro nb1 | (fail_if_success (have := nb2)); intro nb2 | (fail_if_success (have := nb3)); intro nb3 | intro nbz)
      | (refine Fr.mk ?_; intro hfr; (first | (have hFRb : _ ≤ _ ∧ _ ≤ _ := And.intro hfr.1 hfr.2.1) | (have hFRb : _ ≤ _ := hfr.1) | skip); replace FR := Sm.mk (And.intro hfr FR.out); clear hfr; refine Sm.out ?_)
      | (refine Two.mk ?_ ?_)
      | (refine Cs.mk ?_; intro hcs; first | exact False.elim hcs | (exfalso; omega) | (refine Sm.out ?_))
      | go_step
      | omega
      | (simp only [maxLen_eq]; omega)
    (refine OutQ.all ?_ ?_; (focus (simp only [resv, ZK, look, loadv, loadn, loadnm, load1, load1m, hget, ↓reduceIte, Nat.reduceEqDiff, Nat.reduceAdd, Nat.reduceMul, Nat.reduceLeDiff, Nat.reduceLT, reduceCtorEq, TFExS, FR.out])); (try simp only [resv, resA, Fn, ZK, look, loadv, loadn, loadnm, load1, load1m, hget, ↓reduceIte, Nat.reduceEqDiff, Nat.reduceAdd, Nat.reduceMul, Nat.reduceLeDiff, Nat.reduceLT, reduceCtorEq, TFExS, FR.out]); (try simp [resA, Fn, look, FR.out]))
  · rw [hok] at c0
    have e : rdA zs = .tup [wideV (decV zs), iv .i64 (codeV (decV zs))] := by unfold rdA; rw [if_pos hok]
    have hk := (okZ_iff zs).1 hok
    rw [e]
    first | (have FRx := FR; clear FRx) | (have FR : Sm (¬ ((1 : Nat) = 0)) := Sm.mk Nat.one_ne_zero)
    repeat' first
      | (refine Sm.mk ?_; try simp -dsimp only [ZK, rvc, drawF, headN, pureH, stp, dvc, calleeOf, gcall, pev, eff, newB, okd, og, ogs, ogo, ogp, slv, bltv, opd, litv, strip, one, both, putE, St.put, look, gdOf, gdv, picka, pickv, pickw, binv, bini, bins, binb, binp, binq, isSlT, bina, shp, eqCells, unv, convv, nilv, faddv, addp, idxav, idxp, load1, load1m, loadn, loadnm, loadv, hget, hset, hrep, hdel, slicev, bnd, shift1, lenv, capv, IntKind.bits, extractv, fieldv, indexv, min2v, max2v, mkiv, cellsA, fillA, buildv, stC, oneC, rowMB, intsA, plN, appE, appZ, appC, appNZ, appNC, VwL, srcC, srcZ, srcM, isBoolT, isPtrT, isSliceT, uOk, Value.oneCell', Nat.reducePow, Int.reducePow, Nat.reduceAdd, Nat.reduceMul, Nat.reduceSub, Nat.reduceLT, Nat.reduceLeDiff, Nat.reduceEqDiff, Nat.reduceBEq, Nat.reduceDiv, Nat.reduceMod, ↓reduceIte, reduceCtorEq, Int.reduceToNat, Int.reduceLT, Int.reduceLE, TFExS, SeqQ, BlkQ, LoopQ, BodyQ, FR.out])
      | (first | refine CallV.fn (c0) (Sm.out ?_) | refine ExF.mk (c0) (Sm.out ?_) | refine ExG.mk (fun _ => c0) (Sm.out ?_) | refine ExG.mkJ (fun _ => c0) (Sm.out ?_) | refine ExG.mkI (Ob.out ?_) (fun _ => c0) (Sm.out ?_))
      | (refine WP.seq fun K hK => ?_)
      | (refine WP.region (rvc_sound _ _ (Sm.out ?_)))
      | (refine WP.drawK rfl mixed (by decide +kernel) (Sm.out ?_))
      | (refine Ob.mk ?_; focus (first | assumption | omega | decide | trivial | (intro hob; simp only [hob, ZF]; done) | (intros; (repeat' refine And.intro ?_ ?_) <;> first | assumption | omega | trivial | decide) | (intros; simp only [ZE] at *; (repeat' refine And.intro ?_ ?_) <;> first | assumption | omega | trivial)))
      | (refine And.intro (Ob.out ?_) ?_)
      | (refine WP.block ?_)
      | (refine WP.cond rfl (fun hc => ?_) (fun hc => ?_) <;> (try simp only [ZC, reduceCtorEq, ZD] at hc) <;> (try (exact absurd hc (by decide))) <;> (try (exfalso; omega)))
      | ((first | refine WP.skip ?_ | refine WP.exit ?_); simp only [SeqQ, BlkQ, LoopQ, BodyQ, ↓reduceIte, Nat.reduceEqDiff, reduceCtorEq, look, true_and])
      | (refine WP.ret (Sm.out ?_))
      | (first | refine ExG.no (Sm.out ?_) | refine Or.inl (ExG.no (Sm.out ?_)) | refine Or.inl (And.intro (fun hg => absurd hg (by decide)) (ExG.no (Sm.out ?_))))
      | (refine Rt.mk ?_; refine And.intro ?_ ?_ <;> (intro hg; first | exact absurd hg (by decide) | refine Sm.out ?_))
      | (refine Nu.mk ?_; first | (fail_if_success (have := nb1)); intro nb1 | (fail_if_success (have := nb2)); intro nb2 | (fail_if_success (have := nb3)); intro nb3 | intro nbz)
      | (refine Fr.mk ?_; intro hfr; (first | (have hFRb : _ ≤ _ ∧ _ ≤ _ := And.intro hfr.1 hfr.2.1) | (have hFRb : _ ≤ _ := hfr.1) | skip); replace FR := Sm.mk (And.intro hfr FR.out); clear hfr; refine Sm.out ?_)
      | (refine Two.mk ?_ ?_)
      | (refine Cs.mk ?_; intro hcs; first | exact False.elim hcs | (exfalso; omega) | (refine Sm.out ?_))
      | go_step
      | omega
      | (simp only [maxLen_eq]; omega)
    refine WP.loop (Γ := Nat) (fun i => ⟨[(14, pt nb3 0), (4, pt nb2 0), (3, iv .i64 0), (2, pt nb1 0), (0, .lit (.string B))],
        [(nb3, .obj (.stringIter B i)), (nb2, .cells [nu (decV (zs.take i) / 18446744073709551616), nu (decV (zs.take i) % 18446744073709551616)] 2 24), (nb1, .cells [iv .u64 0, iv .u64 0] 2 24)]⟩)
      (fun i => i ≤ zs.length ∧ decV (zs.take i) < 340282366920938463463374607431768211456) (fun i => zs.length - i) 0 ⟨by omega, by simp [decV]⟩ (Sub.pick (by simp [pickB, hget, hdel, FR.out, decV]) (by simp [look, decV])) ?_
    intro i ⟨hi, hv⟩
    by_cases hlt : i < zs.length
    · have hd := hk.d i hlt
      have hdec := dec_lo hb hlt (by omega)
      rw [← hB] at hdec
      have ht := decV_take zs i hlt
      have hle : decV (zs.take (i + 1)) ≤ decV zs := decV_le (by omega)
      obtain ⟨d, hdd⟩ : ∃ d : Nat, zs.getD i 0 = ((48 + d : Nat) : Int) := ⟨(zs.getD i 0 - 48).toNat, by omega⟩
      rw [hdd] at hd hdec ht
      rw [Int.toNat_natCast] at hdec
      rw [show (((48 + d : Nat) : Int) - 48).toNat = d by omega] at ht
      have w1 : IntKind.i32.wrap (((48 + d : Nat) : Int) - 48) = (d : Int) := by
        unfold IntKind.wrap; simp [IntKind.bits]; omega
      have w2 : IntKind.u64.wrap (d : Int) = (d : Int) := wrap_u64_nat (by omega)
      obtain ⟨v, hvv⟩ : ∃ v, v = decV (zs.take i) := ⟨_, rfl⟩
      rw [← hvv] at hv ht ⊢
      have c1 := more_ct (v / 18446744073709551616) (v % 18446744073709551616) 10 (by omega) (by omega) (by omega) (v * 10) (by rw [show v / 18446744073709551616 * 18446744073709551616 + v % 18446744073709551616 = v by omega])
      by_cases h10 : v * 10 < 340282366920938463463374607431768211456
      · rw [codeV_in h10] at c1
        have a1 := add2_ct (v * 10 / 18446744073709551616) (v * 10 % 18446744073709551616) 0 d (by omega) (by omega) (by omega) (by omega) (v * 10 + d) (by omega)
        rw [show (nu 0 : AV) = iv .u64 0 from rfl] at a1
        have e1 : hiV (v * 10) = v * 10 / 18446744073709551616 := hiV_in h10
        have e2 : loV (v * 10) = v * 10 % 18446744073709551616 := loV_in h10
        obtain ⟨u, hu⟩ : ∃ u, u = v * 10 := ⟨_, rfl⟩
        rw [← hu] at c1 a1 e1 e2 ht h10
        unfold wideV at c1
        rw [e1, e2] at c1
        by_cases h11 : u + d < 340282366920938463463374607431768211456
        · rw [codeV_in h11] at a1
          have e3 : hiV (u + d) = (u + d) / 18446744073709551616 := hiV_in h11
          have e4 : loV (u + d) = (u + d) % 18446744073709551616 := loV_in h11
          unfold wideV at a1
          rw [e3, e4] at a1
          rw [← ht] at a1 h11
          obtain ⟨v2, hv2⟩ : ∃ v2, v2 = decV (zs.take (i + 1)) := ⟨_, rfl⟩
          rw [← hv2] at a1
          first | (have FRx := FR; clear FRx) | (have FR : Sm (¬ ((1 : Nat) = 0)) := Sm.mk Nat.one_ne_zero)
          repeat' first
            | (refine Sm.mk ?_; try simp -dsimp only [ZK, rvc, drawF, headN, pureH, stp, dvc, calleeOf, gcall, pev, eff, newB, okd, og, ogs, ogo, ogp, slv, bltv, opd, litv, strip, one, both, putE, St.put, look, gdOf, gdv, picka, pickv, pickw, binv, bini, bins, binb, binp, binq, isSlT, bina, shp, eqCells, unv, convv, nilv, faddv, addp, idxav, idxp, load1, load1m, loadn, loadnm, loadv, hget, hset, hrep, hdel, slicev, bnd, shift1, lenv, capv, IntKind.bits, extractv, fieldv, indexv, min2v, max2v, mkiv, cellsA, fillA, buildv, stC, oneC, rowMB, intsA, plN, appE, appZ, appC, appNZ, appNC, VwL, srcC, srcZ, srcM, isBoolT, isPtrT, isSliceT, uOk, Value.oneCell', Nat.reducePow, Int.reducePow, Nat.reduceAdd, Nat.reduceMul, Nat.reduceSub, Nat.reduceLT, Nat.reduceLeDiff, Nat.reduceEqDiff, Nat.reduceBEq, Nat.reduceDiv, Nat.reduceMod, ↓reduceIte, reduceCtorEq, Int.reduceToNat, Int.reduceLT, Int.reduceLE, TFExS, SeqQ, BlkQ, LoopQ, BodyQ, hdec, w1, w2, hs, FR.out])
            | (first | refine CallV.fn (c1) (Sm.out ?_) | refine ExF.mk (c1) (Sm.out ?_) | refine ExG.mk (fun _ => c1) (Sm.out ?_) | refine ExG.mkJ (fun _ => c1) (Sm.out ?_) | refine ExG.mkI (Ob.out ?_) (fun _ => c1) (Sm.out ?_))
            | (first | refine CallV.fn (a1) (Sm.out ?_) | refine ExF.mk (a1) (Sm.out ?_) | refine ExG.mk (fun _ => a1) (Sm.out ?_) | refine ExG.mkJ (fun _ => a1) (Sm.out ?_) | refine ExG.mkI (Ob.out ?_) (fun _ => a1) (Sm.out ?_))
            | (refine WP.seq fun K hK => ?_)
            | (refine WP.region (rvc_sound _ _ (Sm.out ?_)))
            | (refine WP.drawK rfl mixed (by decide +kernel) (Sm.out ?_))
            | (refine Ob.mk ?_; focus (first | assumption | omega | decide | trivial | (intro hob; simp only [hob, ZF]; done) | (intros; (repeat' refine And.intro ?_ ?_) <;> first | assumption | omega | trivial | decide) | (intros; simp only [ZE] at *; (repeat' refine And.intro ?_ ?_) <;> first | assumption | omega | trivial)))
            | (refine And.intro (Ob.out ?_) ?_)
            | (refine WP.block ?_)
            | (refine WP.cond rfl (fun hc => ?_) (fun hc => ?_) <;> (try simp only [ZC, reduceCtorEq, ZD] at hc) <;> (try (exact absurd hc (by decide))) <;> (try (exfalso; omega)))
            | ((first | refine WP.skip ?_ | refine WP.exit ?_); simp only [SeqQ, BlkQ, LoopQ, BodyQ, ↓reduceIte, Nat.reduceEqDiff, reduceCtorEq, look, true_and])
            | (refine WP.ret (Sm.out ?_))
            | (first | refine ExG.no (Sm.out ?_) | refine Or.inl (ExG.no (Sm.out ?_)) | refine Or.inl (And.intro (fun hg => absurd hg (by decide)) (ExG.no (Sm.out ?_))))
            | (refine Rt.mk ?_; refine And.intro ?_ ?_ <;> (intro hg; first | exact absurd hg (by decide) | refine Sm.out ?_))
            | (refine Nu.mk ?_; first | (fail_if_success (have := nb1)); intro nb1 | (fail_if_success (have := nb2)); intro nb2 | (fail_if_success (have := nb3)); intro nb3 | intro nbz)
            | (refine Fr.mk ?_; intro hfr; (first | (have hFRb : _ ≤ _ ∧ _ ≤ _ := And.intro hfr.1 hfr.2.1) | (have hFRb : _ ≤ _ := hfr.1) | skip); replace FR := Sm.mk (And.intro hfr FR.out); clear hfr; refine Sm.out ?_)
            | (refine Two.mk ?_ ?_)
            | (refine Cs.mk ?_; intro hcs; first | exact False.elim hcs | (exfalso; omega) | (refine Sm.out ?_))
            | go_step
            | omega
            | (simp only [maxLen_eq]; omega)
          exact ⟨i + 1, ⟨by omega, h11⟩, by omega, (Sub.pick (by simp [pickB, hget, hdel, FR.out, hv2]) (by simp [look, hv2]))⟩
        · rw [codeV_out h11] at a1
          have hov : ¬ decV zs < 340282366920938463463374607431768211456 := by omega
          have e3 : hiV (decV zs) = 0 := hiV_out hov
          have e4 : loV (decV zs) = 0 := loV_out hov
          have e5 := codeV_out hov
          obtain ⟨q, hq⟩ : ∃ q, q = u + d := ⟨_, rfl⟩
          rw [← hq] at a1
          first | (have FRx := FR; clear FRx) | (have FR : Sm (¬ ((1 : Nat) = 0)) := Sm.mk Nat.one_ne_zero)
          repeat' first
            | (refine Sm.mk ?_; try simp -dsimp only [ZK, rvc, drawF, headN, pureH, stp, dvc, calleeOf, gcall, pev, eff, newB, okd, og, ogs, ogo, ogp, slv, bltv, opd, litv, strip, one, both, putE, St.put, look, gdOf, gdv, picka, pickv, pickw, binv, bini, bins, binb, binp, binq, isSlT, bina, shp, eqCells, unv, convv, nilv, faddv, addp, idxav, idxp, load1, load1m, loadn, loadnm, loadv, hget, hset, hrep, hdel, slicev, bnd, shift1, lenv, capv, IntKind.bits, extractv, fieldv, indexv, min2v, max2v, mkiv, cellsA, fillA, buildv, stC, oneC, rowMB, intsA, plN, appE, appZ, appC, appNZ, appNC, VwL, srcC, srcZ, srcM, isBoolT, isPtrT, isSliceT, uOk, Value.oneCell', Nat.reducePow, Int.reducePow, Nat.reduceAdd, Nat.reduceMul, Nat.reduceSub, Nat.reduceLT, Nat.reduceLeDiff, Nat.reduceEqDiff, Nat.reduceBEq, Nat.reduceDiv, Nat.reduceMod, ↓reduceIte, reduceCtorEq, Int.reduceToNat, Int.reduceLT, Int.reduceLE, TFExS, SeqQ, BlkQ, LoopQ, BodyQ, hdec, w1, w2, hs, FR.out])
            | (first | refine CallV.fn (c1) (Sm.out ?_) | refine ExF.mk (c1) (Sm.out ?_) | refine ExG.mk (fun _ => c1) (Sm.out ?_) | refine ExG.mkJ (fun _ => c1) (Sm.out ?_) | refine ExG.mkI (Ob.out ?_) (fun _ => c1) (Sm.out ?_))
            | (first | refine CallV.fn (a1) (Sm.out ?_) | refine ExF.mk (a1) (Sm.out ?_) | refine ExG.mk (fun _ => a1) (Sm.out ?_) | refine ExG.mkJ (fun _ => a1) (Sm.out ?_) | refine ExG.mkI (Ob.out ?_) (fun _ => a1) (Sm.out ?_))
            | (refine WP.seq fun K hK => ?_)
            | (refine WP.region (rvc_sound _ _ (Sm.out ?_)))
            | (refine WP.drawK rfl mixed (by decide +kernel) (Sm.out ?_))
            | (refine Ob.mk ?_; focus (first | assumption | omega | decide | trivial | (intro hob; simp only [hob, ZF]; done) | (intros; (repeat' refine And.intro ?_ ?_) <;> first | assumption | omega | trivial | decide) | (intros; simp only [ZE] at *; (repeat' refine And.intro ?_ ?_) <;> first | assumption | omega | trivial)))
            | (refine And.intro (Ob.out ?_) ?_)
            | (refine WP.block ?_)
            | (refine WP.cond rfl (fun hc => ?_) (fun hc => ?_) <;> (try simp only [ZC, reduceCtorEq, ZD] at hc) <;> (try (exact absurd hc (by decide))) <;> (try (exfalso; omega)))
            | ((first | refine WP.skip ?_ | refine WP.exit ?_); simp only [SeqQ, BlkQ, LoopQ, BodyQ, ↓reduceIte, Nat.reduceEqDiff, reduceCtorEq, look, true_and])
            | (refine WP.ret (Sm.out ?_))
            | (first | refine ExG.no (Sm.out ?_) | refine Or.inl (ExG.no (Sm.out ?_)) | refine Or.inl (And.intro (fun hg => absurd hg (by decide)) (ExG.no (Sm.out ?_))))
            | (refine Rt.mk ?_; refine And.intro ?_ ?_ <;> (intro hg; first | exact absurd hg (by decide) | refine Sm.out ?_))
            | (refine Nu.mk ?_; first | (fail_if_success (have := nb1)); intro nb1 | (fail_if_success (have := nb2)); intro nb2 | (fail_if_success (have := nb3)); intro nb3 | intro nbz)
            | (refine Fr.mk ?_; intro hfr; (first | (have hFRb : _ ≤ _ ∧ _ ≤ _ := And.intro hfr.1 hfr.2.1) | (have hFRb : _ ≤ _ := hfr.1) | skip); replace FR := Sm.mk (And.intro hfr FR.out); clear hfr; refine Sm.out ?_)
            | (refine Two.mk ?_ ?_)
            | (refine Cs.mk ?_; intro hcs; first | exact False.elim hcs | (exfalso; omega) | (refine Sm.out ?_))
            | go_step
            | omega
            | (simp only [maxLen_eq]; omega)
          (refine OutQ.all ?_ ?_; (focus (simp only [resv, ZK, look, loadv, loadn, loadnm, load1, load1m, hget, ↓reduceIte, Nat.reduceEqDiff, Nat.reduceAdd, Nat.reduceMul, Nat.reduceLeDiff, Nat.reduceLT, reduceCtorEq, TFExS, FR.out, e3, e4, e5])); (try simp only [resv, resA, Fn, ZK, look, loadv, loadn, loadnm, load1, load1m, hget, ↓reduceIte, Nat.reduceEqDiff, Nat.reduceAdd, Nat.reduceMul, Nat.reduceLeDiff, Nat.reduceLT, reduceCtorEq, TFExS, FR.out, e3, e4, e5]); (try simp [resA, Fn, look, FR.out, e3, e4, e5]))
      · rw [codeV_out h10] at c1
        have hov : ¬ decV zs < 340282366920938463463374607431768211456 := by omega
        have e3 : hiV (decV zs) = 0 := hiV_out hov
        have e4 : loV (decV zs) = 0 := loV_out hov
        have e5 := codeV_out hov
        obtain ⟨q, hq⟩ : ∃ q, q = v * 10 := ⟨_, rfl⟩
        rw [← hq] at c1
        first | (have FRx := FR; clear FRx) | (have FR : Sm (¬ ((1 : Nat) = 0)) := Sm.mk Nat.one_ne_zero)
        repeat' first
          | (refine Sm.mk ?_; try simp -dsimp only [ZK, rvc, drawF, headN, pureH, stp, dvc, calleeOf, gcall, pev, eff, newB, okd, og, ogs, ogo, ogp, slv, bltv, opd, litv, strip, one, both, putE, St.put, look, gdOf, gdv, picka, pickv, pickw, binv, bini, bins, binb, binp, binq, isSlT, bina, shp, eqCells, unv, convv, nilv, faddv, addp, idxav, idxp, load1, load1m, loadn, loadnm, loadv, hget, hset, hrep, hdel, slicev, bnd, shift1, lenv, capv, IntKind.bits, extractv, fieldv, indexv, min2v, max2v, mkiv, cellsA, fillA, buildv, stC, oneC, rowMB, intsA, plN, appE, appZ, appC, appNZ, appNC, VwL, srcC, srcZ, srcM, isBoolT, isPtrT, isSliceT, uOk, Value.oneCell', Nat.reducePow, Int.reducePow, Nat.reduceAdd, Nat.reduceMul, Nat.reduceSub, Nat.reduceLT, Nat.reduceLeDiff, Nat.reduceEqDiff, Nat.reduceBEq, Nat.reduceDiv, Nat.reduceMod, ↓reduceIte, reduceCtorEq, Int.reduceToNat, Int.reduceLT, Int.reduceLE, TFExS, SeqQ, BlkQ, LoopQ, BodyQ, hdec, w1, w2, hs, FR.out])
          | (first | refine CallV.fn (c1) (Sm.out ?_) | refine ExF.mk (c1) (Sm.out ?_) | refine ExG.mk (fun _ => c1) (Sm.out ?_) | refine ExG.mkJ (fun _ => c1) (Sm.out ?_) | refine ExG.mkI (Ob.out ?_) (fun _ => c1) (Sm.out ?_))
          | (refine WP.seq fun K hK => ?_)
          | (refine WP.region (rvc_sound _ _ (Sm.out ?_)))
          | (refine WP.drawK rfl mixed (by decide +kernel) (Sm.out ?_))
          | (refine Ob.mk ?_; focus (first | assumption | omega | decide | trivial | (intro hob; simp only [hob, ZF]; done) | (intros; (repeat' refine And.intro ?_ ?_) <;> first | assumption | omega | trivial | decide) | (intros; simp only [ZE] at *; (repeat' refine And.intro ?_ ?_) <;> first | assumption | omega | trivial)))
          | (refine And.intro (Ob.out ?_) ?_)
          | (refine WP.block ?_)
          | (refine WP.cond rfl (fun hc => ?_) (fun hc => ?_) <;> (try simp only [ZC, reduceCtorEq, ZD] at hc) <;> (try (exact absurd hc (by decide))) <;> (try (exfalso; omega)))
          | ((first | refine WP.skip ?_ | refine WP.exit ?_); simp only [SeqQ, BlkQ, LoopQ, BodyQ, ↓reduceIte, Nat.reduceEqDiff, reduceCtorEq, look, true_and])
          | (refine WP.ret (Sm.out ?_))
          | (first | refine ExG.no (Sm.out ?_) | refine Or.inl (ExG.no (Sm.out ?_)) | refine Or.inl (And.intro (fun hg => absurd hg (by decide)) (ExG.no (Sm.out ?_))))
          | (refine Rt.mk ?_; refine And.intro ?_ ?_ <;> (intro hg; first | exact absurd hg (by decide) | refine Sm.out ?_))
          | (refine Nu.mk ?_; first | (fail_if_success (have := nb1)); intro nb1 | (fail_if_success (have := nb2)); intro nb2 | (fail_if_success (have := nb3)); intro nb3 | intro nbz)
          | (refine Fr.mk ?_; intro hfr; (first | (have hFRb : _ ≤ _ ∧ _ ≤ _ := And.intro hfr.1 hfr.2.1) | (have hFRb : _ ≤ _ := hfr.1) | skip); replace FR := Sm.mk (And.intro hfr FR.out); clear hfr; refine Sm.out ?_)
          | (refine Two.mk ?_ ?_)
          | (refine Cs.mk ?_; intro hcs; first | exact False.elim hcs | (exfalso; omega) | (refine Sm.out ?_))
          | go_step
          | omega
          | (simp only [maxLen_eq]; omega)
        (refine OutQ.all ?_ ?_; (focus (simp only [resv, ZK, look, loadv, loadn, loadnm, load1, load1m, hget, ↓reduceIte, Nat.reduceEqDiff, Nat.reduceAdd, Nat.reduceMul, Nat.reduceLeDiff, Nat.reduceLT, reduceCtorEq, TFExS, FR.out, e3, e4, e5])); (try simp only [resv, resA, Fn, ZK, look, loadv, loadn, loadnm, load1, load1m, hget, ↓reduceIte, Nat.reduceEqDiff, Nat.reduceAdd, Nat.reduceMul, Nat.reduceLeDiff, Nat.reduceLT, reduceCtorEq, TFExS, FR.out, e3, e4, e5]); (try simp [resA, Fn, look, FR.out, e3, e4, e5]))
    · obtain rfl : i = zs.length := by omega
      have et : zs.take zs.length = zs := List.take_length
      rw [et] at hv ⊢
      have e1 : hiV (decV zs) = decV zs / 18446744073709551616 := hiV_in hv
      have e2 : loV (decV zs) = decV zs % 18446744073709551616 := loV_in hv
      have e3 := codeV_in hv
      first | (have FRx := FR; clear FRx) | (have FR : Sm (¬ ((1 : Nat) = 0)) := Sm.mk Nat.one_ne_zero)
      repeat' first
        | (refine Sm.mk ?_; try simp -dsimp only [ZK, rvc, drawF, headN, pureH, stp, dvc, calleeOf, gcall, pev, eff, newB, okd, og, ogs, ogo, ogp, slv, bltv, opd, litv, strip, one, both, putE, St.put, look, gdOf, gdv, picka, pickv, pickw, binv, bini, bins, binb, binp, binq, isSlT, bina, shp, eqCells, unv, convv, nilv, faddv, addp, idxav, idxp, load1, load1m, loadn, loadnm, loadv, hget, hset, hrep, hdel, slicev, bnd, shift1, lenv, capv, IntKind.bits, extractv, fieldv, indexv, min2v, max2v, mkiv, cellsA, fillA, buildv, stC, oneC, rowMB, intsA, plN, appE, appZ, appC, appNZ, appNC, VwL, srcC, srcZ, srcM, isBoolT, isPtrT, isSliceT, uOk, Value.oneCell', Nat.reducePow, Int.reducePow, Nat.reduceAdd, Nat.reduceMul, Nat.reduceSub, Nat.reduceLT, Nat.reduceLeDiff, Nat.reduceEqDiff, Nat.reduceBEq, Nat.reduceDiv, Nat.reduceMod, ↓reduceIte, reduceCtorEq, Int.reduceToNat, Int.reduceLT, Int.reduceLE, TFExS, SeqQ, BlkQ, LoopQ, BodyQ, hs, FR.out, FR.out])
        | (refine WP.seq fun K hK => ?_)
        | (refine WP.region (rvc_sound _ _ (Sm.out ?_)))
        | (refine WP.drawK rfl mixed (by decide +kernel) (Sm.out ?_))
        | (refine Ob.mk ?_; focus (first | assumption | omega | decide | trivial | (intro hob; simp only [hob, ZF]; done) | (intros; (repeat' refine And.intro ?_ ?_) <;> first | assumption | omega | trivial | decide) | (intros; simp only [ZE] at *; (repeat' refine And.intro ?_ ?_) <;> first | assumption | omega | trivial)))
        | (refine And.intro (Ob.out ?_) ?_)
        | (refine WP.block ?_)
        | (refine WP.cond rfl (fun hc => ?_) (fun hc => ?_) <;> (try simp only [ZC, reduceCtorEq, ZD] at hc) <;> (try (exact absurd hc (by decide))) <;> (try (exfalso; omega)))
        | ((first | refine WP.skip ?_ | refine WP.exit ?_); simp only [SeqQ, BlkQ, LoopQ, BodyQ, ↓reduceIte, Nat.reduceEqDiff, reduceCtorEq, look, true_and])
        | (refine WP.ret (Sm.out ?_))
        | (first | refine ExG.no (Sm.out ?_) | refine Or.inl (ExG.no (Sm.out ?_)) | refine Or.inl (And.intro (fun hg => absurd hg (by decide)) (ExG.no (Sm.out ?_))))
        | (refine Rt.mk ?_; refine And.intro ?_ ?_ <;> (intro hg; first | exact absurd hg (by decide) | refine Sm.out ?_))
        | (refine Nu.mk ?_; first | (fail_if_success (have := nb1)); intro nb1 | (fail_if_success (have := nb2)); intro nb2 | (fail_if_success (have := nb3)); intro nb3 | intro nbz)
        | (refine Fr.mk ?_; intro hfr; (first | (have hFRb : _ ≤ _ ∧ _ ≤ _ := And.intro hfr.1 hfr.2.1) | (have hFRb : _ ≤ _ := hfr.1) | skip); replace FR := Sm.mk (And.intro hfr FR.out); clear hfr; refine Sm.out ?_)
        | (refine Two.mk ?_ ?_)
        | (refine Cs.mk ?_; intro hcs; first | exact False.elim hcs | (exfalso; omega) | (refine Sm.out ?_))
        | go_step
        | omega
        | (simp only [maxLen_eq]; omega)
      (refine OutQ.all ?_ ?_; (focus (simp only [resv, ZK, look, loadv, loadn, loadnm, load1, load1m, hget, ↓reduceIte, Nat.reduceEqDiff, Nat.reduceAdd, Nat.reduceMul, Nat.reduceLeDiff, Nat.reduceLT, reduceCtorEq, TFExS, FR.out, e1, e2, e3])); (try simp only [resv, resA, Fn, ZK, look, loadv, loadn, loadnm, load1, load1m, hget, ↓reduceIte, Nat.reduceEqDiff, Nat.reduceAdd, Nat.reduceMul, Nat.reduceLeDiff, Nat.reduceLT, reduceCtorEq, TFExS, FR.out, e1, e2, e3]); (try simp [resA, Fn, look, FR.out, e1, e2, e3]))
end Go.Proofs.Ytngdgicgppaeaaa
