/-
  The walks and the laws that the statement leans on, part 11.
-/
import Derived.Test.YtdfkpnkohikcgaaDoorZ10
namespace Go.Proofs.YtdfkpnkohikcgaaDoor
open Go
set_option linter.unusedVariables false
set_option linter.unusedSimpArgs false
theorem TFSpN : (((((type_of% tyc2) ∧ (type_of% zmb2)) ∧ ((type_of% tyc3) ∧ (type_of% zmb3))) ∧ (((type_of% tyc4) ∧ (type_of% zmb4)) ∧ ((type_of% tyc5) ∧ ((type_of% zmb5) ∧ (type_of% tyc9))))) ∧ ((((type_of% zmb9) ∧ (type_of% tyc24)) ∧ ((type_of% zmb24) ∧ (type_of% Tryd.underlying2))) ∧ (((type_of% Tryd.underlying3) ∧ (type_of% Tryd.underlying4)) ∧ ((type_of% Tryd.underlying5) ∧ ((type_of% Tryd.underlying9) ∧ (type_of% Tryd.underlying24)))))) :=
  ⟨⟨⟨⟨tyc2, zmb2⟩, ⟨tyc3, zmb3⟩⟩, ⟨⟨tyc4, zmb4⟩, ⟨tyc5, ⟨zmb5, tyc9⟩⟩⟩⟩, ⟨⟨⟨zmb9, tyc24⟩, ⟨zmb24, Tryd.underlying2⟩⟩, ⟨⟨Tryd.underlying3, Tryd.underlying4⟩, ⟨Tryd.underlying5, ⟨Tryd.underlying9, Tryd.underlying24⟩⟩⟩⟩⟩
/-- the unit ahead of the ones left -/
def lst (j : Nat) : Nat := [1000000, 604800, 86400, 3600, 60, 1].getD j 1
theorem lst_a : ∀ j, j < 6 → ∀ i, i < 5 → (uni i < lst j → j ≤ i) ∧ (j ≤ i → uni i < lst j) := by decide +kernel
theorem lst_b : ∀ j, j < 6 → ∀ i, i < 5 → (i < j → ixN (uL j) ((uch i : Nat) : Int) = 5 - j) ∧ (j ≤ i → ixN (uL j) ((uch i : Nat) : Int) = i - j) := by decide +kernel
theorem lst_c : ∀ i, i < 5 → lst (i + 1) = uni i ∧ unitV ((uch i : Nat) : Int) = ((uni i : Nat) : Int) ∧ 1 ≤ uni i ∧ uni i ≤ 604800 ∧ 57 < uch i ∧ uch i < 128 := by decide +kernel
theorem lst_all (j : Nat) (hj : j < 6) (i : Nat) (hi : i < 5) : (uni i < lst j ↔ j ≤ i) ∧ (i < j → ixN (uL j) ((uch i : Nat) : Int) = 5 - j) ∧ (j ≤ i → ixN (uL j) ((uch i : Nat) : Int) = i - j) ∧ lst (i + 1) = uni i ∧ unitV ((uch i : Nat) : Int) = ((uni i : Nat) : Int) ∧ 1 ≤ uni i ∧ uni i ≤ 604800 ∧ 57 < uch i ∧ uch i < 128 :=
  ⟨⟨(lst_a j hj i hi).1, (lst_a j hj i hi).2⟩, (lst_b j hj i hi).1, (lst_b j hj i hi).2, lst_c i hi⟩
/-- a letter of a unit -/
theorem unit_is {c : Int} (h : unitV c ≠ 0) : ∃ i, i < 5 ∧ c = ((uch i : Nat) : Int) := by
  unfold unitV at h
  by_cases h1 : c = 119
  · exact ⟨0, by decide, h1⟩
  by_cases h2 : c = 100
  · exact ⟨1, by decide, h2⟩
  by_cases h3 : c = 104
  · exact ⟨2, by decide, h3⟩
  by_cases h4 : c = 109
  · exact ⟨3, by decide, h4⟩
  by_cases h5 : c = 115
  · exact ⟨4, by decide, h5⟩
  rw [if_neg h1, if_neg h2, if_neg h3, if_neg h4, if_neg h5] at h
  exact absurd rfl h
theorem step_none {r : RdS} {c : Int} (h : ¬ (48 ≤ c ∧ c ≤ 57)) (h2 : unitV c = 0 ∨ r.d = false ∨ ¬ ixN (uL r.j) c < (uL r.j).length) : stepR r c = none := by
  unfold stepR
  rw [if_neg h, if_neg]
  rintro ⟨_, h3, h4⟩
  rcases h2 with h2 | h2 | h2
  · have := (unit_in h3).2.1; omega
  · rw [h2] at h4; cases h4
  · exact h2 h3
structure RoG where
  i : Nat
  sum : Nat
  far : Bool
  s : Int
  j : Nat
structure RiG where
  k : Nat
  n : Nat
  p : Int
  d : Bool
  f : Bool
/-- a digit more, in both readings -/
theorem dig_step {n : Nat} {p : Int} {f g : Bool} {c : Nat} (hc : 48 ≤ c ∧ c ≤ 57) (hn : n ≤ 2534023007999) (h : (n ≤ 253402300799 → p = (n : Int) ∧ f = g) ∧ (253402300799 < n → p > 253402300799 ∧ f = true)) (n' : Nat)
    (hn' : n' = if n ≤ 253402300799 then 10 * n + (c - 48) else n) :
    n' ≤ 2534023007999 ∧ ((n' ≤ 253402300799 → hdV (p * 10 + ((c : Int) - 48)) = (n' : Int) ∧ (f || decide (p * 10 + ((c : Int) - 48) > 253402300799)) = g) ∧ (253402300799 < n' → hdV (p * 10 + ((c : Int) - 48)) > 253402300799 ∧ (f || decide (p * 10 + ((c : Int) - 48) > 253402300799)) = true)) := by
  unfold hdV
  by_cases hle : n ≤ 253402300799
  · obtain ⟨rfl, rfl⟩ := h.1 hle
    rw [if_pos hle] at hn'
    refine ⟨by omega, fun h1 => ?_, fun h1 => ?_⟩
    · rw [if_neg (by omega), decide_eq_false (by omega), Bool.or_false]; exact ⟨by omega, rfl⟩
    · rw [if_pos (by omega), decide_eq_true (by omega), Bool.or_true]; exact ⟨by decide, rfl⟩
  · obtain ⟨h1, rfl⟩ := h.2 (by omega)
    rw [if_neg hle] at hn'
    subst hn'
    refine ⟨hn, fun h2 => absurd h2 hle, fun _ => ?_⟩
    rw [if_pos (by omega), Bool.true_or]
    exact ⟨by decide, rfl⟩
set_option maxHeartbeats 8000000 in
theorem rread_ct (zs : List Int) (hb : By zs) (hl : zs.length ≤ 1000) : ACt Tryd.prog 12 [stz zs] [] (Fn (rdS zs)) := by
  have hs := bstr_size zs
  have hat := fun i (h : i < zs.length) => bstr_at hb h
  have hz0 : ((bstr zs).toList == (⟨#[]⟩ : ByteArray).toList) = decide (zs = []) := str_eq zs [] hb (fun i hi => absurd hi (Nat.not_lt_zero _))
  obtain ⟨B, hB⟩ : ∃ B, B = bstr zs := ⟨_, rfl⟩
  unfold stz
  rw [← hB] at hs hz0 ⊢
  simp only [← hB] at hat
  obtain ⟨A, hA⟩ : ∃ A, A = rdS zs := ⟨_, rfl⟩
  rw [← hA]
  obtain ⟨T, hT⟩ : ∃ T, T = runR r0 zs := ⟨_, rfl⟩
  have hA : A = finR zs T := by rw [hA, hT]; rfl
  have t1 : ∀ k : Nat, ((k : Nat) : Int).toNat = k := fun k => by omega
  refine ACt.intro Tryd.func12 rfl (by kernel_rfl) (by simp [Tryd.ntmps12]) (fun cx => ?_)
  simp only [argE, Tryd.ntmps12, Tryd.results12]
  first | (have FRx := FR; clear FRx) | (have FR : Sm (¬ ((1 : Nat) = 0)) := Sm.mk Nat.one_ne_zero)
  repeat' first
    | (refine Sm.mk ?_; try simp -dsimp only [ZK, rvc, drawF, headN, pureH, stp, dvc, calleeOf, gcall, pev, eff, newB, okd, og, ogs, ogo, ogp, slv, bltv, opd, litv, strip, one, both, putE, St.put, look, gdOf, gdv, picka, pickv, pickw, binv, bini, bins, binb, binp, binq, isSlT, bina, shp, eqCells, unv, convv, nilv, faddv, addp, idxav, idxp, load1, load1m, loadn, loadnm, loadv, hget, hset, hrep, hdel, slicev, bnd, shift1, lenv, capv, IntKind.bits, extractv, fieldv, indexv, min2v, max2v, mkiv, cellsA, fillA, buildv, stC, oneC, rowMB, intsA, plN, appE, appZ, appC, appNZ, appNC, VwL, srcC, srcZ, srcM, isBoolT, isPtrT, isSliceT, uOk, Value.oneCell', Nat.reducePow, Int.reducePow, Nat.reduceAdd, Nat.reduceMul, Nat.reduceSub, Nat.reduceLT, Nat.reduceLeDiff, Nat.reduceEqDiff, Nat.reduceBEq, Nat.reduceDiv, Nat.reduceMod, ↓reduceIte, reduceCtorEq, Int.reduceToNat, Int.reduceLT, Int.reduceLE, TFSpN, SeqQ, BlkQ, LoopQ, BodyQ, FR.out])
    | (refine WP.seq fun K hK => ?_)
    | (refine WP.region (rvc_sound _ _ (Sm.out ?_)))
    | (refine WP.drawK rfl mixed (by decide +kernel) (Sm.out ?_))
    | (refine Ob.mk ?_; focus (first | assumption | omega | decide | trivial | (intro hob; simp only [hob, ZF]; done) | (intros; (repeat' refine And.intro ?_ ?_) <;> first | assumption | omega | trivial | decide) | (intros; simp only [ZE] at *; (repeat' refine And.intro ?_ ?_) <;> first | assumption | omega | trivial)))
    | (refine And.intro (Ob.out ?_) ?_)
    | (refine WP.block ?_)
    | (refine WP.cond rfl (fun hc => ?_) (fun hc => ?_) <;> (try simp only [ZC, reduceCtorEq, ZD] at hc) <;> (try (exact absurd hc (by decide))) <;> (try (exfalso; omega)))
    | ((first | refine WP.skip ?_ | refine WP.exit ?_); simp only [SeqQ, BlkQ, LoopQ, BodyQ, ↓reduceIte, Nat.reduceEqDiff, reduceCtorEq, look, true_and])
    | (refine WP.ret (Sm.out ?_))
    | (first | refine ExG.no (Sm.out ?_) | refine Or.inl (ExG.no (Sm.out ?_)) | refine Or.inl (And.intro (fun hg => absurd hg (by decide)) (ExG.no (Sm.out ?_))))
    | (refine Rt.mk ?_; refine And.intro ?_ ?_ <;> (intro hg; first | exact absurd hg (by decide) | refine Sm.out ?_))
    | (refine Nu.mk ?_; first | (fail_if_success (have := nb1)); intro nb1 | (fail_if_success (have := nb2)); intro nb2 | (fail_if_success (have := nb3)); intro nb3 | intro nbz)
    | (refine Fr.mk ?_; intro hfr; (first | (have hFRb : _ ≤ _ ∧ _ ≤ _ := And.intro hfr.1 hfr.2.1) | (have hFRb : _ ≤ _ := hfr.1) | skip); replace FR := Sm.mk (And.intro hfr FR.out); clear hfr; refine Sm.out ?_)
    | (refine Two.mk ?_ ?_)
    | (refine Cs.mk ?_; intro hcs; first | exact False.elim hcs | (exfalso; omega) | (refine Sm.out ?_))
    | go_step
    | omega
    | (simp only [maxLen_eq]; omega)
  refine WP.loop (Γ := RoG) (fun g => ⟨[(7, iv .i64 (g.i : Int)), (6, iv .i64 ((lst g.j : Nat) : Int)), (5, bv g.far), (4, iv .i64 (g.sum : Int)), (0, .lit (.string B))], []⟩)
    (fun g => g.i ≤ zs.length ∧ g.sum ≤ 253402300799 ∧ g.j ≤ 5 ∧ 0 ≤ g.s ∧ g.s ≤ 253402300800 ∧ (g.far = false → g.s = (g.sum : Int)) ∧ T = runR ⟨g.s, 0, false, g.j, g.far⟩ (zs.drop g.i)) (fun g => zs.length - g.i) ⟨0, 0, false, 0, 0⟩
    ⟨Nat.zero_le _, by simp, by simp, by simp, by simp, fun _ => rfl, hT⟩ (Sub.pick (by simp [pickB, hget, hdel, FR.out, lst]) (by simp [look, lst])) ?_
  intro ⟨i, sum, far, s, j⟩ ⟨h1, h2, h3, h4, h5, h6, h7⟩
  simp only at h1 h2 h3 h4 h5 h6 h7 ⊢
  have FR : Sm (¬ ((1 : Nat) = 0)) := Sm.mk Nat.one_ne_zero
  obtain ⟨la, hla⟩ : ∃ la, la = lst j := ⟨_, rfl⟩
  rw [← hla]
  by_cases hi : i < zs.length
  · have ki : decide ((i : Int) < (zs.length : Int)) = true := decide_eq_true (by omega)
    first | (have FRx := FR; clear FRx) | (have FR : Sm (¬ ((1 : Nat) = 0)) := Sm.mk Nat.one_ne_zero)
    repeat' first
      | (refine Sm.mk ?_; try simp -dsimp only [ZK, rvc, drawF, headN, pureH, stp, dvc, calleeOf, gcall, pev, eff, newB, okd, og, ogs, ogo, ogp, slv, bltv, opd, litv, strip, one, both, putE, St.put, look, gdOf, gdv, picka, pickv, pickw, binv, bini, bins, binb, binp, binq, isSlT, bina, shp, eqCells, unv, convv, nilv, faddv, addp, idxav, idxp, load1, load1m, loadn, loadnm, loadv, hget, hset, hrep, hdel, slicev, bnd, shift1, lenv, capv, IntKind.bits, extractv, fieldv, indexv, min2v, max2v, mkiv, cellsA, fillA, buildv, stC, oneC, rowMB, intsA, plN, appE, appZ, appC, appNZ, appNC, VwL, srcC, srcZ, srcM, isBoolT, isPtrT, isSliceT, uOk, Value.oneCell', Nat.reducePow, Int.reducePow, Nat.reduceAdd, Nat.reduceMul, Nat.reduceSub, Nat.reduceLT, Nat.reduceLeDiff, Nat.reduceEqDiff, Nat.reduceBEq, Nat.reduceDiv, Nat.reduceMod, ↓reduceIte, reduceCtorEq, Int.reduceToNat, Int.reduceLT, Int.reduceLE, TFSpN, SeqQ, BlkQ, LoopQ, BodyQ, hs, ki, FR.out])
      | (refine WP.seq fun K hK => ?_)
      | (refine WP.region (rvc_sound _ _ (Sm.out ?_)))
      | (refine WP.drawK rfl mixed (by decide +kernel) (Sm.out ?_))
      | (refine Ob.mk ?_; focus (first | assumption | omega | decide | trivial | (intro hob; simp only [hob, ZF]; done) | (intros; (repeat' refine And.intro ?_ ?_) <;> first | assumption | omega | trivial | decide) | (intros; simp only [ZE] at *; (repeat' refine And.intro ?_ ?_) <;> first | assumption | omega | trivial)))
      | (refine And.intro (Ob.out ?_) ?_)
      | (refine WP.block ?_)
      | (refine WP.cond rfl (fun hc => ?_) (fun hc => ?_) <;> (try simp only [ZC, reduceCtorEq, ZD] at hc) <;> (try (exact absurd hc (by decide))) <;> (try (exfalso; omega)))
      | ((first | refine WP.skip ?_ | refine WP.exit ?_); simp only [SeqQ, BlkQ, LoopQ, BodyQ, ↓reduceIte, Nat.reduceEqDiff, reduceCtorEq, look, true_and])
      | (refine WP.ret (Sm.out ?_))
      | (first | refine ExG.no (Sm.out ?_) | refine Or.inl (ExG.no (Sm.out ?_)) | refine Or.inl (And.intro (fun hg => absurd hg (by decide)) (ExG.no (Sm.out ?_))))
      | (refine Rt.mk ?_; refine And.intro ?_ ?_ <;> (intro hg; first | exact absurd hg (by decide) | refine Sm.out ?_))
      | (refine Nu.mk ?_; first | (fail_if_success (have := nb1)); intro nb1 | (fail_if_success (have := nb2)); intro nb2 | (fail_if_success (have := nb3)); intro nb3 | intro nbz)
      | (refine Fr.mk ?_; intro hfr; (first | (have hFRb : _ ≤ _ ∧ _ ≤ _ := And.intro hfr.1 hfr.2.1) | (have hFRb : _ ≤ _ := hfr.1) | skip); replace FR := Sm.mk (And.intro hfr FR.out); clear hfr; refine Sm.out ?_)
      | (refine Two.mk ?_ ?_)
      | (refine Cs.mk ?_; intro hcs; first | exact False.elim hcs | (exfalso; omega) | (refine Sm.out ?_))
      | go_step
      | omega
      | (simp only [maxLen_eq]; omega)
    refine WP.loop (Γ := RiG) (fun g => ⟨[(8, iv .i64 (g.k : Int)), (9, iv .i64 (g.n : Int)), (7, iv .i64 (i : Int)), (6, iv .i64 (la : Int)), (5, bv far), (4, iv .i64 (sum : Int)), (0, .lit (.string B))], []⟩)
      (fun g => i ≤ g.k ∧ g.k ≤ zs.length ∧ g.n ≤ 2534023007999 ∧ ((g.n ≤ 253402300799 → g.p = (g.n : Int) ∧ g.f = far) ∧ (253402300799 < g.n → g.p > 253402300799 ∧ g.f = true)) ∧ 0 ≤ g.p ∧ (g.d = decide (i < g.k)) ∧ T = runR ⟨s, g.p, g.d, j, g.f⟩ (zs.drop g.k)) (fun g => zs.length - g.k) ⟨i, 0, 0, false, far⟩
      ⟨Nat.le_refl _, h1, by simp, ⟨fun _ => ⟨rfl, rfl⟩, fun h => by simp at h⟩, by simp, by simp, h7⟩ (Sub.pick (by simp [pickB, hget, hdel, FR.out]) (by simp [look])) ?_
    intro ⟨k, n, p, d, f⟩ ⟨g1, g2, g3, g4, g5, g6, g7⟩
    simp only at g1 g2 g3 g4 g5 g6 g7 ⊢
    have FR : Sm (¬ ((1 : Nat) = 0)) := Sm.mk Nat.one_ne_zero
    by_cases hk : k < zs.length
    · have kk : decide ((k : Int) < (zs.length : Int)) = true := decide_eq_true (by omega)
      have hc := hat k hk
      have hbk := hb k hk
      rw [drop_cons hk, runR_cons] at g7
      obtain ⟨c, hc0⟩ : ∃ c : Nat, zs.getD k 0 = (c : Int) := ⟨(zs.getD k 0).toNat, by omega⟩
      rw [hc0] at hc hbk g7
      by_cases hdg : 48 ≤ c ∧ c ≤ 57
      · have q1 : decide ((c : Int) ≥ 48) = true := decide_eq_true (by omega)
        have q2 : decide ((c : Int) ≤ 57) = true := decide_eq_true (by omega)
        have s1 : IntKind.i64.wrap ((k : Int) + 1) = ((k + 1 : Nat) : Int) := by rw [wrap_i64 (by omega) (by omega)]; omega
        have hst : stepR ⟨s, p, d, j, f⟩ (c : Int) = some ⟨s, hdV (p * 10 + ((c : Int) - 48)), true, j, f || decide (p * 10 + ((c : Int) - 48) > 253402300799)⟩ := by
          unfold stepR; rw [if_pos (by omega)]; rfl
        rw [hst] at g7
        have g7 : T = runR ⟨s, hdV (p * 10 + ((c : Int) - 48)), true, j, f || decide (p * 10 + ((c : Int) - 48) > 253402300799)⟩ (zs.drop (k + 1)) := g7
        have hp1 := (hdV_bd (n := p * 10 + ((c : Int) - 48)) (by omega)).1
        have key := dig_step (c := c) hdg g3 g4 _ rfl
        by_cases hle : n ≤ 253402300799
        · rw [if_pos hle] at key
          have q3 : decide ((n : Int) ≤ 253402300799) = true := decide_eq_true (by omega)
          have v1 : IntKind.i64.wrap (10 * (n : Int)) = 10 * (n : Int) := wrap_i64 (by omega) (by omega)
          have v2 : IntKind.i64.wrap (c : Int) = (c : Int) := wrap_i64 (by omega) (by omega)
          have v3 : IntKind.i64.wrap (10 * (n : Int) + (c : Int)) = 10 * (n : Int) + (c : Int) := wrap_i64 (by omega) (by omega)
          have v4 : IntKind.i64.wrap (10 * (n : Int) + (c : Int) - 48) = ((10 * n + (c - 48) : Nat) : Int) := by rw [wrap_i64 (by omega) (by omega)]; omega
          have hc2 : ((B.data[k]?.getD 0).toNat : Int) = (c : Int) := by simpa using hc
          obtain ⟨n', hn'⟩ : ∃ n', n' = 10 * n + (c - 48) := ⟨_, rfl⟩
          rw [← hn'] at v4 key
          first | (have FRx := FR; clear FRx) | (have FR : Sm (¬ ((1 : Nat) = 0)) := Sm.mk Nat.one_ne_zero)
          repeat' first
            | (refine Sm.mk ?_; try simp -dsimp only [ZK, rvc, drawF, headN, pureH, stp, dvc, calleeOf, gcall, pev, eff, newB, okd, og, ogs, ogo, ogp, slv, bltv, opd, litv, strip, one, both, putE, St.put, look, gdOf, gdv, picka, pickv, pickw, binv, bini, bins, binb, binp, binq, isSlT, bina, shp, eqCells, unv, convv, nilv, faddv, addp, idxav, idxp, load1, load1m, loadn, loadnm, loadv, hget, hset, hrep, hdel, slicev, bnd, shift1, lenv, capv, IntKind.bits, extractv, fieldv, indexv, min2v, max2v, mkiv, cellsA, fillA, buildv, stC, oneC, rowMB, intsA, plN, appE, appZ, appC, appNZ, appNC, VwL, srcC, srcZ, srcM, isBoolT, isPtrT, isSliceT, uOk, Value.oneCell', Nat.reducePow, Int.reducePow, Nat.reduceAdd, Nat.reduceMul, Nat.reduceSub, Nat.reduceLT, Nat.reduceLeDiff, Nat.reduceEqDiff, Nat.reduceBEq, Nat.reduceDiv, Nat.reduceMod, ↓reduceIte, reduceCtorEq, Int.reduceToNat, Int.reduceLT, Int.reduceLE, TFSpN, SeqQ, BlkQ, LoopQ, BodyQ, hs, hc, t1, kk, q1, q2, q3, v1, v2, v3, v4, s1, FR.out])
            | (refine WP.seq fun K hK => ?_)
            | (refine WP.region (rvc_sound _ _ (Sm.out ?_)))
            | (refine WP.drawK rfl mixed (by decide +kernel) (Sm.out ?_))
            | (refine Ob.mk ?_; focus (first | assumption | omega | decide | trivial | (intro hob; simp only [hob, ZF]; done) | (intros; (repeat' refine And.intro ?_ ?_) <;> first | assumption | omega | trivial | decide) | (intros; simp only [ZE] at *; (repeat' refine And.intro ?_ ?_) <;> first | assumption | omega | trivial)))
            | (refine And.intro (Ob.out ?_) ?_)
            | (refine WP.block ?_)
            | (refine WP.cond rfl (fun hc => ?_) (fun hc => ?_) <;> (try simp only [ZC, reduceCtorEq, ZD] at hc) <;> (try (exact absurd hc (by decide))) <;> (try (exfalso; omega)))
            | ((first | refine WP.skip ?_ | refine WP.exit ?_); simp only [SeqQ, BlkQ, LoopQ, BodyQ, ↓reduceIte, Nat.reduceEqDiff, reduceCtorEq, look, true_and])
            | (refine WP.ret (Sm.out ?_))
            | (first | refine ExG.no (Sm.out ?_) | refine Or.inl (ExG.no (Sm.out ?_)) | refine Or.inl (And.intro (fun hg => absurd hg (by decide)) (ExG.no (Sm.out ?_))))
            | (refine Rt.mk ?_; refine And.intro ?_ ?_ <;> (intro hg; first | exact absurd hg (by decide) | refine Sm.out ?_))
            | (refine Nu.mk ?_; first | (fail_if_success (have := nb1)); intro nb1 | (fail_if_success (have := nb2)); intro nb2 | (fail_if_success (have := nb3)); intro nb3 | intro nbz)
            | (refine Fr.mk ?_; intro hfr; (first | (have hFRb : _ ≤ _ ∧ _ ≤ _ := And.intro hfr.1 hfr.2.1) | (have hFRb : _ ≤ _ := hfr.1) | skip); replace FR := Sm.mk (And.intro hfr FR.out); clear hfr; refine Sm.out ?_)
            | (refine Two.mk ?_ ?_)
            | (refine Cs.mk ?_; intro hcs; first | exact False.elim hcs | (exfalso; omega) | (refine Sm.out ?_))
            | go_step
            | omega
            | (simp only [maxLen_eq]; omega)
          refine ⟨⟨k + 1, n', _, true, _⟩, ⟨by simp only; omega, by simp only; omega, key.1, key.2, hp1, by simp only; rw [decide_eq_true (by omega)], g7⟩, by simp only; omega, (Sub.pick (by simp [pickB, hget, hdel, FR.out, hc2, v2, v3, v4]) (by simp [look, hc2, v2, v3, v4]))⟩
        · rw [if_neg hle] at key
          have q3 : decide ((n : Int) ≤ 253402300799) = false := decide_eq_false (by omega)
          first | (have FRx := FR; clear FRx) | (have FR : Sm (¬ ((1 : Nat) = 0)) := Sm.mk Nat.one_ne_zero)
          repeat' first
            | (refine Sm.mk ?_; try simp -dsimp only [ZK, rvc, drawF, headN, pureH, stp, dvc, calleeOf, gcall, pev, eff, newB, okd, og, ogs, ogo, ogp, slv, bltv, opd, litv, strip, one, both, putE, St.put, look, gdOf, gdv, picka, pickv, pickw, binv, bini, bins, binb, binp, binq, isSlT, bina, shp, eqCells, unv, convv, nilv, faddv, addp, idxav, idxp, load1, load1m, loadn, loadnm, loadv, hget, hset, hrep, hdel, slicev, bnd, shift1, lenv, capv, IntKind.bits, extractv, fieldv, indexv, min2v, max2v, mkiv, cellsA, fillA, buildv, stC, oneC, rowMB, intsA, plN, appE, appZ, appC, appNZ, appNC, VwL, srcC, srcZ, srcM, isBoolT, isPtrT, isSliceT, uOk, Value.oneCell', Nat.reducePow, Int.reducePow, Nat.reduceAdd, Nat.reduceMul, Nat.reduceSub, Nat.reduceLT, Nat.reduceLeDiff, Nat.reduceEqDiff, Nat.reduceBEq, Nat.reduceDiv, Nat.reduceMod, ↓reduceIte, reduceCtorEq, Int.reduceToNat, Int.reduceLT, Int.reduceLE, TFSpN, SeqQ, BlkQ, LoopQ, BodyQ, hs, hc, t1, kk, q1, q2, q3, s1, FR.out])
            | (refine WP.seq fun K hK => ?_)
            | (refine WP.region (rvc_sound _ _ (Sm.out ?_)))
            | (refine WP.drawK rfl mixed (by decide +kernel) (Sm.out ?_))
            | (refine Ob.mk ?_; focus (first | assumption | omega | decide | trivial | (intro hob; simp only [hob, ZF]; done) | (intros; (repeat' refine And.intro ?_ ?_) <;> first | assumption | omega | trivial | decide) | (intros; simp only [ZE] at *; (repeat' refine And.intro ?_ ?_) <;> first | assumption | omega | trivial)))
            | (refine And.intro (Ob.out ?_) ?_)
            | (refine WP.block ?_)
            | (refine WP.cond rfl (fun hc => ?_) (fun hc => ?_) <;> (try simp only [ZC, reduceCtorEq, ZD] at hc) <;> (try (exact absurd hc (by decide))) <;> (try (exfalso; omega)))
            | ((first | refine WP.skip ?_ | refine WP.exit ?_); simp only [SeqQ, BlkQ, LoopQ, BodyQ, ↓reduceIte, Nat.reduceEqDiff, reduceCtorEq, look, true_and])
            | (refine WP.ret (Sm.out ?_))
            | (first | refine ExG.no (Sm.out ?_) | refine Or.inl (ExG.no (Sm.out ?_)) | refine Or.inl (And.intro (fun hg => absurd hg (by decide)) (ExG.no (Sm.out ?_))))
            | (refine Rt.mk ?_; refine And.intro ?_ ?_ <;> (intro hg; first | exact absurd hg (by decide) | refine Sm.out ?_))
            | (refine Nu.mk ?_; first | (fail_if_success (have := nb1)); intro nb1 | (fail_if_success (have := nb2)); intro nb2 | (fail_if_success (have := nb3)); intro nb3 | intro nbz)
            | (refine Fr.mk ?_; intro hfr; (first | (have hFRb : _ ≤ _ ∧ _ ≤ _ := And.intro hfr.1 hfr.2.1) | (have hFRb : _ ≤ _ := hfr.1) | skip); replace FR := Sm.mk (And.intro hfr FR.out); clear hfr; refine Sm.out ?_)
            | (refine Two.mk ?_ ?_)
            | (refine Cs.mk ?_; intro hcs; first | exact False.elim hcs | (exfalso; omega) | (refine Sm.out ?_))
            | go_step
            | omega
            | (simp only [maxLen_eq]; omega)
          refine ⟨⟨k + 1, n, _, true, _⟩, ⟨by simp only; omega, by simp only; omega, key.1, key.2, hp1, by simp only; rw [decide_eq_true (by omega)], g7⟩, by simp only; omega, (Sub.pick (by simp [pickB, hget, hdel, FR.out]) (by simp [look]))⟩
      · have hnd : ¬ (48 ≤ (c : Int) ∧ (c : Int) ≤ 57) := by omega
        obtain ⟨b1, b2, q1, q2, hbs⟩ : ∃ b1 b2 : Bool, decide ((c : Int) ≥ 48) = b1 ∧ decide ((c : Int) ≤ 57) = b2 ∧ (b1 = false ∨ b1 = true ∧ b2 = false) := by
          refine ⟨_, _, rfl, rfl, ?_⟩
          by_cases h : 48 ≤ c
          · exact .inr ⟨decide_eq_true (by omega), decide_eq_false (by omega)⟩
          · exact .inl (decide_eq_false (by omega))
        have cU := runit_ct (c : Int) (by omega)
        by_cases hik : k = i
        · -- nothing ahead
          have kq : ((k : Int) == (i : Int)) = true := beq_iff_eq.2 (by omega)
          have hT : T = none := by rw [g7, step_none hnd (.inr (.inl (by rw [g6, hik]; simp)))]; rfl
          have eA : A = sbad 5 := by rw [hA, hT]; rfl
          rcases hbs with rfl | ⟨rfl, rfl⟩
          all_goals (
              first | (have FRx := FR; clear FRx) | (have FR : Sm (¬ ((1 : Nat) = 0)) := Sm.mk Nat.one_ne_zero)
              repeat' first
                | (refine Sm.mk ?_; try simp -dsimp only [ZK, rvc, drawF, headN, pureH, stp, dvc, calleeOf, gcall, pev, eff, newB, okd, og, ogs, ogo, ogp, slv, bltv, opd, litv, strip, one, both, putE, St.put, look, gdOf, gdv, picka, pickv, pickw, binv, bini, bins, binb, binp, binq, isSlT, bina, shp, eqCells, unv, convv, nilv, faddv, addp, idxav, idxp, load1, load1m, loadn, loadnm, loadv, hget, hset, hrep, hdel, slicev, bnd, shift1, lenv, capv, IntKind.bits, extractv, fieldv, indexv, min2v, max2v, mkiv, cellsA, fillA, buildv, stC, oneC, rowMB, intsA, plN, appE, appZ, appC, appNZ, appNC, VwL, srcC, srcZ, srcM, isBoolT, isPtrT, isSliceT, uOk, Value.oneCell', Nat.reducePow, Int.reducePow, Nat.reduceAdd, Nat.reduceMul, Nat.reduceSub, Nat.reduceLT, Nat.reduceLeDiff, Nat.reduceEqDiff, Nat.reduceBEq, Nat.reduceDiv, Nat.reduceMod, ↓reduceIte, reduceCtorEq, Int.reduceToNat, Int.reduceLT, Int.reduceLE, TFSpN, SeqQ, BlkQ, LoopQ, BodyQ, hs, hc, t1, kk, q1, q2, kq, FR.out])
                | (refine WP.seq fun K hK => ?_)
                | (refine WP.region (rvc_sound _ _ (Sm.out ?_)))
                | (refine WP.drawK rfl mixed (by decide +kernel) (Sm.out ?_))
                | (refine Ob.mk ?_; focus (first | assumption | omega | decide | trivial | (intro hob; simp only [hob, ZF]; done) | (intros; (repeat' refine And.intro ?_ ?_) <;> first | assumption | omega | trivial | decide) | (intros; simp only [ZE] at *; (repeat' refine And.intro ?_ ?_) <;> first | assumption | omega | trivial)))
                | (refine And.intro (Ob.out ?_) ?_)
                | (refine WP.block ?_)
                | (refine WP.cond rfl (fun hc => ?_) (fun hc => ?_) <;> (try simp only [ZC, reduceCtorEq, ZD] at hc) <;> (try (exact absurd hc (by decide))) <;> (try (exfalso; omega)))
                | ((first | refine WP.skip ?_ | refine WP.exit ?_); simp only [SeqQ, BlkQ, LoopQ, BodyQ, ↓reduceIte, Nat.reduceEqDiff, reduceCtorEq, look, true_and])
                | (refine WP.ret (Sm.out ?_))
                | (first | refine ExG.no (Sm.out ?_) | refine Or.inl (ExG.no (Sm.out ?_)) | refine Or.inl (And.intro (fun hg => absurd hg (by decide)) (ExG.no (Sm.out ?_))))
                | (refine Rt.mk ?_; refine And.intro ?_ ?_ <;> (intro hg; first | exact absurd hg (by decide) | refine Sm.out ?_))
                | (refine Nu.mk ?_; first | (fail_if_success (have := nb1)); intro nb1 | (fail_if_success (have := nb2)); intro nb2 | (fail_if_success (have := nb3)); intro nb3 | intro nbz)
                | (refine Fr.mk ?_; intro hfr; (first | (have hFRb : _ ≤ _ ∧ _ ≤ _ := And.intro hfr.1 hfr.2.1) | (have hFRb : _ ≤ _ := hfr.1) | skip); replace FR := Sm.mk (And.intro hfr FR.out); clear hfr; refine Sm.out ?_)
                | (refine Two.mk ?_ ?_)
                | (refine Cs.mk ?_; intro hcs; first | exact False.elim hcs | (exfalso; omega) | (refine Sm.out ?_))
                | go_step
                | omega
                | (simp only [maxLen_eq]; omega))
          all_goals (refine OutQ.all ?_ ?_; (focus (simp only [resv, ZK, look, loadv, loadn, loadnm, load1, load1m, hget, ↓reduceIte, Nat.reduceEqDiff, Nat.reduceAdd, Nat.reduceMul, Nat.reduceLeDiff, Nat.reduceLT, reduceCtorEq, TFSpN, eA, FR.out])); (try simp only [resv, resA, Fn, ZK, look, loadv, loadn, loadnm, load1, load1m, hget, ↓reduceIte, Nat.reduceEqDiff, Nat.reduceAdd, Nat.reduceMul, Nat.reduceLeDiff, Nat.reduceLT, reduceCtorEq, TFSpN, eA, FR.out]); (try simp [resA, Fn, look, eA, FR.out]))
        have kq : ((k : Int) == (i : Int)) = false := beq_eq_false_iff_ne.2 (by omega)
        have kq2 : ((k : Int) == (zs.length : Int)) = false := beq_eq_false_iff_ne.2 (by omega)
        have hdt : d = true := by rw [g6]; exact decide_eq_true (by omega)
        subst hdt
        by_cases hu0 : unitV (c : Int) = 0
        · have hT : T = none := by rw [g7, step_none hnd (.inl hu0)]; rfl
          have eA : A = sbad 5 := by rw [hA, hT]; rfl
          rw [hu0] at cU
          have cU' := cU
          rw [← hc] at cU'
          rcases hbs with rfl | ⟨rfl, rfl⟩
          all_goals (
              first | (have FRx := FR; clear FRx) | (have FR : Sm (¬ ((1 : Nat) = 0)) := Sm.mk Nat.one_ne_zero)
              repeat' first
                | (refine Sm.mk ?_; try simp -dsimp only [ZK, rvc, drawF, headN, pureH, stp, dvc, calleeOf, gcall, pev, eff, newB, okd, og, ogs, ogo, ogp, slv, bltv, opd, litv, strip, one, both, putE, St.put, look, gdOf, gdv, picka, pickv, pickw, binv, bini, bins, binb, binp, binq, isSlT, bina, shp, eqCells, unv, convv, nilv, faddv, addp, idxav, idxp, load1, load1m, loadn, loadnm, loadv, hget, hset, hrep, hdel, slicev, bnd, shift1, lenv, capv, IntKind.bits, extractv, fieldv, indexv, min2v, max2v, mkiv, cellsA, fillA, buildv, stC, oneC, rowMB, intsA, plN, appE, appZ, appC, appNZ, appNC, VwL, srcC, srcZ, srcM, isBoolT, isPtrT, isSliceT, uOk, Value.oneCell', Nat.reducePow, Int.reducePow, Nat.reduceAdd, Nat.reduceMul, Nat.reduceSub, Nat.reduceLT, Nat.reduceLeDiff, Nat.reduceEqDiff, Nat.reduceBEq, Nat.reduceDiv, Nat.reduceMod, ↓reduceIte, reduceCtorEq, Int.reduceToNat, Int.reduceLT, Int.reduceLE, TFSpN, SeqQ, BlkQ, LoopQ, BodyQ, hs, hc, t1, kk, q1, q2, kq, kq2, FR.out])
                | (first | refine CallV.fn (cU) (Sm.out ?_) | refine ExF.mk (cU) (Sm.out ?_) | refine ExG.mk (fun _ => cU) (Sm.out ?_) | refine ExG.mkJ (fun _ => cU) (Sm.out ?_) | refine ExG.mkI (Ob.out ?_) (fun _ => cU) (Sm.out ?_))
                | (first | refine CallV.fn (cU') (Sm.out ?_) | refine ExF.mk (cU') (Sm.out ?_) | refine ExG.mk (fun _ => cU') (Sm.out ?_) | refine ExG.mkJ (fun _ => cU') (Sm.out ?_) | refine ExG.mkI (Ob.out ?_) (fun _ => cU') (Sm.out ?_))
                | (refine WP.seq fun K hK => ?_)
                | (refine WP.region (rvc_sound _ _ (Sm.out ?_)))
                | (refine WP.drawK rfl mixed (by decide +kernel) (Sm.out ?_))
                | (refine Ob.mk ?_; focus (first | assumption | omega | decide | trivial | (intro hob; simp only [hob, ZF]; done) | (intros; (repeat' refine And.intro ?_ ?_) <;> first | assumption | omega | trivial | decide) | (intros; simp only [ZE] at *; (repeat' refine And.intro ?_ ?_) <;> first | assumption | omega | trivial)))
                | (refine And.intro (Ob.out ?_) ?_)
                | (refine WP.block ?_)
                | (refine WP.cond rfl (fun hc => ?_) (fun hc => ?_) <;> (try simp only [ZC, reduceCtorEq, ZD] at hc) <;> (try (exact absurd hc (by decide))) <;> (try (exfalso; omega)))
                | ((first | refine WP.skip ?_ | refine WP.exit ?_); simp only [SeqQ, BlkQ, LoopQ, BodyQ, ↓reduceIte, Nat.reduceEqDiff, reduceCtorEq, look, true_and])
                | (refine WP.ret (Sm.out ?_))
                | (first | refine ExG.no (Sm.out ?_) | refine Or.inl (ExG.no (Sm.out ?_)) | refine Or.inl (And.intro (fun hg => absurd hg (by decide)) (ExG.no (Sm.out ?_))))
                | (refine Rt.mk ?_; refine And.intro ?_ ?_ <;> (intro hg; first | exact absurd hg (by decide) | refine Sm.out ?_))
                | (refine Nu.mk ?_; first | (fail_if_success (have := nb1)); intro nb1 | (fail_if_success (have := nb2)); intro nb2 | (fail_if_success (have := nb3)); intro nb3 | intro nbz)
                | (refine Fr.mk ?_; intro hfr; (first | (have hFRb : _ ≤ _ ∧ _ ≤ _ := And.intro hfr.1 hfr.2.1) | (have hFRb : _ ≤ _ := hfr.1) | skip); replace FR := Sm.mk (And.intro hfr FR.out); clear hfr; refine Sm.out ?_)
                | (refine Two.mk ?_ ?_)
                | (refine Cs.mk ?_; intro hcs; first | exact False.elim hcs | (exfalso; omega) | (refine Sm.out ?_))
                | go_step
                | omega
                | (simp only [maxLen_eq]; omega))
          all_goals (refine OutQ.all ?_ ?_; (focus (simp only [resv, ZK, look, loadv, loadn, loadnm, load1, load1m, hget, ↓reduceIte, Nat.reduceEqDiff, Nat.reduceAdd, Nat.reduceMul, Nat.reduceLeDiff, Nat.reduceLT, reduceCtorEq, TFSpN, eA, FR.out])); (try simp only [resv, resA, Fn, ZK, look, loadv, loadn, loadnm, load1, load1m, hget, ↓reduceIte, Nat.reduceEqDiff, Nat.reduceAdd, Nat.reduceMul, Nat.reduceLeDiff, Nat.reduceLT, reduceCtorEq, TFSpN, eA, FR.out]); (try simp [resA, Fn, look, eA, FR.out]))
        obtain ⟨i0, hi0, hci⟩ := unit_is hu0
        obtain ⟨l1, l2, l3, l4, l5, l6, l7, l8, l9⟩ := lst_all j (by omega) i0 hi0
        rw [← hla] at l1
        rw [← hci] at l2 l3 l5
        rw [l5] at cU
        obtain ⟨u, hu⟩ : ∃ u, u = uni i0 := ⟨_, rfl⟩
        rw [← hu] at cU l1 l4 l5 l6 l7
        have cU' := cU
        rw [← hc] at cU'
        have ku0 : ((u : Int) == 0) = false := beq_eq_false_iff_ne.2 (by omega)
        by_cases hlt : u < la
        · have kl : decide ((u : Int) ≥ (la : Int)) = false := decide_eq_false (by omega)
          have hji := l1.1 hlt
          have hix := l3 hji
          have hst : stepR ⟨s, p, true, j, f⟩ (c : Int) = some (tkU ⟨s, p, true, j, f⟩ (c : Int) (i0 - j)) := by
            unfold stepR
            rw [if_neg hnd, if_pos ⟨by omega, by simp only; rw [hix, uL_len]; omega, rfl⟩]
            simp only [hix]
          rw [hst] at g7
          have g7 : T = runR (tkU ⟨s, p, true, j, f⟩ (c : Int) (i0 - j)) (zs.drop (k + 1)) := g7
          unfold tkU at g7
          simp only at g7
          rw [l5, show j + (i0 - j) + 1 = i0 + 1 by omega] at g7
          have hu00 : ((u : Int) = 0) = False := eq_false (by omega)
          have r3 : (253402300799 : Int).tdiv (u : Int) = ((253402300799 / u : Nat) : Int) := by rw [Int.tdiv_eq_ediv_of_nonneg (by omega)]; exact (Int.natCast_ediv 253402300799 u).symm
          have hD := Nat.div_add_mod 253402300799 u
          have hL := Nat.mod_lt 253402300799 (show 0 < u by omega)
          have hDle := Nat.div_le_self 253402300799 u
          obtain ⟨Q, hQ⟩ : ∃ Q, Q = 253402300799 / u := ⟨_, rfl⟩
          rw [← hQ] at r3 hD hDle
          have w3 : IntKind.i64.wrap (Q : Int) = (Q : Int) := wrap_i64 (by omega) (by omega)
          have s1 : IntKind.i64.wrap ((k : Int) + 1) = ((k + 1 : Nat) : Int) := by rw [wrap_i64 (by omega) (by omega)]; omega
          have ks : decide ((sum : Int) > 253402300799) = false := decide_eq_false (by omega)
          have el : (lst (i0 + 1) : Nat) = u := l4
          have hx0 := hdV_bd (n := p * (u : Int)) (Int.mul_nonneg g5 (by omega))
          have hx1 := hdV_bd (n := s + hdV (p * (u : Int))) (by omega)
          by_cases hnQ : n > Q
          · have kn : decide ((n : Int) > (Q : Int)) = true := decide_eq_true (by omega)
            have hpu : p * (u : Int) > 253402300799 := by
              have hp : (Q : Int) + 1 ≤ p := by
                by_cases hle : n ≤ 253402300799
                · have := (g4.1 hle).1; omega
                · have := (g4.2 (by omega)).1; omega
              have h8 : ((Q : Int) + 1) * (u : Int) ≤ p * (u : Int) := Int.mul_le_mul_of_nonneg_right hp (by omega)
              have h9 : ((Q : Int) + 1) * (u : Int) = (((Q + 1) * u : Nat) : Int) := by rw [Int.natCast_mul]; rfl
              have h10 : (Q + 1) * u = u * Q + u := by rw [Nat.add_mul, Nat.one_mul, Nat.mul_comm]
              rw [h9, h10] at h8
              omega
            have hf : (f || decide (s + hdV (p * (u : Int)) > 253402300799)) = true := by
              have e : hdV (p * (u : Int)) = 253402300800 := if_pos hpu
              rw [decide_eq_true (by rw [e]; omega)]; simp
            rw [hf] at g7
            obtain ⟨S, hS⟩ : ∃ S, S = hdV (s + hdV (p * (u : Int))) := ⟨_, rfl⟩
            rw [← hS] at g7 hx1
            rcases hbs with rfl | ⟨rfl, rfl⟩
            all_goals (
                first | (have FRx := FR; clear FRx) | (have FR : Sm (¬ ((1 : Nat) = 0)) := Sm.mk Nat.one_ne_zero)
                repeat' first
                  | (refine Sm.mk ?_; try simp -dsimp only [ZK, rvc, drawF, headN, pureH, stp, dvc, calleeOf, gcall, pev, eff, newB, okd, og, ogs, ogo, ogp, slv, bltv, opd, litv, strip, one, both, putE, St.put, look, gdOf, gdv, picka, pickv, pickw, binv, bini, bins, binb, binp, binq, isSlT, bina, shp, eqCells, unv, convv, nilv, faddv, addp, idxav, idxp, load1, load1m, loadn, loadnm, loadv, hget, hset, hrep, hdel, slicev, bnd, shift1, lenv, capv, IntKind.bits, extractv, fieldv, indexv, min2v, max2v, mkiv, cellsA, fillA, buildv, stC, oneC, rowMB, intsA, plN, appE, appZ, appC, appNZ, appNC, VwL, srcC, srcZ, srcM, isBoolT, isPtrT, isSliceT, uOk, Value.oneCell', Nat.reducePow, Int.reducePow, Nat.reduceAdd, Nat.reduceMul, Nat.reduceSub, Nat.reduceLT, Nat.reduceLeDiff, Nat.reduceEqDiff, Nat.reduceBEq, Nat.reduceDiv, Nat.reduceMod, ↓reduceIte, reduceCtorEq, Int.reduceToNat, Int.reduceLT, Int.reduceLE, TFSpN, SeqQ, BlkQ, LoopQ, BodyQ, hs, hc, t1, kk, q1, q2, kq, kq2, ku0, kl, hu00, r3, w3, kn, ks, s1, FR.out])
                  | (first | refine CallV.fn (cU) (Sm.out ?_) | refine ExF.mk (cU) (Sm.out ?_) | refine ExG.mk (fun _ => cU) (Sm.out ?_) | refine ExG.mkJ (fun _ => cU) (Sm.out ?_) | refine ExG.mkI (Ob.out ?_) (fun _ => cU) (Sm.out ?_))
                  | (first | refine CallV.fn (cU') (Sm.out ?_) | refine ExF.mk (cU') (Sm.out ?_) | refine ExG.mk (fun _ => cU') (Sm.out ?_) | refine ExG.mkJ (fun _ => cU') (Sm.out ?_) | refine ExG.mkI (Ob.out ?_) (fun _ => cU') (Sm.out ?_))
                  | (refine WP.seq fun K hK => ?_)
                  | (refine WP.region (rvc_sound _ _ (Sm.out ?_)))
                  | (refine WP.drawK rfl mixed (by decide +kernel) (Sm.out ?_))
                  | (refine Ob.mk ?_; focus (first | assumption | omega | decide | trivial | (intro hob; simp only [hob, ZF]; done) | (intros; (repeat' refine And.intro ?_ ?_) <;> first | assumption | omega | trivial | decide) | (intros; simp only [ZE] at *; (repeat' refine And.intro ?_ ?_) <;> first | assumption | omega | trivial)))
                  | (refine And.intro (Ob.out ?_) ?_)
                  | (refine WP.block ?_)
                  | (refine WP.cond rfl (fun hc => ?_) (fun hc => ?_) <;> (try simp only [ZC, reduceCtorEq, ZD] at hc) <;> (try (exact absurd hc (by decide))) <;> (try (exfalso; omega)))
                  | ((first | refine WP.skip ?_ | refine WP.exit ?_); simp only [SeqQ, BlkQ, LoopQ, BodyQ, ↓reduceIte, Nat.reduceEqDiff, reduceCtorEq, look, true_and])
                  | (refine WP.ret (Sm.out ?_))
                  | (first | refine ExG.no (Sm.out ?_) | refine Or.inl (ExG.no (Sm.out ?_)) | refine Or.inl (And.intro (fun hg => absurd hg (by decide)) (ExG.no (Sm.out ?_))))
                  | (refine Rt.mk ?_; refine And.intro ?_ ?_ <;> (intro hg; first | exact absurd hg (by decide) | refine Sm.out ?_))
                  | (refine Nu.mk ?_; first | (fail_if_success (have := nb1)); intro nb1 | (fail_if_success (have := nb2)); intro nb2 | (fail_if_success (have := nb3)); intro nb3 | intro nbz)
                  | (refine Fr.mk ?_; intro hfr; (first | (have hFRb : _ ≤ _ ∧ _ ≤ _ := And.intro hfr.1 hfr.2.1) | (have hFRb : _ ≤ _ := hfr.1) | skip); replace FR := Sm.mk (And.intro hfr FR.out); clear hfr; refine Sm.out ?_)
                  | (refine Two.mk ?_ ?_)
                  | (refine Cs.mk ?_; intro hcs; first | exact False.elim hcs | (exfalso; omega) | (refine Sm.out ?_))
                  | go_step
                  | omega
                  | (simp only [maxLen_eq]; omega))
            all_goals exact ⟨⟨k + 1, sum, true, S, i0 + 1⟩, ⟨by simp only; omega, h2, by simp only; omega, hx1.1, hx1.2, (fun h => by cases h), g7⟩, by simp only; omega, (Sub.pick (by simp [pickB, hget, hdel, FR.out, el]) (by simp [look, el]))⟩
          · have kn : decide ((n : Int) > (Q : Int)) = false := decide_eq_false (by omega)
            have hle : n ≤ 253402300799 := by omega
            obtain ⟨hp, hf⟩ := g4.1 hle
            have hnu : n * u ≤ 253402300799 := by
              have : n * u ≤ Q * u := Nat.mul_le_mul_right u (by omega)
              rw [Nat.mul_comm Q u] at this
              omega
            have epu : p * (u : Int) = ((n * u : Nat) : Int) := by rw [hp, Int.natCast_mul]
            have ev : (n : Int) * (u : Int) = ((n * u : Nat) : Int) := (Int.natCast_mul _ _).symm
            obtain ⟨x, hx⟩ : ∃ x, x = n * u := ⟨_, rfl⟩
            rw [← hx] at hnu epu ev
            have eh : hdV (x : Int) = (x : Int) := if_neg (by omega)
            rw [epu, eh] at g7 hx1
            have w5 : IntKind.i64.wrap (x : Int) = (x : Int) := wrap_i64 (by omega) (by omega)
            have w6 : IntKind.i64.wrap ((sum : Int) + (x : Int)) = ((sum + x : Nat) : Int) := by rw [wrap_i64 (by omega) (by omega)]; omega
            subst hf
            by_cases hbig : sum + x > 253402300799
            · have ks2 : decide (((sum + x : Nat) : Int) > 253402300799) = true := decide_eq_true (by omega)
              have hf : (f || decide (s + (x : Int) > 253402300799)) = true := by
                cases f
                · rw [decide_eq_true (by have := h6 rfl; omega)]; rfl
                · rfl
              rw [hf] at g7
              obtain ⟨S, hS⟩ : ∃ S, S = hdV (s + (x : Int)) := ⟨_, rfl⟩
              rw [← hS] at g7 hx1
              obtain ⟨y, hy⟩ : ∃ y, y = sum + x := ⟨_, rfl⟩
              rw [← hy] at w6 ks2
              rcases hbs with rfl | ⟨rfl, rfl⟩
              all_goals (
                  first | (have FRx := FR; clear FRx) | (have FR : Sm (¬ ((1 : Nat) = 0)) := Sm.mk Nat.one_ne_zero)
                  repeat' first
                    | (refine Sm.mk ?_; try simp -dsimp only [ZK, rvc, drawF, headN, pureH, stp, dvc, calleeOf, gcall, pev, eff, newB, okd, og, ogs, ogo, ogp, slv, bltv, opd, litv, strip, one, both, putE, St.put, look, gdOf, gdv, picka, pickv, pickw, binv, bini, bins, binb, binp, binq, isSlT, bina, shp, eqCells, unv, convv, nilv, faddv, addp, idxav, idxp, load1, load1m, loadn, loadnm, loadv, hget, hset, hrep, hdel, slicev, bnd, shift1, lenv, capv, IntKind.bits, extractv, fieldv, indexv, min2v, max2v, mkiv, cellsA, fillA, buildv, stC, oneC, rowMB, intsA, plN, appE, appZ, appC, appNZ, appNC, VwL, srcC, srcZ, srcM, isBoolT, isPtrT, isSliceT, uOk, Value.oneCell', Nat.reducePow, Int.reducePow, Nat.reduceAdd, Nat.reduceMul, Nat.reduceSub, Nat.reduceLT, Nat.reduceLeDiff, Nat.reduceEqDiff, Nat.reduceBEq, Nat.reduceDiv, Nat.reduceMod, ↓reduceIte, reduceCtorEq, Int.reduceToNat, Int.reduceLT, Int.reduceLE, TFSpN, SeqQ, BlkQ, LoopQ, BodyQ, hs, hc, t1, kk, q1, q2, kq, kq2, ku0, kl, hu00, r3, w3, kn, ev, w5, w6, ks2, s1, FR.out])
                    | (first | refine CallV.fn (cU) (Sm.out ?_) | refine ExF.mk (cU) (Sm.out ?_) | refine ExG.mk (fun _ => cU) (Sm.out ?_) | refine ExG.mkJ (fun _ => cU) (Sm.out ?_) | refine ExG.mkI (Ob.out ?_) (fun _ => cU) (Sm.out ?_))
                    | (first | refine CallV.fn (cU') (Sm.out ?_) | refine ExF.mk (cU') (Sm.out ?_) | refine ExG.mk (fun _ => cU') (Sm.out ?_) | refine ExG.mkJ (fun _ => cU') (Sm.out ?_) | refine ExG.mkI (Ob.out ?_) (fun _ => cU') (Sm.out ?_))
                    | (refine WP.seq fun K hK => ?_)
                    | (refine WP.region (rvc_sound _ _ (Sm.out ?_)))
                    | (refine WP.drawK rfl mixed (by decide +kernel) (Sm.out ?_))
                    | (refine Ob.mk ?_; focus (first | assumption | omega | decide | trivial | (intro hob; simp only [hob, ZF]; done) | (intros; (repeat' refine And.intro ?_ ?_) <;> first | assumption | omega | trivial | decide) | (intros; simp only [ZE] at *; (repeat' refine And.intro ?_ ?_) <;> first | assumption | omega | trivial)))
                    | (refine And.intro (Ob.out ?_) ?_)
                    | (refine WP.block ?_)
                    | (refine WP.cond rfl (fun hc => ?_) (fun hc => ?_) <;> (try simp only [ZC, reduceCtorEq, ZD] at hc) <;> (try (exact absurd hc (by decide))) <;> (try (exfalso; omega)))
                    | ((first | refine WP.skip ?_ | refine WP.exit ?_); simp only [SeqQ, BlkQ, LoopQ, BodyQ, ↓reduceIte, Nat.reduceEqDiff, reduceCtorEq, look, true_and])
                    | (refine WP.ret (Sm.out ?_))
                    | (first | refine ExG.no (Sm.out ?_) | refine Or.inl (ExG.no (Sm.out ?_)) | refine Or.inl (And.intro (fun hg => absurd hg (by decide)) (ExG.no (Sm.out ?_))))
                    | (refine Rt.mk ?_; refine And.intro ?_ ?_ <;> (intro hg; first | exact absurd hg (by decide) | refine Sm.out ?_))
                    | (refine Nu.mk ?_; first | (fail_if_success (have := nb1)); intro nb1 | (fail_if_success (have := nb2)); intro nb2 | (fail_if_success (have := nb3)); intro nb3 | intro nbz)
                    | (refine Fr.mk ?_; intro hfr; (first | (have hFRb : _ ≤ _ ∧ _ ≤ _ := And.intro hfr.1 hfr.2.1) | (have hFRb : _ ≤ _ := hfr.1) | skip); replace FR := Sm.mk (And.intro hfr FR.out); clear hfr; refine Sm.out ?_)
                    | (refine Two.mk ?_ ?_)
                    | (refine Cs.mk ?_; intro hcs; first | exact False.elim hcs | (exfalso; omega) | (refine Sm.out ?_))
                    | go_step
                    | omega
                    | (simp only [maxLen_eq]; omega))
              all_goals exact ⟨⟨k + 1, 0, true, S, i0 + 1⟩, ⟨by simp only; omega, by simp, by simp only; omega, hx1.1, hx1.2, (fun h => by cases h), g7⟩, by simp only; omega, (Sub.pick (by simp [pickB, hget, hdel, FR.out, el]) (by simp [look, el]))⟩
            · have ks2 : decide (((sum + x : Nat) : Int) > 253402300799) = false := decide_eq_false (by omega)
              obtain ⟨y, hy⟩ : ∃ y, y = sum + x := ⟨_, rfl⟩
              rw [← hy] at w6 ks2
              cases f
              · have hse := h6 rfl
                have hf : (false || decide (s + (x : Int) > 253402300799)) = false := by rw [decide_eq_false (by omega)]; rfl
                have hh : hdV (s + (x : Int)) = (y : Int) := by unfold hdV; rw [if_neg (by omega)]; omega
                rw [hf, hh] at g7
                rcases hbs with rfl | ⟨rfl, rfl⟩
                all_goals (
                    first | (have FRx := FR; clear FRx) | (have FR : Sm (¬ ((1 : Nat) = 0)) := Sm.mk Nat.one_ne_zero)
                    repeat' first
                      | (refine Sm.mk ?_; try simp -dsimp only [ZK, rvc, drawF, headN, pureH, stp, dvc, calleeOf, gcall, pev, eff, newB, okd, og, ogs, ogo, ogp, slv, bltv, opd, litv, strip, one, both, putE, St.put, look, gdOf, gdv, picka, pickv, pickw, binv, bini, bins, binb, binp, binq, isSlT, bina, shp, eqCells, unv, convv, nilv, faddv, addp, idxav, idxp, load1, load1m, loadn, loadnm, loadv, hget, hset, hrep, hdel, slicev, bnd, shift1, lenv, capv, IntKind.bits, extractv, fieldv, indexv, min2v, max2v, mkiv, cellsA, fillA, buildv, stC, oneC, rowMB, intsA, plN, appE, appZ, appC, appNZ, appNC, VwL, srcC, srcZ, srcM, isBoolT, isPtrT, isSliceT, uOk, Value.oneCell', Nat.reducePow, Int.reducePow, Nat.reduceAdd, Nat.reduceMul, Nat.reduceSub, Nat.reduceLT, Nat.reduceLeDiff, Nat.reduceEqDiff, Nat.reduceBEq, Nat.reduceDiv, Nat.reduceMod, ↓reduceIte, reduceCtorEq, Int.reduceToNat, Int.reduceLT, Int.reduceLE, TFSpN, SeqQ, BlkQ, LoopQ, BodyQ, hs, hc, t1, kk, q1, q2, kq, kq2, ku0, kl, hu00, r3, w3, kn, ev, w5, w6, ks2, s1, FR.out])
                      | (first | refine CallV.fn (cU) (Sm.out ?_) | refine ExF.mk (cU) (Sm.out ?_) | refine ExG.mk (fun _ => cU) (Sm.out ?_) | refine ExG.mkJ (fun _ => cU) (Sm.out ?_) | refine ExG.mkI (Ob.out ?_) (fun _ => cU) (Sm.out ?_))
                      | (first | refine CallV.fn (cU') (Sm.out ?_) | refine ExF.mk (cU') (Sm.out ?_) | refine ExG.mk (fun _ => cU') (Sm.out ?_) | refine ExG.mkJ (fun _ => cU') (Sm.out ?_) | refine ExG.mkI (Ob.out ?_) (fun _ => cU') (Sm.out ?_))
                      | (refine WP.seq fun K hK => ?_)
                      | (refine WP.region (rvc_sound _ _ (Sm.out ?_)))
                      | (refine WP.drawK rfl mixed (by decide +kernel) (Sm.out ?_))
                      | (refine Ob.mk ?_; focus (first | assumption | omega | decide | trivial | (intro hob; simp only [hob, ZF]; done) | (intros; (repeat' refine And.intro ?_ ?_) <;> first | assumption | omega | trivial | decide) | (intros; simp only [ZE] at *; (repeat' refine And.intro ?_ ?_) <;> first | assumption | omega | trivial)))
                      | (refine And.intro (Ob.out ?_) ?_)
                      | (refine WP.block ?_)
                      | (refine WP.cond rfl (fun hc => ?_) (fun hc => ?_) <;> (try simp only [ZC, reduceCtorEq, ZD] at hc) <;> (try (exact absurd hc (by decide))) <;> (try (exfalso; omega)))
                      | ((first | refine WP.skip ?_ | refine WP.exit ?_); simp only [SeqQ, BlkQ, LoopQ, BodyQ, ↓reduceIte, Nat.reduceEqDiff, reduceCtorEq, look, true_and])
                      | (refine WP.ret (Sm.out ?_))
                      | (first | refine ExG.no (Sm.out ?_) | refine Or.inl (ExG.no (Sm.out ?_)) | refine Or.inl (And.intro (fun hg => absurd hg (by decide)) (ExG.no (Sm.out ?_))))
                      | (refine Rt.mk ?_; refine And.intro ?_ ?_ <;> (intro hg; first | exact absurd hg (by decide) | refine Sm.out ?_))
                      | (refine Nu.mk ?_; first | (fail_if_success (have := nb1)); intro nb1 | (fail_if_success (have := nb2)); intro nb2 | (fail_if_success (have := nb3)); intro nb3 | intro nbz)
                      | (refine Fr.mk ?_; intro hfr; (first | (have hFRb : _ ≤ _ ∧ _ ≤ _ := And.intro hfr.1 hfr.2.1) | (have hFRb : _ ≤ _ := hfr.1) | skip); replace FR := Sm.mk (And.intro hfr FR.out); clear hfr; refine Sm.out ?_)
                      | (refine Two.mk ?_ ?_)
                      | (refine Cs.mk ?_; intro hcs; first | exact False.elim hcs | (exfalso; omega) | (refine Sm.out ?_))
                      | go_step
                      | omega
                      | (simp only [maxLen_eq]; omega))
                all_goals exact ⟨⟨k + 1, y, false, (y : Int), i0 + 1⟩, ⟨by simp only; omega, by simp only; omega, by simp only; omega, by simp only; omega, by simp only; omega, fun _ => rfl, g7⟩, by simp only; omega, (Sub.pick (by simp [pickB, hget, hdel, FR.out, el]) (by simp [look, el]))⟩
              · have hf : (true || decide (s + (x : Int) > 253402300799)) = true := rfl
                rw [hf] at g7
                obtain ⟨S, hS⟩ : ∃ S, S = hdV (s + (x : Int)) := ⟨_, rfl⟩
                rw [← hS] at g7 hx1
                rcases hbs with rfl | ⟨rfl, rfl⟩
                all_goals (
                    first | (have FRx := FR; clear FRx) | (have FR : Sm (¬ ((1 : Nat) = 0)) := Sm.mk Nat.one_ne_zero)
                    repeat' first
                      | (refine Sm.mk ?_; try simp -dsimp only [ZK, rvc, drawF, headN, pureH, stp, dvc, calleeOf, gcall, pev, eff, newB, okd, og, ogs, ogo, ogp, slv, bltv, opd, litv, strip, one, both, putE, St.put, look, gdOf, gdv, picka, pickv, pickw, binv, bini, bins, binb, binp, binq, isSlT, bina, shp, eqCells, unv, convv, nilv, faddv, addp, idxav, idxp, load1, load1m, loadn, loadnm, loadv, hget, hset, hrep, hdel, slicev, bnd, shift1, lenv, capv, IntKind.bits, extractv, fieldv, indexv, min2v, max2v, mkiv, cellsA, fillA, buildv, stC, oneC, rowMB, intsA, plN, appE, appZ, appC, appNZ, appNC, VwL, srcC, srcZ, srcM, isBoolT, isPtrT, isSliceT, uOk, Value.oneCell', Nat.reducePow, Int.reducePow, Nat.reduceAdd, Nat.reduceMul, Nat.reduceSub, Nat.reduceLT, Nat.reduceLeDiff, Nat.reduceEqDiff, Nat.reduceBEq, Nat.reduceDiv, Nat.reduceMod, ↓reduceIte, reduceCtorEq, Int.reduceToNat, Int.reduceLT, Int.reduceLE, TFSpN, SeqQ, BlkQ, LoopQ, BodyQ, hs, hc, t1, kk, q1, q2, kq, kq2, ku0, kl, hu00, r3, w3, kn, ev, w5, w6, ks2, s1, FR.out])
                      | (first | refine CallV.fn (cU) (Sm.out ?_) | refine ExF.mk (cU) (Sm.out ?_) | refine ExG.mk (fun _ => cU) (Sm.out ?_) | refine ExG.mkJ (fun _ => cU) (Sm.out ?_) | refine ExG.mkI (Ob.out ?_) (fun _ => cU) (Sm.out ?_))
                      | (first | refine CallV.fn (cU') (Sm.out ?_) | refine ExF.mk (cU') (Sm.out ?_) | refine ExG.mk (fun _ => cU') (Sm.out ?_) | refine ExG.mkJ (fun _ => cU') (Sm.out ?_) | refine ExG.mkI (Ob.out ?_) (fun _ => cU') (Sm.out ?_))
                      | (refine WP.seq fun K hK => ?_)
                      | (refine WP.region (rvc_sound _ _ (Sm.out ?_)))
                      | (refine WP.drawK rfl mixed (by decide +kernel) (Sm.out ?_))
                      | (refine Ob.mk ?_; focus (first | assumption | omega | decide | trivial | (intro hob; simp only [hob, ZF]; done) | (intros; (repeat' refine And.intro ?_ ?_) <;> first | assumption | omega | trivial | decide) | (intros; simp only [ZE] at *; (repeat' refine And.intro ?_ ?_) <;> first | assumption | omega | trivial)))
                      | (refine And.intro (Ob.out ?_) ?_)
                      | (refine WP.block ?_)
                      | (refine WP.cond rfl (fun hc => ?_) (fun hc => ?_) <;> (try simp only [ZC, reduceCtorEq, ZD] at hc) <;> (try (exact absurd hc (by decide))) <;> (try (exfalso; omega)))
                      | ((first | refine WP.skip ?_ | refine WP.exit ?_); simp only [SeqQ, BlkQ, LoopQ, BodyQ, ↓reduceIte, Nat.reduceEqDiff, reduceCtorEq, look, true_and])
                      | (refine WP.ret (Sm.out ?_))
                      | (first | refine ExG.no (Sm.out ?_) | refine Or.inl (ExG.no (Sm.out ?_)) | refine Or.inl (And.intro (fun hg => absurd hg (by decide)) (ExG.no (Sm.out ?_))))
                      | (refine Rt.mk ?_; refine And.intro ?_ ?_ <;> (intro hg; first | exact absurd hg (by decide) | refine Sm.out ?_))
                      | (refine Nu.mk ?_; first | (fail_if_success (have := nb1)); intro nb1 | (fail_if_success (have := nb2)); intro nb2 | (fail_if_success (have := nb3)); intro nb3 | intro nbz)
                      | (refine Fr.mk ?_; intro hfr; (first | (have hFRb : _ ≤ _ ∧ _ ≤ _ := And.intro hfr.1 hfr.2.1) | (have hFRb : _ ≤ _ := hfr.1) | skip); replace FR := Sm.mk (And.intro hfr FR.out); clear hfr; refine Sm.out ?_)
                      | (refine Two.mk ?_ ?_)
                      | (refine Cs.mk ?_; intro hcs; first | exact False.elim hcs | (exfalso; omega) | (refine Sm.out ?_))
                      | go_step
                      | omega
                      | (simp only [maxLen_eq]; omega))
                all_goals exact ⟨⟨k + 1, y, true, S, i0 + 1⟩, ⟨by simp only; omega, by simp only; omega, by simp only; omega, hx1.1, hx1.2, (fun h => by cases h), g7⟩, by simp only; omega, (Sub.pick (by simp [pickB, hget, hdel, FR.out, el]) (by simp [look, el]))⟩
        · have kl : decide ((u : Int) ≥ (la : Int)) = true := decide_eq_true (by omega)
          have hji : i0 < j := by
            by_cases h : j ≤ i0
            · exact absurd (l1.2 h) hlt
            · omega
          have hT : T = none := by rw [g7, step_none hnd (.inr (.inr (by simp only; rw [l2 hji, uL_len]; omega)))]; rfl
          have eA : A = sbad 5 := by rw [hA, hT]; rfl
          rcases hbs with rfl | ⟨rfl, rfl⟩
          all_goals (
              first | (have FRx := FR; clear FRx) | (have FR : Sm (¬ ((1 : Nat) = 0)) := Sm.mk Nat.one_ne_zero)
              repeat' first
                | (refine Sm.mk ?_; try simp -dsimp only [ZK, rvc, drawF, headN, pureH, stp, dvc, calleeOf, gcall, pev, eff, newB, okd, og, ogs, ogo, ogp, slv, bltv, opd, litv, strip, one, both, putE, St.put, look, gdOf, gdv, picka, pickv, pickw, binv, bini, bins, binb, binp, binq, isSlT, bina, shp, eqCells, unv, convv, nilv, faddv, addp, idxav, idxp, load1, load1m, loadn, loadnm, loadv, hget, hset, hrep, hdel, slicev, bnd, shift1, lenv, capv, IntKind.bits, extractv, fieldv, indexv, min2v, max2v, mkiv, cellsA, fillA, buildv, stC, oneC, rowMB, intsA, plN, appE, appZ, appC, appNZ, appNC, VwL, srcC, srcZ, srcM, isBoolT, isPtrT, isSliceT, uOk, Value.oneCell', Nat.reducePow, Int.reducePow, Nat.reduceAdd, Nat.reduceMul, Nat.reduceSub, Nat.reduceLT, Nat.reduceLeDiff, Nat.reduceEqDiff, Nat.reduceBEq, Nat.reduceDiv, Nat.reduceMod, ↓reduceIte, reduceCtorEq, Int.reduceToNat, Int.reduceLT, Int.reduceLE, TFSpN, SeqQ, BlkQ, LoopQ, BodyQ, hs, hc, t1, kk, q1, q2, kq, kq2, ku0, kl, FR.out])
                | (first | refine CallV.fn (cU) (Sm.out ?_) | refine ExF.mk (cU) (Sm.out ?_) | refine ExG.mk (fun _ => cU) (Sm.out ?_) | refine ExG.mkJ (fun _ => cU) (Sm.out ?_) | refine ExG.mkI (Ob.out ?_) (fun _ => cU) (Sm.out ?_))
                | (first | refine CallV.fn (cU') (Sm.out ?_) | refine ExF.mk (cU') (Sm.out ?_) | refine ExG.mk (fun _ => cU') (Sm.out ?_) | refine ExG.mkJ (fun _ => cU') (Sm.out ?_) | refine ExG.mkI (Ob.out ?_) (fun _ => cU') (Sm.out ?_))
                | (refine WP.seq fun K hK => ?_)
                | (refine WP.region (rvc_sound _ _ (Sm.out ?_)))
                | (refine WP.drawK rfl mixed (by decide +kernel) (Sm.out ?_))
                | (refine Ob.mk ?_; focus (first | assumption | omega | decide | trivial | (intro hob; simp only [hob, ZF]; done) | (intros; (repeat' refine And.intro ?_ ?_) <;> first | assumption | omega | trivial | decide) | (intros; simp only [ZE] at *; (repeat' refine And.intro ?_ ?_) <;> first | assumption | omega | trivial)))
                | (refine And.intro (Ob.out ?_) ?_)
                | (refine WP.block ?_)
                | (refine WP.cond rfl (fun hc => ?_) (fun hc => ?_) <;> (try simp only [ZC, reduceCtorEq, ZD] at hc) <;> (try (exact absurd hc (by decide))) <;> (try (exfalso; omega)))
                | ((first | refine WP.skip ?_ | refine WP.exit ?_); simp only [SeqQ, BlkQ, LoopQ, BodyQ, ↓reduceIte, Nat.reduceEqDiff, reduceCtorEq, look, true_and])
                | (refine WP.ret (Sm.out ?_))
                | (first | refine ExG.no (Sm.out ?_) | refine Or.inl (ExG.no (Sm.out ?_)) | refine Or.inl (And.intro (fun hg => absurd hg (by decide)) (ExG.no (Sm.out ?_))))
                | (refine Rt.mk ?_; refine And.intro ?_ ?_ <;> (intro hg; first | exact absurd hg (by decide) | refine Sm.out ?_))
                | (refine Nu.mk ?_; first | (fail_if_success (have := nb1)); intro nb1 | (fail_if_success (have := nb2)); intro nb2 | (fail_if_success (have := nb3)); intro nb3 | intro nbz)
                | (refine Fr.mk ?_; intro hfr; (first | (have hFRb : _ ≤ _ ∧ _ ≤ _ := And.intro hfr.1 hfr.2.1) | (have hFRb : _ ≤ _ := hfr.1) | skip); replace FR := Sm.mk (And.intro hfr FR.out); clear hfr; refine Sm.out ?_)
                | (refine Two.mk ?_ ?_)
                | (refine Cs.mk ?_; intro hcs; first | exact False.elim hcs | (exfalso; omega) | (refine Sm.out ?_))
                | go_step
                | omega
                | (simp only [maxLen_eq]; omega))
          all_goals (refine OutQ.all ?_ ?_; (focus (simp only [resv, ZK, look, loadv, loadn, loadnm, load1, load1m, hget, ↓reduceIte, Nat.reduceEqDiff, Nat.reduceAdd, Nat.reduceMul, Nat.reduceLeDiff, Nat.reduceLT, reduceCtorEq, TFSpN, eA, FR.out])); (try simp only [resv, resA, Fn, ZK, look, loadv, loadn, loadnm, load1, load1m, hget, ↓reduceIte, Nat.reduceEqDiff, Nat.reduceAdd, Nat.reduceMul, Nat.reduceLeDiff, Nat.reduceLT, reduceCtorEq, TFSpN, eA, FR.out]); (try simp [resA, Fn, look, eA, FR.out]))
    · -- the text ends in digits
      obtain rfl : k = zs.length := by omega
      have kk : decide ((zs.length : Int) < (zs.length : Int)) = false := decide_eq_false (by omega)
      have kq : ((zs.length : Int) == (i : Int)) = false := beq_eq_false_iff_ne.2 (by omega)
      have kq2 : ((zs.length : Int) == (zs.length : Int)) = true := beq_self_eq_true _
      rw [List.drop_length] at g7
      have g7 : T = some ⟨s, p, d, j, f⟩ := g7
      have hdt : d = true := by rw [g6]; exact decide_eq_true (by omega)
      have eA : A = sbad 5 := by rw [hA, g7]; unfold finR; simp only; rw [if_pos (.inr hdt)]
      first | (have FRx := FR; clear FRx) | (have FR : Sm (¬ ((1 : Nat) = 0)) := Sm.mk Nat.one_ne_zero)
      repeat' first
        | (refine Sm.mk ?_; try simp -dsimp only [ZK, rvc, drawF, headN, pureH, stp, dvc, calleeOf, gcall, pev, eff, newB, okd, og, ogs, ogo, ogp, slv, bltv, opd, litv, strip, one, both, putE, St.put, look, gdOf, gdv, picka, pickv, pickw, binv, bini, bins, binb, binp, binq, isSlT, bina, shp, eqCells, unv, convv, nilv, faddv, addp, idxav, idxp, load1, load1m, loadn, loadnm, loadv, hget, hset, hrep, hdel, slicev, bnd, shift1, lenv, capv, IntKind.bits, extractv, fieldv, indexv, min2v, max2v, mkiv, cellsA, fillA, buildv, stC, oneC, rowMB, intsA, plN, appE, appZ, appC, appNZ, appNC, VwL, srcC, srcZ, srcM, isBoolT, isPtrT, isSliceT, uOk, Value.oneCell', Nat.reducePow, Int.reducePow, Nat.reduceAdd, Nat.reduceMul, Nat.reduceSub, Nat.reduceLT, Nat.reduceLeDiff, Nat.reduceEqDiff, Nat.reduceBEq, Nat.reduceDiv, Nat.reduceMod, ↓reduceIte, reduceCtorEq, Int.reduceToNat, Int.reduceLT, Int.reduceLE, TFSpN, SeqQ, BlkQ, LoopQ, BodyQ, hs, kk, kq, kq2, FR.out])
        | (refine WP.seq fun K hK => ?_)
        | (refine WP.region (rvc_sound _ _ (Sm.out ?_)))
        | (refine WP.drawK rfl mixed (by decide +kernel) (Sm.out ?_))
        | (refine Ob.mk ?_; focus (first | assumption | omega | decide | trivial | (intro hob; simp only [hob, ZF]; done) | (intros; (repeat' refine And.intro ?_ ?_) <;> first | assumption | omega | trivial | decide) | (intros; simp only [ZE] at *; (repeat' refine And.intro ?_ ?_) <;> first | assumption | omega | trivial)))
        | (refine And.intro (Ob.out ?_) ?_)
        | (refine WP.block ?_)
        | (refine WP.cond rfl (fun hc => ?_) (fun hc => ?_) <;> (try simp only [ZC, reduceCtorEq, ZD] at hc) <;> (try (exact absurd hc (by decide))) <;> (try (exfalso; omega)))
        | ((first | refine WP.skip ?_ | refine WP.exit ?_); simp only [SeqQ, BlkQ, LoopQ, BodyQ, ↓reduceIte, Nat.reduceEqDiff, reduceCtorEq, look, true_and])
        | (refine WP.ret (Sm.out ?_))
        | (first | refine ExG.no (Sm.out ?_) | refine Or.inl (ExG.no (Sm.out ?_)) | refine Or.inl (And.intro (fun hg => absurd hg (by decide)) (ExG.no (Sm.out ?_))))
        | (refine Rt.mk ?_; refine And.intro ?_ ?_ <;> (intro hg; first | exact absurd hg (by decide) | refine Sm.out ?_))
        | (refine Nu.mk ?_; first | (fail_if_success (have := nb1)); intro nb1 | (fail_if_success (have := nb2)); intro nb2 | (fail_if_success (have := nb3)); intro nb3 | intro nbz)
        | (refine Fr.mk ?_; intro hfr; (first | (have hFRb : _ ≤ _ ∧ _ ≤ _ := And.intro hfr.1 hfr.2.1) | (have hFRb : _ ≤ _ := hfr.1) | skip); replace FR := Sm.mk (And.intro hfr FR.out); clear hfr; refine Sm.out ?_)
        | (refine Two.mk ?_ ?_)
        | (refine Cs.mk ?_; intro hcs; first | exact False.elim hcs | (exfalso; omega) | (refine Sm.out ?_))
        | go_step
        | omega
        | (simp only [maxLen_eq]; omega)
      (refine OutQ.all ?_ ?_; (focus (simp only [resv, ZK, look, loadv, loadn, loadnm, load1, load1m, hget, ↓reduceIte, Nat.reduceEqDiff, Nat.reduceAdd, Nat.reduceMul, Nat.reduceLeDiff, Nat.reduceLT, reduceCtorEq, TFSpN, eA, FR.out])); (try simp only [resv, resA, Fn, ZK, look, loadv, loadn, loadnm, load1, load1m, hget, ↓reduceIte, Nat.reduceEqDiff, Nat.reduceAdd, Nat.reduceMul, Nat.reduceLeDiff, Nat.reduceLT, reduceCtorEq, TFSpN, eA, FR.out]); (try simp [resA, Fn, look, eA, FR.out]))
  · obtain rfl : i = zs.length := by omega
    have ki : decide ((zs.length : Int) < (zs.length : Int)) = false := decide_eq_false (by omega)
    rw [List.drop_length] at h7
    have h7 : T = some ⟨s, 0, false, j, far⟩ := h7
    rw [h7] at hA
    unfold finR at hA
    simp only at hA
    by_cases hz : zs = []
    · have kz : decide (zs = []) = true := decide_eq_true hz
      have eA : A = sbad 5 := by rw [hA, if_pos (.inl hz)]
      first | (have FRx := FR; clear FRx) | (have FR : Sm (¬ ((1 : Nat) = 0)) := Sm.mk Nat.one_ne_zero)
      repeat' first
        | (refine Sm.mk ?_; try simp -dsimp only [ZK, rvc, drawF, headN, pureH, stp, dvc, calleeOf, gcall, pev, eff, newB, okd, og, ogs, ogo, ogp, slv, bltv, opd, litv, strip, one, both, putE, St.put, look, gdOf, gdv, picka, pickv, pickw, binv, bini, bins, binb, binp, binq, isSlT, bina, shp, eqCells, unv, convv, nilv, faddv, addp, idxav, idxp, load1, load1m, loadn, loadnm, loadv, hget, hset, hrep, hdel, slicev, bnd, shift1, lenv, capv, IntKind.bits, extractv, fieldv, indexv, min2v, max2v, mkiv, cellsA, fillA, buildv, stC, oneC, rowMB, intsA, plN, appE, appZ, appC, appNZ, appNC, VwL, srcC, srcZ, srcM, isBoolT, isPtrT, isSliceT, uOk, Value.oneCell', Nat.reducePow, Int.reducePow, Nat.reduceAdd, Nat.reduceMul, Nat.reduceSub, Nat.reduceLT, Nat.reduceLeDiff, Nat.reduceEqDiff, Nat.reduceBEq, Nat.reduceDiv, Nat.reduceMod, ↓reduceIte, reduceCtorEq, Int.reduceToNat, Int.reduceLT, Int.reduceLE, TFSpN, SeqQ, BlkQ, LoopQ, BodyQ, hs, ki, hz0, kz, FR.out])
        | (refine WP.seq fun K hK => ?_)
        | (refine WP.region (rvc_sound _ _ (Sm.out ?_)))
        | (refine WP.drawK rfl mixed (by decide +kernel) (Sm.out ?_))
        | (refine Ob.mk ?_; focus (first | assumption | omega | decide | trivial | (intro hob; simp only [hob, ZF]; done) | (intros; (repeat' refine And.intro ?_ ?_) <;> first | assumption | omega | trivial | decide) | (intros; simp only [ZE] at *; (repeat' refine And.intro ?_ ?_) <;> first | assumption | omega | trivial)))
        | (refine And.intro (Ob.out ?_) ?_)
        | (refine WP.block ?_)
        | (refine WP.cond rfl (fun hc => ?_) (fun hc => ?_) <;> (try simp only [ZC, reduceCtorEq, ZD] at hc) <;> (try (exact absurd hc (by decide))) <;> (try (exfalso; omega)))
        | ((first | refine WP.skip ?_ | refine WP.exit ?_); simp only [SeqQ, BlkQ, LoopQ, BodyQ, ↓reduceIte, Nat.reduceEqDiff, reduceCtorEq, look, true_and])
        | (refine WP.ret (Sm.out ?_))
        | (first | refine ExG.no (Sm.out ?_) | refine Or.inl (ExG.no (Sm.out ?_)) | refine Or.inl (And.intro (fun hg => absurd hg (by decide)) (ExG.no (Sm.out ?_))))
        | (refine Rt.mk ?_; refine And.intro ?_ ?_ <;> (intro hg; first | exact absurd hg (by decide) | refine Sm.out ?_))
        | (refine Nu.mk ?_; first | (fail_if_success (have := nb1)); intro nb1 | (fail_if_success (have := nb2)); intro nb2 | (fail_if_success (have := nb3)); intro nb3 | intro nbz)
        | (refine Fr.mk ?_; intro hfr; (first | (have hFRb : _ ≤ _ ∧ _ ≤ _ := And.intro hfr.1 hfr.2.1) | (have hFRb : _ ≤ _ := hfr.1) | skip); replace FR := Sm.mk (And.intro hfr FR.out); clear hfr; refine Sm.out ?_)
        | (refine Two.mk ?_ ?_)
        | (refine Cs.mk ?_; intro hcs; first | exact False.elim hcs | (exfalso; omega) | (refine Sm.out ?_))
        | go_step
        | omega
        | (simp only [maxLen_eq]; omega)
      (refine OutQ.all ?_ ?_; (focus (simp only [resv, ZK, look, loadv, loadn, loadnm, load1, load1m, hget, ↓reduceIte, Nat.reduceEqDiff, Nat.reduceAdd, Nat.reduceMul, Nat.reduceLeDiff, Nat.reduceLT, reduceCtorEq, TFSpN, eA, FR.out])); (try simp only [resv, resA, Fn, ZK, look, loadv, loadn, loadnm, load1, load1m, hget, ↓reduceIte, Nat.reduceEqDiff, Nat.reduceAdd, Nat.reduceMul, Nat.reduceLeDiff, Nat.reduceLT, reduceCtorEq, TFSpN, eA, FR.out]); (try simp [resA, Fn, look, eA, FR.out]))
    have kz : decide (zs = []) = false := decide_eq_false hz
    rw [if_neg (by simp [hz])] at hA
    cases far
    · have eA : A = sgood (sum : Int) := by rw [hA, if_neg (by simp), h6 rfl]
      first | (have FRx := FR; clear FRx) | (have FR : Sm (¬ ((1 : Nat) = 0)) := Sm.mk Nat.one_ne_zero)
      repeat' first
        | (refine Sm.mk ?_; try simp -dsimp only [ZK, rvc, drawF, headN, pureH, stp, dvc, calleeOf, gcall, pev, eff, newB, okd, og, ogs, ogo, ogp, slv, bltv, opd, litv, strip, one, both, putE, St.put, look, gdOf, gdv, picka, pickv, pickw, binv, bini, bins, binb, binp, binq, isSlT, bina, shp, eqCells, unv, convv, nilv, faddv, addp, idxav, idxp, load1, load1m, loadn, loadnm, loadv, hget, hset, hrep, hdel, slicev, bnd, shift1, lenv, capv, IntKind.bits, extractv, fieldv, indexv, min2v, max2v, mkiv, cellsA, fillA, buildv, stC, oneC, rowMB, intsA, plN, appE, appZ, appC, appNZ, appNC, VwL, srcC, srcZ, srcM, isBoolT, isPtrT, isSliceT, uOk, Value.oneCell', Nat.reducePow, Int.reducePow, Nat.reduceAdd, Nat.reduceMul, Nat.reduceSub, Nat.reduceLT, Nat.reduceLeDiff, Nat.reduceEqDiff, Nat.reduceBEq, Nat.reduceDiv, Nat.reduceMod, ↓reduceIte, reduceCtorEq, Int.reduceToNat, Int.reduceLT, Int.reduceLE, TFSpN, SeqQ, BlkQ, LoopQ, BodyQ, hs, ki, hz0, kz, FR.out])
        | (refine WP.seq fun K hK => ?_)
        | (refine WP.region (rvc_sound _ _ (Sm.out ?_)))
        | (refine WP.drawK rfl mixed (by decide +kernel) (Sm.out ?_))
        | (refine Ob.mk ?_; focus (first | assumption | omega | decide | trivial | (intro hob; simp only [hob, ZF]; done) | (intros; (repeat' refine And.intro ?_ ?_) <;> first | assumption | omega | trivial | decide) | (intros; simp only [ZE] at *; (repeat' refine And.intro ?_ ?_) <;> first | assumption | omega | trivial)))
        | (refine And.intro (Ob.out ?_) ?_)
        | (refine WP.block ?_)
        | (refine WP.cond rfl (fun hc => ?_) (fun hc => ?_) <;> (try simp only [ZC, reduceCtorEq, ZD] at hc) <;> (try (exact absurd hc (by decide))) <;> (try (exfalso; omega)))
        | ((first | refine WP.skip ?_ | refine WP.exit ?_); simp only [SeqQ, BlkQ, LoopQ, BodyQ, ↓reduceIte, Nat.reduceEqDiff, reduceCtorEq, look, true_and])
        | (refine WP.ret (Sm.out ?_))
        | (first | refine ExG.no (Sm.out ?_) | refine Or.inl (ExG.no (Sm.out ?_)) | refine Or.inl (And.intro (fun hg => absurd hg (by decide)) (ExG.no (Sm.out ?_))))
        | (refine Rt.mk ?_; refine And.intro ?_ ?_ <;> (intro hg; first | exact absurd hg (by decide) | refine Sm.out ?_))
        | (refine Nu.mk ?_; first | (fail_if_success (have := nb1)); intro nb1 | (fail_if_success (have := nb2)); intro nb2 | (fail_if_success (have := nb3)); intro nb3 | intro nbz)
        | (refine Fr.mk ?_; intro hfr; (first | (have hFRb : _ ≤ _ ∧ _ ≤ _ := And.intro hfr.1 hfr.2.1) | (have hFRb : _ ≤ _ := hfr.1) | skip); replace FR := Sm.mk (And.intro hfr FR.out); clear hfr; refine Sm.out ?_)
        | (refine Two.mk ?_ ?_)
        | (refine Cs.mk ?_; intro hcs; first | exact False.elim hcs | (exfalso; omega) | (refine Sm.out ?_))
        | go_step
        | omega
        | (simp only [maxLen_eq]; omega)
      (refine OutQ.all ?_ ?_; (focus (simp only [resv, ZK, look, loadv, loadn, loadnm, load1, load1m, hget, ↓reduceIte, Nat.reduceEqDiff, Nat.reduceAdd, Nat.reduceMul, Nat.reduceLeDiff, Nat.reduceLT, reduceCtorEq, TFSpN, eA, FR.out])); (try simp only [resv, resA, Fn, ZK, look, loadv, loadn, loadnm, load1, load1m, hget, ↓reduceIte, Nat.reduceEqDiff, Nat.reduceAdd, Nat.reduceMul, Nat.reduceLeDiff, Nat.reduceLT, reduceCtorEq, TFSpN, eA, FR.out]); (try simp [resA, Fn, look, eA, FR.out]))
    · have eA : A = sbad 8 := by rw [hA, if_pos rfl]
      first | (have FRx := FR; clear FRx) | (have FR : Sm (¬ ((1 : Nat) = 0)) := Sm.mk Nat.one_ne_zero)
      repeat' first
        | (refine Sm.mk ?_; try simp -dsimp only [ZK, rvc, drawF, headN, pureH, stp, dvc, calleeOf, gcall, pev, eff, newB, okd, og, ogs, ogo, ogp, slv, bltv, opd, litv, strip, one, both, putE, St.put, look, gdOf, gdv, picka, pickv, pickw, binv, bini, bins, binb, binp, binq, isSlT, bina, shp, eqCells, unv, convv, nilv, faddv, addp, idxav, idxp, load1, load1m, loadn, loadnm, loadv, hget, hset, hrep, hdel, slicev, bnd, shift1, lenv, capv, IntKind.bits, extractv, fieldv, indexv, min2v, max2v, mkiv, cellsA, fillA, buildv, stC, oneC, rowMB, intsA, plN, appE, appZ, appC, appNZ, appNC, VwL, srcC, srcZ, srcM, isBoolT, isPtrT, isSliceT, uOk, Value.oneCell', Nat.reducePow, Int.reducePow, Nat.reduceAdd, Nat.reduceMul, Nat.reduceSub, Nat.reduceLT, Nat.reduceLeDiff, Nat.reduceEqDiff, Nat.reduceBEq, Nat.reduceDiv, Nat.reduceMod, ↓reduceIte, reduceCtorEq, Int.reduceToNat, Int.reduceLT, Int.reduceLE, TFSpN, SeqQ, BlkQ, LoopQ, BodyQ, hs, ki, hz0, kz, FR.out])
        | (refine WP.seq fun K hK => ?_)
        | (refine WP.region (rvc_sound _ _ (Sm.out ?_)))
        | (refine WP.drawK rfl mixed (by decide +kernel) (Sm.out ?_))
        | (refine Ob.mk ?_; focus (first | assumption | omega | decide | trivial | (intro hob; simp only [hob, ZF]; done) | (intros; (repeat' refine And.intro ?_ ?_) <;> first | assumption | omega | trivial | decide) | (intros; simp only [ZE] at *; (repeat' refine And.intro ?_ ?_) <;> first | assumption | omega | trivial)))
        | (refine And.intro (Ob.out ?_) ?_)
        | (refine WP.block ?_)
        | (refine WP.cond rfl (fun hc => ?_) (fun hc => ?_) <;> (try simp only [ZC, reduceCtorEq, ZD] at hc) <;> (try (exact absurd hc (by decide))) <;> (try (exfalso; omega)))
        | ((first | refine WP.skip ?_ | refine WP.exit ?_); simp only [SeqQ, BlkQ, LoopQ, BodyQ, ↓reduceIte, Nat.reduceEqDiff, reduceCtorEq, look, true_and])
        | (refine WP.ret (Sm.out ?_))
        | (first | refine ExG.no (Sm.out ?_) | refine Or.inl (ExG.no (Sm.out ?_)) | refine Or.inl (And.intro (fun hg => absurd hg (by decide)) (ExG.no (Sm.out ?_))))
        | (refine Rt.mk ?_; refine And.intro ?_ ?_ <;> (intro hg; first | exact absurd hg (by decide) | refine Sm.out ?_))
        | (refine Nu.mk ?_; first | (fail_if_success (have := nb1)); intro nb1 | (fail_if_success (have := nb2)); intro nb2 | (fail_if_success (have := nb3)); intro nb3 | intro nbz)
        | (refine Fr.mk ?_; intro hfr; (first | (have hFRb : _ ≤ _ ∧ _ ≤ _ := And.intro hfr.1 hfr.2.1) | (have hFRb : _ ≤ _ := hfr.1) | skip); replace FR := Sm.mk (And.intro hfr FR.out); clear hfr; refine Sm.out ?_)
        | (refine Two.mk ?_ ?_)
        | (refine Cs.mk ?_; intro hcs; first | exact False.elim hcs | (exfalso; omega) | (refine Sm.out ?_))
        | go_step
        | omega
        | (simp only [maxLen_eq]; omega)
      (refine OutQ.all ?_ ?_; (focus (simp only [resv, ZK, look, loadv, loadn, loadnm, load1, load1m, hget, ↓reduceIte, Nat.reduceEqDiff, Nat.reduceAdd, Nat.reduceMul, Nat.reduceLeDiff, Nat.reduceLT, reduceCtorEq, TFSpN, eA, FR.out])); (try simp only [resv, resA, Fn, ZK, look, loadv, loadn, loadnm, load1, load1m, hget, ↓reduceIte, Nat.reduceEqDiff, Nat.reduceAdd, Nat.reduceMul, Nat.reduceLeDiff, Nat.reduceLT, reduceCtorEq, TFSpN, eA, FR.out]); (try simp [resA, Fn, look, eA, FR.out]))
end Go.Proofs.YtdfkpnkohikcgaaDoor
namespace Go.Proofs.YtdfkpnkohikcgaaDoor
open Go
set_option linter.unusedVariables false
set_option linter.unusedSimpArgs false
theorem TFSpO : (((((type_of% tyc2) ∧ (type_of% zmb2)) ∧ ((type_of% tyc3) ∧ (type_of% zmb3))) ∧ (((type_of% tyc4) ∧ (type_of% zmb4)) ∧ ((type_of% tyc9) ∧ (type_of% zmb9)))) ∧ ((((type_of% tyc24) ∧ (type_of% zmb24)) ∧ ((type_of% tyc25) ∧ (type_of% Tryd.underlying2))) ∧ (((type_of% Tryd.underlying3) ∧ (type_of% Tryd.underlying4)) ∧ ((type_of% Tryd.underlying9) ∧ ((type_of% Tryd.underlying24) ∧ (type_of% Tryd.underlying25)))))) :=
  ⟨⟨⟨⟨tyc2, zmb2⟩, ⟨tyc3, zmb3⟩⟩, ⟨⟨tyc4, zmb4⟩, ⟨tyc9, zmb9⟩⟩⟩, ⟨⟨⟨tyc24, zmb24⟩, ⟨tyc25, Tryd.underlying2⟩⟩, ⟨⟨Tryd.underlying3, Tryd.underlying4⟩, ⟨Tryd.underlying9, ⟨Tryd.underlying24, Tryd.underlying25⟩⟩⟩⟩⟩
set_option maxHeartbeats 4000000 in
theorem reads_ct (zs : List Int) (hb : By zs) (n0 : Nat) : ACt Tryd.prog 4 [stz zs] (GG n0) (fun r F' => r = bv true ∧ F' = GG n0) := by
  have cA := awake_ct n0
  have hs := bstr_size zs
  have y2 : ∀ x : Int, (x == x) = true := fun x => beq_self_eq_true x
  have y3 : ∀ x : Int, (x != x) = false := fun x => by simp
  simp only [GG, p10] at cA ⊢
  by_cases hl : 500 < zs.length
  · have k0 : decide ((zs.length : Int) > 500) = true := decide_eq_true (by omega)
    obtain ⟨Z, hZ⟩ : ∃ Z, Z = bstr zs := ⟨_, rfl⟩
    unfold stz
    rw [← hZ] at hs ⊢
    refine ACt.intro Tryd.func4 rfl (by kernel_rfl) (by simp [Tryd.ntmps4]) (fun cx => ?_)
    simp only [argE, Tryd.ntmps4, Tryd.results4]
    first | (have FRx := FR; clear FRx) | (have FR : Sm (¬ ((1 : Nat) = 0)) := Sm.mk Nat.one_ne_zero)
    repeat' first
      | (refine Sm.mk ?_; try simp -dsimp only [ZK, rvc, drawF, headN, pureH, stp, dvc, calleeOf, gcall, pev, eff, newB, okd, og, ogs, ogo, ogp, slv, bltv, opd, litv, strip, one, both, putE, St.put, look, gdOf, gdv, picka, pickv, pickw, binv, bini, bins, binb, binp, binq, isSlT, bina, shp, eqCells, unv, convv, nilv, faddv, addp, idxav, idxp, load1, load1m, loadn, loadnm, loadv, hget, hset, hrep, hdel, slicev, bnd, shift1, lenv, capv, IntKind.bits, extractv, fieldv, indexv, min2v, max2v, mkiv, cellsA, fillA, buildv, stC, oneC, rowMB, intsA, plN, appE, appZ, appC, appNZ, appNC, VwL, srcC, srcZ, srcM, isBoolT, isPtrT, isSliceT, uOk, Value.oneCell', Nat.reducePow, Int.reducePow, Nat.reduceAdd, Nat.reduceMul, Nat.reduceSub, Nat.reduceLT, Nat.reduceLeDiff, Nat.reduceEqDiff, Nat.reduceBEq, Nat.reduceDiv, Nat.reduceMod, ↓reduceIte, reduceCtorEq, Int.reduceToNat, Int.reduceLT, Int.reduceLE, TFSpO, SeqQ, BlkQ, LoopQ, BodyQ, hs, k0, FR.out])
      | (refine CallV.updM (cA) (perm1 (by simp only [hget, hdel, ↓reduceIte, FR.out, hs, k0]; first | done | rfl)) (Sm.out ?_))
      | ((first | refine ExF.up ?_ (cA) (Sm.out ?_) | refine ExG.up ?_ (fun _ => cA) (Sm.out ?_) | refine ExG.upJ ?_ (fun _ => cA) (Sm.out ?_) | refine ExG.upI ?_ (fun _ => cA) (Ob.out ?_) (Sm.out ?_)); focus (exact ⟨_, (perm1 (by simp only [hget, hdel, ↓reduceIte, FR.out, hs, k0]; first | done | rfl))⟩))
      | (refine WP.seq fun K hK => ?_)
      | (refine WP.region (rvc_sound _ _ (Sm.out ?_)))
      | (refine WP.drawK rfl mixed (by decide +kernel) (Sm.out ?_))
      | (refine Ob.mk ?_; focus (first | assumption | omega | decide | trivial | (intro hob; simp only [hob, ZF]; done) | (intros; (repeat' refine And.intro ?_ ?_) <;> first | assumption | omega | trivial | decide) | (intros; simp only [ZE] at *; (repeat' refine And.intro ?_ ?_) <;> first | assumption | omega | trivial)))
      | (refine And.intro (Ob.out ?_) ?_)
      | (refine WP.block ?_)
      | (refine WP.cond rfl (fun hc => ?_) (fun hc => ?_) <;> (try simp only [ZC, reduceCtorEq, ZD] at hc) <;> (try (exact absurd hc (by decide))) <;> (try (exfalso; omega)))
      | ((first | refine WP.skip ?_ | refine WP.exit ?_); simp only [SeqQ, BlkQ, LoopQ, BodyQ, ↓reduceIte, Nat.reduceEqDiff, reduceCtorEq, look, true_and])
      | (refine WP.ret (Sm.out ?_))
      | (first | refine ExG.no (Sm.out ?_) | refine Or.inl (ExG.no (Sm.out ?_)) | refine Or.inl (And.intro (fun hg => absurd hg (by decide)) (ExG.no (Sm.out ?_))))
      | (refine Rt.mk ?_; refine And.intro ?_ ?_ <;> (intro hg; first | exact absurd hg (by decide) | refine Sm.out ?_))
      | (refine Nu.mk ?_; first | (fail_if_success (have := nb1)); intro nb1 | (fail_if_success (have := nb2)); intro nb2 | (fail_if_success (have := nb3)); intro nb3 | (fail_if_success (have := nb4)); intro nb4 | (fail_if_success (have := nb5)); intro nb5 | (fail_if_success (have := nb6)); intro nb6 | intro nbz)
      | (refine Fr.mk ?_; intro hfr; (first | (have hFRb : _ ≤ _ ∧ _ ≤ _ := And.intro hfr.1 hfr.2.1) | (have hFRb : _ ≤ _ := hfr.1) | skip); replace FR := Sm.mk (And.intro hfr FR.out); clear hfr; refine Sm.out ?_)
      | (refine Two.mk ?_ ?_)
      | (refine Cs.mk ?_; intro hcs; first | exact False.elim hcs | (exfalso; omega) | (refine Sm.out ?_))
      | go_step
      | omega
      | (simp only [maxLen_eq]; omega)
    (refine OutQ.upd (by simp only [resv, ZK, look, loadv, loadn, loadnm, load1, load1m, hget, ↓reduceIte, Nat.reduceEqDiff, Nat.reduceAdd, Nat.reduceMul, Nat.reduceLeDiff, Nat.reduceLT, reduceCtorEq, TFSpO, FR.out]) (by simp only [resv, resA, ZK, look, loadv, loadn, loadnm, load1, load1m, hget, ↓reduceIte, Nat.reduceEqDiff, Nat.reduceAdd, Nat.reduceMul, Nat.reduceLeDiff, Nat.reduceLT, reduceCtorEq, TFSpO, FR.out]; first | done | rfl) (by simp only [hget, ↓reduceIte, if_true, if_false, FR.out]; first | done | rfl) ?_ <;> first | exact rfl | (simp only [ZK, look, loadv, loadn, loadnm, load1, load1m, hget, ↓reduceIte, Nat.reduceEqDiff, Nat.reduceAdd, Nat.reduceMul, Nat.reduceLeDiff, Nat.reduceLT, reduceCtorEq, TFSpO, FR.out]; done) | skip)
  have k0 : decide ((zs.length : Int) > 500) = false := decide_eq_false (by omega)
  have cR := read_ct zs hb (by omega)
  have cQ := rread_ct zs hb (by omega)
  have cE := exact_ct n0 zs hb (by omega)
  simp only [GG, p10] at cE
  rcases rd_cases zs with ⟨c, hc, e1, e2⟩ | ⟨s, e1, e2⟩
  · rw [e1] at cR cQ
    rw [e2] at cE
    have k1 : (c == 0) = false := beq_eq_false_iff_ne.2 hc
    have k2 : (c != 0) = true := by simp only [bne, k1]; rfl
    obtain ⟨Z, hZ⟩ : ∃ Z, Z = bstr zs := ⟨_, rfl⟩
    unfold stz at cR cQ cE ⊢
    rw [← hZ] at hs cR cQ cE ⊢
    refine ACt.intro Tryd.func4 rfl (by kernel_rfl) (by simp [Tryd.ntmps4]) (fun cx => ?_)
    simp only [argE, Tryd.ntmps4, Tryd.results4]
    first | (have FRx := FR; clear FRx) | (have FR : Sm (¬ ((1 : Nat) = 0)) := Sm.mk Nat.one_ne_zero)
    repeat' first
      | (refine Sm.mk ?_; try simp -dsimp only [ZK, rvc, drawF, headN, pureH, stp, dvc, calleeOf, gcall, pev, eff, newB, okd, og, ogs, ogo, ogp, slv, bltv, opd, litv, strip, one, both, putE, St.put, look, gdOf, gdv, picka, pickv, pickw, binv, bini, bins, binb, binp, binq, isSlT, bina, shp, eqCells, unv, convv, nilv, faddv, addp, idxav, idxp, load1, load1m, loadn, loadnm, loadv, hget, hset, hrep, hdel, slicev, bnd, shift1, lenv, capv, IntKind.bits, extractv, fieldv, indexv, min2v, max2v, mkiv, cellsA, fillA, buildv, stC, oneC, rowMB, intsA, plN, appE, appZ, appC, appNZ, appNC, VwL, srcC, srcZ, srcM, isBoolT, isPtrT, isSliceT, uOk, Value.oneCell', Nat.reducePow, Int.reducePow, Nat.reduceAdd, Nat.reduceMul, Nat.reduceSub, Nat.reduceLT, Nat.reduceLeDiff, Nat.reduceEqDiff, Nat.reduceBEq, Nat.reduceDiv, Nat.reduceMod, ↓reduceIte, reduceCtorEq, Int.reduceToNat, Int.reduceLT, Int.reduceLE, TFSpO, SeqQ, BlkQ, LoopQ, BodyQ, hs, k0, y2, y3, k1, k2, FR.out])
      | (refine CallV.updM (cA) (perm1 (by simp only [hget, hdel, ↓reduceIte, FR.out, hs, k0, y2, y3, k1, k2]; first | done | rfl)) (Sm.out ?_))
      | ((first | refine ExF.up ?_ (cA) (Sm.out ?_) | refine ExG.up ?_ (fun _ => cA) (Sm.out ?_) | refine ExG.upJ ?_ (fun _ => cA) (Sm.out ?_) | refine ExG.upI ?_ (fun _ => cA) (Ob.out ?_) (Sm.out ?_)); focus (exact ⟨_, (perm1 (by simp only [hget, hdel, ↓reduceIte, FR.out, hs, k0, y2, y3, k1, k2]; first | done | rfl))⟩))
      | (first | refine CallV.fn (cR) (Sm.out ?_) | refine ExF.mk (cR) (Sm.out ?_) | refine ExG.mk (fun _ => cR) (Sm.out ?_) | refine ExG.mkJ (fun _ => cR) (Sm.out ?_) | refine ExG.mkI (Ob.out ?_) (fun _ => cR) (Sm.out ?_))
      | (first | refine CallV.fn (cQ) (Sm.out ?_) | refine ExF.mk (cQ) (Sm.out ?_) | refine ExG.mk (fun _ => cQ) (Sm.out ?_) | refine ExG.mkJ (fun _ => cQ) (Sm.out ?_) | refine ExG.mkI (Ob.out ?_) (fun _ => cQ) (Sm.out ?_))
      | (refine CallV.updM (cE) (perm1 (by simp only [hget, hdel, ↓reduceIte, FR.out, hs, k0, y2, y3, k1, k2]; first | done | rfl)) (Sm.out ?_))
      | ((first | refine ExF.up ?_ (cE) (Sm.out ?_) | refine ExG.up ?_ (fun _ => cE) (Sm.out ?_) | refine ExG.upJ ?_ (fun _ => cE) (Sm.out ?_) | refine ExG.upI ?_ (fun _ => cE) (Ob.out ?_) (Sm.out ?_)); focus (exact ⟨_, (perm1 (by simp only [hget, hdel, ↓reduceIte, FR.out, hs, k0, y2, y3, k1, k2]; first | done | rfl))⟩))
      | (refine WP.seq fun K hK => ?_)
      | (refine WP.region (rvc_sound _ _ (Sm.out ?_)))
      | (refine WP.drawK rfl mixed (by decide +kernel) (Sm.out ?_))
      | (refine Ob.mk ?_; focus (first | assumption | omega | decide | trivial | (intro hob; simp only [hob, ZF]; done) | (intros; (repeat' refine And.intro ?_ ?_) <;> first | assumption | omega | trivial | decide) | (intros; simp only [ZE] at *; (repeat' refine And.intro ?_ ?_) <;> first | assumption | omega | trivial)))
      | (refine And.intro (Ob.out ?_) ?_)
      | (refine WP.block ?_)
      | (refine WP.cond rfl (fun hc => ?_) (fun hc => ?_) <;> (try simp only [ZC, reduceCtorEq, ZD] at hc) <;> (try (exact absurd hc (by decide))) <;> (try (exfalso; omega)))
      | ((first | refine WP.skip ?_ | refine WP.exit ?_); simp only [SeqQ, BlkQ, LoopQ, BodyQ, ↓reduceIte, Nat.reduceEqDiff, reduceCtorEq, look, true_and])
      | (refine WP.ret (Sm.out ?_))
      | (first | refine ExG.no (Sm.out ?_) | refine Or.inl (ExG.no (Sm.out ?_)) | refine Or.inl (And.intro (fun hg => absurd hg (by decide)) (ExG.no (Sm.out ?_))))
      | (refine Rt.mk ?_; refine And.intro ?_ ?_ <;> (intro hg; first | exact absurd hg (by decide) | refine Sm.out ?_))
      | (refine Nu.mk ?_; first | (fail_if_success (have := nb1)); intro nb1 | (fail_if_success (have := nb2)); intro nb2 | (fail_if_success (have := nb3)); intro nb3 | (fail_if_success (have := nb4)); intro nb4 | (fail_if_success (have := nb5)); intro nb5 | (fail_if_success (have := nb6)); intro nb6 | intro nbz)
      | (refine Fr.mk ?_; intro hfr; (first | (have hFRb : _ ≤ _ ∧ _ ≤ _ := And.intro hfr.1 hfr.2.1) | (have hFRb : _ ≤ _ := hfr.1) | skip); replace FR := Sm.mk (And.intro hfr FR.out); clear hfr; refine Sm.out ?_)
      | (refine Two.mk ?_ ?_)
      | (refine Cs.mk ?_; intro hcs; first | exact False.elim hcs | (exfalso; omega) | (refine Sm.out ?_))
      | go_step
      | omega
      | (simp only [maxLen_eq]; omega)
    (refine OutQ.upd (by simp only [resv, ZK, look, loadv, loadn, loadnm, load1, load1m, hget, ↓reduceIte, Nat.reduceEqDiff, Nat.reduceAdd, Nat.reduceMul, Nat.reduceLeDiff, Nat.reduceLT, reduceCtorEq, TFSpO, FR.out]) (by simp only [resv, resA, ZK, look, loadv, loadn, loadnm, load1, load1m, hget, ↓reduceIte, Nat.reduceEqDiff, Nat.reduceAdd, Nat.reduceMul, Nat.reduceLeDiff, Nat.reduceLT, reduceCtorEq, TFSpO, FR.out]; first | done | rfl) (by simp only [hget, ↓reduceIte, if_true, if_false, FR.out]; first | done | rfl) ?_ <;> first | exact rfl | (simp only [ZK, look, loadv, loadn, loadnm, load1, load1m, hget, ↓reduceIte, Nat.reduceEqDiff, Nat.reduceAdd, Nat.reduceMul, Nat.reduceLeDiff, Nat.reduceLT, reduceCtorEq, TFSpO, FR.out]; done) | skip)
  · rw [e1] at cR cQ
    rw [e2] at cE
    have cP := rprint_ct s
    have hq := str_eq (prS s) zs (prS_by s).1 hb
    obtain ⟨P, hP⟩ : ∃ P, P = bstr (prS s) := ⟨_, rfl⟩
    obtain ⟨Z, hZ⟩ : ∃ Z, Z = bstr zs := ⟨_, rfl⟩
    unfold stz at cR cQ cE cP ⊢
    rw [← hP] at cP hq
    rw [← hZ] at hs cR cQ cE hq ⊢
    by_cases h : prS s = zs
    · rw [if_pos h] at cE
      rw [decide_eq_true h] at hq
      have hq2 : (P.toList != Z.toList) = false := by simp only [bne, hq]; rfl
      refine ACt.intro Tryd.func4 rfl (by kernel_rfl) (by simp [Tryd.ntmps4]) (fun cx => ?_)
      simp only [argE, Tryd.ntmps4, Tryd.results4]
      first | (have FRx := FR; clear FRx) | (have FR : Sm (¬ ((1 : Nat) = 0)) := Sm.mk Nat.one_ne_zero)
      repeat' first
        | (refine Sm.mk ?_; try simp -dsimp only [ZK, rvc, drawF, headN, pureH, stp, dvc, calleeOf, gcall, pev, eff, newB, okd, og, ogs, ogo, ogp, slv, bltv, opd, litv, strip, one, both, putE, St.put, look, gdOf, gdv, picka, pickv, pickw, binv, bini, bins, binb, binp, binq, isSlT, bina, shp, eqCells, unv, convv, nilv, faddv, addp, idxav, idxp, load1, load1m, loadn, loadnm, loadv, hget, hset, hrep, hdel, slicev, bnd, shift1, lenv, capv, IntKind.bits, extractv, fieldv, indexv, min2v, max2v, mkiv, cellsA, fillA, buildv, stC, oneC, rowMB, intsA, plN, appE, appZ, appC, appNZ, appNC, VwL, srcC, srcZ, srcM, isBoolT, isPtrT, isSliceT, uOk, Value.oneCell', Nat.reducePow, Int.reducePow, Nat.reduceAdd, Nat.reduceMul, Nat.reduceSub, Nat.reduceLT, Nat.reduceLeDiff, Nat.reduceEqDiff, Nat.reduceBEq, Nat.reduceDiv, Nat.reduceMod, ↓reduceIte, reduceCtorEq, Int.reduceToNat, Int.reduceLT, Int.reduceLE, TFSpO, SeqQ, BlkQ, LoopQ, BodyQ, hs, k0, y2, y3, hq, hq2, FR.out])
        | (refine CallV.updM (cA) (perm1 (by simp only [hget, hdel, ↓reduceIte, FR.out, hs, k0, y2, y3, hq, hq2]; first | done | rfl)) (Sm.out ?_))
        | ((first | refine ExF.up ?_ (cA) (Sm.out ?_) | refine ExG.up ?_ (fun _ => cA) (Sm.out ?_) | refine ExG.upJ ?_ (fun _ => cA) (Sm.out ?_) | refine ExG.upI ?_ (fun _ => cA) (Ob.out ?_) (Sm.out ?_)); focus (exact ⟨_, (perm1 (by simp only [hget, hdel, ↓reduceIte, FR.out, hs, k0, y2, y3, hq, hq2]; first | done | rfl))⟩))
        | (first | refine CallV.fn (cR) (Sm.out ?_) | refine ExF.mk (cR) (Sm.out ?_) | refine ExG.mk (fun _ => cR) (Sm.out ?_) | refine ExG.mkJ (fun _ => cR) (Sm.out ?_) | refine ExG.mkI (Ob.out ?_) (fun _ => cR) (Sm.out ?_))
        | (first | refine CallV.fn (cQ) (Sm.out ?_) | refine ExF.mk (cQ) (Sm.out ?_) | refine ExG.mk (fun _ => cQ) (Sm.out ?_) | refine ExG.mkJ (fun _ => cQ) (Sm.out ?_) | refine ExG.mkI (Ob.out ?_) (fun _ => cQ) (Sm.out ?_))
        | (refine CallV.updM (cE) (perm1 (by simp only [hget, hdel, ↓reduceIte, FR.out, hs, k0, y2, y3, hq, hq2]; first | done | rfl)) (Sm.out ?_))
        | ((first | refine ExF.up ?_ (cE) (Sm.out ?_) | refine ExG.up ?_ (fun _ => cE) (Sm.out ?_) | refine ExG.upJ ?_ (fun _ => cE) (Sm.out ?_) | refine ExG.upI ?_ (fun _ => cE) (Ob.out ?_) (Sm.out ?_)); focus (exact ⟨_, (perm1 (by simp only [hget, hdel, ↓reduceIte, FR.out, hs, k0, y2, y3, hq, hq2]; first | done | rfl))⟩))
        | (first | refine CallV.fn (cP) (Sm.out ?_) | refine ExF.mk (cP) (Sm.out ?_) | refine ExG.mk (fun _ => cP) (Sm.out ?_) | refine ExG.mkJ (fun _ => cP) (Sm.out ?_) | refine ExG.mkI (Ob.out ?_) (fun _ => cP) (Sm.out ?_))
        | (refine WP.seq fun K hK => ?_)
        | (refine WP.region (rvc_sound _ _ (Sm.out ?_)))
        | (refine WP.drawK rfl mixed (by decide +kernel) (Sm.out ?_))
        | (refine Ob.mk ?_; focus (first | assumption | omega | decide | trivial | (intro hob; simp only [hob, ZF]; done) | (intros; (repeat' refine And.intro ?_ ?_) <;> first | assumption | omega | trivial | decide) | (intros; simp only [ZE] at *; (repeat' refine And.intro ?_ ?_) <;> first | assumption | omega | trivial)))
        | (refine And.intro (Ob.out ?_) ?_)
        | (refine WP.block ?_)
        | (refine WP.cond rfl (fun hc => ?_) (fun hc => ?_) <;> (try simp only [ZC, reduceCtorEq, ZD] at hc) <;> (try (exact absurd hc (by decide))) <;> (try (exfalso; omega)))
        | ((first | refine WP.skip ?_ | refine WP.exit ?_); simp only [SeqQ, BlkQ, LoopQ, BodyQ, ↓reduceIte, Nat.reduceEqDiff, reduceCtorEq, look, true_and])
        | (refine WP.ret (Sm.out ?_))
        | (first | refine ExG.no (Sm.out ?_) | refine Or.inl (ExG.no (Sm.out ?_)) | refine Or.inl (And.intro (fun hg => absurd hg (by decide)) (ExG.no (Sm.out ?_))))
        | (refine Rt.mk ?_; refine And.intro ?_ ?_ <;> (intro hg; first | exact absurd hg (by decide) | refine Sm.out ?_))
        | (refine Nu.mk ?_; first | (fail_if_success (have := nb1)); intro nb1 | (fail_if_success (have := nb2)); intro nb2 | (fail_if_success (have := nb3)); intro nb3 | (fail_if_success (have := nb4)); intro nb4 | (fail_if_success (have := nb5)); intro nb5 | (fail_if_success (have := nb6)); intro nb6 | intro nbz)
        | (refine Fr.mk ?_; intro hfr; (first | (have hFRb : _ ≤ _ ∧ _ ≤ _ := And.intro hfr.1 hfr.2.1) | (have hFRb : _ ≤ _ := hfr.1) | skip); replace FR := Sm.mk (And.intro hfr FR.out); clear hfr; refine Sm.out ?_)
        | (refine Two.mk ?_ ?_)
        | (refine Cs.mk ?_; intro hcs; first | exact False.elim hcs | (exfalso; omega) | (refine Sm.out ?_))
        | go_step
        | omega
        | (simp only [maxLen_eq]; omega)
      (refine OutQ.upd (by simp only [resv, ZK, look, loadv, loadn, loadnm, load1, load1m, hget, ↓reduceIte, Nat.reduceEqDiff, Nat.reduceAdd, Nat.reduceMul, Nat.reduceLeDiff, Nat.reduceLT, reduceCtorEq, TFSpO, FR.out]) (by simp only [resv, resA, ZK, look, loadv, loadn, loadnm, load1, load1m, hget, ↓reduceIte, Nat.reduceEqDiff, Nat.reduceAdd, Nat.reduceMul, Nat.reduceLeDiff, Nat.reduceLT, reduceCtorEq, TFSpO, FR.out]; first | done | rfl) (by simp only [hget, ↓reduceIte, if_true, if_false, FR.out]; first | done | rfl) ?_ <;> first | exact rfl | (simp only [ZK, look, loadv, loadn, loadnm, load1, load1m, hget, ↓reduceIte, Nat.reduceEqDiff, Nat.reduceAdd, Nat.reduceMul, Nat.reduceLeDiff, Nat.reduceLT, reduceCtorEq, TFSpO, FR.out]; done) | skip)
    · rw [if_neg h] at cE
      rw [decide_eq_false h] at hq
      have hq2 : (P.toList != Z.toList) = true := by simp only [bne, hq]; rfl
      refine ACt.intro Tryd.func4 rfl (by kernel_rfl) (by simp [Tryd.ntmps4]) (fun cx => ?_)
      simp only [argE, Tryd.ntmps4, Tryd.results4]
      first | (have FRx := FR; clear FRx) | (have FR : Sm (¬ ((1 : Nat) = 0)) := Sm.mk Nat.one_ne_zero)
      repeat' first
        | (refine Sm.mk ?_; try simp -dsimp only [ZK, rvc, drawF, headN, pureH, stp, dvc, calleeOf, gcall, pev, eff, newB, okd, og, ogs, ogo, ogp, slv, bltv, opd, litv, strip, one, both, putE, St.put, look, gdOf, gdv, picka, pickv, pickw, binv, bini, bins, binb, binp, binq, isSlT, bina, shp, eqCells, unv, convv, nilv, faddv, addp, idxav, idxp, load1, load1m, loadn, loadnm, loadv, hget, hset, hrep, hdel, slicev, bnd, shift1, lenv, capv, IntKind.bits, extractv, fieldv, indexv, min2v, max2v, mkiv, cellsA, fillA, buildv, stC, oneC, rowMB, intsA, plN, appE, appZ, appC, appNZ, appNC, VwL, srcC, srcZ, srcM, isBoolT, isPtrT, isSliceT, uOk, Value.oneCell', Nat.reducePow, Int.reducePow, Nat.reduceAdd, Nat.reduceMul, Nat.reduceSub, Nat.reduceLT, Nat.reduceLeDiff, Nat.reduceEqDiff, Nat.reduceBEq, Nat.reduceDiv, Nat.reduceMod, ↓reduceIte, reduceCtorEq, Int.reduceToNat, Int.reduceLT, Int.reduceLE, TFSpO, SeqQ, BlkQ, LoopQ, BodyQ, hs, k0, y2, y3, hq, hq2, FR.out])
        | (refine CallV.updM (cA) (perm1 (by simp only [hget, hdel, ↓reduceIte, FR.out, hs, k0, y2, y3, hq, hq2]; first | done | rfl)) (Sm.out ?_))
        | ((first | refine ExF.up ?_ (cA) (Sm.out ?_) | refine ExG.up ?_ (fun _ => cA) (Sm.out ?_) | refine ExG.upJ ?_ (fun _ => cA) (Sm.out ?_) | refine ExG.upI ?_ (fun _ => cA) (Ob.out ?_) (Sm.out ?_)); focus (exact ⟨_, (perm1 (by simp only [hget, hdel, ↓reduceIte, FR.out, hs, k0, y2, y3, hq, hq2]; first | done | rfl))⟩))
        | (first | refine CallV.fn (cR) (Sm.out ?_) | refine ExF.mk (cR) (Sm.out ?_) | refine ExG.mk (fun _ => cR) (Sm.out ?_) | refine ExG.mkJ (fun _ => cR) (Sm.out ?_) | refine ExG.mkI (Ob.out ?_) (fun _ => cR) (Sm.out ?_))
        | (first | refine CallV.fn (cQ) (Sm.out ?_) | refine ExF.mk (cQ) (Sm.out ?_) | refine ExG.mk (fun _ => cQ) (Sm.out ?_) | refine ExG.mkJ (fun _ => cQ) (Sm.out ?_) | refine ExG.mkI (Ob.out ?_) (fun _ => cQ) (Sm.out ?_))
        | (refine CallV.updM (cE) (perm1 (by simp only [hget, hdel, ↓reduceIte, FR.out, hs, k0, y2, y3, hq, hq2]; first | done | rfl)) (Sm.out ?_))
        | ((first | refine ExF.up ?_ (cE) (Sm.out ?_) | refine ExG.up ?_ (fun _ => cE) (Sm.out ?_) | refine ExG.upJ ?_ (fun _ => cE) (Sm.out ?_) | refine ExG.upI ?_ (fun _ => cE) (Ob.out ?_) (Sm.out ?_)); focus (exact ⟨_, (perm1 (by simp only [hget, hdel, ↓reduceIte, FR.out, hs, k0, y2, y3, hq, hq2]; first | done | rfl))⟩))
        | (first | refine CallV.fn (cP) (Sm.out ?_) | refine ExF.mk (cP) (Sm.out ?_) | refine ExG.mk (fun _ => cP) (Sm.out ?_) | refine ExG.mkJ (fun _ => cP) (Sm.out ?_) | refine ExG.mkI (Ob.out ?_) (fun _ => cP) (Sm.out ?_))
        | (refine WP.seq fun K hK => ?_)
        | (refine WP.region (rvc_sound _ _ (Sm.out ?_)))
        | (refine WP.drawK rfl mixed (by decide +kernel) (Sm.out ?_))
        | (refine Ob.mk ?_; focus (first | assumption | omega | decide | trivial | (intro hob; simp only [hob, ZF]; done) | (intros; (repeat' refine And.intro ?_ ?_) <;> first | assumption | omega | trivial | decide) | (intros; simp only [ZE] at *; (repeat' refine And.intro ?_ ?_) <;> first | assumption | omega | trivial)))
        | (refine And.intro (Ob.out ?_) ?_)
        | (refine WP.block ?_)
        | (refine WP.cond rfl (fun hc => ?_) (fun hc => ?_) <;> (try simp only [ZC, reduceCtorEq, ZD] at hc) <;> (try (exact absurd hc (by decide))) <;> (try (exfalso; omega)))
        | ((first | refine WP.skip ?_ | refine WP.exit ?_); simp only [SeqQ, BlkQ, LoopQ, BodyQ, ↓reduceIte, Nat.reduceEqDiff, reduceCtorEq, look, true_and])
        | (refine WP.ret (Sm.out ?_))
        | (first | refine ExG.no (Sm.out ?_) | refine Or.inl (ExG.no (Sm.out ?_)) | refine Or.inl (And.intro (fun hg => absurd hg (by decide)) (ExG.no (Sm.out ?_))))
        | (refine Rt.mk ?_; refine And.intro ?_ ?_ <;> (intro hg; first | exact absurd hg (by decide) | refine Sm.out ?_))
        | (refine Nu.mk ?_; first | (fail_if_success (have := nb1)); intro nb1 | (fail_if_success (have := nb2)); intro nb2 | (fail_if_success (have := nb3)); intro nb3 | (fail_if_success (have := nb4)); intro nb4 | (fail_if_success (have := nb5)); intro nb5 | (fail_if_success (have := nb6)); intro nb6 | intro nbz)
        | (refine Fr.mk ?_; intro hfr; (first | (have hFRb : _ ≤ _ ∧ _ ≤ _ := And.intro hfr.1 hfr.2.1) | (have hFRb : _ ≤ _ := hfr.1) | skip); replace FR := Sm.mk (And.intro hfr FR.out); clear hfr; refine Sm.out ?_)
        | (refine Two.mk ?_ ?_)
        | (refine Cs.mk ?_; intro hcs; first | exact False.elim hcs | (exfalso; omega) | (refine Sm.out ?_))
        | go_step
        | omega
        | (simp only [maxLen_eq]; omega)
      (refine OutQ.upd (by simp only [resv, ZK, look, loadv, loadn, loadnm, load1, load1m, hget, ↓reduceIte, Nat.reduceEqDiff, Nat.reduceAdd, Nat.reduceMul, Nat.reduceLeDiff, Nat.reduceLT, reduceCtorEq, TFSpO, FR.out]) (by simp only [resv, resA, ZK, look, loadv, loadn, loadnm, load1, load1m, hget, ↓reduceIte, Nat.reduceEqDiff, Nat.reduceAdd, Nat.reduceMul, Nat.reduceLeDiff, Nat.reduceLT, reduceCtorEq, TFSpO, FR.out]; first | done | rfl) (by simp only [hget, ↓reduceIte, if_true, if_false, FR.out]; first | done | rfl) ?_ <;> first | exact rfl | (simp only [ZK, look, loadv, loadn, loadnm, load1, load1m, hget, ↓reduceIte, Nat.reduceEqDiff, Nat.reduceAdd, Nat.reduceMul, Nat.reduceLeDiff, Nat.reduceLT, reduceCtorEq, TFSpO, FR.out]; done) | skip)
theorem str_of (s : ByteArray) : s = bstr (ub s.data.toList) ∧ By (ub s.data.toList) := by
  constructor
  · apply ByteArray.ext
    apply Array.ext'
    simp only [bstr, ub, List.map_map]
    have e2 : s.data.toList.map ((fun n : Int => UInt8.ofNat n.toNat) ∘ fun b : UInt8 => (b.toNat : Int)) = s.data.toList.map id := List.map_congr_left fun b _ => by simp
    rw [e2, List.map_id]
  · intro i hi
    rw [ub_getD]
    have := ((s.data.toList).getD i 0).toNat_lt
    omega
theorem reads_law (s : ByteArray) (n0 : Nat) : ACt Tryd.prog 4 [.lit (.string s)] (GG n0) (fun r F' => r = bv true ∧ F' = GG n0) := by
  obtain ⟨e, hb⟩ := str_of s
  rw [e]
  exact reads_ct _ hb n0
end Go.Proofs.YtdfkpnkohikcgaaDoor
