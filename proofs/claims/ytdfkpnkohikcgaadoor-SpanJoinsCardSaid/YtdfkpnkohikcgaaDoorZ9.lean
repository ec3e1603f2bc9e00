/-
  The walks and the laws that the statement leans on, part 9.
-/
import Derived.Test.YtdfkpnkohikcgaaDoorZ8
namespace Go.Proofs.YtdfkpnkohikcgaaDoor
open Go
set_option linter.unusedVariables false
set_option linter.unusedSimpArgs false
theorem TFSpG : (((((type_of% tyc0) ∧ ((type_of% tyc2) ∧ (type_of% zmb2))) ∧ ((type_of% tyc3) ∧ ((type_of% zmb3) ∧ (type_of% tyc4)))) ∧ (((type_of% zmb4) ∧ ((type_of% tyc9) ∧ (type_of% zmb9))) ∧ (((type_of% tyc21) ∧ (type_of% zmb21)) ∧ ((type_of% tyc37) ∧ (type_of% foff37_0))))) ∧ ((((type_of% fpart37_0) ∧ ((type_of% foff37_1) ∧ (type_of% fpart37_1))) ∧ (((type_of% zmb37) ∧ (type_of% bldT37)) ∧ ((type_of% tyc40) ∧ (type_of% Tryd.underlying0)))) ∧ (((type_of% Tryd.underlying2) ∧ ((type_of% Tryd.underlying3) ∧ (type_of% Tryd.underlying4))) ∧ (((type_of% Tryd.underlying9) ∧ (type_of% Tryd.underlying21)) ∧ ((type_of% Tryd.underlying37) ∧ (type_of% Tryd.underlying40)))))) :=
  ⟨⟨⟨⟨tyc0, ⟨tyc2, zmb2⟩⟩, ⟨tyc3, ⟨zmb3, tyc4⟩⟩⟩, ⟨⟨zmb4, ⟨tyc9, zmb9⟩⟩, ⟨⟨tyc21, zmb21⟩, ⟨tyc37, foff37_0⟩⟩⟩⟩, ⟨⟨⟨fpart37_0, ⟨foff37_1, fpart37_1⟩⟩, ⟨⟨zmb37, bldT37⟩, ⟨tyc40, Tryd.underlying0⟩⟩⟩, ⟨⟨Tryd.underlying2, ⟨Tryd.underlying3, Tryd.underlying4⟩⟩, ⟨⟨Tryd.underlying9, Tryd.underlying21⟩, ⟨Tryd.underlying37, Tryd.underlying40⟩⟩⟩⟩⟩
abbrev uS : List Int := [119, 100, 104, 109, 115]
theorem u_str : (⟨#[119, 100, 104, 109, 115]⟩ : ByteArray) = bstr uS := rfl
def uni (i : Nat) : Nat := [604800, 86400, 3600, 60, 1].getD i 1
def uch (i : Nat) : Nat := [119, 100, 104, 109, 115].getD i 115
theorem u_all : ∀ i, i < 5 → unitV ((uch i : Nat) : Int) = ((uni i : Nat) : Int) ∧ 1 ≤ uni i ∧ uni i ≤ 604800 ∧ uch i < 128 ∧ Utf8.decode (bstr uS) i = (uch i, 1) := by decide +kernel
/-- what is printed of r units, the least ones -/
def prU : Nat → Nat → List Int
  | 0, _ => []
  | r + 1, n => (if n / uni (4 - r) = 0 then [] else dec (n / uni (4 - r)) ++ [((uch (4 - r) : Nat) : Int)]) ++ prU r (n % uni (4 - r))
theorem prU_succ (r n : Nat) : prU (r + 1) n = (if n / uni (4 - r) = 0 then [] else dec (n / uni (4 - r)) ++ [((uch (4 - r) : Nat) : Int)]) ++ prU r (n % uni (4 - r)) := rfl
theorem prU_nil : ∀ r, r < 5 → ∀ n, prU (r + 1) n = [] → n = 0 := by
  intro r
  induction r with
  | zero =>
    intro _ n h
    rw [prU_succ] at h
    have e : uni (4 - 0) = 1 := rfl
    rw [e, Nat.div_one] at h
    by_cases h0 : n = 0
    · exact h0
    · rw [if_neg h0] at h; simp at h
  | succ r ih =>
    intro hr n h
    rw [prU_succ] at h
    by_cases h0 : n / uni (4 - (r + 1)) = 0
    · have h2 := ih (by omega) _ (List.append_eq_nil_iff.1 h).2
      have := Nat.div_add_mod n (uni (4 - (r + 1)))
      rw [h0, h2] at this
      omega
    · rw [if_neg h0] at h; simp at h
theorem decD_len : ∀ f n, (decD f n).length ≤ f := by
  intro f
  induction f with
  | zero => intro n; exact Nat.le_refl _
  | succ f ih =>
    intro n
    rw [decD_succ, List.length_append]
    split
    · simp
    · have := ih (n / 10); simp; omega
theorem decD_pos (f n : Nat) : 0 < (decD (f + 1) n).length := by rw [decD_succ, List.length_append]; simp
theorem By.app {xs ys : List Int} (h1 : By xs) (h2 : By ys) : By (xs ++ ys) := fun i hi => by
  rw [List.length_append] at hi
  by_cases h : i < xs.length
  · have := h1 i h
    simpa [List.getD_eq_getElem?_getD, List.getElem?_append_left h] using this
  · have := h2 (i - xs.length) (by omega)
    simpa [List.getD_eq_getElem?_getD, List.getElem?_append_right (show xs.length ≤ i by omega)] using this
theorem By.one {c : Int} (h : 0 ≤ c ∧ c ≤ 255) : By [c] := fun i hi => by
  have : i = 0 := by simp at hi; omega
  subst this; simpa using h
theorem decD_by : ∀ f n, By (decD f n) := by
  intro f
  induction f with
  | zero => intro n i hi; exact absurd hi (Nat.not_lt_zero _)
  | succ f ih =>
    intro n
    have h1 : By [((48 + n % 10 : Nat) : Int)] := By.one (by omega)
    rw [decD_succ]
    refine By.app ?_ h1
    split
    · intro j hj; exact absurd hj (Nat.not_lt_zero _)
    · exact ih _
structure PrG where
  i : Nat
  n : Nat
  A : List Int
  q : BQ
set_option maxHeartbeats 4000000 in
theorem print_go (n0 N : Nat) (h0 : 0 < N) (hN : N ≤ 253402300799) : ACt Tryd.prog 8 [iv .i64 (N : Int)] (GG n0) (fun r F' => r = stz (prU 5 N) ∧ F' = GG n0) := by
  have cR := right_ct (N : Int)
  have eR : rightS (N : Int) = true := by unfold rightS; rw [decide_eq_true (by omega), decide_eq_true (by omega)]; rfl
  rw [eR] at cR
  have kz : ((N : Int) == 0) = false := beq_eq_false_iff_ne.2 (by omega)
  obtain ⟨P, hP⟩ : ∃ P, P = prU 5 N := ⟨_, rfl⟩
  have hPn : P ≠ [] := fun e => by rw [hP] at e; have := prU_nil 4 (by omega) N e; omega
  rw [← hP]
  obtain ⟨U, hU⟩ : ∃ U, U = bstr uS := ⟨_, rfl⟩
  have hus : U.size = 5 := by rw [hU]; rfl
  have u_str : (⟨#[119, 100, 104, 109, 115]⟩ : ByteArray) = U := by rw [hU]; rfl
  have uall := u_all
  simp only [← hU] at uall
  have hF := fun k hk => fmt_ct n0 k hk
  simp only [GG] at hF ⊢
  obtain ⟨Lp, hLp⟩ : ∃ Lp, Lp = p10 := ⟨_, rfl⟩
  simp only [← hLp] at hF ⊢
  refine ACt.intro Tryd.func8 rfl (by kernel_rfl) (by simp [Tryd.ntmps8]) (fun cx => ?_)
  simp only [argE, Tryd.ntmps8, Tryd.results8]
  first | (have FRx := FR; clear FRx) | (have FR : Sm (¬ ((1 : Nat) = 0)) := Sm.mk Nat.one_ne_zero)
  repeat' first
    | (refine Sm.mk ?_; try simp -dsimp only [ZK, rvc, drawF, headN, pureH, stp, dvc, calleeOf, gcall, pev, eff, newB, okd, og, ogs, ogo, ogp, slv, bltv, opd, litv, strip, one, both, putE, St.put, look, gdOf, gdv, picka, pickv, pickw, binv, bini, bins, binb, binp, binq, isSlT, bina, shp, eqCells, unv, convv, nilv, faddv, addp, idxav, idxp, load1, load1m, loadn, loadnm, loadv, hget, hset, hrep, hdel, slicev, bnd, shift1, lenv, capv, IntKind.bits, extractv, fieldv, indexv, min2v, max2v, mkiv, cellsA, fillA, buildv, stC, oneC, rowMB, intsA, plN, appE, appZ, appC, appNZ, appNC, VwL, srcC, srcZ, srcM, isBoolT, isPtrT, isSliceT, uOk, Value.oneCell', Nat.reducePow, Int.reducePow, Nat.reduceAdd, Nat.reduceMul, Nat.reduceSub, Nat.reduceLT, Nat.reduceLeDiff, Nat.reduceEqDiff, Nat.reduceBEq, Nat.reduceDiv, Nat.reduceMod, ↓reduceIte, reduceCtorEq, Int.reduceToNat, Int.reduceLT, Int.reduceLE, TFSpG, SeqQ, BlkQ, LoopQ, BodyQ, kz, u_str, FR.out])
    | (first | refine CallV.fn (cR) (Sm.out ?_) | refine ExF.mk (cR) (Sm.out ?_) | refine ExG.mk (fun _ => cR) (Sm.out ?_) | refine ExG.mkJ (fun _ => cR) (Sm.out ?_) | refine ExG.mkI (Ob.out ?_) (fun _ => cR) (Sm.out ?_))
    | (refine WP.seq fun K hK => ?_)
    | (refine WP.region (rvc_sound _ _ (Sm.out ?_)))
    | (refine WP.drawK rfl mixed (by decide +kernel) (Sm.out ?_))
    | (refine Ob.mk ?_; focus (first | assumption | omega | decide | trivial | (intro hob; simp only [hob, ZF]; done) | (intros; (repeat' refine And.intro ?_ ?_) <;> first | assumption | omega | trivial | decide) | (intros; simp only [ZE] at *; (repeat' refine And.intro ?_ ?_) <;> first | assumption | omega | trivial)))
    | (refine And.intro (Ob.out ?_) ?_)
    | (refine WP.block ?_)
    | (refine WP.cond rfl (fun hc => ?_) (fun hc => ?_) <;> (try simp only [ZC, reduceCtorEq, ZD] at hc) <;> (try (exact absurd hc (by decide))) <;> (try (exfalso; omega)))
    | ((first | refine WP.skip ?_ | refine WP.exit ?_); simp only [SeqQ, BlkQ, LoopQ, BodyQ, ↓reduceIte, Nat.reduceEqDiff, reduceCtorEq, look, true_and])
    | (refine WP.ret (Sm.out ?_))
    | (first | refine ExG.no (Sm.out ?_) | refine Or.inl (ExG.no (Sm.out ?_)) | refine Or.inl (And.intro (fun hg => absurd hg (by decide)) (ExG.no (Sm.out ?_))))
    | (refine Rt.mk ?_; refine And.intro ?_ ?_ <;> (intro hg; first | exact absurd hg (by decide) | refine Sm.out ?_))
    | (refine Nu.mk ?_; first | (fail_if_success (have := nb1)); intro nb1 | (fail_if_success (have := nb2)); intro nb2 | (fail_if_success (have := nb3)); intro nb3 | (fail_if_success (have := nb4)); intro nb4 | intro nbz)
    | (refine Fr.mk ?_; intro hfr; (first | (have hFRb : _ ≤ _ ∧ _ ≤ _ := And.intro hfr.1 hfr.2.1) | (have hFRb : _ ≤ _ := hfr.1) | skip); replace FR := Sm.mk (And.intro hfr FR.out); clear hfr; refine Sm.out ?_)
    | (refine Two.mk ?_ ?_)
    | (refine Cs.mk ?_; intro hcs; first | exact False.elim hcs | (exfalso; omega) | (refine Sm.out ?_))
    | go_step
    | omega
    | (simp only [maxLen_eq]; omega)
  refine WP.loop (Γ := PrG) (fun g => ⟨[(14, pt nb2 0), (3, pt nb1 0), (0, iv .i64 (g.n : Int))], (nb2, .obj (.stringIter U g.i)) :: (0, .zs .u64 Lp 20 n0) :: bH nb1 g.A g.q⟩)
    (fun g => g.i ≤ 5 ∧ (g.i = 0 → g.n ≤ 253402300799) ∧ (g.i ≠ 0 → g.n < 604800) ∧ g.A.length ≤ 21 * g.i ∧ P = g.A ++ prU (5 - g.i) g.n ∧ bOk nb1 g.A g.q) (fun g => 5 - g.i) ⟨0, N, [], ⟨0, 0⟩⟩
    ⟨by simp, fun _ => hN, fun h => absurd rfl h, by simp, by simpa using hP, fun h => absurd rfl h⟩ (Sub.of_env [] (by simp only [bH, List.append_nil]; exact (List.Perm.swap _ _ _).cons _) (by simp [look])) ?_
  intro ⟨i, n, A, q⟩ ⟨h1, h2, h3, h4, h5, h6⟩
  simp only at h1 h2 h3 h4 h5 h6 ⊢
  have FR : Sm (((¬nb1 = nb2 ∧ ¬nb2 = nb1) ∧ ¬0 = nb2 ∧ ¬nb2 = 0) ∧ (¬0 = nb1 ∧ ¬nb1 = 0) ∧ ¬ ((1 : Nat) = 0)) := Sm.mk FR.out
  by_cases hi : i < 5
  · obtain ⟨u1, u2, u3, u4, hdec⟩ := uall i hi
    obtain ⟨r, hr⟩ : ∃ r, r = 4 - i := ⟨_, rfl⟩
    have e5 : 5 - i = r + 1 := by omega
    have e4 : 4 - r = i := by omega
    rw [e5, prU_succ, e4] at h5
    have cU := unit_ct ((uch i : Nat) : Int)
    rw [u1] at cU
    obtain ⟨u, hu⟩ : ∃ u, u = uni i := ⟨_, rfl⟩
    obtain ⟨c, hc⟩ : ∃ c, c = uch i := ⟨_, rfl⟩
    rw [← hu] at cU u2 u3 h5
    rw [← hc] at cU u4 hdec h5
    have hnb : n < 1000000 * 604800 := by
      by_cases hi0 : i = 0
      · have := h2 hi0; omega
      · have := h3 hi0; omega
    have hk6 : n / u < 1000000 := by
      by_cases hi0 : i = 0
      · have := h2 hi0
        have hu6 : u = 604800 := by rw [hu, hi0]; rfl
        subst hu6; omega
      · have := h3 hi0
        have := Nat.div_le_self n u
        omega
    have hm6 : n % u < 604800 := by have := Nat.mod_lt n (show 0 < u by omega); omega
    have r1 : (n : Int).tdiv (u : Int) = ((n / u : Nat) : Int) := by rw [Int.tdiv_eq_ediv_of_nonneg (by omega)]; exact (Int.natCast_ediv n u).symm
    have r2 : (n : Int).tmod (u : Int) = ((n % u : Nat) : Int) := by rw [Int.tmod_eq_emod_of_nonneg (by omega)]; exact (Int.natCast_emod n u).symm
    have hcF := hF (n / u) hk6
    obtain ⟨k, hk⟩ : ∃ k, k = n / u := ⟨_, rfl⟩
    obtain ⟨m, hm⟩ : ∃ m, m = n % u := ⟨_, rfl⟩
    rw [← hk] at r1 hk6 h5 hcF
    rw [← hm] at r2 hm6 h5
    have w1 : IntKind.i64.wrap (k : Int) = (k : Int) := wrap_i64 (by omega) (by omega)
    have w2 : IntKind.i64.wrap (m : Int) = (m : Int) := wrap_i64 (by omega) (by omega)
    have hu0 : ((u : Int) = 0) = False := eq_false (by omega)
    have hu1 : ((u : Int) == 0) = false := beq_eq_false_iff_ne.2 (by omega)
    by_cases hk0 : k = 0
    · have kk : decide ((k : Int) > 0) = false := decide_eq_false (by omega)
      rw [if_pos hk0, List.nil_append] at h5
      first | (have FRx := FR; clear FRx) | (have FR : Sm (¬ ((1 : Nat) = 0)) := Sm.mk Nat.one_ne_zero)
      repeat' first
        | (refine Sm.mk ?_; try simp -dsimp only [ZK, rvc, drawF, headN, pureH, stp, dvc, calleeOf, gcall, pev, eff, newB, okd, og, ogs, ogo, ogp, slv, bltv, opd, litv, strip, one, both, putE, St.put, look, gdOf, gdv, picka, pickv, pickw, binv, bini, bins, binb, binp, binq, isSlT, bina, shp, eqCells, unv, convv, nilv, faddv, addp, idxav, idxp, load1, load1m, loadn, loadnm, loadv, hget, hset, hrep, hdel, slicev, bnd, shift1, lenv, capv, IntKind.bits, extractv, fieldv, indexv, min2v, max2v, mkiv, cellsA, fillA, buildv, stC, oneC, rowMB, intsA, plN, appE, appZ, appC, appNZ, appNC, VwL, srcC, srcZ, srcM, isBoolT, isPtrT, isSliceT, uOk, Value.oneCell', Nat.reducePow, Int.reducePow, Nat.reduceAdd, Nat.reduceMul, Nat.reduceSub, Nat.reduceLT, Nat.reduceLeDiff, Nat.reduceEqDiff, Nat.reduceBEq, Nat.reduceDiv, Nat.reduceMod, ↓reduceIte, reduceCtorEq, Int.reduceToNat, Int.reduceLT, Int.reduceLE, TFSpG, SeqQ, BlkQ, LoopQ, BodyQ, hus, hdec, r1, r2, w1, w2, hu0, hu1, kk, FR.out])
        | (first | refine CallV.fn (cU) (Sm.out ?_) | refine ExF.mk (cU) (Sm.out ?_) | refine ExG.mk (fun _ => cU) (Sm.out ?_) | refine ExG.mkJ (fun _ => cU) (Sm.out ?_) | refine ExG.mkI (Ob.out ?_) (fun _ => cU) (Sm.out ?_))
        | (refine WP.seq fun K hK => ?_)
        | (refine WP.region (rvc_sound _ _ (Sm.out ?_)))
        | (refine WP.drawK rfl mixed (by decide +kernel) (Sm.out ?_))
        | (refine Ob.mk ?_; focus (first | assumption | omega | decide | trivial | (intro hob; simp only [hob, ZF]; done) | (intros; (repeat' refine And.intro ?_ ?_) <;> first | assumption | omega | trivial | decide) | (intros; simp only [ZE] at *; (repeat' refine And.intro ?_ ?_) <;> first | assumption | omega | trivial)))
        | (refine And.intro (Ob.out ?_) ?_)
        | (refine WP.block ?_)
        | (refine WP.cond rfl (fun hc => ?_) (fun hc => ?_) <;> (try simp only [ZC, reduceCtorEq, ZD] at hc) <;> (try (exact absurd hc (by decide))) <;> (try (exfalso; omega)))
        | ((first | refine WP.skip ?_ | refine WP.exit ?_); simp only [SeqQ, BlkQ, LoopQ, BodyQ, ↓reduceIte, Nat.reduceEqDiff, reduceCtorEq, look, true_and])
        | (refine WP.ret (Sm.out ?_))
        | (first | refine ExG.no (Sm.out ?_) | refine Or.inl (ExG.no (Sm.out ?_)) | refine Or.inl (And.intro (fun hg => absurd hg (by decide)) (ExG.no (Sm.out ?_))))
        | (refine Rt.mk ?_; refine And.intro ?_ ?_ <;> (intro hg; first | exact absurd hg (by decide) | refine Sm.out ?_))
        | (refine Nu.mk ?_; first | (fail_if_success (have := nb1)); intro nb1 | (fail_if_success (have := nb2)); intro nb2 | (fail_if_success (have := nb3)); intro nb3 | (fail_if_success (have := nb4)); intro nb4 | intro nbz)
        | (refine Fr.mk ?_; intro hfr; (first | (have hFRb : _ ≤ _ ∧ _ ≤ _ := And.intro hfr.1 hfr.2.1) | (have hFRb : _ ≤ _ := hfr.1) | skip); replace FR := Sm.mk (And.intro hfr FR.out); clear hfr; refine Sm.out ?_)
        | (refine Two.mk ?_ ?_)
        | (refine Cs.mk ?_; intro hcs; first | exact False.elim hcs | (exfalso; omega) | (refine Sm.out ?_))
        | go_step
        | omega
        | (simp only [maxLen_eq]; omega)
      refine ⟨⟨i + 1, m, A, q⟩, ⟨by simp only; omega, fun h => by simp at h, fun _ => hm6, by simp only; omega, by simp only; rw [show 5 - (i + 1) = r by omega]; exact h5, h6⟩, by simp only; omega, Sub.of_env [] (pmz _) (by simp [look])⟩
    · have kk : decide ((k : Int) > 0) = true := decide_eq_true (by omega)
      rw [if_neg hk0] at h5
      obtain ⟨D, hD⟩ : ∃ D, D = dec k := ⟨_, rfl⟩
      have lD : D.length ≤ 20 ∧ 0 < D.length := by rw [hD]; exact ⟨decD_len _ _, decD_pos _ _⟩
      have bD : By D := by rw [hD]; exact decD_by _ _
      rw [← hD] at hcF h5
      have cF := hcF.lookU (H := (nb2, .obj (.stringIter U (i + 1))) :: (0, .zs .u64 Lp 20 n0) :: bH nb1 A q) (List.Perm.swap _ _ _)
      have cW := liftB [(nb2, .obj (.stringIter U (i + 1))), (0, .zs .u64 Lp 20 n0)] (ws_b h6 (by omega) D bD lD.2 (by omega))
      have cV := fun (q' : BQ) (hq : bOk nb1 (A ++ D) q') => liftB [(nb2, .obj (.stringIter U (i + 1))), (0, .zs .u64 Lp 20 n0)] (wr_b hq (by rw [List.length_append]; omega) (c : Int) (by omega))
      first | (have FRx := FR; clear FRx) | (have FR : Sm (¬ ((1 : Nat) = 0)) := Sm.mk Nat.one_ne_zero)
      repeat' first
        | (refine Sm.mk ?_; try simp -dsimp only [ZK, rvc, drawF, headN, pureH, stp, dvc, calleeOf, gcall, pev, eff, newB, okd, og, ogs, ogo, ogp, slv, bltv, opd, litv, strip, one, both, putE, St.put, look, gdOf, gdv, picka, pickv, pickw, binv, bini, bins, binb, binp, binq, isSlT, bina, shp, eqCells, unv, convv, nilv, faddv, addp, idxav, idxp, load1, load1m, loadn, loadnm, loadv, hget, hset, hrep, hdel, slicev, bnd, shift1, lenv, capv, IntKind.bits, extractv, fieldv, indexv, min2v, max2v, mkiv, cellsA, fillA, buildv, stC, oneC, rowMB, intsA, plN, appE, appZ, appC, appNZ, appNC, VwL, srcC, srcZ, srcM, isBoolT, isPtrT, isSliceT, uOk, Value.oneCell', Nat.reducePow, Int.reducePow, Nat.reduceAdd, Nat.reduceMul, Nat.reduceSub, Nat.reduceLT, Nat.reduceLeDiff, Nat.reduceEqDiff, Nat.reduceBEq, Nat.reduceDiv, Nat.reduceMod, ↓reduceIte, reduceCtorEq, Int.reduceToNat, Int.reduceLT, Int.reduceLE, TFSpG, SeqQ, BlkQ, LoopQ, BodyQ, hus, hdec, r1, r2, w1, w2, hu0, hu1, kk, List.append_nil, List.cons_append, List.nil_append, FR.out])
        | (first | refine CallV.fn (cU) (Sm.out ?_) | refine ExF.mk (cU) (Sm.out ?_) | refine ExG.mk (fun _ => cU) (Sm.out ?_) | refine ExG.mkJ (fun _ => cU) (Sm.out ?_) | refine ExG.mkI (Ob.out ?_) (fun _ => cU) (Sm.out ?_))
        | (refine CallV.updM (cF) (pmz _) (Sm.out ?_))
        | ((first | refine ExF.up ?_ (cF) (Sm.out ?_) | refine ExG.up ?_ (fun _ => cF) (Sm.out ?_) | refine ExG.upJ ?_ (fun _ => cF) (Sm.out ?_) | refine ExG.upI ?_ (fun _ => cF) (Ob.out ?_) (Sm.out ?_)); focus (exact ⟨_, (pmz _)⟩))
        | (refine CallV.exM (cW) (pmz _) (fun g => Sm.out ?_))
        | (refine CallV.exM (cV _ g.2) (pmz _) (fun h => Sm.out ?_))
        | (refine WP.seq fun K hK => ?_)
        | (refine WP.region (rvc_sound _ _ (Sm.out ?_)))
        | (refine WP.drawK rfl mixed (by decide +kernel) (Sm.out ?_))
        | (refine Ob.mk ?_; focus (first | assumption | omega | decide | trivial | (intro hob; simp only [hob, ZF]; done) | (intros; (repeat' refine And.intro ?_ ?_) <;> first | assumption | omega | trivial | decide) | (intros; simp only [ZE] at *; (repeat' refine And.intro ?_ ?_) <;> first | assumption | omega | trivial)))
        | (refine And.intro (Ob.out ?_) ?_)
        | (refine WP.block ?_)
        | (refine WP.cond rfl (fun hc => ?_) (fun hc => ?_) <;> (try simp only [ZC, reduceCtorEq, ZD] at hc) <;> (try (exact absurd hc (by decide))) <;> (try (exfalso; omega)))
        | ((first | refine WP.skip ?_ | refine WP.exit ?_); simp only [SeqQ, BlkQ, LoopQ, BodyQ, ↓reduceIte, Nat.reduceEqDiff, reduceCtorEq, look, true_and])
        | (refine WP.ret (Sm.out ?_))
        | (first | refine ExG.no (Sm.out ?_) | refine Or.inl (ExG.no (Sm.out ?_)) | refine Or.inl (And.intro (fun hg => absurd hg (by decide)) (ExG.no (Sm.out ?_))))
        | (refine Rt.mk ?_; refine And.intro ?_ ?_ <;> (intro hg; first | exact absurd hg (by decide) | refine Sm.out ?_))
        | (refine Nu.mk ?_; first | (fail_if_success (have := nb1)); intro nb1 | (fail_if_success (have := nb2)); intro nb2 | (fail_if_success (have := nb3)); intro nb3 | (fail_if_success (have := nb4)); intro nb4 | intro nbz)
        | (refine Fr.mk ?_; intro hfr; (first | (have hFRb : _ ≤ _ ∧ _ ≤ _ := And.intro hfr.1 hfr.2.1) | (have hFRb : _ ≤ _ := hfr.1) | skip); replace FR := Sm.mk (And.intro hfr FR.out); clear hfr; refine Sm.out ?_)
        | (refine Two.mk ?_ ?_)
        | (refine Cs.mk ?_; intro hcs; first | exact False.elim hcs | (exfalso; omega) | (refine Sm.out ?_))
        | go_step
        | omega
        | (simp only [maxLen_eq]; omega)
      refine ⟨⟨i + 1, m, A ++ D ++ [(c : Int)], h.1⟩, ⟨by simp only; omega, fun h => by simp at h, fun _ => hm6, by simp only [List.length_append, List.length_cons, List.length_nil]; omega, by simp only; rw [show 5 - (i + 1) = r by omega, h5]; simp, h.2⟩, by simp only; omega, Sub.of_env [] (pmz _) (by simp [look])⟩
  · obtain rfl : i = 5 := by omega
    have eA : P = A := by rw [h5]; exact List.append_nil _
    have hAn : A ≠ [] := by rw [← eA]; exact hPn
    have cS := liftF [(nb2, .obj (.stringIter U 5)), (0, .zs .u64 Lp 20 n0)] (str_b h6 hAn (by omega))
    simp only [List.append_nil] at cS
    first | (have FRx := FR; clear FRx) | (have FR : Sm (¬ ((1 : Nat) = 0)) := Sm.mk Nat.one_ne_zero)
    repeat' first
      | (refine Sm.mk ?_; try simp -dsimp only [ZK, rvc, drawF, headN, pureH, stp, dvc, calleeOf, gcall, pev, eff, newB, okd, og, ogs, ogo, ogp, slv, bltv, opd, litv, strip, one, both, putE, St.put, look, gdOf, gdv, picka, pickv, pickw, binv, bini, bins, binb, binp, binq, isSlT, bina, shp, eqCells, unv, convv, nilv, faddv, addp, idxav, idxp, load1, load1m, loadn, loadnm, loadv, hget, hset, hrep, hdel, slicev, bnd, shift1, lenv, capv, IntKind.bits, extractv, fieldv, indexv, min2v, max2v, mkiv, cellsA, fillA, buildv, stC, oneC, rowMB, intsA, plN, appE, appZ, appC, appNZ, appNC, VwL, srcC, srcZ, srcM, isBoolT, isPtrT, isSliceT, uOk, Value.oneCell', Nat.reducePow, Int.reducePow, Nat.reduceAdd, Nat.reduceMul, Nat.reduceSub, Nat.reduceLT, Nat.reduceLeDiff, Nat.reduceEqDiff, Nat.reduceBEq, Nat.reduceDiv, Nat.reduceMod, ↓reduceIte, reduceCtorEq, Int.reduceToNat, Int.reduceLT, Int.reduceLE, TFSpG, SeqQ, BlkQ, LoopQ, BodyQ, hus, List.append_nil, List.cons_append, List.nil_append, FR.out])
      | (refine CallV.updM (cS) (pmz _) (Sm.out ?_))
      | (refine WP.seq fun K hK => ?_)
      | (refine WP.region (rvc_sound _ _ (Sm.out ?_)))
      | (refine WP.drawK rfl mixed (by decide +kernel) (Sm.out ?_))
      | (refine Ob.mk ?_; focus (first | assumption | omega | decide | trivial | (intro hob; simp only [hob, ZF]; done) | (intros; (repeat' refine And.intro ?_ ?_) <;> first | assumption | omega | trivial | decide) | (intros; simp only [ZE] at *; (repeat' refine And.intro ?_ ?_) <;> first | assumption | omega | trivial)))
      | (refine And.intro (Ob.out ?_) ?_)
      | (refine WP.block ?_)
      | (refine WP.cond rfl (fun hc => ?_) (fun hc => ?_) <;> (try simp only [ZC, reduceCtorEq, ZD] at hc) <;> (try (exact absurd hc (by decide))) <;> (try (exfalso; omega)))
      | ((first | refine WP.skip ?_ | refine WP.exit ?_); simp only [SeqQ, BlkQ, LoopQ, BodyQ, ↓reduceIte, Nat.reduceEqDiff, reduceCtorEq, look, true_and])
      | (refine WP.ret (Sm.out ?_))
      | (first | refine ExG.no (Sm.out ?_) | refine Or.inl (ExG.no (Sm.out ?_)) | refine Or.inl (And.intro (fun hg => absurd hg (by decide)) (ExG.no (Sm.out ?_))))
      | (refine Rt.mk ?_; refine And.intro ?_ ?_ <;> (intro hg; first | exact absurd hg (by decide) | refine Sm.out ?_))
      | (refine Nu.mk ?_; first | (fail_if_success (have := nb1)); intro nb1 | (fail_if_success (have := nb2)); intro nb2 | (fail_if_success (have := nb3)); intro nb3 | (fail_if_success (have := nb4)); intro nb4 | intro nbz)
      | (refine Fr.mk ?_; intro hfr; (first | (have hFRb : _ ≤ _ ∧ _ ≤ _ := And.intro hfr.1 hfr.2.1) | (have hFRb : _ ≤ _ := hfr.1) | skip); replace FR := Sm.mk (And.intro hfr FR.out); clear hfr; refine Sm.out ?_)
      | (refine Two.mk ?_ ?_)
      | (refine Cs.mk ?_; intro hcs; first | exact False.elim hcs | (exfalso; omega) | (refine Sm.out ?_))
      | go_step
      | omega
      | (simp only [maxLen_eq]; omega)
    (refine OutQ.upd (by simp only [resv, ZK, look, loadv, loadn, loadnm, load1, load1m, hget, ↓reduceIte, Nat.reduceEqDiff, Nat.reduceAdd, Nat.reduceMul, Nat.reduceLeDiff, Nat.reduceLT, reduceCtorEq, TFSpG, FR.out, eA]) (by simp only [resv, resA, ZK, look, loadv, loadn, loadnm, load1, load1m, hget, ↓reduceIte, Nat.reduceEqDiff, Nat.reduceAdd, Nat.reduceMul, Nat.reduceLeDiff, Nat.reduceLT, reduceCtorEq, TFSpG, FR.out, eA]; first | done | rfl) (by simp only [hget, ↓reduceIte, if_true, if_false, FR.out, eA]; first | done | rfl) ?_ <;> first | exact rfl | (simp only [ZK, look, loadv, loadn, loadnm, load1, load1m, hget, ↓reduceIte, Nat.reduceEqDiff, Nat.reduceAdd, Nat.reduceMul, Nat.reduceLeDiff, Nat.reduceLT, reduceCtorEq, TFSpG, FR.out, eA]; done) | skip)
end Go.Proofs.YtdfkpnkohikcgaaDoor
namespace Go.Proofs.YtdfkpnkohikcgaaDoor
open Go
set_option linter.unusedVariables false
set_option linter.unusedSimpArgs false
theorem TFSpH : ((((((type_of% tyc0) ∧ (type_of% tyc2)) ∧ ((type_of% zmb2) ∧ (type_of% tyc3))) ∧ (((type_of% zmb3) ∧ (type_of% tyc4)) ∧ ((type_of% zmb4) ∧ ((type_of% tyc9) ∧ (type_of% zmb9))))) ∧ ((((type_of% tyc21) ∧ (type_of% zmb21)) ∧ ((type_of% tyc45) ∧ ((type_of% mth45_26) ∧ (type_of% mth45_21)))) ∧ (((type_of% con45) ∧ (type_of% zmb45)) ∧ ((type_of% tyc47) ∧ ((type_of% foff47_0) ∧ (type_of% fpart47_0)))))) ∧ (((((type_of% foff47_1) ∧ (type_of% fpart47_1)) ∧ ((type_of% foff47_2) ∧ (type_of% fpart47_2))) ∧ (((type_of% foff47_3) ∧ (type_of% fpart47_3)) ∧ ((type_of% foff47_4) ∧ ((type_of% fpart47_4) ∧ (type_of% fe47))))) ∧ ((((type_of% zmb47) ∧ (type_of% bldT47)) ∧ ((type_of% Tryd.underlying0) ∧ ((type_of% Tryd.underlying2) ∧ (type_of% Tryd.underlying3)))) ∧ (((type_of% Tryd.underlying4) ∧ (type_of% Tryd.underlying9)) ∧ ((type_of% Tryd.underlying21) ∧ ((type_of% Tryd.underlying45) ∧ (type_of% Tryd.underlying47))))))) :=
  ⟨⟨⟨⟨⟨tyc0, tyc2⟩, ⟨zmb2, tyc3⟩⟩, ⟨⟨zmb3, tyc4⟩, ⟨zmb4, ⟨tyc9, zmb9⟩⟩⟩⟩, ⟨⟨⟨tyc21, zmb21⟩, ⟨tyc45, ⟨mth45_26, mth45_21⟩⟩⟩, ⟨⟨con45, zmb45⟩, ⟨tyc47, ⟨foff47_0, fpart47_0⟩⟩⟩⟩⟩, ⟨⟨⟨⟨foff47_1, fpart47_1⟩, ⟨foff47_2, fpart47_2⟩⟩, ⟨⟨foff47_3, fpart47_3⟩, ⟨foff47_4, ⟨fpart47_4, fe47⟩⟩⟩⟩, ⟨⟨⟨zmb47, bldT47⟩, ⟨Tryd.underlying0, ⟨Tryd.underlying2, Tryd.underlying3⟩⟩⟩, ⟨⟨Tryd.underlying4, Tryd.underlying9⟩, ⟨Tryd.underlying21, ⟨Tryd.underlying45, Tryd.underlying47⟩⟩⟩⟩⟩⟩
/-- a reader: the sum, the piece, are there digits, the units left, is it far -/
abbrev rdM (s p : Int) (d : Bool) (L : ByteArray) (f : AV) : MB := .cells [iv .i64 s, iv .i64 p, bv d, .lit (.string L), f] 5 47
/-- less is known of a reader -/
theorem Wk.far {env : List (Nat × AV)} {b : Nat} {s p : Int} {d : Bool} {L : ByteArray} (f : AV) : Wk ⟨env, [(b, rdM s p d L f)]⟩ ⟨env, [(b, rdM s p d L .any)]⟩ := by
  intro cx n a w ok
  have hg : hget [(b, rdM s p d L f)] b = some (rdM s p d L f) := by simp [hget]
  obtain ⟨h1, h2⟩ := ok.world.conv (m' := rdM s p d L .any) (hget_mem hg) (fun I hm => by
    obtain ⟨cur, c1, c2, c3, c4⟩ := hm
    refine ⟨cur, c1, c2, c3, fun i hi => ?_⟩
    rcases (by simp at hi; omega : i = 0 ∨ i = 1 ∨ i = 2 ∨ i = 3 ∨ i = 4) with rfl | rfl | rfl | rfl | rfl
    · exact c4 0 (by simp)
    · exact c4 1 (by simp)
    · exact c4 2 (by simp)
    · exact c4 3 (by simp)
    · exact .any _)
  have e : hset [(b, rdM s p d L f)] b (rdM s p d L .any) = [(b, rdM s p d L .any)] := by simp [hset]
  rw [e] at h1 h2
  exact ⟨ok.defers, ok.size, fun i => (ok.reps i).mono fun c hc => ⟨(h2 c).1 hc, rfl⟩, h1⟩
def hdV (n : Int) : Int := if n > 253402300799 then 253402300800 else n
theorem held_ok (b : Nat) (s p : Int) (d : Bool) (L : ByteArray) (f : AV) (n : Int) (h : ¬ n > 253402300799) : ACt Tryd.prog 26 [pt b 0, iv .i64 n] [(b, rdM s p d L f)] (fun r F' => r = iv .i64 (hdV n) ∧ F' = [(b, rdM s p d L f)]) := by
  have e : hdV n = n := if_neg h
  have k : decide (n > 253402300799) = false := decide_eq_false h
  refine ACt.intro Tryd.func26 rfl (by kernel_rfl) (by simp [Tryd.ntmps26]) (fun cx => ?_)
  simp only [argE, Tryd.ntmps26, Tryd.results26]
  first | (have FRx := FR; clear FRx) | (have FR : Sm (¬ ((1 : Nat) = 0)) := Sm.mk Nat.one_ne_zero)
  repeat' first
    | (refine Sm.mk ?_; try simp -dsimp only [ZK, rvc, drawF, headN, pureH, stp, dvc, calleeOf, gcall, pev, eff, newB, okd, og, ogs, ogo, ogp, slv, bltv, opd, litv, strip, one, both, putE, St.put, look, gdOf, gdv, picka, pickv, pickw, binv, bini, bins, binb, binp, binq, isSlT, bina, shp, eqCells, unv, convv, nilv, faddv, addp, idxav, idxp, load1, load1m, loadn, loadnm, loadv, hget, hset, hrep, hdel, slicev, bnd, shift1, lenv, capv, IntKind.bits, extractv, fieldv, indexv, min2v, max2v, mkiv, cellsA, fillA, buildv, stC, oneC, rowMB, intsA, plN, appE, appZ, appC, appNZ, appNC, VwL, srcC, srcZ, srcM, isBoolT, isPtrT, isSliceT, uOk, Value.oneCell', Nat.reducePow, Int.reducePow, Nat.reduceAdd, Nat.reduceMul, Nat.reduceSub, Nat.reduceLT, Nat.reduceLeDiff, Nat.reduceEqDiff, Nat.reduceBEq, Nat.reduceDiv, Nat.reduceMod, ↓reduceIte, reduceCtorEq, Int.reduceToNat, Int.reduceLT, Int.reduceLE, drawCF, xvc, xst, splitH, calleeV, putE, hdel, TFSpH, SeqQ, BlkQ, LoopQ, BodyQ, k, FR.out])
    | (refine WP.seq fun K hK => ?_)
    | (refine WP.region (rvc_sound _ _ (Sm.out ?_)))
    | (refine WP.drawC (c := 19) (ws := [16]) (ls := [5, 10, 14]) (bs := [b]) mixed (by decide +kernel) (by decide +kernel) (by decide +kernel) (Sm.out ?_))
    | (refine WP.drawC (c := 18) (ws := [12, 15]) (ls := [6]) (bs := [b]) mixed (by decide +kernel) (by decide +kernel) (by decide +kernel) (Sm.out ?_))
    | (refine WP.drawK rfl mixed (by decide +kernel) (Sm.out ?_))
    | (refine Ob.mk ?_; focus (first | assumption | omega | decide | trivial | (intro hob; simp only [hob, ZF]; done) | (intros; (repeat' refine And.intro ?_ ?_) <;> first | assumption | omega | trivial | decide) | (intros; simp only [ZE] at *; (repeat' refine And.intro ?_ ?_) <;> first | assumption | omega | trivial)))
    | (refine And.intro (Ob.out ?_) ?_)
    | (refine WP.block ?_)
    | (refine WP.cond rfl (fun hc => ?_) (fun hc => ?_) <;> (try simp only [ZC, reduceCtorEq, ZD] at hc) <;> (try (exact absurd hc (by decide))) <;> (try (exfalso; omega)))
    | ((first | refine WP.skip ?_ | refine WP.exit ?_); simp only [SeqQ, BlkQ, LoopQ, BodyQ, ↓reduceIte, Nat.reduceEqDiff, reduceCtorEq, look, true_and])
    | (refine WP.ret (Sm.out ?_))
    | (first | refine ExG.no (Sm.out ?_) | refine Or.inl (ExG.no (Sm.out ?_)) | refine Or.inl (And.intro (fun hg => absurd hg (by decide)) (ExG.no (Sm.out ?_))))
    | (refine Rt.mk ?_; refine And.intro ?_ ?_ <;> (intro hg; first | exact absurd hg (by decide) | refine Sm.out ?_))
    | (refine Nu.mk ?_; first | (fail_if_success (have := nb1)); intro nb1 | (fail_if_success (have := nb2)); intro nb2 | (fail_if_success (have := nb3)); intro nb3 | intro nbz)
    | (refine Fr.mk ?_; intro hfr; (first | (have hFRb : _ ≤ _ ∧ _ ≤ _ := And.intro hfr.1 hfr.2.1) | (have hFRb : _ ≤ _ := hfr.1) | skip); replace FR := Sm.mk (And.intro hfr FR.out); clear hfr; refine Sm.out ?_)
    | (refine Two.mk ?_ ?_)
    | (refine Cs.mk ?_; intro hcs; first | exact False.elim hcs | (exfalso; omega) | (refine Sm.out ?_))
    | go_step
    | omega
    | (simp only [maxLen_eq]; omega)
  (refine OutQ.upd (by simp only [resv, ZK, look, loadv, loadn, loadnm, load1, load1m, hget, ↓reduceIte, Nat.reduceEqDiff, Nat.reduceAdd, Nat.reduceMul, Nat.reduceLeDiff, Nat.reduceLT, reduceCtorEq, TFSpH, FR.out, e]) (by simp only [resv, resA, ZK, look, loadv, loadn, loadnm, load1, load1m, hget, ↓reduceIte, Nat.reduceEqDiff, Nat.reduceAdd, Nat.reduceMul, Nat.reduceLeDiff, Nat.reduceLT, reduceCtorEq, TFSpH, FR.out, e]; first | done | rfl) (by simp only [hget, ↓reduceIte, if_true, if_false, FR.out, e]; first | done | rfl) ?_ <;> first | exact rfl | (simp only [ZK, look, loadv, loadn, loadnm, load1, load1m, hget, ↓reduceIte, Nat.reduceEqDiff, Nat.reduceAdd, Nat.reduceMul, Nat.reduceLeDiff, Nat.reduceLT, reduceCtorEq, TFSpH, FR.out, e]; done) | skip)
theorem held_far (b : Nat) (s p : Int) (d : Bool) (L : ByteArray) (f : AV) (n : Int) (h : n > 253402300799) : ACt Tryd.prog 26 [pt b 0, iv .i64 n] [(b, rdM s p d L f)] (fun r F' => r = iv .i64 (hdV n) ∧ F' = [(b, rdM s p d L (bv true))]) := by
  have e : hdV n = 253402300800 := if_pos h
  have k : decide (n > 253402300799) = true := decide_eq_true h
  refine ACt.intro Tryd.func26 rfl (by kernel_rfl) (by simp [Tryd.ntmps26]) (fun cx => ?_)
  simp only [argE, Tryd.ntmps26, Tryd.results26]
  first | (have FRx := FR; clear FRx) | (have FR : Sm (¬ ((1 : Nat) = 0)) := Sm.mk Nat.one_ne_zero)
  repeat' first
    | (refine Sm.mk ?_; try simp -dsimp only [ZK, rvc, drawF, headN, pureH, stp, dvc, calleeOf, gcall, pev, eff, newB, okd, og, ogs, ogo, ogp, slv, bltv, opd, litv, strip, one, both, putE, St.put, look, gdOf, gdv, picka, pickv, pickw, binv, bini, bins, binb, binp, binq, isSlT, bina, shp, eqCells, unv, convv, nilv, faddv, addp, idxav, idxp, load1, load1m, loadn, loadnm, loadv, hget, hset, hrep, hdel, slicev, bnd, shift1, lenv, capv, IntKind.bits, extractv, fieldv, indexv, min2v, max2v, mkiv, cellsA, fillA, buildv, stC, oneC, rowMB, intsA, plN, appE, appZ, appC, appNZ, appNC, VwL, srcC, srcZ, srcM, isBoolT, isPtrT, isSliceT, uOk, Value.oneCell', Nat.reducePow, Int.reducePow, Nat.reduceAdd, Nat.reduceMul, Nat.reduceSub, Nat.reduceLT, Nat.reduceLeDiff, Nat.reduceEqDiff, Nat.reduceBEq, Nat.reduceDiv, Nat.reduceMod, ↓reduceIte, reduceCtorEq, Int.reduceToNat, Int.reduceLT, Int.reduceLE, drawCF, xvc, xst, splitH, calleeV, putE, hdel, TFSpH, SeqQ, BlkQ, LoopQ, BodyQ, k, FR.out])
    | (refine WP.seq fun K hK => ?_)
    | (refine WP.region (rvc_sound _ _ (Sm.out ?_)))
    | (refine WP.drawC (c := 19) (ws := [16]) (ls := [5, 10, 14]) (bs := [b]) mixed (by decide +kernel) (by decide +kernel) (by decide +kernel) (Sm.out ?_))
    | (refine WP.drawC (c := 18) (ws := [12, 15]) (ls := [6]) (bs := [b]) mixed (by decide +kernel) (by decide +kernel) (by decide +kernel) (Sm.out ?_))
    | (refine WP.drawK rfl mixed (by decide +kernel) (Sm.out ?_))
    | (refine Ob.mk ?_; focus (first | assumption | omega | decide | trivial | (intro hob; simp only [hob, ZF]; done) | (intros; (repeat' refine And.intro ?_ ?_) <;> first | assumption | omega | trivial | decide) | (intros; simp only [ZE] at *; (repeat' refine And.intro ?_ ?_) <;> first | assumption | omega | trivial)))
    | (refine And.intro (Ob.out ?_) ?_)
    | (refine WP.block ?_)
    | (refine WP.cond rfl (fun hc => ?_) (fun hc => ?_) <;> (try simp only [ZC, reduceCtorEq, ZD] at hc) <;> (try (exact absurd hc (by decide))) <;> (try (exfalso; omega)))
    | ((first | refine WP.skip ?_ | refine WP.exit ?_); simp only [SeqQ, BlkQ, LoopQ, BodyQ, ↓reduceIte, Nat.reduceEqDiff, reduceCtorEq, look, true_and])
    | (refine WP.ret (Sm.out ?_))
    | (first | refine ExG.no (Sm.out ?_) | refine Or.inl (ExG.no (Sm.out ?_)) | refine Or.inl (And.intro (fun hg => absurd hg (by decide)) (ExG.no (Sm.out ?_))))
    | (refine Rt.mk ?_; refine And.intro ?_ ?_ <;> (intro hg; first | exact absurd hg (by decide) | refine Sm.out ?_))
    | (refine Nu.mk ?_; first | (fail_if_success (have := nb1)); intro nb1 | (fail_if_success (have := nb2)); intro nb2 | (fail_if_success (have := nb3)); intro nb3 | intro nbz)
    | (refine Fr.mk ?_; intro hfr; (first | (have hFRb : _ ≤ _ ∧ _ ≤ _ := And.intro hfr.1 hfr.2.1) | (have hFRb : _ ≤ _ := hfr.1) | skip); replace FR := Sm.mk (And.intro hfr FR.out); clear hfr; refine Sm.out ?_)
    | (refine Two.mk ?_ ?_)
    | (refine Cs.mk ?_; intro hcs; first | exact False.elim hcs | (exfalso; omega) | (refine Sm.out ?_))
    | go_step
    | omega
    | (simp only [maxLen_eq]; omega)
  (refine OutQ.upd (by simp only [resv, ZK, look, loadv, loadn, loadnm, load1, load1m, hget, ↓reduceIte, Nat.reduceEqDiff, Nat.reduceAdd, Nat.reduceMul, Nat.reduceLeDiff, Nat.reduceLT, reduceCtorEq, TFSpH, FR.out, e]) (by simp only [resv, resA, ZK, look, loadv, loadn, loadnm, load1, load1m, hget, ↓reduceIte, Nat.reduceEqDiff, Nat.reduceAdd, Nat.reduceMul, Nat.reduceLeDiff, Nat.reduceLT, reduceCtorEq, TFSpH, FR.out, e]; first | done | rfl) (by simp only [hget, ↓reduceIte, if_true, if_false, FR.out, e]; first | done | rfl) ?_ <;> first | exact rfl | (simp only [ZK, look, loadv, loadn, loadnm, load1, load1m, hget, ↓reduceIte, Nat.reduceEqDiff, Nat.reduceAdd, Nat.reduceMul, Nat.reduceLeDiff, Nat.reduceLT, reduceCtorEq, TFSpH, FR.out, e]; done) | skip)
theorem held_any (b : Nat) (s p : Int) (d : Bool) (L : ByteArray) (n : Int) : ACt Tryd.prog 26 [pt b 0, iv .i64 n] [(b, rdM s p d L .any)] (fun r F' => r = iv .i64 (hdV n) ∧ F' = [(b, rdM s p d L .any)]) := by
  by_cases h : n > 253402300799
  · have e : hdV n = 253402300800 := if_pos h
    have k : decide (n > 253402300799) = true := decide_eq_true h
    refine ACt.intro Tryd.func26 rfl (by kernel_rfl) (by simp [Tryd.ntmps26]) (fun cx => ?_)
    simp only [argE, Tryd.ntmps26, Tryd.results26]
    first | (have FRx := FR; clear FRx) | (have FR : Sm (¬ ((1 : Nat) = 0)) := Sm.mk Nat.one_ne_zero)
    repeat' first
      | (refine Sm.mk ?_; try simp -dsimp only [ZK, rvc, drawF, headN, pureH, stp, dvc, calleeOf, gcall, pev, eff, newB, okd, og, ogs, ogo, ogp, slv, bltv, opd, litv, strip, one, both, putE, St.put, look, gdOf, gdv, picka, pickv, pickw, binv, bini, bins, binb, binp, binq, isSlT, bina, shp, eqCells, unv, convv, nilv, faddv, addp, idxav, idxp, load1, load1m, loadn, loadnm, loadv, hget, hset, hrep, hdel, slicev, bnd, shift1, lenv, capv, IntKind.bits, extractv, fieldv, indexv, min2v, max2v, mkiv, cellsA, fillA, buildv, stC, oneC, rowMB, intsA, plN, appE, appZ, appC, appNZ, appNC, VwL, srcC, srcZ, srcM, isBoolT, isPtrT, isSliceT, uOk, Value.oneCell', Nat.reducePow, Int.reducePow, Nat.reduceAdd, Nat.reduceMul, Nat.reduceSub, Nat.reduceLT, Nat.reduceLeDiff, Nat.reduceEqDiff, Nat.reduceBEq, Nat.reduceDiv, Nat.reduceMod, ↓reduceIte, reduceCtorEq, Int.reduceToNat, Int.reduceLT, Int.reduceLE, drawCF, xvc, xst, splitH, calleeV, putE, hdel, TFSpH, SeqQ, BlkQ, LoopQ, BodyQ, k, FR.out])
      | (refine WP.seq fun K hK => ?_)
      | (refine WP.region (rvc_sound _ _ (Sm.out ?_)))
      | (refine WP.drawC (c := 19) (ws := [16]) (ls := [5, 10, 14]) (bs := [b]) mixed (by decide +kernel) (by decide +kernel) (by decide +kernel) (Sm.out ?_))
      | (refine WP.drawC (c := 18) (ws := [12, 15]) (ls := [6]) (bs := [b]) mixed (by decide +kernel) (by decide +kernel) (by decide +kernel) (Sm.out ?_))
      | (refine WP.drawK rfl mixed (by decide +kernel) (Sm.out ?_))
      | (refine Ob.mk ?_; focus (first | assumption | omega | decide | trivial | (intro hob; simp only [hob, ZF]; done) | (intros; (repeat' refine And.intro ?_ ?_) <;> first | assumption | omega | trivial | decide) | (intros; simp only [ZE] at *; (repeat' refine And.intro ?_ ?_) <;> first | assumption | omega | trivial)))
      | (refine And.intro (Ob.out ?_) ?_)
      | (refine WP.block ?_)
      | (refine WP.cond rfl (fun hc => ?_) (fun hc => ?_) <;> (try simp only [ZC, reduceCtorEq, ZD] at hc) <;> (try (exact absurd hc (by decide))) <;> (try (exfalso; omega)))
      | ((first | refine WP.skip ?_ | refine WP.exit ?_); simp only [SeqQ, BlkQ, LoopQ, BodyQ, ↓reduceIte, Nat.reduceEqDiff, reduceCtorEq, look, true_and])
      | (refine WP.ret (Sm.out ?_))
      | (first | refine ExG.no (Sm.out ?_) | refine Or.inl (ExG.no (Sm.out ?_)) | refine Or.inl (And.intro (fun hg => absurd hg (by decide)) (ExG.no (Sm.out ?_))))
      | (refine Rt.mk ?_; refine And.intro ?_ ?_ <;> (intro hg; first | exact absurd hg (by decide) | refine Sm.out ?_))
      | (refine Nu.mk ?_; first | (fail_if_success (have := nb1)); intro nb1 | (fail_if_success (have := nb2)); intro nb2 | (fail_if_success (have := nb3)); intro nb3 | intro nbz)
      | (refine Fr.mk ?_; intro hfr; (first | (have hFRb : _ ≤ _ ∧ _ ≤ _ := And.intro hfr.1 hfr.2.1) | (have hFRb : _ ≤ _ := hfr.1) | skip); replace FR := Sm.mk (And.intro hfr FR.out); clear hfr; refine Sm.out ?_)
      | (refine Two.mk ?_ ?_)
      | (refine Cs.mk ?_; intro hcs; first | exact False.elim hcs | (exfalso; omega) | (refine Sm.out ?_))
      | go_step
      | omega
      | (simp only [maxLen_eq]; omega)
    refine OutQ.wk (Wk.far (bv true)) ?_
    (refine OutQ.upd (by simp only [resv, ZK, look, loadv, loadn, loadnm, load1, load1m, hget, ↓reduceIte, Nat.reduceEqDiff, Nat.reduceAdd, Nat.reduceMul, Nat.reduceLeDiff, Nat.reduceLT, reduceCtorEq, TFSpH, FR.out, e]) (by simp only [resv, resA, ZK, look, loadv, loadn, loadnm, load1, load1m, hget, ↓reduceIte, Nat.reduceEqDiff, Nat.reduceAdd, Nat.reduceMul, Nat.reduceLeDiff, Nat.reduceLT, reduceCtorEq, TFSpH, FR.out, e]; first | done | rfl) (by simp only [hget, ↓reduceIte, if_true, if_false, FR.out, e]; first | done | rfl) ?_ <;> first | exact rfl | (simp only [ZK, look, loadv, loadn, loadnm, load1, load1m, hget, ↓reduceIte, Nat.reduceEqDiff, Nat.reduceAdd, Nat.reduceMul, Nat.reduceLeDiff, Nat.reduceLT, reduceCtorEq, TFSpH, FR.out, e]; done) | skip)
  · exact held_ok b s p d L .any n h
/-- the next reader, or that it can't stand there -/
structure RdS where
  s : Int
  p : Int
  d : Bool
  j : Nat
  f : Bool
abbrev uL (j : Nat) : List Int := uS.drop j
abbrev rdB (r : RdS) : MB := rdM r.s r.p r.d (bstr (uL r.j)) (bv r.f)
structure RdOk (r : RdS) : Prop where
  s0 : 0 ≤ r.s
  s1 : r.s ≤ 253402300800
  p0 : 0 ≤ r.p
  p1 : r.p ≤ 253402300800
  j : r.j ≤ 5
def tkD (r : RdS) (c : Int) : RdS := { r with p := hdV (r.p * 10 + (c - 48)), d := true, f := r.f || decide (r.p * 10 + (c - 48) > 253402300799) }
def tkU (r : RdS) (c : Int) (at' : Nat) : RdS :=
  { s := hdV (r.s + hdV (r.p * unitV c)), p := 0, d := false, j := r.j + at' + 1, f := r.f || decide (r.s + hdV (r.p * unitV c) > 253402300799) }
theorem take_dig (b : Nat) (r : RdS) (hr : RdOk r) (c : Int) (hc : 48 ≤ c ∧ c ≤ 57) : ACt Tryd.prog 21 [pt b 0, iv .i32 c] [(b, rdB r)] (fun q F' => q = bv true ∧ F' = [(b, rdB (tkD r c))]) := by
  obtain ⟨s, p, d, j, f⟩ := r
  obtain ⟨h1, h2, h3, h4, h5⟩ := hr
  simp only at h1 h2 h3 h4 h5
  unfold tkD rdB
  simp only
  obtain ⟨L, hL⟩ : ∃ L, L = bstr (uL j) := ⟨_, rfl⟩
  rw [← hL]
  have w1 : IntKind.i64.wrap (p * 10) = p * 10 := wrap_i64 (by omega) (by omega)
  have w2 : IntKind.i32.wrap (c - 48) = c - 48 := wrap_i32 (by omega) (by omega)
  have w3 : IntKind.i64.wrap (c - 48) = c - 48 := wrap_i64 (by omega) (by omega)
  obtain ⟨n, hn⟩ : ∃ n, n = p * 10 + (c - 48) := ⟨_, rfl⟩
  have w4 : IntKind.i64.wrap (p * 10 + (c - 48)) = n := by rw [wrap_i64 (by omega) (by omega), hn]
  rw [← hn]
  have k1 : decide (c ≥ 48) = true := decide_eq_true hc.1
  have k2 : decide (c ≤ 57) = true := decide_eq_true hc.2
  obtain ⟨x, hx⟩ : ∃ x, x = hdV n := ⟨_, rfl⟩
  by_cases hf : n > 253402300799
  · have cH := held_far b s p d L (bv f) n hf
    rw [← hx] at cH ⊢
    have e : (f || decide (n > 253402300799)) = true := by rw [decide_eq_true hf]; simp
    rw [e]
    refine ACt.intro Tryd.func21 rfl (by kernel_rfl) (by simp [Tryd.ntmps21]) (fun cx => ?_)
    simp only [argE, Tryd.ntmps21, Tryd.results21]
    first | (have FRx := FR; clear FRx) | (have FR : Sm (¬ ((1 : Nat) = 0)) := Sm.mk Nat.one_ne_zero)
    repeat' first
      | (refine Sm.mk ?_; try simp -dsimp only [ZK, rvc, drawF, headN, pureH, stp, dvc, calleeOf, gcall, pev, eff, newB, okd, og, ogs, ogo, ogp, slv, bltv, opd, litv, strip, one, both, putE, St.put, look, gdOf, gdv, picka, pickv, pickw, binv, bini, bins, binb, binp, binq, isSlT, bina, shp, eqCells, unv, convv, nilv, faddv, addp, idxav, idxp, load1, load1m, loadn, loadnm, loadv, hget, hset, hrep, hdel, slicev, bnd, shift1, lenv, capv, IntKind.bits, extractv, fieldv, indexv, min2v, max2v, mkiv, cellsA, fillA, buildv, stC, oneC, rowMB, intsA, plN, appE, appZ, appC, appNZ, appNC, VwL, srcC, srcZ, srcM, isBoolT, isPtrT, isSliceT, uOk, Value.oneCell', Nat.reducePow, Int.reducePow, Nat.reduceAdd, Nat.reduceMul, Nat.reduceSub, Nat.reduceLT, Nat.reduceLeDiff, Nat.reduceEqDiff, Nat.reduceBEq, Nat.reduceDiv, Nat.reduceMod, ↓reduceIte, reduceCtorEq, Int.reduceToNat, Int.reduceLT, Int.reduceLE, drawCF, xvc, xst, splitH, calleeV, putE, hdel, TFSpH, SeqQ, BlkQ, LoopQ, BodyQ, w1, w2, w3, w4, k1, k2, FR.out])
      | (refine CallV.upd (by simp only [hget, ↓reduceIte, FR.out, w1, w2, w3, w4, k1, k2]; first | done | rfl) (cH) (Sm.out ?_))
      | (refine WP.seq fun K hK => ?_)
      | (refine WP.region (rvc_sound _ _ (Sm.out ?_)))
      | (refine WP.drawC (c := 19) (ws := [16]) (ls := [5, 10, 14]) (bs := [b]) mixed (by decide +kernel) (by decide +kernel) (by decide +kernel) (Sm.out ?_))
      | (refine WP.drawC (c := 18) (ws := [12, 15]) (ls := [6]) (bs := [b]) mixed (by decide +kernel) (by decide +kernel) (by decide +kernel) (Sm.out ?_))
      | (refine WP.drawK rfl mixed (by decide +kernel) (Sm.out ?_))
      | (refine Ob.mk ?_; focus (first | assumption | omega | decide | trivial | (intro hob; simp only [hob, ZF]; done) | (intros; (repeat' refine And.intro ?_ ?_) <;> first | assumption | omega | trivial | decide) | (intros; simp only [ZE] at *; (repeat' refine And.intro ?_ ?_) <;> first | assumption | omega | trivial)))
      | (refine And.intro (Ob.out ?_) ?_)
      | (refine WP.block ?_)
      | (refine WP.cond rfl (fun hc => ?_) (fun hc => ?_) <;> (try simp only [ZC, reduceCtorEq, ZD] at hc) <;> (try (exact absurd hc (by decide))) <;> (try (exfalso; omega)))
      | ((first | refine WP.skip ?_ | refine WP.exit ?_); simp only [SeqQ, BlkQ, LoopQ, BodyQ, ↓reduceIte, Nat.reduceEqDiff, reduceCtorEq, look, true_and])
      | (refine WP.ret (Sm.out ?_))
      | (first | refine ExG.no (Sm.out ?_) | refine Or.inl (ExG.no (Sm.out ?_)) | refine Or.inl (And.intro (fun hg => absurd hg (by decide)) (ExG.no (Sm.out ?_))))
      | (refine Rt.mk ?_; refine And.intro ?_ ?_ <;> (intro hg; first | exact absurd hg (by decide) | refine Sm.out ?_))
      | (refine Nu.mk ?_; first | (fail_if_success (have := nb1)); intro nb1 | (fail_if_success (have := nb2)); intro nb2 | (fail_if_success (have := nb3)); intro nb3 | intro nbz)
      | (refine Fr.mk ?_; intro hfr; (first | (have hFRb : _ ≤ _ ∧ _ ≤ _ := And.intro hfr.1 hfr.2.1) | (have hFRb : _ ≤ _ := hfr.1) | skip); replace FR := Sm.mk (And.intro hfr FR.out); clear hfr; refine Sm.out ?_)
      | (refine Two.mk ?_ ?_)
      | (refine Cs.mk ?_; intro hcs; first | exact False.elim hcs | (exfalso; omega) | (refine Sm.out ?_))
      | go_step
      | omega
      | (simp only [maxLen_eq]; omega)
    (refine OutQ.upd (by simp only [resv, ZK, look, loadv, loadn, loadnm, load1, load1m, hget, ↓reduceIte, Nat.reduceEqDiff, Nat.reduceAdd, Nat.reduceMul, Nat.reduceLeDiff, Nat.reduceLT, reduceCtorEq, TFSpH, FR.out]) (by simp only [resv, resA, ZK, look, loadv, loadn, loadnm, load1, load1m, hget, ↓reduceIte, Nat.reduceEqDiff, Nat.reduceAdd, Nat.reduceMul, Nat.reduceLeDiff, Nat.reduceLT, reduceCtorEq, TFSpH, FR.out]; first | done | rfl) (by simp only [hget, ↓reduceIte, if_true, if_false, FR.out]; first | done | rfl) ?_ <;> first | exact rfl | (simp only [ZK, look, loadv, loadn, loadnm, load1, load1m, hget, ↓reduceIte, Nat.reduceEqDiff, Nat.reduceAdd, Nat.reduceMul, Nat.reduceLeDiff, Nat.reduceLT, reduceCtorEq, TFSpH, FR.out]; done) | skip)
  · have cH := held_ok b s p d L (bv f) n hf
    rw [← hx] at cH ⊢
    have e : (f || decide (n > 253402300799)) = f := by rw [decide_eq_false hf]; simp
    rw [e]
    refine ACt.intro Tryd.func21 rfl (by kernel_rfl) (by simp [Tryd.ntmps21]) (fun cx => ?_)
    simp only [argE, Tryd.ntmps21, Tryd.results21]
    first | (have FRx := FR; clear FRx) | (have FR : Sm (¬ ((1 : Nat) = 0)) := Sm.mk Nat.one_ne_zero)
    repeat' first
      | (refine Sm.mk ?_; try simp -dsimp only [ZK, rvc, drawF, headN, pureH, stp, dvc, calleeOf, gcall, pev, eff, newB, okd, og, ogs, ogo, ogp, slv, bltv, opd, litv, strip, one, both, putE, St.put, look, gdOf, gdv, picka, pickv, pickw, binv, bini, bins, binb, binp, binq, isSlT, bina, shp, eqCells, unv, convv, nilv, faddv, addp, idxav, idxp, load1, load1m, loadn, loadnm, loadv, hget, hset, hrep, hdel, slicev, bnd, shift1, lenv, capv, IntKind.bits, extractv, fieldv, indexv, min2v, max2v, mkiv, cellsA, fillA, buildv, stC, oneC, rowMB, intsA, plN, appE, appZ, appC, appNZ, appNC, VwL, srcC, srcZ, srcM, isBoolT, isPtrT, isSliceT, uOk, Value.oneCell', Nat.reducePow, Int.reducePow, Nat.reduceAdd, Nat.reduceMul, Nat.reduceSub, Nat.reduceLT, Nat.reduceLeDiff, Nat.reduceEqDiff, Nat.reduceBEq, Nat.reduceDiv, Nat.reduceMod, ↓reduceIte, reduceCtorEq, Int.reduceToNat, Int.reduceLT, Int.reduceLE, drawCF, xvc, xst, splitH, calleeV, putE, hdel, TFSpH, SeqQ, BlkQ, LoopQ, BodyQ, w1, w2, w3, w4, k1, k2, FR.out])
      | (refine CallV.updM (cH) (perm1 (by simp only [hget, hdel, ↓reduceIte, FR.out, w1, w2, w3, w4, k1, k2]; first | done | rfl)) (Sm.out ?_))
      | ((first | refine ExF.up ?_ (cH) (Sm.out ?_) | refine ExG.up ?_ (fun _ => cH) (Sm.out ?_) | refine ExG.upJ ?_ (fun _ => cH) (Sm.out ?_) | refine ExG.upI ?_ (fun _ => cH) (Ob.out ?_) (Sm.out ?_)); focus (exact ⟨_, (perm1 (by simp only [hget, hdel, ↓reduceIte, FR.out, w1, w2, w3, w4, k1, k2]; first | done | rfl))⟩))
      | (refine WP.seq fun K hK => ?_)
      | (refine WP.region (rvc_sound _ _ (Sm.out ?_)))
      | (refine WP.drawC (c := 19) (ws := [16]) (ls := [5, 10, 14]) (bs := [b]) mixed (by decide +kernel) (by decide +kernel) (by decide +kernel) (Sm.out ?_))
      | (refine WP.drawC (c := 18) (ws := [12, 15]) (ls := [6]) (bs := [b]) mixed (by decide +kernel) (by decide +kernel) (by decide +kernel) (Sm.out ?_))
      | (refine WP.drawK rfl mixed (by decide +kernel) (Sm.out ?_))
      | (refine Ob.mk ?_; focus (first | assumption | omega | decide | trivial | (intro hob; simp only [hob, ZF]; done) | (intros; (repeat' refine And.intro ?_ ?_) <;> first | assumption | omega | trivial | decide) | (intros; simp only [ZE] at *; (repeat' refine And.intro ?_ ?_) <;> first | assumption | omega | trivial)))
      | (refine And.intro (Ob.out ?_) ?_)
      | (refine WP.block ?_)
      | (refine WP.cond rfl (fun hc => ?_) (fun hc => ?_) <;> (try simp only [ZC, reduceCtorEq, ZD] at hc) <;> (try (exact absurd hc (by decide))) <;> (try (exfalso; omega)))
      | ((first | refine WP.skip ?_ | refine WP.exit ?_); simp only [SeqQ, BlkQ, LoopQ, BodyQ, ↓reduceIte, Nat.reduceEqDiff, reduceCtorEq, look, true_and])
      | (refine WP.ret (Sm.out ?_))
      | (first | refine ExG.no (Sm.out ?_) | refine Or.inl (ExG.no (Sm.out ?_)) | refine Or.inl (And.intro (fun hg => absurd hg (by decide)) (ExG.no (Sm.out ?_))))
      | (refine Rt.mk ?_; refine And.intro ?_ ?_ <;> (intro hg; first | exact absurd hg (by decide) | refine Sm.out ?_))
      | (refine Nu.mk ?_; first | (fail_if_success (have := nb1)); intro nb1 | (fail_if_success (have := nb2)); intro nb2 | (fail_if_success (have := nb3)); intro nb3 | intro nbz)
      | (refine Fr.mk ?_; intro hfr; (first | (have hFRb : _ ≤ _ ∧ _ ≤ _ := And.intro hfr.1 hfr.2.1) | (have hFRb : _ ≤ _ := hfr.1) | skip); replace FR := Sm.mk (And.intro hfr FR.out); clear hfr; refine Sm.out ?_)
      | (refine Two.mk ?_ ?_)
      | (refine Cs.mk ?_; intro hcs; first | exact False.elim hcs | (exfalso; omega) | (refine Sm.out ?_))
      | go_step
      | omega
      | (simp only [maxLen_eq]; omega)
    (refine OutQ.upd (by simp only [resv, ZK, look, loadv, loadn, loadnm, load1, load1m, hget, ↓reduceIte, Nat.reduceEqDiff, Nat.reduceAdd, Nat.reduceMul, Nat.reduceLeDiff, Nat.reduceLT, reduceCtorEq, TFSpH, FR.out]) (by simp only [resv, resA, ZK, look, loadv, loadn, loadnm, load1, load1m, hget, ↓reduceIte, Nat.reduceEqDiff, Nat.reduceAdd, Nat.reduceMul, Nat.reduceLeDiff, Nat.reduceLT, reduceCtorEq, TFSpH, FR.out]; first | done | rfl) (by simp only [hget, ↓reduceIte, if_true, if_false, FR.out]; first | done | rfl) ?_ <;> first | exact rfl | (simp only [ZK, look, loadv, loadn, loadnm, load1, load1m, hget, ↓reduceIte, Nat.reduceEqDiff, Nat.reduceAdd, Nat.reduceMul, Nat.reduceLeDiff, Nat.reduceLT, reduceCtorEq, TFSpH, FR.out]; done) | skip)
theorem uL_plain (j : Nat) : By (uL j) ∧ (∀ i, i < (uL j).length → (uL j).getD i 0 < 128) ∧ (uL j).length ≤ 1000 := by
  have h0 : By uS := by unfold By; decide +kernel
  have h1 : ∀ i, i < uS.length → uS.getD i 0 < 128 := by decide +kernel
  refine ⟨h0.drop j, fun i hi => ?_, by rw [List.length_drop]; have : uS.length = 5 := rfl; omega⟩
  rw [List.length_drop] at hi
  have := h1 (j + i) (by omega)
  simpa [List.getD_eq_getElem?_getD, List.getElem?_drop] using this
theorem take_no (b : Nat) (r : RdS) (c : Int) (hc : 0 ≤ c ∧ c < 2000000) (hn : ¬ (48 ≤ c ∧ c ≤ 57)) (h : ixR (uL r.j) c < 0 ∨ r.d = false) :
    ACt Tryd.prog 21 [pt b 0, iv .i32 c] [(b, rdB r)] (fun q F' => q = bv false ∧ F' = [(b, rdB r)]) := by
  obtain ⟨s, p, d, j, f⟩ := r
  obtain ⟨u1, u2, u3⟩ := uL_plain j
  have cX := ixr_ct (uL j) u1 u2 u3 c hc
  simp only at h
  unfold rdB
  simp only
  obtain ⟨x, hx⟩ : ∃ x, x = ixR (uL j) c := ⟨_, rfl⟩
  rw [← hx] at cX h
  obtain ⟨L, hL⟩ : ∃ L, L = bstr (uL j) := ⟨_, rfl⟩
  unfold stz at cX
  rw [← hL] at cX ⊢
  obtain ⟨k1, k2, b1, b2, hb⟩ : ∃ b1 b2 : Bool, decide (c ≥ 48) = b1 ∧ decide (c ≤ 57) = b2 ∧ (b1 = false ∨ b1 = true ∧ b2 = false) := by
    refine ⟨_, _, rfl, rfl, ?_⟩
    by_cases h : 48 ≤ c
    · exact .inr ⟨decide_eq_true h, decide_eq_false (by omega)⟩
    · exact .inl (decide_eq_false h)
  by_cases h0 : x < 0
  · have kx : decide (x < 0) = true := decide_eq_true h0
    rcases hb with rfl | ⟨rfl, rfl⟩
    all_goals
      refine ACt.intro Tryd.func21 rfl (by kernel_rfl) (by simp [Tryd.ntmps21]) (fun cx => ?_)
      simp only [argE, Tryd.ntmps21, Tryd.results21]
    all_goals (
        first | (have FRx := FR; clear FRx) | (have FR : Sm (¬ ((1 : Nat) = 0)) := Sm.mk Nat.one_ne_zero)
        repeat' first
          | (refine Sm.mk ?_; try simp -dsimp only [ZK, rvc, drawF, headN, pureH, stp, dvc, calleeOf, gcall, pev, eff, newB, okd, og, ogs, ogo, ogp, slv, bltv, opd, litv, strip, one, both, putE, St.put, look, gdOf, gdv, picka, pickv, pickw, binv, bini, bins, binb, binp, binq, isSlT, bina, shp, eqCells, unv, convv, nilv, faddv, addp, idxav, idxp, load1, load1m, loadn, loadnm, loadv, hget, hset, hrep, hdel, slicev, bnd, shift1, lenv, capv, IntKind.bits, extractv, fieldv, indexv, min2v, max2v, mkiv, cellsA, fillA, buildv, stC, oneC, rowMB, intsA, plN, appE, appZ, appC, appNZ, appNC, VwL, srcC, srcZ, srcM, isBoolT, isPtrT, isSliceT, uOk, Value.oneCell', Nat.reducePow, Int.reducePow, Nat.reduceAdd, Nat.reduceMul, Nat.reduceSub, Nat.reduceLT, Nat.reduceLeDiff, Nat.reduceEqDiff, Nat.reduceBEq, Nat.reduceDiv, Nat.reduceMod, ↓reduceIte, reduceCtorEq, Int.reduceToNat, Int.reduceLT, Int.reduceLE, drawCF, xvc, xst, splitH, calleeV, putE, hdel, TFSpH, SeqQ, BlkQ, LoopQ, BodyQ, b1, b2, kx, FR.out])
          | (first | refine CallV.fn (cX) (Sm.out ?_) | refine ExF.mk (cX) (Sm.out ?_) | refine ExG.mk (fun _ => cX) (Sm.out ?_) | refine ExG.mkJ (fun _ => cX) (Sm.out ?_) | refine ExG.mkI (Ob.out ?_) (fun _ => cX) (Sm.out ?_))
          | (refine WP.seq fun K hK => ?_)
          | (refine WP.region (rvc_sound _ _ (Sm.out ?_)))
          | (refine WP.drawC (c := 19) (ws := [16]) (ls := [5, 10, 14]) (bs := [b]) mixed (by decide +kernel) (by decide +kernel) (by decide +kernel) (Sm.out ?_))
          | (refine WP.drawC (c := 18) (ws := [12, 15]) (ls := [6]) (bs := [b]) mixed (by decide +kernel) (by decide +kernel) (by decide +kernel) (Sm.out ?_))
          | (refine WP.drawK rfl mixed (by decide +kernel) (Sm.out ?_))
          | (refine Ob.mk ?_; focus (first | assumption | omega | decide | trivial | (intro hob; simp only [hob, ZF]; done) | (intros; (repeat' refine And.intro ?_ ?_) <;> first | assumption | omega | trivial | decide) | (intros; simp only [ZE] at *; (repeat' refine And.intro ?_ ?_) <;> first | assumption | omega | trivial)))
          | (refine And.intro (Ob.out ?_) ?_)
          | (refine WP.block ?_)
          | (refine WP.cond rfl (fun hc => ?_) (fun hc => ?_) <;> (try simp only [ZC, reduceCtorEq, ZD] at hc) <;> (try (exact absurd hc (by decide))) <;> (try (exfalso; omega)))
          | ((first | refine WP.skip ?_ | refine WP.exit ?_); simp only [SeqQ, BlkQ, LoopQ, BodyQ, ↓reduceIte, Nat.reduceEqDiff, reduceCtorEq, look, true_and])
          | (refine WP.ret (Sm.out ?_))
          | (first | refine ExG.no (Sm.out ?_) | refine Or.inl (ExG.no (Sm.out ?_)) | refine Or.inl (And.intro (fun hg => absurd hg (by decide)) (ExG.no (Sm.out ?_))))
          | (refine Rt.mk ?_; refine And.intro ?_ ?_ <;> (intro hg; first | exact absurd hg (by decide) | refine Sm.out ?_))
          | (refine Nu.mk ?_; first | (fail_if_success (have := nb1)); intro nb1 | (fail_if_success (have := nb2)); intro nb2 | (fail_if_success (have := nb3)); intro nb3 | intro nbz)
          | (refine Fr.mk ?_; intro hfr; (first | (have hFRb : _ ≤ _ ∧ _ ≤ _ := And.intro hfr.1 hfr.2.1) | (have hFRb : _ ≤ _ := hfr.1) | skip); replace FR := Sm.mk (And.intro hfr FR.out); clear hfr; refine Sm.out ?_)
          | (refine Two.mk ?_ ?_)
          | (refine Cs.mk ?_; intro hcs; first | exact False.elim hcs | (exfalso; omega) | (refine Sm.out ?_))
          | go_step
          | omega
          | (simp only [maxLen_eq]; omega))
    all_goals (refine OutQ.upd (by simp only [resv, ZK, look, loadv, loadn, loadnm, load1, load1m, hget, ↓reduceIte, Nat.reduceEqDiff, Nat.reduceAdd, Nat.reduceMul, Nat.reduceLeDiff, Nat.reduceLT, reduceCtorEq, TFSpH, FR.out]) (by simp only [resv, resA, ZK, look, loadv, loadn, loadnm, load1, load1m, hget, ↓reduceIte, Nat.reduceEqDiff, Nat.reduceAdd, Nat.reduceMul, Nat.reduceLeDiff, Nat.reduceLT, reduceCtorEq, TFSpH, FR.out]; first | done | rfl) (by simp only [hget, ↓reduceIte, if_true, if_false, FR.out]; first | done | rfl) ?_ <;> first | exact rfl | (simp only [ZK, look, loadv, loadn, loadnm, load1, load1m, hget, ↓reduceIte, Nat.reduceEqDiff, Nat.reduceAdd, Nat.reduceMul, Nat.reduceLeDiff, Nat.reduceLT, reduceCtorEq, TFSpH, FR.out]; done) | skip)
  · have kx : decide (x < 0) = false := decide_eq_false h0
    have hd : d = false := by rcases h with h | h; exact absurd h h0; exact h
    subst hd
    rcases hb with rfl | ⟨rfl, rfl⟩
    all_goals
      refine ACt.intro Tryd.func21 rfl (by kernel_rfl) (by simp [Tryd.ntmps21]) (fun cx => ?_)
      simp only [argE, Tryd.ntmps21, Tryd.results21]
    all_goals (
        first | (have FRx := FR; clear FRx) | (have FR : Sm (¬ ((1 : Nat) = 0)) := Sm.mk Nat.one_ne_zero)
        repeat' first
          | (refine Sm.mk ?_; try simp -dsimp only [ZK, rvc, drawF, headN, pureH, stp, dvc, calleeOf, gcall, pev, eff, newB, okd, og, ogs, ogo, ogp, slv, bltv, opd, litv, strip, one, both, putE, St.put, look, gdOf, gdv, picka, pickv, pickw, binv, bini, bins, binb, binp, binq, isSlT, bina, shp, eqCells, unv, convv, nilv, faddv, addp, idxav, idxp, load1, load1m, loadn, loadnm, loadv, hget, hset, hrep, hdel, slicev, bnd, shift1, lenv, capv, IntKind.bits, extractv, fieldv, indexv, min2v, max2v, mkiv, cellsA, fillA, buildv, stC, oneC, rowMB, intsA, plN, appE, appZ, appC, appNZ, appNC, VwL, srcC, srcZ, srcM, isBoolT, isPtrT, isSliceT, uOk, Value.oneCell', Nat.reducePow, Int.reducePow, Nat.reduceAdd, Nat.reduceMul, Nat.reduceSub, Nat.reduceLT, Nat.reduceLeDiff, Nat.reduceEqDiff, Nat.reduceBEq, Nat.reduceDiv, Nat.reduceMod, ↓reduceIte, reduceCtorEq, Int.reduceToNat, Int.reduceLT, Int.reduceLE, drawCF, xvc, xst, splitH, calleeV, putE, hdel, TFSpH, SeqQ, BlkQ, LoopQ, BodyQ, b1, b2, kx, FR.out])
          | (first | refine CallV.fn (cX) (Sm.out ?_) | refine ExF.mk (cX) (Sm.out ?_) | refine ExG.mk (fun _ => cX) (Sm.out ?_) | refine ExG.mkJ (fun _ => cX) (Sm.out ?_) | refine ExG.mkI (Ob.out ?_) (fun _ => cX) (Sm.out ?_))
          | (refine WP.seq fun K hK => ?_)
          | (refine WP.region (rvc_sound _ _ (Sm.out ?_)))
          | (refine WP.drawC (c := 19) (ws := [16]) (ls := [5, 10, 14]) (bs := [b]) mixed (by decide +kernel) (by decide +kernel) (by decide +kernel) (Sm.out ?_))
          | (refine WP.drawC (c := 18) (ws := [12, 15]) (ls := [6]) (bs := [b]) mixed (by decide +kernel) (by decide +kernel) (by decide +kernel) (Sm.out ?_))
          | (refine WP.drawK rfl mixed (by decide +kernel) (Sm.out ?_))
          | (refine Ob.mk ?_; focus (first | assumption | omega | decide | trivial | (intro hob; simp only [hob, ZF]; done) | (intros; (repeat' refine And.intro ?_ ?_) <;> first | assumption | omega | trivial | decide) | (intros; simp only [ZE] at *; (repeat' refine And.intro ?_ ?_) <;> first | assumption | omega | trivial)))
          | (refine And.intro (Ob.out ?_) ?_)
          | (refine WP.block ?_)
          | (refine WP.cond rfl (fun hc => ?_) (fun hc => ?_) <;> (try simp only [ZC, reduceCtorEq, ZD] at hc) <;> (try (exact absurd hc (by decide))) <;> (try (exfalso; omega)))
          | ((first | refine WP.skip ?_ | refine WP.exit ?_); simp only [SeqQ, BlkQ, LoopQ, BodyQ, ↓reduceIte, Nat.reduceEqDiff, reduceCtorEq, look, true_and])
          | (refine WP.ret (Sm.out ?_))
          | (first | refine ExG.no (Sm.out ?_) | refine Or.inl (ExG.no (Sm.out ?_)) | refine Or.inl (And.intro (fun hg => absurd hg (by decide)) (ExG.no (Sm.out ?_))))
          | (refine Rt.mk ?_; refine And.intro ?_ ?_ <;> (intro hg; first | exact absurd hg (by decide) | refine Sm.out ?_))
          | (refine Nu.mk ?_; first | (fail_if_success (have := nb1)); intro nb1 | (fail_if_success (have := nb2)); intro nb2 | (fail_if_success (have := nb3)); intro nb3 | intro nbz)
          | (refine Fr.mk ?_; intro hfr; (first | (have hFRb : _ ≤ _ ∧ _ ≤ _ := And.intro hfr.1 hfr.2.1) | (have hFRb : _ ≤ _ := hfr.1) | skip); replace FR := Sm.mk (And.intro hfr FR.out); clear hfr; refine Sm.out ?_)
          | (refine Two.mk ?_ ?_)
          | (refine Cs.mk ?_; intro hcs; first | exact False.elim hcs | (exfalso; omega) | (refine Sm.out ?_))
          | go_step
          | omega
          | (simp only [maxLen_eq]; omega))
    all_goals (refine OutQ.upd (by simp only [resv, ZK, look, loadv, loadn, loadnm, load1, load1m, hget, ↓reduceIte, Nat.reduceEqDiff, Nat.reduceAdd, Nat.reduceMul, Nat.reduceLeDiff, Nat.reduceLT, reduceCtorEq, TFSpH, FR.out]) (by simp only [resv, resA, ZK, look, loadv, loadn, loadnm, load1, load1m, hget, ↓reduceIte, Nat.reduceEqDiff, Nat.reduceAdd, Nat.reduceMul, Nat.reduceLeDiff, Nat.reduceLT, reduceCtorEq, TFSpH, FR.out]; first | done | rfl) (by simp only [hget, ↓reduceIte, if_true, if_false, FR.out]; first | done | rfl) ?_ <;> first | exact rfl | (simp only [ZK, look, loadv, loadn, loadnm, load1, load1m, hget, ↓reduceIte, Nat.reduceEqDiff, Nat.reduceAdd, Nat.reduceMul, Nat.reduceLeDiff, Nat.reduceLT, reduceCtorEq, TFSpH, FR.out]; done) | skip)
theorem uL_drop (j k : Nat) : (uL j).drop k = uL (j + k) := by simp [uL]
theorem uL_len (j : Nat) : (uL j).length = 5 - j := by simp [uL]
set_option maxHeartbeats 4000000 in
theorem take_unit (b : Nat) (r : RdS) (hr : RdOk r) (c : Int) (hc : 0 ≤ c ∧ c < 128) (hn : ¬ (48 ≤ c ∧ c ≤ 57)) (k : Nat) (hk : r.j + k < 5) (h : ixR (uL r.j) c = (k : Int)) (hd : r.d = true) (hu : 1 ≤ unitV c ∧ unitV c ≤ 604800) :
    ACt Tryd.prog 21 [pt b 0, iv .i32 c] [(b, rdB r)] (fun q F' => q = bv true ∧ F' = [(b, rdB (tkU r c k))]) := by
  obtain ⟨s, p, d, j, f⟩ := r
  obtain ⟨h1, h2, h3, h4, h5⟩ := hr
  obtain ⟨u1, u2, u3⟩ := uL_plain j
  have cX := ixr_ct (uL j) u1 u2 u3 c (by omega)
  have cU := unit_ct c
  have hlen := uL_len j
  have hdr := uL_drop j (k + 1)
  simp only at h1 h2 h3 h4 h5 hk h hd
  subst hd
  rw [h] at cX
  unfold tkU rdB
  simp only
  rw [show j + k + 1 = j + (k + 1) by omega]
  have hx := bstr_ext (uL j) (k + 1) (uL j).length
  rw [List.take_length, hdr, hlen] at hx
  have hs := bstr_size (uL j)
  rw [hlen] at hs
  obtain ⟨L, hL⟩ : ∃ L, L = bstr (uL j) := ⟨_, rfl⟩
  obtain ⟨L2, hL2⟩ : ∃ L2, L2 = bstr (uL (j + (k + 1))) := ⟨_, rfl⟩
  unfold stz at cX
  rw [← hL] at cX hs hx ⊢
  rw [← hL2] at hx ⊢
  obtain ⟨z, hz⟩ : ∃ z, z = 5 - j := ⟨_, rfl⟩
  rw [← hz] at hs hx
  obtain ⟨u, hu0⟩ : ∃ u, u = unitV c := ⟨_, rfl⟩
  rw [← hu0] at cU hu ⊢
  have hpu : 0 ≤ p * u ∧ p * u ≤ 253402300800 * 604800 := ⟨Int.mul_nonneg h3 (by omega), Int.mul_le_mul h4 hu.2 (by omega) (by omega)⟩
  have w1 : IntKind.i64.wrap (p * u) = p * u := wrap_i64 (by omega) (by omega)
  obtain ⟨n1, hn1⟩ : ∃ n1, n1 = p * u := ⟨_, rfl⟩
  rw [← hn1] at w1 hpu ⊢
  have hx1 : 0 ≤ hdV n1 ∧ hdV n1 ≤ 253402300800 := by unfold hdV; split <;> omega
  obtain ⟨x1, ex1⟩ : ∃ x1, x1 = hdV n1 := ⟨_, rfl⟩
  rw [← ex1] at hx1 ⊢
  have w2 : IntKind.i64.wrap (s + x1) = s + x1 := wrap_i64 (by omega) (by omega)
  obtain ⟨n2, hn2⟩ : ∃ n2, n2 = s + x1 := ⟨_, rfl⟩
  rw [← hn2] at w2 ⊢
  have wn1 : p * u = n1 := hn1.symm
  have wn2 : s + x1 = n2 := hn2.symm
  have kx : decide ((k : Int) < 0) = false := decide_eq_false (by omega)
  have w3 : IntKind.i64.wrap ((k : Int) + 1) = ((k + 1 : Nat) : Int) := by rw [wrap_i64 (by omega) (by omega)]; omega
  have t1 : ∀ k : Nat, ((k : Nat) : Int).toNat = k := fun k => by omega
  have hkl : k + 1 ≤ z := by omega
  obtain ⟨b1, b2, q1, q2, hb⟩ : ∃ b1 b2 : Bool, decide (c ≥ 48) = b1 ∧ decide (c ≤ 57) = b2 ∧ (b1 = false ∨ b1 = true ∧ b2 = false) := by
    refine ⟨_, _, rfl, rfl, ?_⟩
    by_cases h : 48 ≤ c
    · exact .inr ⟨decide_eq_true h, decide_eq_false (by omega)⟩
    · exact .inl (decide_eq_false h)
  by_cases hA : n1 > 253402300799
  · have e1 : x1 = 253402300800 := by rw [ex1]; exact if_pos hA
    have hB : n2 > 253402300799 := by omega
    have cH1 := held_any b s p true L n1
    have cH2 := held_far b s p true L .any n2 hB
    rw [← ex1] at cH1
    have ef : (f || decide (n2 > 253402300799)) = true := by rw [decide_eq_true hB]; simp
    rw [ef]
    obtain ⟨x2, ex2⟩ : ∃ x2, x2 = hdV n2 := ⟨_, rfl⟩
    rw [← ex2] at cH2 ⊢
    clear ex1 e1
    rcases hb with rfl | ⟨rfl, rfl⟩
    all_goals
      refine ACt.intro Tryd.func21 rfl (by kernel_rfl) (by simp [Tryd.ntmps21]) (fun cx => ?_)
      simp only [argE, Tryd.ntmps21, Tryd.results21]
    all_goals (
        first | (have FRx := FR; clear FRx) | (have FR : Sm (¬ ((1 : Nat) = 0)) := Sm.mk Nat.one_ne_zero)
        repeat' first
          | (refine Sm.mk ?_; try simp -dsimp only [ZK, rvc, drawF, headN, pureH, stp, dvc, calleeOf, gcall, pev, eff, newB, okd, og, ogs, ogo, ogp, slv, bltv, opd, litv, strip, one, both, putE, St.put, look, gdOf, gdv, picka, pickv, pickw, binv, bini, bins, binb, binp, binq, isSlT, bina, shp, eqCells, unv, convv, nilv, faddv, addp, idxav, idxp, load1, load1m, loadn, loadnm, loadv, hget, hset, hrep, hdel, slicev, bnd, shift1, lenv, capv, IntKind.bits, extractv, fieldv, indexv, min2v, max2v, mkiv, cellsA, fillA, buildv, stC, oneC, rowMB, intsA, plN, appE, appZ, appC, appNZ, appNC, VwL, srcC, srcZ, srcM, isBoolT, isPtrT, isSliceT, uOk, Value.oneCell', Nat.reducePow, Int.reducePow, Nat.reduceAdd, Nat.reduceMul, Nat.reduceSub, Nat.reduceLT, Nat.reduceLeDiff, Nat.reduceEqDiff, Nat.reduceBEq, Nat.reduceDiv, Nat.reduceMod, ↓reduceIte, reduceCtorEq, Int.reduceToNat, Int.reduceLT, Int.reduceLE, drawCF, xvc, xst, splitH, calleeV, putE, hdel, TFSpH, SeqQ, BlkQ, LoopQ, BodyQ, q1, q2, kx, FR.out])
          | (first | refine CallV.fn (cX) (Sm.out ?_) | refine ExF.mk (cX) (Sm.out ?_) | refine ExG.mk (fun _ => cX) (Sm.out ?_) | refine ExG.mkJ (fun _ => cX) (Sm.out ?_) | refine ExG.mkI (Ob.out ?_) (fun _ => cX) (Sm.out ?_))
          | (refine WP.seq fun K hK => ?_)
          | ((fail_if_success (show WP _ _ _ (.region 7 _ _) _ _)); refine WP.region (rvc_sound _ _ (Sm.out ?_)))
          | ((fail_if_success (show WP _ _ _ (.region 7 _ _) _ _)); refine WP.drawC (c := 19) (ws := [16]) (ls := [5, 10, 14]) (bs := [b]) mixed (by decide +kernel) (by decide +kernel) (by decide +kernel) (Sm.out ?_))
          | ((fail_if_success (show WP _ _ _ (.region 7 _ _) _ _)); refine WP.drawC (c := 18) (ws := [12, 15]) (ls := [6]) (bs := [b]) mixed (by decide +kernel) (by decide +kernel) (by decide +kernel) (Sm.out ?_))
          | ((fail_if_success (show WP _ _ _ (.region 7 _ _) _ _)); refine WP.drawK rfl mixed (by decide +kernel) (Sm.out ?_))
          | (refine Ob.mk ?_; focus (first | assumption | omega | decide | trivial | (intro hob; simp only [hob, ZF]; done) | (intros; (repeat' refine And.intro ?_ ?_) <;> first | assumption | omega | trivial | decide) | (intros; simp only [ZE] at *; (repeat' refine And.intro ?_ ?_) <;> first | assumption | omega | trivial)))
          | (refine And.intro (Ob.out ?_) ?_)
          | (refine WP.block ?_)
          | (refine WP.cond rfl (fun hc => ?_) (fun hc => ?_) <;> (try simp only [ZC, reduceCtorEq, ZD] at hc) <;> (try (exact absurd hc (by decide))) <;> (try (exfalso; omega)))
          | ((first | refine WP.skip ?_ | refine WP.exit ?_); simp only [SeqQ, BlkQ, LoopQ, BodyQ, ↓reduceIte, Nat.reduceEqDiff, reduceCtorEq, look, true_and])
          | (refine WP.ret (Sm.out ?_))
          | (first | refine ExG.no (Sm.out ?_) | refine Or.inl (ExG.no (Sm.out ?_)) | refine Or.inl (And.intro (fun hg => absurd hg (by decide)) (ExG.no (Sm.out ?_))))
          | (refine Rt.mk ?_; refine And.intro ?_ ?_ <;> (intro hg; first | exact absurd hg (by decide) | refine Sm.out ?_))
          | (refine Nu.mk ?_; first | (fail_if_success (have := nb1)); intro nb1 | (fail_if_success (have := nb2)); intro nb2 | (fail_if_success (have := nb3)); intro nb3 | intro nbz)
          | (refine Fr.mk ?_; intro hfr; (first | (have hFRb : _ ≤ _ ∧ _ ≤ _ := And.intro hfr.1 hfr.2.1) | (have hFRb : _ ≤ _ := hfr.1) | skip); replace FR := Sm.mk (And.intro hfr FR.out); clear hfr; refine Sm.out ?_)
          | (refine Two.mk ?_ ?_)
          | (refine Cs.mk ?_; intro hcs; first | exact False.elim hcs | (exfalso; omega) | (refine Sm.out ?_))
          | go_step
          | omega
          | (simp only [maxLen_eq]; omega))
    all_goals refine WP.wk (Wk.far (bv f)) ?_
    all_goals (
        first | (have FRx := FR; clear FRx) | (have FR : Sm (¬ ((1 : Nat) = 0)) := Sm.mk Nat.one_ne_zero)
        repeat' first
          | (refine Sm.mk ?_; try simp -dsimp only [ZK, rvc, drawF, headN, pureH, stp, dvc, calleeOf, gcall, pev, eff, newB, okd, og, ogs, ogo, ogp, slv, bltv, opd, litv, strip, one, both, putE, St.put, look, gdOf, gdv, picka, pickv, pickw, binv, bini, bins, binb, binp, binq, isSlT, bina, shp, eqCells, unv, convv, nilv, faddv, addp, idxav, idxp, load1, load1m, loadn, loadnm, loadv, hget, hset, hrep, hdel, slicev, bnd, shift1, lenv, capv, IntKind.bits, extractv, fieldv, indexv, min2v, max2v, mkiv, cellsA, fillA, buildv, stC, oneC, rowMB, intsA, plN, appE, appZ, appC, appNZ, appNC, VwL, srcC, srcZ, srcM, isBoolT, isPtrT, isSliceT, uOk, Value.oneCell', Nat.reducePow, Int.reducePow, Nat.reduceAdd, Nat.reduceMul, Nat.reduceSub, Nat.reduceLT, Nat.reduceLeDiff, Nat.reduceEqDiff, Nat.reduceBEq, Nat.reduceDiv, Nat.reduceMod, ↓reduceIte, reduceCtorEq, Int.reduceToNat, Int.reduceLT, Int.reduceLE, drawCF, xvc, xst, splitH, calleeV, putE, hdel, TFSpH, SeqQ, BlkQ, LoopQ, BodyQ, wn1, wn2, w1, w2, w3, t1, hs, hx, hkl, hdel, FR.out])
          | (first | refine CallV.fn (cU) (Sm.out ?_) | refine ExF.mk (cU) (Sm.out ?_) | refine ExG.mk (fun _ => cU) (Sm.out ?_) | refine ExG.mkJ (fun _ => cU) (Sm.out ?_) | refine ExG.mkI (Ob.out ?_) (fun _ => cU) (Sm.out ?_))
          | (refine CallV.updM (cH1) (perm1 (by simp only [hget, hdel, ↓reduceIte, FR.out, wn1, wn2, w1, w2, w3, t1, hs, hx, hkl, hdel]; first | done | rfl)) (Sm.out ?_))
          | ((first | refine ExF.up ?_ (cH1) (Sm.out ?_) | refine ExG.up ?_ (fun _ => cH1) (Sm.out ?_) | refine ExG.upJ ?_ (fun _ => cH1) (Sm.out ?_) | refine ExG.upI ?_ (fun _ => cH1) (Ob.out ?_) (Sm.out ?_)); focus (exact ⟨_, (perm1 (by simp only [hget, hdel, ↓reduceIte, FR.out, wn1, wn2, w1, w2, w3, t1, hs, hx, hkl, hdel]; first | done | rfl))⟩))
          | (refine CallV.updM (cH2) (perm1 (by simp only [hget, hdel, ↓reduceIte, FR.out, wn1, wn2, w1, w2, w3, t1, hs, hx, hkl, hdel]; first | done | rfl)) (Sm.out ?_))
          | (refine ExW.mk (perm1 (by simp only [hget, hdel, ↓reduceIte, FR.out, wn1, wn2, w1, w2, w3, t1, hs, hx, hkl, hdel]; first | done | rfl)) (cH2) rfl (Sm.out ?_))
          | (refine WP.seq fun K hK => ?_)
          | (refine WP.region (rvc_sound _ _ (Sm.out ?_)))
          | (refine WP.drawC (c := 19) (ws := [16]) (ls := [5, 10, 14]) (bs := [b]) mixed (by decide +kernel) (by decide +kernel) (by decide +kernel) (Sm.out ?_))
          | (refine WP.drawC (c := 18) (ws := [12, 15]) (ls := [6]) (bs := [b]) mixed (by decide +kernel) (by decide +kernel) (by decide +kernel) (Sm.out ?_))
          | (refine WP.drawK rfl mixed (by decide +kernel) (Sm.out ?_))
          | (refine Ob.mk ?_; focus (first | assumption | omega | decide | trivial | (intro hob; simp only [hob, ZF]; done) | (intros; (repeat' refine And.intro ?_ ?_) <;> first | assumption | omega | trivial | decide) | (intros; simp only [ZE] at *; (repeat' refine And.intro ?_ ?_) <;> first | assumption | omega | trivial)))
          | (refine And.intro (Ob.out ?_) ?_)
          | (refine WP.block ?_)
          | (refine WP.cond rfl (fun hc => ?_) (fun hc => ?_) <;> (try simp only [ZC, reduceCtorEq, ZD] at hc) <;> (try (exact absurd hc (by decide))) <;> (try (exfalso; omega)))
          | ((first | refine WP.skip ?_ | refine WP.exit ?_); simp only [SeqQ, BlkQ, LoopQ, BodyQ, ↓reduceIte, Nat.reduceEqDiff, reduceCtorEq, look, true_and])
          | (refine WP.ret (Sm.out ?_))
          | (first | refine ExG.no (Sm.out ?_) | refine Or.inl (ExG.no (Sm.out ?_)) | refine Or.inl (And.intro (fun hg => absurd hg (by decide)) (ExG.no (Sm.out ?_))))
          | (refine Rt.mk ?_; refine And.intro ?_ ?_ <;> (intro hg; first | exact absurd hg (by decide) | refine Sm.out ?_))
          | (refine Nu.mk ?_; first | (fail_if_success (have := nb1)); intro nb1 | (fail_if_success (have := nb2)); intro nb2 | (fail_if_success (have := nb3)); intro nb3 | intro nbz)
          | (refine Fr.mk ?_; intro hfr; (first | (have hFRb : _ ≤ _ ∧ _ ≤ _ := And.intro hfr.1 hfr.2.1) | (have hFRb : _ ≤ _ := hfr.1) | skip); replace FR := Sm.mk (And.intro hfr FR.out); clear hfr; refine Sm.out ?_)
          | (refine Two.mk ?_ ?_)
          | (refine Cs.mk ?_; intro hcs; first | exact False.elim hcs | (exfalso; omega) | (refine Sm.out ?_))
          | go_step
          | omega
          | (simp only [maxLen_eq]; omega))
    all_goals (refine OutQ.upd (by simp only [resv, ZK, look, loadv, loadn, loadnm, load1, load1m, hget, ↓reduceIte, Nat.reduceEqDiff, Nat.reduceAdd, Nat.reduceMul, Nat.reduceLeDiff, Nat.reduceLT, reduceCtorEq, TFSpH, FR.out, hx]) (by simp only [resv, resA, ZK, look, loadv, loadn, loadnm, load1, load1m, hget, ↓reduceIte, Nat.reduceEqDiff, Nat.reduceAdd, Nat.reduceMul, Nat.reduceLeDiff, Nat.reduceLT, reduceCtorEq, TFSpH, FR.out, hx]; first | done | rfl) (by simp only [hget, ↓reduceIte, if_true, if_false, FR.out, hx]; first | done | rfl) ?_ <;> first | exact rfl | (simp only [ZK, look, loadv, loadn, loadnm, load1, load1m, hget, ↓reduceIte, Nat.reduceEqDiff, Nat.reduceAdd, Nat.reduceMul, Nat.reduceLeDiff, Nat.reduceLT, reduceCtorEq, TFSpH, FR.out, hx]; done) | skip)
  · have cH1 := held_ok b s p true L (bv f) n1 hA
    rw [← ex1] at cH1
    have hC : ∃ f', (f || decide (n2 > 253402300799)) = f' ∧ ACt Tryd.prog 26 [pt b 0, iv .i64 n2] [(b, rdM s p true L (bv f))] (fun r F' => r = iv .i64 (hdV n2) ∧ F' = [(b, rdM s p true L (bv f'))]) := by
      by_cases hB : n2 > 253402300799
      · exact ⟨true, by rw [decide_eq_true hB]; simp, held_far b s p true L (bv f) n2 hB⟩
      · exact ⟨f, by rw [decide_eq_false hB]; simp, held_ok b s p true L (bv f) n2 hB⟩
    obtain ⟨f', ef, cH2⟩ := hC
    rw [ef]
    obtain ⟨x2, ex2⟩ : ∃ x2, x2 = hdV n2 := ⟨_, rfl⟩
    rw [← ex2] at cH2 ⊢
    clear ex1
    rcases hb with rfl | ⟨rfl, rfl⟩
    all_goals
      refine ACt.intro Tryd.func21 rfl (by kernel_rfl) (by simp [Tryd.ntmps21]) (fun cx => ?_)
      simp only [argE, Tryd.ntmps21, Tryd.results21]
    all_goals (
        first | (have FRx := FR; clear FRx) | (have FR : Sm (¬ ((1 : Nat) = 0)) := Sm.mk Nat.one_ne_zero)
        repeat' first
          | (refine Sm.mk ?_; try simp -dsimp only [ZK, rvc, drawF, headN, pureH, stp, dvc, calleeOf, gcall, pev, eff, newB, okd, og, ogs, ogo, ogp, slv, bltv, opd, litv, strip, one, both, putE, St.put, look, gdOf, gdv, picka, pickv, pickw, binv, bini, bins, binb, binp, binq, isSlT, bina, shp, eqCells, unv, convv, nilv, faddv, addp, idxav, idxp, load1, load1m, loadn, loadnm, loadv, hget, hset, hrep, hdel, slicev, bnd, shift1, lenv, capv, IntKind.bits, extractv, fieldv, indexv, min2v, max2v, mkiv, cellsA, fillA, buildv, stC, oneC, rowMB, intsA, plN, appE, appZ, appC, appNZ, appNC, VwL, srcC, srcZ, srcM, isBoolT, isPtrT, isSliceT, uOk, Value.oneCell', Nat.reducePow, Int.reducePow, Nat.reduceAdd, Nat.reduceMul, Nat.reduceSub, Nat.reduceLT, Nat.reduceLeDiff, Nat.reduceEqDiff, Nat.reduceBEq, Nat.reduceDiv, Nat.reduceMod, ↓reduceIte, reduceCtorEq, Int.reduceToNat, Int.reduceLT, Int.reduceLE, drawCF, xvc, xst, splitH, calleeV, putE, hdel, TFSpH, SeqQ, BlkQ, LoopQ, BodyQ, q1, q2, kx, wn1, wn2, w1, w2, w3, t1, hs, hx, hkl, hdel, FR.out])
          | (first | refine CallV.fn (cX) (Sm.out ?_) | refine ExF.mk (cX) (Sm.out ?_) | refine ExG.mk (fun _ => cX) (Sm.out ?_) | refine ExG.mkJ (fun _ => cX) (Sm.out ?_) | refine ExG.mkI (Ob.out ?_) (fun _ => cX) (Sm.out ?_))
          | (first | refine CallV.fn (cU) (Sm.out ?_) | refine ExF.mk (cU) (Sm.out ?_) | refine ExG.mk (fun _ => cU) (Sm.out ?_) | refine ExG.mkJ (fun _ => cU) (Sm.out ?_) | refine ExG.mkI (Ob.out ?_) (fun _ => cU) (Sm.out ?_))
          | (refine CallV.updM (cH1) (perm1 (by simp only [hget, hdel, ↓reduceIte, FR.out, q1, q2, kx, wn1, wn2, w1, w2, w3, t1, hs, hx, hkl, hdel]; first | done | rfl)) (Sm.out ?_))
          | ((first | refine ExF.up ?_ (cH1) (Sm.out ?_) | refine ExG.up ?_ (fun _ => cH1) (Sm.out ?_) | refine ExG.upJ ?_ (fun _ => cH1) (Sm.out ?_) | refine ExG.upI ?_ (fun _ => cH1) (Ob.out ?_) (Sm.out ?_)); focus (exact ⟨_, (perm1 (by simp only [hget, hdel, ↓reduceIte, FR.out, q1, q2, kx, wn1, wn2, w1, w2, w3, t1, hs, hx, hkl, hdel]; first | done | rfl))⟩))
          | (refine CallV.updM (cH2) (perm1 (by simp only [hget, hdel, ↓reduceIte, FR.out, q1, q2, kx, wn1, wn2, w1, w2, w3, t1, hs, hx, hkl, hdel]; first | done | rfl)) (Sm.out ?_))
          | (refine ExW.mk (perm1 (by simp only [hget, hdel, ↓reduceIte, FR.out, q1, q2, kx, wn1, wn2, w1, w2, w3, t1, hs, hx, hkl, hdel]; first | done | rfl)) (cH2) rfl (Sm.out ?_))
          | (refine WP.seq fun K hK => ?_)
          | (refine WP.region (rvc_sound _ _ (Sm.out ?_)))
          | (refine WP.drawC (c := 19) (ws := [16]) (ls := [5, 10, 14]) (bs := [b]) mixed (by decide +kernel) (by decide +kernel) (by decide +kernel) (Sm.out ?_))
          | (refine WP.drawC (c := 18) (ws := [12, 15]) (ls := [6]) (bs := [b]) mixed (by decide +kernel) (by decide +kernel) (by decide +kernel) (Sm.out ?_))
          | (refine WP.drawK rfl mixed (by decide +kernel) (Sm.out ?_))
          | (refine Ob.mk ?_; focus (first | assumption | omega | decide | trivial | (intro hob; simp only [hob, ZF]; done) | (intros; (repeat' refine And.intro ?_ ?_) <;> first | assumption | omega | trivial | decide) | (intros; simp only [ZE] at *; (repeat' refine And.intro ?_ ?_) <;> first | assumption | omega | trivial)))
          | (refine And.intro (Ob.out ?_) ?_)
          | (refine WP.block ?_)
          | (refine WP.cond rfl (fun hc => ?_) (fun hc => ?_) <;> (try simp only [ZC, reduceCtorEq, ZD] at hc) <;> (try (exact absurd hc (by decide))) <;> (try (exfalso; omega)))
          | ((first | refine WP.skip ?_ | refine WP.exit ?_); simp only [SeqQ, BlkQ, LoopQ, BodyQ, ↓reduceIte, Nat.reduceEqDiff, reduceCtorEq, look, true_and])
          | (refine WP.ret (Sm.out ?_))
          | (first | refine ExG.no (Sm.out ?_) | refine Or.inl (ExG.no (Sm.out ?_)) | refine Or.inl (And.intro (fun hg => absurd hg (by decide)) (ExG.no (Sm.out ?_))))
          | (refine Rt.mk ?_; refine And.intro ?_ ?_ <;> (intro hg; first | exact absurd hg (by decide) | refine Sm.out ?_))
          | (refine Nu.mk ?_; first | (fail_if_success (have := nb1)); intro nb1 | (fail_if_success (have := nb2)); intro nb2 | (fail_if_success (have := nb3)); intro nb3 | intro nbz)
          | (refine Fr.mk ?_; intro hfr; (first | (have hFRb : _ ≤ _ ∧ _ ≤ _ := And.intro hfr.1 hfr.2.1) | (have hFRb : _ ≤ _ := hfr.1) | skip); replace FR := Sm.mk (And.intro hfr FR.out); clear hfr; refine Sm.out ?_)
          | (refine Two.mk ?_ ?_)
          | (refine Cs.mk ?_; intro hcs; first | exact False.elim hcs | (exfalso; omega) | (refine Sm.out ?_))
          | go_step
          | omega
          | (simp only [maxLen_eq]; omega))
    all_goals (refine OutQ.upd (by simp only [resv, ZK, look, loadv, loadn, loadnm, load1, load1m, hget, ↓reduceIte, Nat.reduceEqDiff, Nat.reduceAdd, Nat.reduceMul, Nat.reduceLeDiff, Nat.reduceLT, reduceCtorEq, TFSpH, FR.out, hx]) (by simp only [resv, resA, ZK, look, loadv, loadn, loadnm, load1, load1m, hget, ↓reduceIte, Nat.reduceEqDiff, Nat.reduceAdd, Nat.reduceMul, Nat.reduceLeDiff, Nat.reduceLT, reduceCtorEq, TFSpH, FR.out, hx]; first | done | rfl) (by simp only [hget, ↓reduceIte, if_true, if_false, FR.out, hx]; first | done | rfl) ?_ <;> first | exact rfl | (simp only [ZK, look, loadv, loadn, loadnm, load1, load1m, hget, ↓reduceIte, Nat.reduceEqDiff, Nat.reduceAdd, Nat.reduceMul, Nat.reduceLeDiff, Nat.reduceLT, reduceCtorEq, TFSpH, FR.out, hx]; done) | skip)
end Go.Proofs.YtdfkpnkohikcgaaDoor
namespace Go.Proofs.YtdfkpnkohikcgaaDoor
open Go
set_option linter.unusedVariables false
set_option linter.unusedSimpArgs false
theorem TFSpI : ((((((type_of% tyc0) ∧ (type_of% tyc2)) ∧ ((type_of% zmb2) ∧ (type_of% tyc4))) ∧ (((type_of% zmb4) ∧ (type_of% tyc9)) ∧ ((type_of% zmb9) ∧ ((type_of% tyc21) ∧ (type_of% zmb21))))) ∧ ((((type_of% tyc24) ∧ (type_of% zmb24)) ∧ ((type_of% tyc45) ∧ ((type_of% mth45_26) ∧ (type_of% mth45_21)))) ∧ (((type_of% con45) ∧ (type_of% zmb45)) ∧ ((type_of% tyc47) ∧ ((type_of% foff47_0) ∧ (type_of% fpart47_0)))))) ∧ (((((type_of% foff47_1) ∧ (type_of% fpart47_1)) ∧ ((type_of% foff47_2) ∧ (type_of% fpart47_2))) ∧ (((type_of% foff47_3) ∧ (type_of% fpart47_3)) ∧ ((type_of% foff47_4) ∧ ((type_of% fpart47_4) ∧ (type_of% fe47))))) ∧ ((((type_of% zmb47) ∧ (type_of% bldT47)) ∧ ((type_of% Tryd.underlying0) ∧ ((type_of% Tryd.underlying2) ∧ (type_of% Tryd.underlying4)))) ∧ (((type_of% Tryd.underlying9) ∧ (type_of% Tryd.underlying21)) ∧ ((type_of% Tryd.underlying24) ∧ ((type_of% Tryd.underlying45) ∧ (type_of% Tryd.underlying47))))))) :=
  ⟨⟨⟨⟨⟨tyc0, tyc2⟩, ⟨zmb2, tyc4⟩⟩, ⟨⟨zmb4, tyc9⟩, ⟨zmb9, ⟨tyc21, zmb21⟩⟩⟩⟩, ⟨⟨⟨tyc24, zmb24⟩, ⟨tyc45, ⟨mth45_26, mth45_21⟩⟩⟩, ⟨⟨con45, zmb45⟩, ⟨tyc47, ⟨foff47_0, fpart47_0⟩⟩⟩⟩⟩, ⟨⟨⟨⟨foff47_1, fpart47_1⟩, ⟨foff47_2, fpart47_2⟩⟩, ⟨⟨foff47_3, fpart47_3⟩, ⟨foff47_4, ⟨fpart47_4, fe47⟩⟩⟩⟩, ⟨⟨⟨zmb47, bldT47⟩, ⟨Tryd.underlying0, ⟨Tryd.underlying2, Tryd.underlying4⟩⟩⟩, ⟨⟨Tryd.underlying9, Tryd.underlying21⟩, ⟨Tryd.underlying24, ⟨Tryd.underlying45, Tryd.underlying47⟩⟩⟩⟩⟩⟩
/-- a rune taken: the next reader, or none -/
def stepR (r : RdS) (c : Int) : Option RdS :=
  if 48 ≤ c ∧ c ≤ 57 then some (tkD r c) else if c < 128 ∧ ixN (uL r.j) c < (uL r.j).length ∧ r.d = true then some (tkU r c (ixN (uL r.j) c)) else none
def runR : RdS → List Int → Option RdS
  | r, [] => some r
  | r, c :: t => (stepR r c).bind fun r' => runR r' t
theorem runR_cons (r : RdS) (c : Int) (t : List Int) : runR r (c :: t) = (stepR r c).bind fun r' => runR r' t := rfl
def r0 : RdS := ⟨0, 0, false, 0, false⟩
abbrev sbad (c : Int) : AV := .tup [iv .i64 0, iv .i64 c]
abbrev sgood (n : Int) : AV := .tup [iv .i64 n, iv .i64 0]
/-- what is told of a text -/
def finR (zs : List Int) : Option RdS → AV
  | none => sbad 5
  | some r => if zs = [] ∨ r.d = true then sbad 5 else if r.f = true then sbad 8 else sgood r.s
def rdS (zs : List Int) : AV := finR zs (runR r0 zs)
theorem ixN_get (c : Int) : ∀ zs : List Int, ixN zs c < zs.length → zs.getD (ixN zs c) 0 = c := by
  intro zs
  induction zs with
  | nil => intro h; exact absurd h (Nat.not_lt_zero _)
  | cons x r ih =>
    intro h
    rw [ixN_cons] at h ⊢
    by_cases hx : x = c
    · rw [if_pos hx]; simpa using hx
    · rw [if_neg hx] at h ⊢
      have := ih (by simpa using h)
      simpa using this
theorem u_vals : ∀ i, i < 5 → 1 ≤ unitV (uS.getD i 0) ∧ unitV (uS.getD i 0) ≤ 604800 ∧ 57 < uS.getD i 0 := by decide +kernel
theorem unit_in {j : Nat} {c : Int} (h : ixN (uL j) c < (uL j).length) : j + ixN (uL j) c < 5 ∧ (1 ≤ unitV c ∧ unitV c ≤ 604800) ∧ 57 < c := by
  have h1 := ixN_get c _ h
  rw [uL_len] at h
  have e : (uL j).getD (ixN (uL j) c) 0 = uS.getD (j + ixN (uL j) c) 0 := by simp [List.getD_eq_getElem?_getD, List.getElem?_drop]
  rw [e] at h1
  have := u_vals (j + ixN (uL j) c) (by omega)
  rw [h1] at this
  exact ⟨by omega, ⟨this.1, this.2.1⟩, this.2.2⟩
theorem hdV_bd {n : Int} (h : 0 ≤ n) : 0 ≤ hdV n ∧ hdV n ≤ 253402300800 := by unfold hdV; split <;> omega
theorem tkD_ok {r : RdS} {c : Int} (h : RdOk r) (hc : 48 ≤ c ∧ c ≤ 57) : RdOk (tkD r c) := by
  have hp := h.p0
  have := hdV_bd (n := r.p * 10 + (c - 48)) (by omega)
  exact ⟨h.s0, h.s1, this.1, this.2, h.j⟩
theorem tkU_ok {r : RdS} {c : Int} (h : RdOk r) (hi : ixN (uL r.j) c < (uL r.j).length) : RdOk (tkU r c (ixN (uL r.j) c)) := by
  obtain ⟨h1, h2, h3⟩ := unit_in hi
  have e1 := hdV_bd (n := r.p * unitV c) (Int.mul_nonneg h.p0 (by omega))
  have e2 := hdV_bd (n := r.s + hdV (r.p * unitV c)) (by have := h.s0; omega)
  exact ⟨e2.1, e2.2, Int.le_refl _, by show (0 : Int) ≤ 253402300800; decide, by show r.j + ixN (uL r.j) c + 1 ≤ 5; omega⟩
theorem drop_cons {zs : List Int} {i : Nat} (h : i < zs.length) : zs.drop i = zs.getD i 0 :: zs.drop (i + 1) := by
  rw [List.drop_eq_getElem_cons h]
  simp [List.getD_eq_getElem?_getD, List.getElem?_eq_getElem h]
structure RdG where
  i : Nat
  r : RdS
set_option maxHeartbeats 4000000 in
theorem read_ct (zs : List Int) (hb : By zs) (hl : zs.length ≤ 1000) : ACt Tryd.prog 9 [stz zs] [] (Fn (rdS zs)) := by
  have hs := bstr_size zs
  have hdec := fun i (h : i < zs.length) => dec_any hb h
  have hz0 : ((bstr zs).toList == (⟨#[]⟩ : ByteArray).toList) = decide (zs = []) := str_eq zs [] hb (fun i hi => absurd hi (Nat.not_lt_zero _))
  obtain ⟨B, hB⟩ : ∃ B, B = bstr zs := ⟨_, rfl⟩
  unfold stz
  rw [← hB] at hs hz0 ⊢
  simp only [← hB] at hdec
  obtain ⟨A, hA⟩ : ∃ A, A = rdS zs := ⟨_, rfl⟩
  rw [← hA]
  obtain ⟨U, hU⟩ : ∃ U, U = bstr (uL 0) := ⟨_, rfl⟩
  have u_str : (⟨#[119, 100, 104, 109, 115]⟩ : ByteArray) = U := by rw [hU]; rfl
  refine ACt.intro Tryd.func9 rfl (by kernel_rfl) (by simp [Tryd.ntmps9]) (fun cx => ?_)
  simp only [argE, Tryd.ntmps9, Tryd.results9]
  first | (have FRx := FR; clear FRx) | (have FR : Sm (¬ ((1 : Nat) = 0)) := Sm.mk Nat.one_ne_zero)
  repeat' first
    | (refine Sm.mk ?_; try simp -dsimp only [ZK, rvc, drawF, headN, pureH, stp, dvc, calleeOf, gcall, pev, eff, newB, okd, og, ogs, ogo, ogp, slv, bltv, opd, litv, strip, one, both, putE, St.put, look, gdOf, gdv, picka, pickv, pickw, binv, bini, bins, binb, binp, binq, isSlT, bina, shp, eqCells, unv, convv, nilv, faddv, addp, idxav, idxp, load1, load1m, loadn, loadnm, loadv, hget, hset, hrep, hdel, slicev, bnd, shift1, lenv, capv, IntKind.bits, extractv, fieldv, indexv, min2v, max2v, mkiv, cellsA, fillA, buildv, stC, oneC, rowMB, intsA, plN, appE, appZ, appC, appNZ, appNC, VwL, srcC, srcZ, srcM, isBoolT, isPtrT, isSliceT, uOk, Value.oneCell', Nat.reducePow, Int.reducePow, Nat.reduceAdd, Nat.reduceMul, Nat.reduceSub, Nat.reduceLT, Nat.reduceLeDiff, Nat.reduceEqDiff, Nat.reduceBEq, Nat.reduceDiv, Nat.reduceMod, ↓reduceIte, reduceCtorEq, Int.reduceToNat, Int.reduceLT, Int.reduceLE, TFSpI, SeqQ, BlkQ, LoopQ, BodyQ, u_str, FR.out])
    | (refine WP.seq fun K hK => ?_)
    | (refine WP.region (rvc_sound _ _ (Sm.out ?_)))
    | (refine WP.drawK rfl mixed (by decide +kernel) (Sm.out ?_))
    | (refine Ob.mk ?_; focus (first | assumption | omega | decide | trivial | (intro hob; simp only [hob, ZF]; done) | (intros; (repeat' refine And.intro ?_ ?_) <;> first | assumption | omega | trivial | decide) | (intros; simp only [ZE] at *; (repeat' refine And.intro ?_ ?_) <;> first | assumption | omega | trivial)))
    | (refine And.intro (Ob.out ?_) ?_)
    | (refine WP.block ?_)
    | (refine WP.cond rfl (fun hc => ?_) (fun hc => ?_) <;> (try simp only [ZC, reduceCtorEq, ZD] at hc) <;> (try (exact absurd hc (by decide))) <;> (try (exfalso; omega)))
    | ((first | refine WP.skip ?_ | refine WP.exit ?_); simp only [SeqQ, BlkQ, LoopQ, BodyQ, ↓reduceIte, Nat.reduceEqDiff, reduceCtorEq, look, true_and])
    | (refine WP.ret (Sm.out ?_))
    | (first | refine ExG.no (Sm.out ?_) | refine Or.inl (ExG.no (Sm.out ?_)) | refine Or.inl (And.intro (fun hg => absurd hg (by decide)) (ExG.no (Sm.out ?_))))
    | (refine Rt.mk ?_; refine And.intro ?_ ?_ <;> (intro hg; first | exact absurd hg (by decide) | refine Sm.out ?_))
    | (refine Nu.mk ?_; first | (fail_if_success (have := nb1)); intro nb1 | (fail_if_success (have := nb2)); intro nb2 | (fail_if_success (have := nb3)); intro nb3 | intro nbz)
    | (refine Fr.mk ?_; intro hfr; (first | (have hFRb : _ ≤ _ ∧ _ ≤ _ := And.intro hfr.1 hfr.2.1) | (have hFRb : _ ≤ _ := hfr.1) | skip); replace FR := Sm.mk (And.intro hfr FR.out); clear hfr; refine Sm.out ?_)
    | (refine Two.mk ?_ ?_)
    | (refine Cs.mk ?_; intro hcs; first | exact False.elim hcs | (exfalso; omega) | (refine Sm.out ?_))
    | go_step
    | omega
    | (simp only [maxLen_eq]; omega)
  obtain ⟨T, hT⟩ : ∃ T, T = runR r0 zs := ⟨_, rfl⟩
  have hA : A = finR zs T := by rw [hA, hT]; rfl
  have hU' : bstr uS = U := by rw [hU]; rfl
  refine WP.loop (Γ := RdG) (fun g => ⟨[(10, pt nb2 0), (4, pt nb1 0), (0, .lit (.string B))], [(nb2, .obj (.stringIter B g.i)), (nb1, rdB g.r)]⟩)
    (fun g => g.i ≤ zs.length ∧ RdOk g.r ∧ T = runR g.r (zs.drop g.i)) (fun g => zs.length - g.i) ⟨0, r0⟩ ⟨Nat.zero_le _, ⟨by decide, by decide, by decide, by decide, by decide⟩, hT⟩ (Sub.pick (by simp [pickB, hget, hdel, FR.out, r0, hU']) (by simp [look, r0, hU'])) ?_
  intro ⟨i, r⟩ ⟨h1, h2, h3⟩
  simp only at h1 h2 h3 ⊢
  have FR : Sm ((¬nb1 = nb2 ∧ ¬nb2 = nb1) ∧ ¬ ((1 : Nat) = 0)) := Sm.mk ⟨FR.out.1, Nat.one_ne_zero⟩
  by_cases hlt : i < zs.length
  · obtain ⟨n, w, hd, hcs⟩ := hdec i hlt
    rw [drop_cons hlt, runR_cons] at h3
    have hn2 : (0 : Int) ≤ (n : Int) ∧ (n : Int) < 2000000 := by rcases hcs with h | h <;> omega
    by_cases hstep : ∃ r', stepR r (zs.getD i 0) = some r'
    · obtain ⟨r', hr'⟩ := hstep
      rw [hr'] at h3
      have h3 : T = runR r' (zs.drop (i + 1)) := h3
      have hlo : w = 1 ∧ zs.getD i 0 = (n : Int) ∧ n < 128 := by
        rcases hcs with h | h
        · exact h
        · exfalso
          unfold stepR at hr'
          rw [if_neg (by omega), if_neg (by omega)] at hr'
          cases hr'
      obtain ⟨rfl, hc, hn⟩ := hlo
      rw [hc] at hr'
      have key : RdOk r' ∧ ACt Tryd.prog 21 [pt nb1 0, iv .i32 (n : Int)] [(nb1, rdB r)] (fun q F' => q = bv true ∧ F' = [(nb1, rdB r')]) := by
        unfold stepR at hr'
        by_cases hdg : 48 ≤ (n : Int) ∧ (n : Int) ≤ 57
        · rw [if_pos hdg] at hr'
          cases hr'
          exact ⟨tkD_ok h2 hdg, take_dig nb1 r h2 n hdg⟩
        · rw [if_neg hdg] at hr'
          by_cases hu : (n : Int) < 128 ∧ ixN (uL r.j) (n : Int) < (uL r.j).length ∧ r.d = true
          · rw [if_pos hu] at hr'
            cases hr'
            obtain ⟨u1, u2, u3⟩ := unit_in hu.2.1
            refine ⟨tkU_ok h2 hu.2.1, take_unit nb1 r h2 n ⟨hn2.1, hu.1⟩ hdg _ u1 ?_ hu.2.2 u2⟩
            unfold ixR ixI
            rw [if_pos hu.1, if_pos hu.2.1]
          · rw [if_neg hu] at hr'; cases hr'
      obtain ⟨hok, cT⟩ := key
      first | (have FRx := FR; clear FRx) | (have FR : Sm (¬ ((1 : Nat) = 0)) := Sm.mk Nat.one_ne_zero)
      repeat' first
        | (refine Sm.mk ?_; try simp -dsimp only [ZK, rvc, drawF, headN, pureH, stp, dvc, calleeOf, gcall, pev, eff, newB, okd, og, ogs, ogo, ogp, slv, bltv, opd, litv, strip, one, both, putE, St.put, look, gdOf, gdv, picka, pickv, pickw, binv, bini, bins, binb, binp, binq, isSlT, bina, shp, eqCells, unv, convv, nilv, faddv, addp, idxav, idxp, load1, load1m, loadn, loadnm, loadv, hget, hset, hrep, hdel, slicev, bnd, shift1, lenv, capv, IntKind.bits, extractv, fieldv, indexv, min2v, max2v, mkiv, cellsA, fillA, buildv, stC, oneC, rowMB, intsA, plN, appE, appZ, appC, appNZ, appNC, VwL, srcC, srcZ, srcM, isBoolT, isPtrT, isSliceT, uOk, Value.oneCell', Nat.reducePow, Int.reducePow, Nat.reduceAdd, Nat.reduceMul, Nat.reduceSub, Nat.reduceLT, Nat.reduceLeDiff, Nat.reduceEqDiff, Nat.reduceBEq, Nat.reduceDiv, Nat.reduceMod, ↓reduceIte, reduceCtorEq, Int.reduceToNat, Int.reduceLT, Int.reduceLE, TFSpI, SeqQ, BlkQ, LoopQ, BodyQ, hd, hs, FR.out])
        | (refine CallV.upd (by simp only [hget, ↓reduceIte, FR.out, hd, hs]; first | done | rfl) (cT) (Sm.out ?_))
        | (refine WP.seq fun K hK => ?_)
        | (refine WP.region (rvc_sound _ _ (Sm.out ?_)))
        | (refine WP.drawK rfl mixed (by decide +kernel) (Sm.out ?_))
        | (refine Ob.mk ?_; focus (first | assumption | omega | decide | trivial | (intro hob; simp only [hob, ZF]; done) | (intros; (repeat' refine And.intro ?_ ?_) <;> first | assumption | omega | trivial | decide) | (intros; simp only [ZE] at *; (repeat' refine And.intro ?_ ?_) <;> first | assumption | omega | trivial)))
        | (refine And.intro (Ob.out ?_) ?_)
        | (refine WP.block ?_)
        | (refine WP.cond rfl (fun hc => ?_) (fun hc => ?_) <;> (try simp only [ZC, reduceCtorEq, ZD] at hc) <;> (try (exact absurd hc (by decide))) <;> (try (exfalso; omega)))
        | ((first | refine WP.skip ?_ | refine WP.exit ?_); simp only [SeqQ, BlkQ, LoopQ, BodyQ, ↓reduceIte, Nat.reduceEqDiff, reduceCtorEq, look, true_and])
        | (refine WP.ret (Sm.out ?_))
        | (first | refine ExG.no (Sm.out ?_) | refine Or.inl (ExG.no (Sm.out ?_)) | refine Or.inl (And.intro (fun hg => absurd hg (by decide)) (ExG.no (Sm.out ?_))))
        | (refine Rt.mk ?_; refine And.intro ?_ ?_ <;> (intro hg; first | exact absurd hg (by decide) | refine Sm.out ?_))
        | (refine Nu.mk ?_; first | (fail_if_success (have := nb1)); intro nb1 | (fail_if_success (have := nb2)); intro nb2 | (fail_if_success (have := nb3)); intro nb3 | intro nbz)
        | (refine Fr.mk ?_; intro hfr; (first | (have hFRb : _ ≤ _ ∧ _ ≤ _ := And.intro hfr.1 hfr.2.1) | (have hFRb : _ ≤ _ := hfr.1) | skip); replace FR := Sm.mk (And.intro hfr FR.out); clear hfr; refine Sm.out ?_)
        | (refine Two.mk ?_ ?_)
        | (refine Cs.mk ?_; intro hcs; first | exact False.elim hcs | (exfalso; omega) | (refine Sm.out ?_))
        | go_step
        | omega
        | (simp only [maxLen_eq]; omega)
      refine ⟨⟨i + 1, r'⟩, ⟨by simp only; omega, hok, h3⟩, by simp only; omega, (Sub.pick (by simp [pickB, hget, hdel, FR.out]) (by simp [look]))⟩
    · have hno : stepR r (zs.getD i 0) = none := by
        cases hst : stepR r (zs.getD i 0) with
        | none => rfl
        | some r' => exact absurd ⟨r', hst⟩ hstep
      rw [hno] at h3
      have h3 : T = none := h3
      have eA : A = sbad 5 := by rw [hA, h3]; rfl
      have key : ACt Tryd.prog 21 [pt nb1 0, iv .i32 (n : Int)] [(nb1, rdB r)] (fun q F' => q = bv false ∧ F' = [(nb1, rdB r)]) := by
        unfold stepR at hno
        have hdg : ¬ (48 ≤ (n : Int) ∧ (n : Int) ≤ 57) := fun h => by
          rcases hcs with h' | h'
          · rw [h'.2.1, if_pos h] at hno; cases hno
          · omega
        refine take_no nb1 r n hn2 hdg ?_
        unfold ixR ixI
        rcases hcs with h' | h'
        · rw [h'.2.1, if_neg hdg] at hno
          by_cases hd' : r.d = true
          · by_cases hi : ixN (uL r.j) (n : Int) < (uL r.j).length
            · rw [if_pos ⟨by omega, hi, hd'⟩] at hno; cases hno
            · exact .inl (by rw [if_pos (by omega), if_neg hi]; decide)
          · exact .inr (by simpa using hd')
        · exact .inl (by rw [if_neg (by omega)]; decide)
      first | (have FRx := FR; clear FRx) | (have FR : Sm (¬ ((1 : Nat) = 0)) := Sm.mk Nat.one_ne_zero)
      repeat' first
        | (refine Sm.mk ?_; try simp -dsimp only [ZK, rvc, drawF, headN, pureH, stp, dvc, calleeOf, gcall, pev, eff, newB, okd, og, ogs, ogo, ogp, slv, bltv, opd, litv, strip, one, both, putE, St.put, look, gdOf, gdv, picka, pickv, pickw, binv, bini, bins, binb, binp, binq, isSlT, bina, shp, eqCells, unv, convv, nilv, faddv, addp, idxav, idxp, load1, load1m, loadn, loadnm, loadv, hget, hset, hrep, hdel, slicev, bnd, shift1, lenv, capv, IntKind.bits, extractv, fieldv, indexv, min2v, max2v, mkiv, cellsA, fillA, buildv, stC, oneC, rowMB, intsA, plN, appE, appZ, appC, appNZ, appNC, VwL, srcC, srcZ, srcM, isBoolT, isPtrT, isSliceT, uOk, Value.oneCell', Nat.reducePow, Int.reducePow, Nat.reduceAdd, Nat.reduceMul, Nat.reduceSub, Nat.reduceLT, Nat.reduceLeDiff, Nat.reduceEqDiff, Nat.reduceBEq, Nat.reduceDiv, Nat.reduceMod, ↓reduceIte, reduceCtorEq, Int.reduceToNat, Int.reduceLT, Int.reduceLE, TFSpI, SeqQ, BlkQ, LoopQ, BodyQ, hd, hs, FR.out])
        | (refine CallV.updM (key) (perm1 (by simp only [hget, hdel, ↓reduceIte, FR.out, hd, hs]; first | done | rfl)) (Sm.out ?_))
        | ((first | refine ExF.up ?_ (key) (Sm.out ?_) | refine ExG.up ?_ (fun _ => key) (Sm.out ?_) | refine ExG.upJ ?_ (fun _ => key) (Sm.out ?_) | refine ExG.upI ?_ (fun _ => key) (Ob.out ?_) (Sm.out ?_)); focus (exact ⟨_, (perm1 (by simp only [hget, hdel, ↓reduceIte, FR.out, hd, hs]; first | done | rfl))⟩))
        | (refine WP.seq fun K hK => ?_)
        | (refine WP.region (rvc_sound _ _ (Sm.out ?_)))
        | (refine WP.drawK rfl mixed (by decide +kernel) (Sm.out ?_))
        | (refine Ob.mk ?_; focus (first | assumption | omega | decide | trivial | (intro hob; simp only [hob, ZF]; done) | (intros; (repeat' refine And.intro ?_ ?_) <;> first | assumption | omega | trivial | decide) | (intros; simp only [ZE] at *; (repeat' refine And.intro ?_ ?_) <;> first | assumption | omega | trivial)))
        | (refine And.intro (Ob.out ?_) ?_)
        | (refine WP.block ?_)
        | (refine WP.cond rfl (fun hc => ?_) (fun hc => ?_) <;> (try simp only [ZC, reduceCtorEq, ZD] at hc) <;> (try (exact absurd hc (by decide))) <;> (try (exfalso; omega)))
        | ((first | refine WP.skip ?_ | refine WP.exit ?_); simp only [SeqQ, BlkQ, LoopQ, BodyQ, ↓reduceIte, Nat.reduceEqDiff, reduceCtorEq, look, true_and])
        | (refine WP.ret (Sm.out ?_))
        | (first | refine ExG.no (Sm.out ?_) | refine Or.inl (ExG.no (Sm.out ?_)) | refine Or.inl (And.intro (fun hg => absurd hg (by decide)) (ExG.no (Sm.out ?_))))
        | (refine Rt.mk ?_; refine And.intro ?_ ?_ <;> (intro hg; first | exact absurd hg (by decide) | refine Sm.out ?_))
        | (refine Nu.mk ?_; first | (fail_if_success (have := nb1)); intro nb1 | (fail_if_success (have := nb2)); intro nb2 | (fail_if_success (have := nb3)); intro nb3 | intro nbz)
        | (refine Fr.mk ?_; intro hfr; (first | (have hFRb : _ ≤ _ ∧ _ ≤ _ := And.intro hfr.1 hfr.2.1) | (have hFRb : _ ≤ _ := hfr.1) | skip); replace FR := Sm.mk (And.intro hfr FR.out); clear hfr; refine Sm.out ?_)
        | (refine Two.mk ?_ ?_)
        | (refine Cs.mk ?_; intro hcs; first | exact False.elim hcs | (exfalso; omega) | (refine Sm.out ?_))
        | go_step
        | omega
        | (simp only [maxLen_eq]; omega)
      (refine OutQ.all ?_ ?_; (focus (simp only [resv, ZK, look, loadv, loadn, loadnm, load1, load1m, hget, ↓reduceIte, Nat.reduceEqDiff, Nat.reduceAdd, Nat.reduceMul, Nat.reduceLeDiff, Nat.reduceLT, reduceCtorEq, TFSpI, eA])); (try simp only [resv, resA, Fn, ZK, look, loadv, loadn, loadnm, load1, load1m, hget, ↓reduceIte, Nat.reduceEqDiff, Nat.reduceAdd, Nat.reduceMul, Nat.reduceLeDiff, Nat.reduceLT, reduceCtorEq, TFSpI, eA]); (try simp [resA, Fn, look, eA]))
  · obtain rfl : i = zs.length := by omega
    rw [List.drop_length] at h3
    have h3 : T = some r := h3
    rw [h3] at hA
    obtain ⟨s, p, d, j, f⟩ := r
    unfold finR at hA
    simp only at hA
    obtain ⟨L, hL⟩ : ∃ L, L = bstr (uL j) := ⟨_, rfl⟩
    simp only [rdB, ← hL]
    by_cases hz : zs = []
    · have kz : decide (zs = []) = true := decide_eq_true hz
      have eA : A = sbad 5 := by rw [hA, if_pos (.inl hz)]
      first | (have FRx := FR; clear FRx) | (have FR : Sm (¬ ((1 : Nat) = 0)) := Sm.mk Nat.one_ne_zero)
      repeat' first
        | (refine Sm.mk ?_; try simp -dsimp only [ZK, rvc, drawF, headN, pureH, stp, dvc, calleeOf, gcall, pev, eff, newB, okd, og, ogs, ogo, ogp, slv, bltv, opd, litv, strip, one, both, putE, St.put, look, gdOf, gdv, picka, pickv, pickw, binv, bini, bins, binb, binp, binq, isSlT, bina, shp, eqCells, unv, convv, nilv, faddv, addp, idxav, idxp, load1, load1m, loadn, loadnm, loadv, hget, hset, hrep, hdel, slicev, bnd, shift1, lenv, capv, IntKind.bits, extractv, fieldv, indexv, min2v, max2v, mkiv, cellsA, fillA, buildv, stC, oneC, rowMB, intsA, plN, appE, appZ, appC, appNZ, appNC, VwL, srcC, srcZ, srcM, isBoolT, isPtrT, isSliceT, uOk, Value.oneCell', Nat.reducePow, Int.reducePow, Nat.reduceAdd, Nat.reduceMul, Nat.reduceSub, Nat.reduceLT, Nat.reduceLeDiff, Nat.reduceEqDiff, Nat.reduceBEq, Nat.reduceDiv, Nat.reduceMod, ↓reduceIte, reduceCtorEq, Int.reduceToNat, Int.reduceLT, Int.reduceLE, TFSpI, SeqQ, BlkQ, LoopQ, BodyQ, hs, hz0, kz, FR.out])
        | (refine WP.seq fun K hK => ?_)
        | (refine WP.region (rvc_sound _ _ (Sm.out ?_)))
        | (refine WP.drawK rfl mixed (by decide +kernel) (Sm.out ?_))
        | (refine Ob.mk ?_; focus (first | assumption | omega | decide | trivial | (intro hob; simp only [hob, ZF]; done) | (intros; (repeat' refine And.intro ?_ ?_) <;> first | assumption | omega | trivial | decide) | (intros; simp only [ZE] at *; (repeat' refine And.intro ?_ ?_) <;> first | assumption | omega | trivial)))
        | (refine And.intro (Ob.out ?_) ?_)
        | (refine WP.block ?_)
        | (refine WP.cond rfl (fun hc => ?_) (fun hc => ?_) <;> (try simp only [ZC, reduceCtorEq, ZD] at hc) <;> (try (exact absurd hc (by decide))) <;> (try (exfalso; omega)))
        | ((first | refine WP.skip ?_ | refine WP.exit ?_); simp only [SeqQ, BlkQ, LoopQ, BodyQ, ↓reduceIte, Nat.reduceEqDiff, reduceCtorEq, look, true_and])
        | (refine WP.ret (Sm.out ?_))
        | (first | refine ExG.no (Sm.out ?_) | refine Or.inl (ExG.no (Sm.out ?_)) | refine Or.inl (And.intro (fun hg => absurd hg (by decide)) (ExG.no (Sm.out ?_))))
        | (refine Rt.mk ?_; refine And.intro ?_ ?_ <;> (intro hg; first | exact absurd hg (by decide) | refine Sm.out ?_))
        | (refine Nu.mk ?_; first | (fail_if_success (have := nb1)); intro nb1 | (fail_if_success (have := nb2)); intro nb2 | (fail_if_success (have := nb3)); intro nb3 | intro nbz)
        | (refine Fr.mk ?_; intro hfr; (first | (have hFRb : _ ≤ _ ∧ _ ≤ _ := And.intro hfr.1 hfr.2.1) | (have hFRb : _ ≤ _ := hfr.1) | skip); replace FR := Sm.mk (And.intro hfr FR.out); clear hfr; refine Sm.out ?_)
        | (refine Two.mk ?_ ?_)
        | (refine Cs.mk ?_; intro hcs; first | exact False.elim hcs | (exfalso; omega) | (refine Sm.out ?_))
        | go_step
        | omega
        | (simp only [maxLen_eq]; omega)
      (refine OutQ.all ?_ ?_; (focus (simp only [resv, ZK, look, loadv, loadn, loadnm, load1, load1m, hget, ↓reduceIte, Nat.reduceEqDiff, Nat.reduceAdd, Nat.reduceMul, Nat.reduceLeDiff, Nat.reduceLT, reduceCtorEq, TFSpI, eA])); (try simp only [resv, resA, Fn, ZK, look, loadv, loadn, loadnm, load1, load1m, hget, ↓reduceIte, Nat.reduceEqDiff, Nat.reduceAdd, Nat.reduceMul, Nat.reduceLeDiff, Nat.reduceLT, reduceCtorEq, TFSpI, eA]); (try simp [resA, Fn, look, eA]))
    have kz : decide (zs = []) = false := decide_eq_false hz
    cases d
    · cases f
      · have eA : A = sgood s := by rw [hA, if_neg (by simp [hz]), if_neg (by simp)]
        first | (have FRx := FR; clear FRx) | (have FR : Sm (¬ ((1 : Nat) = 0)) := Sm.mk Nat.one_ne_zero)
        repeat' first
          | (refine Sm.mk ?_; try simp -dsimp only [ZK, rvc, drawF, headN, pureH, stp, dvc, calleeOf, gcall, pev, eff, newB, okd, og, ogs, ogo, ogp, slv, bltv, opd, litv, strip, one, both, putE, St.put, look, gdOf, gdv, picka, pickv, pickw, binv, bini, bins, binb, binp, binq, isSlT, bina, shp, eqCells, unv, convv, nilv, faddv, addp, idxav, idxp, load1, load1m, loadn, loadnm, loadv, hget, hset, hrep, hdel, slicev, bnd, shift1, lenv, capv, IntKind.bits, extractv, fieldv, indexv, min2v, max2v, mkiv, cellsA, fillA, buildv, stC, oneC, rowMB, intsA, plN, appE, appZ, appC, appNZ, appNC, VwL, srcC, srcZ, srcM, isBoolT, isPtrT, isSliceT, uOk, Value.oneCell', Nat.reducePow, Int.reducePow, Nat.reduceAdd, Nat.reduceMul, Nat.reduceSub, Nat.reduceLT, Nat.reduceLeDiff, Nat.reduceEqDiff, Nat.reduceBEq, Nat.reduceDiv, Nat.reduceMod, ↓reduceIte, reduceCtorEq, Int.reduceToNat, Int.reduceLT, Int.reduceLE, TFSpI, SeqQ, BlkQ, LoopQ, BodyQ, hs, hz0, kz, FR.out])
          | (refine WP.seq fun K hK => ?_)
          | (refine WP.region (rvc_sound _ _ (Sm.out ?_)))
          | (refine WP.drawK rfl mixed (by decide +kernel) (Sm.out ?_))
          | (refine Ob.mk ?_; focus (first | assumption | omega | decide | trivial | (intro hob; simp only [hob, ZF]; done) | (intros; (repeat' refine And.intro ?_ ?_) <;> first | assumption | omega | trivial | decide) | (intros; simp only [ZE] at *; (repeat' refine And.intro ?_ ?_) <;> first | assumption | omega | trivial)))
          | (refine And.intro (Ob.out ?_) ?_)
          | (refine WP.block ?_)
          | (refine WP.cond rfl (fun hc => ?_) (fun hc => ?_) <;> (try simp only [ZC, reduceCtorEq, ZD] at hc) <;> (try (exact absurd hc (by decide))) <;> (try (exfalso; omega)))
          | ((first | refine WP.skip ?_ | refine WP.exit ?_); simp only [SeqQ, BlkQ, LoopQ, BodyQ, ↓reduceIte, Nat.reduceEqDiff, reduceCtorEq, look, true_and])
          | (refine WP.ret (Sm.out ?_))
          | (first | refine ExG.no (Sm.out ?_) | refine Or.inl (ExG.no (Sm.out ?_)) | refine Or.inl (And.intro (fun hg => absurd hg (by decide)) (ExG.no (Sm.out ?_))))
          | (refine Rt.mk ?_; refine And.intro ?_ ?_ <;> (intro hg; first | exact absurd hg (by decide) | refine Sm.out ?_))
          | (refine Nu.mk ?_; first | (fail_if_success (have := nb1)); intro nb1 | (fail_if_success (have := nb2)); intro nb2 | (fail_if_success (have := nb3)); intro nb3 | intro nbz)
          | (refine Fr.mk ?_; intro hfr; (first | (have hFRb : _ ≤ _ ∧ _ ≤ _ := And.intro hfr.1 hfr.2.1) | (have hFRb : _ ≤ _ := hfr.1) | skip); replace FR := Sm.mk (And.intro hfr FR.out); clear hfr; refine Sm.out ?_)
          | (refine Two.mk ?_ ?_)
          | (refine Cs.mk ?_; intro hcs; first | exact False.elim hcs | (exfalso; omega) | (refine Sm.out ?_))
          | go_step
          | omega
          | (simp only [maxLen_eq]; omega)
        (refine OutQ.all ?_ ?_; (focus (simp only [resv, ZK, look, loadv, loadn, loadnm, load1, load1m, hget, ↓reduceIte, Nat.reduceEqDiff, Nat.reduceAdd, Nat.reduceMul, Nat.reduceLeDiff, Nat.reduceLT, reduceCtorEq, TFSpI, eA])); (try simp only [resv, resA, Fn, ZK, look, loadv, loadn, loadnm, load1, load1m, hget, ↓reduceIte, Nat.reduceEqDiff, Nat.reduceAdd, Nat.reduceMul, Nat.reduceLeDiff, Nat.reduceLT, reduceCtorEq, TFSpI, eA]); (try simp [resA, Fn, look, eA]))
      · have eA : A = sbad 8 := by rw [hA, if_neg (by simp [hz]), if_pos rfl]
        first | (have FRx := FR; clear FRx) | (have FR : Sm (¬ ((1 : Nat) = 0)) := Sm.mk Nat.one_ne_zero)
        repeat' first
          | (refine Sm.mk ?_; try simp -dsimp only [ZK, rvc, drawF, headN, pureH, stp, dvc, calleeOf, gcall, pev, eff, newB, okd, og, ogs, ogo, ogp, slv, bltv, opd, litv, strip, one, both, putE, St.put, look, gdOf, gdv, picka, pickv, pickw, binv, bini, bins, binb, binp, binq, isSlT, bina, shp, eqCells, unv, convv, nilv, faddv, addp, idxav, idxp, load1, load1m, loadn, loadnm, loadv, hget, hset, hrep, hdel, slicev, bnd, shift1, lenv, capv, IntKind.bits, extractv, fieldv, indexv, min2v, max2v, mkiv, cellsA, fillA, buildv, stC, oneC, rowMB, intsA, plN, appE, appZ, appC, appNZ, appNC, VwL, srcC, srcZ, srcM, isBoolT, isPtrT, isSliceT, uOk, Value.oneCell', Nat.reducePow, Int.reducePow, Nat.reduceAdd, Nat.reduceMul, Nat.reduceSub, Nat.reduceLT, Nat.reduceLeDiff, Nat.reduceEqDiff, Nat.reduceBEq, Nat.reduceDiv, Nat.reduceMod, ↓reduceIte, reduceCtorEq, Int.reduceToNat, Int.reduceLT, Int.reduceLE, TFSpI, SeqQ, BlkQ, LoopQ, BodyQ, hs, hz0, kz, FR.out])
          | (refine WP.seq fun K hK => ?_)
          | (refine WP.region (rvc_sound _ _ (Sm.out ?_)))
          | (refine WP.drawK rfl mixed (by decide +kernel) (Sm.out ?_))
          | (refine Ob.mk ?_; focus (first | assumption | omega | decide | trivial | (intro hob; simp only [hob, ZF]; done) | (intros; (repeat' refine And.intro ?_ ?_) <;> first | assumption | omega | trivial | decide) | (intros; simp only [ZE] at *; (repeat' refine And.intro ?_ ?_) <;> first | assumption | omega | trivial)))
          | (refine And.intro (Ob.out ?_) ?_)
          | (refine WP.block ?_)
          | (refine WP.cond rfl (fun hc => ?_) (fun hc => ?_) <;> (try simp only [ZC, reduceCtorEq, ZD] at hc) <;> (try (exact absurd hc (by decide))) <;> (try (exfalso; omega)))
          | ((first | refine WP.skip ?_ | refine WP.exit ?_); simp only [SeqQ, BlkQ, LoopQ, BodyQ, ↓reduceIte, Nat.reduceEqDiff, reduceCtorEq, look, true_and])
          | (refine WP.ret (Sm.out ?_))
          | (first | refine ExG.no (Sm.out ?_) | refine Or.inl (ExG.no (Sm.out ?_)) | refine Or.inl (And.intro (fun hg => absurd hg (by decide)) (ExG.no (Sm.out ?_))))
          | (refine Rt.mk ?_; refine And.intro ?_ ?_ <;> (intro hg; first | exact absurd hg (by decide) | refine Sm.out ?_))
          | (refine Nu.mk ?_; first | (fail_if_success (have := nb1)); intro nb1 | (fail_if_success (have := nb2)); intro nb2 | (fail_if_success (have := nb3)); intro nb3 | intro nbz)
          | (refine Fr.mk ?_; intro hfr; (first | (have hFRb : _ ≤ _ ∧ _ ≤ _ := And.intro hfr.1 hfr.2.1) | (have hFRb : _ ≤ _ := hfr.1) | skip); replace FR := Sm.mk (And.intro hfr FR.out); clear hfr; refine Sm.out ?_)
          | (refine Two.mk ?_ ?_)
          | (refine Cs.mk ?_; intro hcs; first | exact False.elim hcs | (exfalso; omega) | (refine Sm.out ?_))
          | go_step
          | omega
          | (simp only [maxLen_eq]; omega)
        (refine OutQ.all ?_ ?_; (focus (simp only [resv, ZK, look, loadv, loadn, loadnm, load1, load1m, hget, ↓reduceIte, Nat.reduceEqDiff, Nat.reduceAdd, Nat.reduceMul, Nat.reduceLeDiff, Nat.reduceLT, reduceCtorEq, TFSpI, eA])); (try simp only [resv, resA, Fn, ZK, look, loadv, loadn, loadnm, load1, load1m, hget, ↓reduceIte, Nat.reduceEqDiff, Nat.reduceAdd, Nat.reduceMul, Nat.reduceLeDiff, Nat.reduceLT, reduceCtorEq, TFSpI, eA]); (try simp [resA, Fn, look, eA]))
    · have eA : A = sbad 5 := by rw [hA, if_pos (.inr rfl)]
      first | (have FRx := FR; clear FRx) | (have FR : Sm (¬ ((1 : Nat) = 0)) := Sm.mk Nat.one_ne_zero)
      repeat' first
        | (refine Sm.mk ?_; try simp -dsimp only [ZK, rvc, drawF, headN, pureH, stp, dvc, calleeOf, gcall, pev, eff, newB, okd, og, ogs, ogo, ogp, slv, bltv, opd, litv, strip, one, both, putE, St.put, look, gdOf, gdv, picka, pickv, pickw, binv, bini, bins, binb, binp, binq, isSlT, bina, shp, eqCells, unv, convv, nilv, faddv, addp, idxav, idxp, load1, load1m, loadn, loadnm, loadv, hget, hset, hrep, hdel, slicev, bnd, shift1, lenv, capv, IntKind.bits, extractv, fieldv, indexv, min2v, max2v, mkiv, cellsA, fillA, buildv, stC, oneC, rowMB, intsA, plN, appE, appZ, appC, appNZ, appNC, VwL, srcC, srcZ, srcM, isBoolT, isPtrT, isSliceT, uOk, Value.oneCell', Nat.reducePow, Int.reducePow, Nat.reduceAdd, Nat.reduceMul, Nat.reduceSub, Nat.reduceLT, Nat.reduceLeDiff, Nat.reduceEqDiff, Nat.reduceBEq, Nat.reduceDiv, Nat.reduceMod, ↓reduceIte, reduceCtorEq, Int.reduceToNat, Int.reduceLT, Int.reduceLE, TFSpI, SeqQ, BlkQ, LoopQ, BodyQ, hs, hz0, kz, FR.out])
        | (refine WP.seq fun K hK => ?_)
        | (refine WP.region (rvc_sound _ _ (Sm.out ?_)))
        | (refine WP.drawK rfl mixed (by decide +kernel) (Sm.out ?_))
        | (refine Ob.mk ?_; focus (first | assumption | omega | decide | trivial | (intro hob; simp only [hob, ZF]; done) | (intros; (repeat' refine And.intro ?_ ?_) <;> first | assumption | omega | trivial | decide) | (intros; simp only [ZE] at *; (repeat' refine And.intro ?_ ?_) <;> first | assumption | omega | trivial)))
        | (refine And.intro (Ob.out ?_) ?_)
        | (refine WP.block ?_)
        | (refine WP.cond rfl (fun hc => ?_) (fun hc => ?_) <;> (try simp only [ZC, reduceCtorEq, ZD] at hc) <;> (try (exact absurd hc (by decide))) <;> (try (exfalso; omega)))
        | ((first | refine WP.skip ?_ | refine WP.exit ?_); simp only [SeqQ, BlkQ, LoopQ, BodyQ, ↓reduceIte, Nat.reduceEqDiff, reduceCtorEq, look, true_and])
        | (refine WP.ret (Sm.out ?_))
        | (first | refine ExG.no (Sm.out ?_) | refine Or.inl (ExG.no (Sm.out ?_)) | refine Or.inl (And.intro (fun hg => absurd hg (by decide)) (ExG.no (Sm.out ?_))))
        | (refine Rt.mk ?_; refine And.intro ?_ ?_ <;> (intro hg; first | exact absurd hg (by decide) | refine Sm.out ?_))
        | (refine Nu.mk ?_; first | (fail_if_success (have := nb1)); intro nb1 | (fail_if_success (have := nb2)); intro nb2 | (fail_if_success (have := nb3)); intro nb3 | intro nbz)
        | (refine Fr.mk ?_; intro hfr; (first | (have hFRb : _ ≤ _ ∧ _ ≤ _ := And.intro hfr.1 hfr.2.1) | (have hFRb : _ ≤ _ := hfr.1) | skip); replace FR := Sm.mk (And.intro hfr FR.out); clear hfr; refine Sm.out ?_)
        | (refine Two.mk ?_ ?_)
        | (refine Cs.mk ?_; intro hcs; first | exact False.elim hcs | (exfalso; omega) | (refine Sm.out ?_))
        | go_step
        | omega
        | (simp only [maxLen_eq]; omega)
      (refine OutQ.all ?_ ?_; (focus (simp only [resv, ZK, look, loadv, loadn, loadnm, load1, load1m, hget, ↓reduceIte, Nat.reduceEqDiff, Nat.reduceAdd, Nat.reduceMul, Nat.reduceLeDiff, Nat.reduceLT, reduceCtorEq, TFSpI, eA])); (try simp only [resv, resA, Fn, ZK, look, loadv, loadn, loadnm, load1, load1m, hget, ↓reduceIte, Nat.reduceEqDiff, Nat.reduceAdd, Nat.reduceMul, Nat.reduceLeDiff, Nat.reduceLT, reduceCtorEq, TFSpI, eA]); (try simp [resA, Fn, look, eA]))
end Go.Proofs.YtdfkpnkohikcgaaDoor
