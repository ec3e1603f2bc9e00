/-
  The walks and the laws that the statement leans on, part 10.
-/
import Derived.Test.YtocfaghflhgeeaaDoorZ9
namespace Go.Proofs.YtocfaghflhgeeaaDoor
open Go
set_option linter.unusedVariables false
set_option linter.unusedSimpArgs false
theorem TFStPC : ((((((type_of% tyc4) ∧ (type_of% zmb4)) ∧ ((type_of% tyc5) ∧ (type_of% zmb5))) ∧ (((type_of% tyc9) ∧ (type_of% zmb9)) ∧ ((type_of% tyc22) ∧ ((type_of% zmb22) ∧ (type_of% tyc23))))) ∧ ((((type_of% zmb23) ∧ (type_of% tyc26)) ∧ ((type_of% foff26_0) ∧ ((type_of% fpart26_0) ∧ (type_of% foff26_1)))) ∧ (((type_of% fpart26_1) ∧ (type_of% fe26)) ∧ ((type_of% zmb26) ∧ ((type_of% bldT26) ∧ (type_of% tyc32)))))) ∧ (((((type_of% elt32) ∧ (type_of% mkz32)) ∧ ((type_of% mkc32) ∧ ((type_of% apT32) ∧ (type_of% elk32)))) ∧ (((type_of% zmb32) ∧ (type_of% tyc65)) ∧ ((type_of% elt65) ∧ ((type_of% mkz65) ∧ (type_of% apT65))))) ∧ ((((type_of% elk65) ∧ (type_of% zmb65)) ∧ ((type_of% Tryd.underlying4) ∧ ((type_of% Tryd.underlying5) ∧ (type_of% Tryd.underlying9)))) ∧ (((type_of% Tryd.underlying22) ∧ (type_of% Tryd.underlying23)) ∧ ((type_of% Tryd.underlying26) ∧ ((type_of% Tryd.underlying32) ∧ (type_of% Tryd.underlying65))))))) :=
  ⟨⟨⟨⟨⟨tyc4, zmb4⟩, ⟨tyc5, zmb5⟩⟩, ⟨⟨tyc9, zmb9⟩, ⟨tyc22, ⟨zmb22, tyc23⟩⟩⟩⟩, ⟨⟨⟨zmb23, tyc26⟩, ⟨foff26_0, ⟨fpart26_0, foff26_1⟩⟩⟩, ⟨⟨fpart26_1, fe26⟩, ⟨zmb26, ⟨bldT26, tyc32⟩⟩⟩⟩⟩, ⟨⟨⟨⟨elt32, mkz32⟩, ⟨mkc32, ⟨apT32, elk32⟩⟩⟩, ⟨⟨zmb32, tyc65⟩, ⟨elt65, ⟨mkz65, apT65⟩⟩⟩⟩, ⟨⟨⟨elk65, zmb65⟩, ⟨Tryd.underlying4, ⟨Tryd.underlying5, Tryd.underlying9⟩⟩⟩, ⟨⟨Tryd.underlying22, Tryd.underlying23⟩, ⟨Tryd.underlying26, ⟨Tryd.underlying32, Tryd.underlying65⟩⟩⟩⟩⟩⟩
/-- what stands behind the point -/
def frc : Nat → Nat → List Int
  | 0, _ => []
  | k + 1, n => if n = 0 then [] else ((48 + n / 1000 : Nat) : Int) :: frc k (n % 1000 * 10)
theorem frc_succ (k n : Nat) : frc (k + 1) n = if n = 0 then [] else ((48 + n / 1000 : Nat) : Int) :: frc k (n % 1000 * 10) := rfl
theorem frc_zero (k : Nat) : frc k 0 = [] := by cases k <;> rfl
structure FrG where
  k : Nat
  n : Nat
  A : List Int
set_option maxHeartbeats 2000000 in
theorem rprint_ct (p : Nat) (hp : p ≤ 1000000) : ACt Tryd.prog 21 [iv .u32 (p : Int)] [] (Fn (stz (digF 39 (p / 10000) ++ (if p % 10000 = 0 then [] else [46]) ++ frc 4 (p % 10000) ++ [37]))) := by
  have cB := bits0_ct (p / 10000) (by omega)
  have cD := rdigits_ct (p / 10000) (by omega)
  obtain ⟨T, hT⟩ : ∃ T, T = bitsN (p / 10000) 128 := ⟨_, rfl⟩
  rw [← hT] at cB cD
  have cD : ACt Tryd.prog 33 [.sl 128 (bl T)] [] (Fn (stz (digF 39 (p / 10000)))) := cD
  obtain ⟨D, hD⟩ : ∃ D, D = digF 39 (p / 10000) := ⟨_, rfl⟩
  have lD : D.length ≤ 39 := by
    rw [hD]
    have : ∀ f n, (digF f n).length ≤ f := by
      intro f
      induction f with
      | zero => intro n; exact Nat.le_refl _
      | succ f ih => intro n; rw [digF_succ, List.length_append]; split
                     · simp
                     · have := ih (n / 10); simp; omega
    exact this _ _
  rw [← hD] at cD ⊢
  obtain ⟨q, hq⟩ : ∃ q, q = p / 10000 := ⟨_, rfl⟩
  obtain ⟨y, hy⟩ : ∃ y, y = p % 10000 := ⟨_, rfl⟩
  rw [← hq] at cB
  rw [← hy]
  have k1 : decide ((p : Int) > 1000000) = false := decide_eq_false (by omega)
  have r1 : (p : Int).tdiv 10000 = (q : Int) := by rw [Int.tdiv_eq_ediv_of_nonneg (by omega)]; omega
  have r2 : (p : Int).tmod 10000 = (y : Int) := by rw [Int.tmod_eq_emod_of_nonneg (by omega)]; omega
  have w1 : IntKind.u32.wrap (q : Int) = (q : Int) := wrap_u32 (by omega) (by omega)
  have w2 : IntKind.u32.wrap (y : Int) = (y : Int) := wrap_u32 (by omega) (by omega)
  have w3 : IntKind.u64.wrap (q : Int) = (q : Int) := wrap_u64 (by omega) (by omega)
  have j1 : D.length + ([46] : List Int).length ≤ 9223372036854775807 := by simp only [List.length_cons, List.length_nil]; omega
  obtain ⟨R, hR⟩ : ∃ R, R = D ++ (if y = 0 then [] else [46]) ++ frc 4 y ++ [37] := ⟨_, rfl⟩
  rw [← hR]
  refine ACt.intro Tryd.func21 rfl (by kernel_rfl) (by simp [Tryd.ntmps21]) (fun cx => ?_)
  simp only [argE, Tryd.ntmps21, Tryd.results21]
  obtain ⟨S, hS⟩ : ∃ S, S = D ++ (if y = 0 then [] else [46]) := ⟨_, rfl⟩
  have lS : S.length ≤ 40 := by rw [hS, List.length_append]; split <;> simp <;> omega
  obtain ⟨b, k2, hb⟩ : ∃ b : Bool, decide ((y : Int) > 0) = b ∧ ((b = true ∧ S = D ++ [46]) ∨ (b = false ∧ S = D)) := by
    refine ⟨_, rfl, ?_⟩
    by_cases h : y = 0
    · exact .inr ⟨decide_eq_false (by omega), by rw [hS, if_pos h]; simp⟩
    · exact .inl ⟨decide_eq_true (by omega), by rw [hS, if_neg h]⟩
  rcases hb with ⟨rfl, hb⟩ | ⟨rfl, hb⟩
  all_goals rw [← hS] at hR
  all_goals (
      first | (have FRx := FR; clear FRx) | (have FR : Sm (¬ ((1 : Nat) = 0)) := Sm.mk Nat.one_ne_zero)
      repeat' first
        | (refine Sm.mk ?_; try simp -dsimp only [ZK, rvc, drawF, headN, pureH, stp, dvc, calleeOf, gcall, pev, eff, newB, okd, og, ogs, ogo, ogp, slv, bltv, opd, litv, strip, one, both, putE, St.put, look, gdOf, gdv, picka, pickv, pickw, binv, bini, bins, binb, binp, binq, isSlT, bina, shp, eqCells, unv, convv, nilv, faddv, addp, idxav, idxp, load1, load1m, loadn, loadnm, loadv, hget, hset, hrep, hdel, slicev, bnd, shift1, lenv, capv, IntKind.bits, extractv, fieldv, indexv, min2v, max2v, mkiv, cellsA, fillA, buildv, stC, oneC, rowMB, intsA, plN, appE, appZ, appC, appNZ, appNC, VwL, srcC, srcZ, srcM, isBoolT, isPtrT, isSliceT, uOk, Value.oneCell', Nat.reducePow, Int.reducePow, Nat.reduceAdd, Nat.reduceMul, Nat.reduceSub, Nat.reduceLT, Nat.reduceLeDiff, Nat.reduceEqDiff, Nat.reduceBEq, Nat.reduceDiv, Nat.reduceMod, ↓reduceIte, reduceCtorEq, Int.reduceToNat, Int.reduceLT, Int.reduceLE, TFStPC, SeqQ, BlkQ, LoopQ, BodyQ, k1, r1, r2, w1, w2, w3, k2, dot_str, bstr_app, bstr_size, j1, FR.out])
        | (first | refine CallV.fn (cB) (Sm.out ?_) | refine ExF.mk (cB) (Sm.out ?_) | refine ExG.mk (fun _ => cB) (Sm.out ?_) | refine ExG.mkJ (fun _ => cB) (Sm.out ?_) | refine ExG.mkI (Ob.out ?_) (fun _ => cB) (Sm.out ?_))
        | (first | refine CallV.fn (cD) (Sm.out ?_) | refine ExF.mk (cD) (Sm.out ?_) | refine ExG.mk (fun _ => cD) (Sm.out ?_) | refine ExG.mkJ (fun _ => cD) (Sm.out ?_) | refine ExG.mkI (Ob.out ?_) (fun _ => cD) (Sm.out ?_))
        | (refine WP.seq fun K hK => ?_)
        | (refine WP.region (rvc_sound _ _ (Sm.out ?_)))
        | (refine WP.drawK rfl mixed (by decide +kernel) (Sm.out ?_))
        | (refine Ob.mk ?_; focus (first | assumption | omega | decide | trivial | (intro hob; simp only [hob, ZF]; done) | (intros; (repeat' refine And.intro ?_ ?_) <;> first | assumption | omega | trivial | decide) | (intros; simp only [ZE] at *; (repeat' refine And.intro ?_ ?_) <;> first | assumption | omega | trivial)))
        | (refine And.intro (Ob.out ?_) ?_)
        | (refine WP.block ?_)
        | (refine WP.cond rfl (fun hc => ?_) (fun hc => ?_) <;> (try simp only [ZC, reduceCtorEq, ZD] at hc) <;> (try (exact absurd hc (by decide))) <;> (try (exfalso; omega)))
        | ((first | refine WP.skip ?_ | refine WP.exit ?_); simp only [SeqQ, BlkQ, LoopQ, BodyQ, ↓reduceIte, Nat.reduceEqDiff, reduceCtorEq, look, true_and])
        | (refine WP.ret (Sm.out ?_))
        | (first | refine ExG.no (Sm.out ?_) | refine Or.inl (ExG.no (Sm.out ?_)) | refine Or.inl (And.intro (fun hg => absurd hg (by decide)) (ExG.no (Sm.out ?_))))
        | (refine Rt.mk ?_; refine And.intro ?_ ?_ <;> (intro hg; first | exact absurd hg (by decide) | refine Sm.out ?_))
        | (refine Nu.mk ?_; first | (fail_if_success (have := nb1)); intro nb1 | (fail_if_success (have := nb2)); intro nb2 | (fail_if_success (have := nb3)); intro nb3 | (fail_if_success (have := nb4)); intro nb4 | (fail_if_success (have := nb5)); intro nb5 | (fail_if_success (have := nb6)); intro nb6 | intro nbz)
        | (refine Fr.mk ?_; intro hfr; (first | (have hFRb : _ ≤ _ ∧ _ ≤ _ := And.intro hfr.1 hfr.2.1) | (have hFRb : _ ≤ _ := hfr.1) | skip); replace FR := Sm.mk (And.intro hfr FR.out); clear hfr; refine Sm.out ?_)
        | (refine Two.mk ?_ ?_)
        | (refine Cs.mk ?_; intro hcs; first | exact False.elim hcs | (exfalso; omega) | (refine Sm.out ?_))
        | go_step
        | omega
        | (simp only [maxLen_eq]; omega))
  all_goals
    refine WP.loop (Γ := FrG) (fun g => ⟨[(3, stz g.A), (4, iv .u32 (g.n : Int))], []⟩) (fun g => g.k ≤ 4 ∧ g.n < 10000 ∧ g.n % 10 ^ (4 - g.k) = 0 ∧ g.A.length + g.k ≤ 44 ∧ R = g.A ++ frc g.k g.n ++ [37]) (fun g => g.k) ⟨4, y, S⟩
      ⟨Nat.le_refl _, by simp only; omega, by simp [Nat.mod_one], by simp only; omega, hR⟩ (Sub.pick (by simp [pickB, hget, hdel, FR.out, hb]) (by simp [look, hb])) ?_
  all_goals
    intro ⟨k, n, A⟩ ⟨h1, h2, h3, h4, h5⟩
    simp only at h1 h2 h3 h4 h5 ⊢
    have FR : Sm (¬ ((1 : Nat) = 0)) := Sm.mk Nat.one_ne_zero
    have j2 : A.length + ([37] : List Int).length ≤ 9223372036854775807 := by simp only [List.length_cons, List.length_nil]; omega
    by_cases hn : n = 0
    · subst hn
      have kz : decide (((0 : Nat) : Int) > 0) = false := by decide
      have hf : R = A ++ [37] := by rw [h5, frc_zero, List.append_nil]
      first | (have FRx := FR; clear FRx) | (have FR : Sm (¬ ((1 : Nat) = 0)) := Sm.mk Nat.one_ne_zero)
      repeat' first
        | (refine Sm.mk ?_; try simp -dsimp only [ZK, rvc, drawF, headN, pureH, stp, dvc, calleeOf, gcall, pev, eff, newB, okd, og, ogs, ogo, ogp, slv, bltv, opd, litv, strip, one, both, putE, St.put, look, gdOf, gdv, picka, pickv, pickw, binv, bini, bins, binb, binp, binq, isSlT, bina, shp, eqCells, unv, convv, nilv, faddv, addp, idxav, idxp, load1, load1m, loadn, loadnm, loadv, hget, hset, hrep, hdel, slicev, bnd, shift1, lenv, capv, IntKind.bits, extractv, fieldv, indexv, min2v, max2v, mkiv, cellsA, fillA, buildv, stC, oneC, rowMB, intsA, plN, appE, appZ, appC, appNZ, appNC, VwL, srcC, srcZ, srcM, isBoolT, isPtrT, isSliceT, uOk, Value.oneCell', Nat.reducePow, Int.reducePow, Nat.reduceAdd, Nat.reduceMul, Nat.reduceSub, Nat.reduceLT, Nat.reduceLeDiff, Nat.reduceEqDiff, Nat.reduceBEq, Nat.reduceDiv, Nat.reduceMod, ↓reduceIte, reduceCtorEq, Int.reduceToNat, Int.reduceLT, Int.reduceLE, TFStPC, SeqQ, BlkQ, LoopQ, BodyQ, kz, pc_str, bstr_app, bstr_size, j2, FR.out])
        | (refine WP.seq fun K hK => ?_)
        | (refine WP.region (rvc_sound _ _ (Sm.out ?_)))
        | (refine WP.drawK rfl mixed (by decide +kernel) (Sm.out ?_))
        | (refine Ob.mk ?_; focus (first | assumption | omega | decide | trivial | (intro hob; simp only [hob, ZF]; done) | (intros; (repeat' refine And.intro ?_ ?_) <;> first | assumption | omega | trivial | decide) | (intros; simp only [ZE] at *; (repeat' refine And.intro ?_ ?_) <;> first | assumption | omega | trivial)))
        | (refine And.intro (Ob.out ?_) ?_)
        | (refine WP.block ?_)
        | (refine WP.cond rfl (fun hc => ?_) (fun hc => ?_) <;> (try simp only [ZC, reduceCtorEq, ZD] at hc) <;> (try (exact absurd hc (by decide))) <;> (try (exfalso; omega)))
        | ((first | refine WP.skip ?_ | refine WP.exit ?_); simp only [SeqQ, BlkQ, LoopQ, BodyQ, ↓reduceIte, Nat.reduceEqDiff, reduceCtorEq, look, true_and])
        | (refine WP.ret (Sm.out ?_))
        | (first | refine ExG.no (Sm.out ?_) | refine Or.inl (ExG.no (Sm.out ?_)) | refine Or.inl (And.intro (fun hg => absurd hg (by decide)) (ExG.no (Sm.out ?_))))
        | (refine Rt.mk ?_; refine And.intro ?_ ?_ <;> (intro hg; first | exact absurd hg (by decide) | refine Sm.out ?_))
        | (refine Nu.mk ?_; first | (fail_if_success (have := nb1)); intro nb1 | (fail_if_success (have := nb2)); intro nb2 | (fail_if_success (have := nb3)); intro nb3 | (fail_if_success (have := nb4)); intro nb4 | (fail_if_success (have := nb5)); intro nb5 | (fail_if_success (have := nb6)); intro nb6 | intro nbz)
        | (refine Fr.mk ?_; intro hfr; (first | (have hFRb : _ ≤ _ ∧ _ ≤ _ := And.intro hfr.1 hfr.2.1) | (have hFRb : _ ≤ _ := hfr.1) | skip); replace FR := Sm.mk (And.intro hfr FR.out); clear hfr; refine Sm.out ?_)
        | (refine Two.mk ?_ ?_)
        | (refine Cs.mk ?_; intro hcs; first | exact False.elim hcs | (exfalso; omega) | (refine Sm.out ?_))
        | go_step
        | omega
        | (simp only [maxLen_eq]; omega)
      (refine OutQ.all ?_ ?_; (focus (simp only [resv, ZK, look, loadv, loadn, loadnm, load1, load1m, hget, ↓reduceIte, Nat.reduceEqDiff, Nat.reduceAdd, Nat.reduceMul, Nat.reduceLeDiff, Nat.reduceLT, reduceCtorEq, TFStPC, hf])); (try simp only [resv, resA, Fn, ZK, look, loadv, loadn, loadnm, load1, load1m, hget, ↓reduceIte, Nat.reduceEqDiff, Nat.reduceAdd, Nat.reduceMul, Nat.reduceLeDiff, Nat.reduceLT, reduceCtorEq, TFStPC, hf]); (try simp [resA, Fn, look, hf]))
    · have kz : decide ((n : Int) > 0) = true := decide_eq_true (by omega)
      obtain ⟨k, rfl⟩ : ∃ j, k = j + 1 := by
        refine ⟨k - 1, ?_⟩
        have : k ≠ 0 := fun h => by subst h; simp at h3; omega
        omega
      have g1 : (n : Int).tdiv 1000 = ((n / 1000 : Nat) : Int) := by rw [Int.tdiv_eq_ediv_of_nonneg (by omega)]; omega
      have g2 : (n : Int).tmod 1000 = ((n % 1000 : Nat) : Int) := by rw [Int.tmod_eq_emod_of_nonneg (by omega)]; omega
      have v1 : IntKind.u32.wrap ((n / 1000 : Nat) : Int) = ((n / 1000 : Nat) : Int) := wrap_u32 (by omega) (by omega)
      have v2 : IntKind.u8.wrap ((n / 1000 : Nat) : Int) = ((n / 1000 : Nat) : Int) := wrap_u8 (by omega) (by omega)
      have v3 : IntKind.u8.wrap (48 + ((n / 1000 : Nat) : Int)) = ((48 + n / 1000 : Nat) : Int) := by rw [wrap_u8 (by omega) (by omega)]; omega
      have v4 : IntKind.u32.wrap ((n % 1000 : Nat) : Int) = ((n % 1000 : Nat) : Int) := wrap_u32 (by omega) (by omega)
      have v5 : IntKind.u32.wrap (((n % 1000 : Nat) : Int) * 10) = ((n % 1000 * 10 : Nat) : Int) := by rw [wrap_u32 (by omega) (by omega)]; omega
      have j3 : A.length + 1 ≤ 9223372036854775807 := by omega
      first | (have FRx := FR; clear FRx) | (have FR : Sm (¬ ((1 : Nat) = 0)) := Sm.mk Nat.one_ne_zero)
      repeat' first
        | (refine Sm.mk ?_; try simp -dsimp only [ZK, rvc, drawF, headN, pureH, stp, dvc, calleeOf, gcall, pev, eff, newB, okd, og, ogs, ogo, ogp, slv, bltv, opd, litv, strip, one, both, putE, St.put, look, gdOf, gdv, picka, pickv, pickw, binv, bini, bins, binb, binp, binq, isSlT, bina, shp, eqCells, unv, convv, nilv, faddv, addp, idxav, idxp, load1, load1m, loadn, loadnm, loadv, hget, hset, hrep, hdel, slicev, bnd, shift1, lenv, capv, IntKind.bits, extractv, fieldv, indexv, min2v, max2v, mkiv, cellsA, fillA, buildv, stC, oneC, rowMB, intsA, plN, appE, appZ, appC, appNZ, appNC, VwL, srcC, srcZ, srcM, isBoolT, isPtrT, isSliceT, uOk, Value.oneCell', Nat.reducePow, Int.reducePow, Nat.reduceAdd, Nat.reduceMul, Nat.reduceSub, Nat.reduceLT, Nat.reduceLeDiff, Nat.reduceEqDiff, Nat.reduceBEq, Nat.reduceDiv, Nat.reduceMod, ↓reduceIte, reduceCtorEq, Int.reduceToNat, Int.reduceLT, Int.reduceLE, TFStPC, SeqQ, BlkQ, LoopQ, BodyQ, kz, g1, g2, v1, v2, v3, v4, v5, bstr_app, bstr_size, j3, FR.out])
        | (refine WP.seq fun K hK => ?_)
        | (refine WP.region (rvc_sound _ _ (Sm.out ?_)))
        | (refine WP.drawK rfl mixed (by decide +kernel) (Sm.out ?_))
        | (refine Ob.mk ?_; focus (first | assumption | omega | decide | trivial | (intro hob; simp only [hob, ZF]; done) | (intros; (repeat' refine And.intro ?_ ?_) <;> first | assumption | omega | trivial | decide) | (intros; simp only [ZE] at *; (repeat' refine And.intro ?_ ?_) <;> first | assumption | omega | trivial)))
        | (refine And.intro (Ob.out ?_) ?_)
        | (refine WP.block ?_)
        | (refine WP.cond rfl (fun hc => ?_) (fun hc => ?_) <;> (try simp only [ZC, reduceCtorEq, ZD] at hc) <;> (try (exact absurd hc (by decide))) <;> (try (exfalso; omega)))
        | ((first | refine WP.skip ?_ | refine WP.exit ?_); simp only [SeqQ, BlkQ, LoopQ, BodyQ, ↓reduceIte, Nat.reduceEqDiff, reduceCtorEq, look, true_and])
        | (refine WP.ret (Sm.out ?_))
        | (first | refine ExG.no (Sm.out ?_) | refine Or.inl (ExG.no (Sm.out ?_)) | refine Or.inl (And.intro (fun hg => absurd hg (by decide)) (ExG.no (Sm.out ?_))))
        | (refine Rt.mk ?_; refine And.intro ?_ ?_ <;> (intro hg; first | exact absurd hg (by decide) | refine Sm.out ?_))
        | (refine Nu.mk ?_; first | (fail_if_success (have := nb1)); intro nb1 | (fail_if_success (have := nb2)); intro nb2 | (fail_if_success (have := nb3)); intro nb3 | (fail_if_success (have := nb4)); intro nb4 | (fail_if_success (have := nb5)); intro nb5 | (fail_if_success (have := nb6)); intro nb6 | intro nbz)
        | (refine Fr.mk ?_; intro hfr; (first | (have hFRb : _ ≤ _ ∧ _ ≤ _ := And.intro hfr.1 hfr.2.1) | (have hFRb : _ ≤ _ := hfr.1) | skip); replace FR := Sm.mk (And.intro hfr FR.out); clear hfr; refine Sm.out ?_)
        | (refine Two.mk ?_ ?_)
        | (refine Cs.mk ?_; intro hcs; first | exact False.elim hcs | (exfalso; omega) | (refine Sm.out ?_))
        | go_step
        | omega
        | (simp only [maxLen_eq]; omega)
      refine ⟨⟨k, n % 1000 * 10, A ++ [((48 + n / 1000 : Nat) : Int)]⟩, ⟨by simp only; omega, by simp only; omega, ?_, by simp only [List.length_append, List.length_cons, List.length_nil]; omega, ?_⟩, by simp only; omega, (Sub.pick (by simp [pickB, hget, hdel, FR.out]) (by simp [look]))⟩
      · simp only
        rcases (by omega : k = 0 ∨ k = 1 ∨ k = 2 ∨ k = 3) with rfl | rfl | rfl | rfl <;> simp at h3 ⊢ <;> omega
      · rw [h5, frc_succ, if_neg hn]; simp
end Go.Proofs.YtocfaghflhgeeaaDoor
namespace Go.Proofs.YtocfaghflhgeeaaDoor
open Go
set_option linter.unusedVariables false
set_option linter.unusedSimpArgs false
theorem dig_eq : ∀ q, q < 101 → digF 39 q = dgp q := by decide +kernel
theorem frc_all : ∀ a, a < 100 → ∀ b, b < 100 → 0 < 100 * a + b → frc 4 (100 * a + b) = tr4 (100 * a + b) := by decide +kernel
theorem frc_eq (y : Nat) (h : y < 10000) (h0 : 0 < y) : frc 4 y = tr4 y := by
  have := frc_all (y / 100) (by omega) (y % 100) (by omega) (by omega)
  rw [show 100 * (y / 100) + y % 100 = y by omega] at this
  exact this
theorem print_eq (p : Nat) (hp : p ≤ 1000000) : digF 39 (p / 10000) ++ (if p % 10000 = 0 then [] else [46]) ++ frc 4 (p % 10000) ++ [37] = prP p := by
  unfold prP
  rw [if_pos hp, dig_eq (p / 10000) (by omega)]
  by_cases h : p % 10000 = 0
  · rw [if_pos h, if_pos h, h, frc_zero]; simp
  · rw [if_neg h, if_neg h, frc_eq _ (by omega) (by omega)]
    have hq : p / 10000 ≠ 100 := by omega
    unfold dgp
    rw [if_neg hq]
    simp
end Go.Proofs.YtocfaghflhgeeaaDoor
namespace Go.Proofs.YtocfaghflhgeeaaDoor
open Go
set_option linter.unusedVariables false
set_option linter.unusedSimpArgs false
abbrev rgood (v : Int) : AV := .tup [iv .u32 v, iv .i64 0]
theorem sfx_app (xs : List Int) (c : Int) : sfx (xs ++ [c]) c = true := by
  unfold sfx
  simp [List.getD_eq_getElem?_getD]
theorem cutS_app (xs : List Int) (c : Int) : cutS (xs ++ [c]) c = xs := by
  unfold cutS; rw [if_pos (sfx_app xs c)]; simp
theorem sfx_cut {zs : List Int} {c : Int} (h : sfx zs c = true) : zs = cutS zs c ++ [c] := by
  unfold cutS; rw [if_pos h]
  unfold sfx at h
  simp only [Bool.and_eq_true, decide_eq_true_eq, beq_iff_eq] at h
  obtain ⟨h1, h2⟩ := h
  have hn : zs ≠ [] := by intro h; subst h; simp at h1
  have h3 : zs.getLast hn = c := by
    rw [← h2, List.getLast_eq_getElem, List.getD_eq_getElem?_getD, List.getElem?_eq_getElem (by omega)]; rfl
  rw [← List.dropLast_eq_take, ← h3]
  exact (List.dropLast_concat_getLast hn).symm
theorem ixN_none (c : Int) : ∀ xs : List Int, (∀ j, j < xs.length → xs.getD j 0 ≠ c) → ixN xs c = xs.length := by
  intro xs
  induction xs with
  | nil => intro _; rfl
  | cons x r ih =>
    intro h
    have h0 := h 0 (by simp)
    rw [ixN_cons, if_neg (by simpa using h0), ih fun j hj => by have := h (j + 1) (by simpa using hj); simpa using this]
    rfl
theorem ixN_app (c : Int) (ys : List Int) : ∀ xs : List Int, (∀ j, j < xs.length → xs.getD j 0 ≠ c) → ixN (xs ++ c :: ys) c = xs.length := by
  intro xs
  induction xs with
  | nil => intro _; show ixN (c :: ys) c = 0; rw [ixN_cons, if_pos rfl]
  | cons x r ih =>
    intro h
    have h0 := h 0 (by simp)
    rw [List.cons_append, ixN_cons, if_neg (by simpa using h0), ih fun j hj => by have := h (j + 1) (by simpa using hj); simpa using this]
    rfl
theorem ixN_split (c : Int) : ∀ zs : List Int, ixN zs c < zs.length → zs = zs.take (ixN zs c) ++ c :: zs.drop (ixN zs c + 1) := by
  intro zs
  induction zs with
  | nil => intro h; exact absurd h (Nat.not_lt_zero _)
  | cons x r ih =>
    intro h
    rw [ixN_cons] at h ⊢
    by_cases hx : x = c
    · rw [if_pos hx]; simp [hx]
    · rw [if_neg hx] at h ⊢
      have := ih (by simpa using h)
      simp only [List.take_succ_cons, List.drop_succ_cons, List.cons_append]
      rw [← this]
theorem digZ_no {xs : List Int} (h : digZ xs) {c : Int} (hc : c < 48) : ∀ j, j < xs.length → xs.getD j 0 ≠ c := fun j hj => by have := h j hj; omega
theorem rd_int {D : List Int} (h : digZ D) : rdP (D ++ [37]) = if whOk D then finA (whV D) 0 else rbad 5 := by
  unfold rdP
  rw [if_pos (sfx_app D 37), cutS_app]
  unfold rdB
  rw [ixN_none 46 D (digZ_no h (by decide)), if_neg (Nat.lt_irrefl _)]
theorem rd_frac {D T : List Int} (h : digZ D) : rdP (D ++ ([46] ++ T) ++ [37]) = if whOk D ∧ tlOk T then finA (whV D) (tlV T) else rbad 5 := by
  unfold rdP
  rw [if_pos (sfx_app _ 37), cutS_app]
  unfold rdB
  have e : D ++ ([46] ++ T) = D ++ 46 :: T := rfl
  rw [e, ixN_app 46 T D (digZ_no h (by decide)), if_pos (by simp)]
  have e1 : (D ++ 46 :: T).take D.length = D := by simp
  have e2 : (D ++ 46 :: T).drop (D.length + 1) = T := by
    rw [List.drop_append]; simp
  rw [e1, e2]
theorem dgp_all : ∀ q, q < 101 → whOk (dgp q) ∧ whV (dgp q) = (q : Int) := by decide +kernel
theorem tr4_len (y : Nat) : (tr4 y).length ≤ 4 := by unfold tr4; rw [List.length_take]; exact Nat.min_le_right _ _
/-- the digits behind the point, in their four shapes -/
theorem tr4_1 {a : Nat} (h : a < 10) (h0 : 0 < a) : tr4 (1000 * a) = [((48 + a : Nat) : Int)] := by
  have e : dg4 (1000 * a) = [((48 + a : Nat) : Int), 48, 48, 48] := by
    simp only [dg4, List.cons.injEq, and_true]; refine ⟨?_, ?_, ?_, ?_⟩ <;> omega
  unfold tr4
  rw [e, trN_succ, if_pos (by rfl), trN_succ, if_pos (by rfl), trN_succ, if_pos (by rfl), trN_succ, if_neg (by show ¬ ((48 + a : Nat) : Int) = 48; omega)]
  rfl
theorem tr4_2 {a b : Nat} (h : a < 10) (hb : b < 10) (h0 : 0 < b) : tr4 (1000 * a + 100 * b) = [((48 + a : Nat) : Int), ((48 + b : Nat) : Int)] := by
  have e : dg4 (1000 * a + 100 * b) = [((48 + a : Nat) : Int), ((48 + b : Nat) : Int), 48, 48] := by
    simp only [dg4, List.cons.injEq, and_true]; refine ⟨?_, ?_, ?_, ?_⟩ <;> omega
  unfold tr4
  rw [e, trN_succ, if_pos (by rfl), trN_succ, if_pos (by rfl), trN_succ, if_neg (by show ¬ ((48 + b : Nat) : Int) = 48; omega)]
  rfl
theorem tr4_3 {a b c : Nat} (h : a < 10) (hb : b < 10) (hc : c < 10) (h0 : 0 < c) : tr4 (1000 * a + 100 * b + 10 * c) = [((48 + a : Nat) : Int), ((48 + b : Nat) : Int), ((48 + c : Nat) : Int)] := by
  have e : dg4 (1000 * a + 100 * b + 10 * c) = [((48 + a : Nat) : Int), ((48 + b : Nat) : Int), ((48 + c : Nat) : Int), 48] := by
    simp only [dg4, List.cons.injEq, and_true]; refine ⟨?_, ?_, ?_, ?_⟩ <;> omega
  unfold tr4
  rw [e, trN_succ, if_pos (by rfl), trN_succ, if_neg (by show ¬ ((48 + c : Nat) : Int) = 48; omega)]
  rfl
theorem tr4_4 {a b c d : Nat} (h : a < 10) (hb : b < 10) (hc : c < 10) (hd : d < 10) (h0 : 0 < d) : tr4 (1000 * a + 100 * b + 10 * c + d) = [((48 + a : Nat) : Int), ((48 + b : Nat) : Int), ((48 + c : Nat) : Int), ((48 + d : Nat) : Int)] := by
  have e : dg4 (1000 * a + 100 * b + 10 * c + d) = [((48 + a : Nat) : Int), ((48 + b : Nat) : Int), ((48 + c : Nat) : Int), ((48 + d : Nat) : Int)] := by
    simp only [dg4, List.cons.injEq, and_true]; refine ⟨?_, ?_, ?_, ?_⟩ <;> omega
  unfold tr4
  rw [e, trN_succ, if_neg (by show ¬ ((48 + d : Nat) : Int) = 48; omega)]
  rfl
theorem tlOk_iff (T : List Int) : tlOk T ↔ digZ T ∧ 0 < T.length ∧ T.length ≤ 4 ∧ T.getD (T.length - 1) 0 ≠ 48 := by
  unfold tlOk sfx
  simp only [Bool.and_eq_false_iff, decide_eq_false_iff_not, beq_eq_false_iff_ne]
  constructor
  · rintro ⟨⟨h1, h2, h3⟩, h4 | h4⟩
    · exact absurd h2 h4
    · exact ⟨h1, h2, h3, h4⟩
  · rintro ⟨h1, h2, h3, h4⟩
    exact ⟨⟨h1, h2, h3⟩, .inr h4⟩
/-- a tail and its number, either way -/
theorem tl_back {T : List Int} (h : tlOk T) : ∃ f : Nat, tlV T = (f : Int) ∧ 0 < f ∧ f < 10000 ∧ tr4 f = T := by
  obtain ⟨hd, h0, h4, hl⟩ := (tlOk_iff T).1 h
  match T, h0, h4 with
  | [a], _, _ =>
    have ha := hd 0 (by simp)
    simp at ha hl
    obtain ⟨x, rfl⟩ : ∃ x : Nat, a = ((48 + x : Nat) : Int) := ⟨(a - 48).toNat, by omega⟩
    refine ⟨1000 * x, ?_, by omega, by omega, tr4_1 (by omega) (by omega)⟩
    unfold tlV; rw [padV_eq]; simp [valR]; omega
  | [a, b], _, _ =>
    have ha := hd 0 (by simp)
    have hb := hd 1 (by simp)
    simp at ha hb hl
    obtain ⟨x, rfl⟩ : ∃ x : Nat, a = ((48 + x : Nat) : Int) := ⟨(a - 48).toNat, by omega⟩
    obtain ⟨y, rfl⟩ : ∃ x : Nat, b = ((48 + x : Nat) : Int) := ⟨(b - 48).toNat, by omega⟩
    refine ⟨1000 * x + 100 * y, ?_, by omega, by omega, tr4_2 (by omega) (by omega) (by omega)⟩
    unfold tlV; rw [padV_eq]; simp [valR]; omega
  | [a, b, c], _, _ =>
    have ha := hd 0 (by simp)
    have hb := hd 1 (by simp)
    have hc := hd 2 (by simp)
    simp at ha hb hc hl
    obtain ⟨x, rfl⟩ : ∃ x : Nat, a = ((48 + x : Nat) : Int) := ⟨(a - 48).toNat, by omega⟩
    obtain ⟨y, rfl⟩ : ∃ x : Nat, b = ((48 + x : Nat) : Int) := ⟨(b - 48).toNat, by omega⟩
    obtain ⟨z, rfl⟩ : ∃ x : Nat, c = ((48 + x : Nat) : Int) := ⟨(c - 48).toNat, by omega⟩
    refine ⟨1000 * x + 100 * y + 10 * z, ?_, by omega, by omega, tr4_3 (by omega) (by omega) (by omega) (by omega)⟩
    unfold tlV; rw [padV_eq]; simp [valR]; omega
  | [a, b, c, d], _, _ =>
    have ha := hd 0 (by simp)
    have hb := hd 1 (by simp)
    have hc := hd 2 (by simp)
    have he := hd 3 (by simp)
    simp at ha hb hc he hl
    obtain ⟨x, rfl⟩ : ∃ x : Nat, a = ((48 + x : Nat) : Int) := ⟨(a - 48).toNat, by omega⟩
    obtain ⟨y, rfl⟩ : ∃ x : Nat, b = ((48 + x : Nat) : Int) := ⟨(b - 48).toNat, by omega⟩
    obtain ⟨z, rfl⟩ : ∃ x : Nat, c = ((48 + x : Nat) : Int) := ⟨(c - 48).toNat, by omega⟩
    obtain ⟨w, rfl⟩ : ∃ x : Nat, d = ((48 + x : Nat) : Int) := ⟨(d - 48).toNat, by omega⟩
    refine ⟨1000 * x + 100 * y + 10 * z + w, ?_, by omega, by omega, tr4_4 (by omega) (by omega) (by omega) (by omega) (by omega)⟩
    unfold tlV; rw [padV_eq]; simp [valR]; omega
  | _ :: _ :: _ :: _ :: _ :: _, _, h => simp at h
theorem tl_fwd (y : Nat) (h0 : 0 < y) (h : y < 10000) : tlOk (tr4 y) ∧ tlV (tr4 y) = (y : Int) := by
  have hv : ∀ T f, tlOk T → tlV T = f → tlOk T ∧ tlV T = f := fun _ _ a b => ⟨a, b⟩
  obtain ⟨a, b, c, d, ha, hb, hc, hd, hy⟩ : ∃ a b c d, a < 10 ∧ b < 10 ∧ c < 10 ∧ d < 10 ∧ y = 1000 * a + 100 * b + 10 * c + d := ⟨y / 1000, y / 100 % 10, y / 10 % 10, y % 10, by omega, by omega, by omega, by omega, by omega⟩
  by_cases d0 : d = 0
  · by_cases c0 : c = 0
    · by_cases b0 : b = 0
      · have e := tr4_1 ha (by omega)
        rw [show 1000 * a = y by omega] at e
        rw [e]
        refine ⟨(tlOk_iff _).2 ⟨fun j hj => ?_, by simp, by simp, by simp; omega⟩, by unfold tlV; rw [padV_eq]; simp [valR]; omega⟩
        have : j = 0 := by simp at hj; omega
        subst this; simp; omega
      · have e := tr4_2 ha hb (by omega)
        rw [show 1000 * a + 100 * b = y by omega] at e
        rw [e]
        refine ⟨(tlOk_iff _).2 ⟨fun j hj => ?_, by simp, by simp, by simp; omega⟩, by unfold tlV; rw [padV_eq]; simp [valR]; omega⟩
        rcases (by simp at hj; omega : j = 0 ∨ j = 1) with rfl | rfl <;> simp <;> omega
    · have e := tr4_3 ha hb hc (by omega)
      rw [show 1000 * a + 100 * b + 10 * c = y by omega] at e
      rw [e]
      refine ⟨(tlOk_iff _).2 ⟨fun j hj => ?_, by simp, by simp, by simp; omega⟩, by unfold tlV; rw [padV_eq]; simp [valR]; omega⟩
      rcases (by simp at hj; omega : j = 0 ∨ j = 1 ∨ j = 2) with rfl | rfl | rfl <;> simp <;> omega
  · have e := tr4_4 ha hb hc hd (by omega)
    rw [← hy] at e
    rw [e]
    refine ⟨(tlOk_iff _).2 ⟨fun j hj => ?_, by simp, by simp, by simp; omega⟩, by unfold tlV; rw [padV_eq]; simp [valR]; omega⟩
    rcases (by simp at hj; omega : j = 0 ∨ j = 1 ∨ j = 2 ∨ j = 3) with rfl | rfl | rfl | rfl <;> simp <;> omega
theorem wh_back {H : List Int} (h : whOk H) (hv : whV H ≤ 100) : ∃ n : Nat, whV H = (n : Int) ∧ dgp n = H := by
  obtain ⟨h0, hd, hz⟩ := h
  match H, h0 with
  | [a], _ =>
    have ha := hd 0 (by simp)
    simp at ha
    obtain ⟨x, rfl⟩ : ∃ x : Nat, a = ((48 + x : Nat) : Int) := ⟨(a - 48).toNat, by omega⟩
    refine ⟨x, ?_, ?_⟩
    · unfold whV at hv ⊢
      simp [valR] at hv ⊢
      split <;> omega
    · unfold dgp dgs; rw [if_neg (by omega), if_pos (by omega)]
  | [a, b], _ =>
    have ha := hd 0 (by simp)
    have hb := hd 1 (by simp)
    simp at ha hb hz
    obtain ⟨x, rfl⟩ : ∃ x : Nat, a = ((48 + x : Nat) : Int) := ⟨(a - 48).toNat, by omega⟩
    obtain ⟨y, rfl⟩ : ∃ x : Nat, b = ((48 + x : Nat) : Int) := ⟨(b - 48).toNat, by omega⟩
    refine ⟨10 * x + y, ?_, ?_⟩
    · unfold whV at hv ⊢
      simp [valR] at hv ⊢
      split <;> omega
    · unfold dgp dgs; rw [if_neg (by omega), if_neg (by omega)]
      simp only [List.cons.injEq, and_true]; omega
  | [a, b, c], _ =>
    have ha := hd 0 (by simp)
    have hb := hd 1 (by simp)
    have hc := hd 2 (by simp)
    simp at ha hb hc hz
    have hv2 := hv
    unfold whV at hv2
    simp [valR] at hv2
    have e : a = 49 ∧ b = 48 ∧ c = 48 := by split at hv2 <;> omega
    obtain ⟨rfl, rfl, rfl⟩ := e
    exact ⟨100, by decide +kernel, rfl⟩
  | _ :: _ :: _ :: _ :: _, _ =>
    unfold whV at hv
    rw [if_pos (by simp)] at hv
    omega
theorem digZ_by {zs : List Int} (h : digZ zs) : ∀ i, i < zs.length → 0 ≤ zs.getD i 0 ∧ zs.getD i 0 ≤ 255 := fun i hi => by have := h i hi; omega
theorem tr4_dig {y : Nat} (h : y < 10000) : digZ (tr4 y) := by
  by_cases h0 : 0 < y
  · exact (tl_fwd y h0 h).1.1.1
  · have : y = 0 := by omega
    subst this; decide +kernel
/-- what is read of a print -/
theorem rd_prP (p : Nat) : rdP (prP p) = if p ≤ 1000000 then rgood (p : Int) else rbad 5 := by
  by_cases hp : p ≤ 1000000
  · rw [if_pos hp]
    unfold prP
    rw [if_pos hp]
    obtain ⟨w1, w2⟩ := dgp_all (p / 10000) (by omega)
    by_cases h0 : p % 10000 = 0
    · rw [if_pos h0, rd_int w1.2.1, if_pos w1, w2]
      unfold finA
      rw [if_neg (by omega), show ((p / 10000 : Nat) : Int) * 10000 + 0 = (p : Int) by omega]
    · have e : dgs (p / 10000) = dgp (p / 10000) := by unfold dgp; rw [if_neg (by omega)]
      obtain ⟨t1, t2⟩ := tl_fwd (p % 10000) (by omega) (by omega)
      rw [if_neg h0, e, rd_frac w1.2.1, if_pos ⟨w1, t1⟩, w2, t2]
      unfold finA
      rw [if_neg (by omega), show ((p / 10000 : Nat) : Int) * 10000 + ((p % 10000 : Nat) : Int) = (p : Int) by omega]
  · rw [if_neg hp]
    unfold prP
    rw [if_neg hp]
    rfl
/-- what is read of a text -/
theorem rd_text (zs : List Int) : (∃ v : Nat, v ≤ 1000000 ∧ rdP zs = rgood (v : Int) ∧ prP v = zs) ∨ ∃ c : Int, c ≠ 0 ∧ rdP zs = rbad c := by
  by_cases h : sfx zs 37 = true
  · have e := sfx_cut h
    unfold rdP
    rw [if_pos h]
    obtain ⟨B, hB⟩ : ∃ B, B = cutS zs 37 := ⟨_, rfl⟩
    rw [← hB] at e ⊢
    subst e
    unfold rdB
    by_cases hx : ixN B 46 < B.length
    · rw [if_pos hx]
      have e2 := ixN_split 46 B hx
      obtain ⟨H, hH⟩ : ∃ H, H = B.take (ixN B 46) := ⟨_, rfl⟩
      obtain ⟨T, hT⟩ : ∃ T, T = B.drop (ixN B 46 + 1) := ⟨_, rfl⟩
      rw [← hH, ← hT] at e2 ⊢
      by_cases hc : whOk H ∧ tlOk T
      · rw [if_pos hc]
        obtain ⟨f, f1, f2, f3, f4⟩ := tl_back hc.2
        unfold finA
        by_cases hr : 100 < whV H ∨ whV H = 100 ∧ 0 < tlV T
        · exact .inr ⟨8, by decide, if_pos hr⟩
        · rw [if_neg hr]
          obtain ⟨n, n1, n2⟩ := wh_back hc.1 (by omega)
          rw [n1, f1] at hr ⊢
          refine .inl ⟨n * 10000 + f, by omega, by rw [show ((n * 10000 + f : Nat) : Int) = (n : Int) * 10000 + (f : Int) by omega], ?_⟩
          unfold prP
          rw [if_pos (by omega), show (n * 10000 + f) % 10000 = f by omega, show (n * 10000 + f) / 10000 = n by omega, if_neg (by omega), f4, e2]
          have : dgs n = H := by rw [← n2]; unfold dgp; rw [if_neg (by omega)]
          rw [this]; rfl
      · rw [if_neg hc]; exact .inr ⟨5, by decide, rfl⟩
    · rw [if_neg hx]
      by_cases hc : whOk B
      · rw [if_pos hc]
        unfold finA
        by_cases hr : 100 < whV B ∨ whV B = 100 ∧ (0 : Int) < 0
        · exact .inr ⟨8, by decide, if_pos hr⟩
        · rw [if_neg hr]
          obtain ⟨n, n1, n2⟩ := wh_back hc (by omega)
          rw [n1] at hr ⊢
          refine .inl ⟨n * 10000, by omega, by rw [show ((n * 10000 : Nat) : Int) = (n : Int) * 10000 + 0 by omega], ?_⟩
          unfold prP
          rw [if_pos (by omega), if_pos (by omega), show n * 10000 / 10000 = n by omega, n2]
      · rw [if_neg hc]; exact .inr ⟨5, by decide, rfl⟩
  · refine .inr ⟨5, by decide, ?_⟩
    unfold rdP; rw [if_neg h]
/-- all but the first point are digits -/
def okB (B : List Int) : Prop := ∀ j, j < B.length → j ≠ ixN B 46 → 48 ≤ B.getD j 0 ∧ B.getD j 0 ≤ 57
theorem ixN_le (c : Int) : ∀ zs : List Int, ixN zs c ≤ zs.length := by
  intro zs
  induction zs with
  | nil => exact Nat.le_refl _
  | cons x r ih =>
    rw [ixN_cons]
    split
    · exact Nat.zero_le _
    · simp only [List.length_cons]; omega
theorem ixN_at (c : Int) : ∀ zs : List Int, ixN zs c < zs.length → zs.getD (ixN zs c) 0 = c := by
  intro zs
  induction zs with
  | nil => intro h; exact absurd h (Nat.not_lt_zero _)
  | cons x r ih =>
    intro h
    rw [ixN_cons] at h ⊢
    by_cases hx : x = c
    · rw [if_pos hx]; simpa using hx
    · rw [if_neg hx] at h ⊢
      have := ih (by simpa using h)
      simpa using this
theorem ixN_lt (c : Int) : ∀ zs : List Int, ∀ j, j < ixN zs c → zs.getD j 0 ≠ c := by
  intro zs
  induction zs with
  | nil => intro j h; exact absurd h (Nat.not_lt_zero _)
  | cons x r ih =>
    intro j h
    rw [ixN_cons] at h
    by_cases hx : x = c
    · rw [if_pos hx] at h; exact absurd h (Nat.not_lt_zero _)
    · rw [if_neg hx] at h
      cases j with
      | zero => simpa using hx
      | succ i => have := ih i (by omega); simpa using this
theorem take_getD (B : List Int) {x j : Nat} (h : j < x) : (B.take x).getD j 0 = B.getD j 0 := by
  simp [List.getD_eq_getElem?_getD, List.getElem?_take, h]
theorem drop_getD (B : List Int) (x j : Nat) : (B.drop x).getD j 0 = B.getD (x + j) 0 := by
  simp [List.getD_eq_getElem?_getD, List.getElem?_drop]
/-- the whole percents and the tail, in the text's own places -/
def hdW (B : List Int) : Prop := 0 < ixN B 46 ∧ ¬ (B.getD 0 0 = 48 ∧ 1 < ixN B 46)
def tlW (B : List Int) : Prop := ixN B 46 < B.length → (1 ≤ B.length - 1 - ixN B 46 ∧ B.length - 1 - ixN B 46 ≤ 4 ∧ B.getD (B.length - 1) 0 ≠ 48)
theorem head_ok {B : List Int} (h : okB B) (hw : hdW B) : whOk (B.take (ixN B 46)) := by
  have hx := ixN_le 46 B
  have hl : (B.take (ixN B 46)).length = ixN B 46 := by rw [List.length_take]; omega
  unfold whOk
  rw [hl]
  refine ⟨hw.1, fun j hj => ?_, fun h48 => ?_⟩
  · rw [hl] at hj
    rw [take_getD B hj]
    exact h j (by omega) (by omega)
  · rw [take_getD B hw.1] at h48
    have := hw.2
    have := hw.1
    by_cases h1 : 1 < ixN B 46
    · exact absurd ⟨h48, h1⟩ hw.2
    · omega
theorem head_no {B : List Int} (hw : ¬ hdW B) : ¬ whOk (B.take (ixN B 46)) := fun h => by
  have hx := ixN_le 46 B
  have hl : (B.take (ixN B 46)).length = ixN B 46 := by rw [List.length_take]; omega
  obtain ⟨h1, h2, h3⟩ := h
  rw [hl] at h1 h3
  rw [take_getD B h1] at h3
  exact hw ⟨h1, fun h => by have := h3 h.1; omega⟩
theorem tail_len {B : List Int} (hlt : ixN B 46 < B.length) : (B.drop (ixN B 46 + 1)).length = B.length - 1 - ixN B 46 := by rw [List.length_drop]; omega
theorem tail_ok {B : List Int} (h : okB B) (hlt : ixN B 46 < B.length) (hw : tlW B) : tlOk (B.drop (ixN B 46 + 1)) := by
  obtain ⟨w1, w2, w3⟩ := hw hlt
  rw [tlOk_iff, tail_len hlt]
  refine ⟨fun j hj => ?_, by omega, w2, ?_⟩
  · rw [tail_len hlt] at hj
    rw [drop_getD]
    exact h _ (by omega) (by omega)
  · rw [drop_getD, show ixN B 46 + 1 + (B.length - 1 - ixN B 46 - 1) = B.length - 1 by omega]
    exact w3
theorem tail_no {B : List Int} (hw : ¬ tlW B) : ixN B 46 < B.length ∧ ¬ tlOk (B.drop (ixN B 46 + 1)) := by
  by_cases hlt : ixN B 46 < B.length
  · refine ⟨hlt, fun h => hw fun _ => ?_⟩
    obtain ⟨h1, h2, h3, h4⟩ := (tlOk_iff _).1 h
    rw [tail_len hlt] at h2 h3 h4
    rw [drop_getD, show ixN B 46 + 1 + (B.length - 1 - ixN B 46 - 1) = B.length - 1 by omega] at h4
    exact ⟨by omega, h3, h4⟩
  · exact absurd (fun h => absurd h hlt) hw
theorem rdB_word {B : List Int} (h : ¬ (okB B ∧ hdW B ∧ tlW B)) : rdB B = rbad 5 := by
  unfold rdB
  by_cases hlt : ixN B 46 < B.length
  · rw [if_pos hlt, if_neg ?_]
    rintro ⟨h1, h2⟩
    refine h ⟨fun j hj hne => ?_, ?_, ?_⟩
    · by_cases hjx : j < ixN B 46
      · have := h1.2.1 j (by rw [List.length_take]; omega)
        rw [take_getD B hjx] at this; exact this
      · have := h2.1.1 (j - (ixN B 46 + 1)) (by rw [List.length_drop]; omega)
        rw [drop_getD, show ixN B 46 + 1 + (j - (ixN B 46 + 1)) = j by omega] at this; exact this
    · by_cases hw : hdW B
      · exact hw
      · exact absurd h1 (head_no hw)
    · by_cases hw : tlW B
      · exact hw
      · exact absurd h2 (tail_no hw).2
  · have hx := ixN_le 46 B
    have e : ixN B 46 = B.length := by omega
    rw [if_neg hlt, if_neg ?_]
    intro h1
    have e2 : B.take (ixN B 46) = B := by rw [e, List.take_length]
    refine h ⟨fun j hj hne => h1.2.1 j hj, ?_, fun h => absurd h hlt⟩
    by_cases hw : hdW B
    · exact hw
    · have := head_no hw
      rw [e2] at this
      exact absurd h1 this
/-- the value with k places behind the point -/
def fvB (B : List Int) (x : Nat) (v : Int) : Nat → Int
  | 0 => v
  | k + 1 => 10 * fvB B x v k + (if x + 1 + k < B.length then B.getD (x + 1 + k) 0 - 48 else 0)
theorem fvB_succ (B : List Int) (x : Nat) (v : Int) (k : Nat) : fvB B x v (k + 1) = 10 * fvB B x v k + (if x + 1 + k < B.length then B.getD (x + 1 + k) 0 - 48 else 0) := rfl
theorem valR_take (B : List Int) (x : Nat) : ∀ k, k ≤ x → valR (B.take x) 0 k = valR B 0 k := by
  intro k
  induction k with
  | zero => intro _; rfl
  | succ k ih => intro h; rw [valR_succ, valR_succ, ih (by omega), Nat.zero_add, take_getD B (by omega)]
theorem fvB_nil {B : List Int} (v : Int) : fvB B B.length v 4 = v * 10000 := by
  simp only [fvB_succ, fvB]
  rw [if_neg (by omega), if_neg (by omega), if_neg (by omega), if_neg (by omega)]
  omega
theorem fvB_tl {B : List Int} (v : Int) (hlt : ixN B 46 < B.length) (h1 : 1 ≤ B.length - 1 - ixN B 46) (h4 : B.length - 1 - ixN B 46 ≤ 4) :
    fvB B (ixN B 46) v 4 = v * 10000 + tlV (B.drop (ixN B 46 + 1)) := by
  unfold tlV
  rw [padV_eq, tail_len hlt]
  simp only [fvB_succ, fvB]
  obtain ⟨x, hx⟩ : ∃ x, x = ixN B 46 := ⟨_, rfl⟩
  rw [← hx] at hlt h1 h4 ⊢
  obtain ⟨n, hn⟩ : ∃ n, n = B.length - 1 - x := ⟨_, rfl⟩
  rw [← hn] at h1 h4 ⊢
  rcases (by omega : n = 1 ∨ n = 2 ∨ n = 3 ∨ n = 4) with rfl | rfl | rfl | rfl
  · rw [if_pos (by omega), if_neg (by omega), if_neg (by omega), if_neg (by omega)]
    simp only [valR, drop_getD, Nat.add_zero, Nat.zero_add]
    simp; omega
  · rw [if_pos (by omega), if_pos (by omega), if_neg (by omega), if_neg (by omega)]
    simp only [valR, drop_getD, Nat.add_zero, Nat.zero_add]
    simp; omega
  · rw [if_pos (by omega), if_pos (by omega), if_pos (by omega), if_neg (by omega)]
    simp only [valR, drop_getD, Nat.add_zero, Nat.zero_add]
    simp; omega
  · rw [if_pos (by omega), if_pos (by omega), if_pos (by omega), if_pos (by omega)]
    simp only [valR, drop_getD, Nat.add_zero, Nat.zero_add]
    simp; omega
theorem rdB_go {B : List Int} (h : okB B) (hw : hdW B) (ht : tlW B) : rdB B = finA (whV (B.take (ixN B 46))) (if ixN B 46 < B.length then tlV (B.drop (ixN B 46 + 1)) else 0) := by
  have hx := ixN_le 46 B
  unfold rdB
  by_cases hlt : ixN B 46 < B.length
  · rw [if_pos hlt, if_pos hlt, if_pos ⟨head_ok h hw, tail_ok h hlt ht⟩]
  · have e2 : B.take (ixN B 46) = B := by rw [show ixN B 46 = B.length by omega, List.take_length]
    have := head_ok h hw
    rw [e2] at this ⊢
    rw [if_neg hlt, if_neg hlt, if_pos this]
theorem rdB_long {B : List Int} (h : okB B) (hw : hdW B) (ht : tlW B) (h3 : 3 < ixN B 46) : rdB B = rbad 8 := by
  have hx := ixN_le 46 B
  rw [rdB_go h hw ht]
  unfold finA whV
  rw [if_pos (c := (B.take (ixN B 46)).length > 3) (by rw [List.length_take]; omega)]
  exact if_pos (.inl (by decide))
theorem rdB_val {B : List Int} (h : okB B) (hw : hdW B) (ht : tlW B) (h3 : ixN B 46 ≤ 3) : rdB B = if 1000000 < fvB B (ixN B 46) (valR B 0 (ixN B 46)) 4 then rbad 8 else rgood (fvB B (ixN B 46) (valR B 0 (ixN B 46)) 4) := by
  have hx := ixN_le 46 B
  have hl : (B.take (ixN B 46)).length = ixN B 46 := by rw [List.length_take]; omega
  rw [rdB_go h hw ht]
  have e0 : whV (B.take (ixN B 46)) = if 101 < valR B 0 (ixN B 46) then 101 else valR B 0 (ixN B 46) := by
    unfold whV; rw [hl, if_neg (by omega), valR_take B _ _ (Nat.le_refl _)]
  obtain ⟨v, hv⟩ : ∃ v, v = valR B 0 (ixN B 46) := ⟨_, rfl⟩
  rw [← hv] at e0 ⊢
  have e1 : ∃ f, (0 ≤ f ∧ f < 10000) ∧ (if ixN B 46 < B.length then tlV (B.drop (ixN B 46 + 1)) else 0) = f ∧ fvB B (ixN B 46) v 4 = v * 10000 + f := by
    by_cases hlt : ixN B 46 < B.length
    · obtain ⟨w1, w2, w3⟩ := ht hlt
      obtain ⟨f, f1, f2, f3, f4⟩ := tl_back (tail_ok h hlt ht)
      refine ⟨f, by omega, by rw [if_pos hlt, f1], by rw [fvB_tl v hlt w1 w2, f1]⟩
    · refine ⟨0, by omega, if_neg hlt, ?_⟩
      rw [show ixN B 46 = B.length by omega, fvB_nil]; omega
  obtain ⟨f, ⟨f1, f2⟩, f3, f4⟩ := e1
  rw [e0, f3, f4]
  unfold finA
  by_cases h1 : 101 < v
  · rw [if_pos h1, if_pos (.inl (by decide)), if_pos (by omega)]
  · rw [if_neg h1]
    by_cases h2 : 100 < v ∨ v = 100 ∧ 0 < f
    · rw [if_pos h2, if_pos (by omega)]
    · rw [if_neg h2, if_neg (by omega)]
end Go.Proofs.YtocfaghflhgeeaaDoor
namespace Go.Proofs.YtocfaghflhgeeaaDoor
open Go
set_option linter.unusedVariables false
set_option linter.unusedSimpArgs false
theorem TFStPF : (((((type_of% tyc3) ∧ (type_of% zmb3)) ∧ ((type_of% tyc4) ∧ (type_of% zmb4))) ∧ (((type_of% tyc5) ∧ (type_of% zmb5)) ∧ ((type_of% tyc9) ∧ ((type_of% zmb9) ∧ (type_of% tyc23))))) ∧ ((((type_of% zmb23) ∧ (type_of% tyc27)) ∧ ((type_of% zmb27) ∧ (type_of% Tryd.underlying3))) ∧ (((type_of% Tryd.underlying4) ∧ (type_of% Tryd.underlying5)) ∧ ((type_of% Tryd.underlying9) ∧ ((type_of% Tryd.underlying23) ∧ (type_of% Tryd.underlying27)))))) :=
  ⟨⟨⟨⟨tyc3, zmb3⟩, ⟨tyc4, zmb4⟩⟩, ⟨⟨tyc5, zmb5⟩, ⟨tyc9, ⟨zmb9, tyc23⟩⟩⟩⟩, ⟨⟨⟨zmb23, tyc27⟩, ⟨zmb27, Tryd.underlying3⟩⟩, ⟨⟨Tryd.underlying4, Tryd.underlying5⟩, ⟨Tryd.underlying9, ⟨Tryd.underlying23, Tryd.underlying27⟩⟩⟩⟩⟩
theorem fvB_bd {B : List Int} (h : okB B) {x : Nat} (hx : x = ixN B 46) {v : Int} (hv : 0 ≤ v ∧ v < 1000) : ∀ k, 0 ≤ fvB B x v k ∧ fvB B x v k < 1000 * (10 : Int) ^ k := by
  intro k
  induction k with
  | zero => simpa [fvB] using hv
  | succ k ih =>
    rw [fvB_succ, Int.pow_succ]
    split
    · rename_i hj
      have := h (x + 1 + k) hj (by omega)
      omega
    · omega
theorem pow4le {k : Nat} (h : k ≤ 4) : (10 : Int) ^ k ≤ 10000 := by
  rcases (by omega : k = 0 ∨ k = 1 ∨ k = 2 ∨ k = 3 ∨ k = 4) with rfl | rfl | rfl | rfl | rfl <;> decide
theorem rdR_short (zs : List Int) (hb : By zs) (hl : zs.length ≤ 1000) (h : ¬ (2 ≤ zs.length ∧ zs.getD (zs.length - 1) 0 = 37)) : ACt Tryd.prog 20 [stz zs] [] (Fn (rbad 5)) := by
  refine ACt.intro Tryd.func20 rfl (by kernel_rfl) (by simp [Tryd.ntmps20]) (fun cx => ?_)
  simp only [argE, Tryd.ntmps20, Tryd.results20]
  have hs := bstr_size zs
  obtain ⟨B, hB⟩ : ∃ B, B = bstr zs := ⟨_, rfl⟩
  unfold stz
  rw [← hB] at hs ⊢
  by_cases h2 : 2 ≤ zs.length
  · have hat := bstr_at hb (show zs.length - 1 < zs.length by omega)
    have hbi := hb (zs.length - 1) (by omega)
    rw [← hB] at hat
    obtain ⟨c, hc⟩ : ∃ c, c = zs.getD (zs.length - 1) 0 := ⟨_, rfl⟩
    rw [← hc] at hat h hbi
    obtain ⟨n, hn⟩ : ∃ n, n = zs.length := ⟨_, rfl⟩
    rw [← hn] at hs hat h h2 hl
    obtain ⟨m, hm⟩ : ∃ m, m = n - 1 := ⟨_, rfl⟩
    rw [← hm] at hat
    have kl : decide ((n : Int) < 2) = false := decide_eq_false (by omega)
    have kc : (c == 37) = false := beq_eq_false_iff_ne.2 (fun h3 => h ⟨h2, h3⟩)
    have ke : (c != 37) = true := by simp only [bne, kc]; rfl
    have e1 : IntKind.i64.wrap ((n : Int) - 1) = (m : Int) := by rw [wrap_i64 (by omega) (by omega)]; omega
    have t1 : ((m : Nat) : Int).toNat = m := by omega
    first | (have FRx := FR; clear FRx) | (have FR : Sm (¬ ((1 : Nat) = 0)) := Sm.mk Nat.one_ne_zero)
    repeat' first
      | (refine Sm.mk ?_; try simp -dsimp only [ZK, rvc, drawF, headN, pureH, stp, dvc, calleeOf, gcall, pev, eff, newB, okd, og, ogs, ogo, ogp, slv, bltv, opd, litv, strip, one, both, putE, St.put, look, gdOf, gdv, picka, pickv, pickw, binv, bini, bins, binb, binp, binq, isSlT, bina, shp, eqCells, unv, convv, nilv, faddv, addp, idxav, idxp, load1, load1m, loadn, loadnm, loadv, hget, hset, hrep, hdel, slicev, bnd, shift1, lenv, capv, IntKind.bits, extractv, fieldv, indexv, min2v, max2v, mkiv, cellsA, fillA, buildv, stC, oneC, rowMB, intsA, plN, appE, appZ, appC, appNZ, appNC, VwL, srcC, srcZ, srcM, isBoolT, isPtrT, isSliceT, uOk, Value.oneCell', Nat.reducePow, Int.reducePow, Nat.reduceAdd, Nat.reduceMul, Nat.reduceSub, Nat.reduceLT, Nat.reduceLeDiff, Nat.reduceEqDiff, Nat.reduceBEq, Nat.reduceDiv, Nat.reduceMod, ↓reduceIte, reduceCtorEq, Int.reduceToNat, Int.reduceLT, Int.reduceLE, TFStPF, SeqQ, BlkQ, LoopQ, BodyQ, kl, kc, ke, e1, t1, hat, hs, FR.out])
      | (refine WP.seq fun K hK => ?_)
      | (refine WP.region (rvc_sound _ _ (Sm.out ?_)))
      | (refine WP.drawK rfl mixed (by decide +kernel) (Sm.out ?_))
      | (refine Ob.mk ?_; focus (first | assumption | omega | decide | trivial | (intro hob; simp only [hob, ZF]; done) | (intros; (repeat' refine And.intro ?_ ?_) <;> first | assumption | omega | trivial | decide) | (intros; simp only [ZE] at *; (repeat' refine And.intro ?_ ?_) <;> first | assumption | omega | trivial)))
      | (refine And.intro (Ob.out ?_) ?_)
      | (refine WP.block ?_)
      | (refine WP.cond rfl (fun hc => ?_) (fun hc => ?_) <;> (try simp only [ZC, reduceCtorEq, ZD] at hc) <;> (try (exact absurd hc (by decide))) <;> (try (exfalso; omega)))
      | ((first | refine WP.skip ?_ | refine WP.exit ?_); simp only [SeqQ, BlkQ, LoopQ, BodyQ, ↓reduceIte, Nat.reduceEqDiff, reduceCtorEq, look, true_and])
      | (refine WP.ret (Sm.out ?_))
      | (first | refine ExG.no (Sm.out ?_) | refine Or.inl (ExG.no (Sm.out ?_)) | refine Or.inl (And.intro (fun hg => absurd hg (by decide)) (ExG.no (Sm.out ?_))))
      | (refine Rt.mk ?_; refine And.intro ?_ ?_ <;> (intro hg; first | exact absurd hg (by decide) | refine Sm.out ?_))
      | (refine Nu.mk ?_; first | (fail_if_success (have := nb1)); intro nb1 | (fail_if_success (have := nb2)); intro nb2 | (fail_if_success (have := nb3)); intro nb3 | intro nbz)
      | (refine Fr.mk ?_; intro hfr; (first | (have hFRb : _ ≤ _ ∧ _ ≤ _ := And.intro hfr.1 hfr.2.1) | (have hFRb : _ ≤ _ := hfr.1) | skip); replace FR := Sm.mk (And.intro hfr FR.out); clear hfr; refine Sm.out ?_)
      | (refine Two.mk ?_ ?_)
      | (refine Cs.mk ?_; intro hcs; first | exact False.elim hcs | (exfalso; omega) | (refine Sm.out ?_))
      | go_step
      | omega
      | (simp only [maxLen_eq]; omega)
    (refine OutQ.all ?_ ?_; (focus (simp only [resv, ZK, look, loadv, loadn, loadnm, load1, load1m, hget, ↓reduceIte, Nat.reduceEqDiff, Nat.reduceAdd, Nat.reduceMul, Nat.reduceLeDiff, Nat.reduceLT, reduceCtorEq, TFStPF, FR.out])); (try simp only [resv, resA, Fn, ZK, look, loadv, loadn, loadnm, load1, load1m, hget, ↓reduceIte, Nat.reduceEqDiff, Nat.reduceAdd, Nat.reduceMul, Nat.reduceLeDiff, Nat.reduceLT, reduceCtorEq, TFStPF, FR.out]); (try simp [resA, Fn, look, FR.out]))
  · have kl : decide ((zs.length : Int) < 2) = true := decide_eq_true (by omega)
    first | (have FRx := FR; clear FRx) | (have FR : Sm (¬ ((1 : Nat) = 0)) := Sm.mk Nat.one_ne_zero)
    repeat' first
      | (refine Sm.mk ?_; try simp -dsimp only [ZK, rvc, drawF, headN, pureH, stp, dvc, calleeOf, gcall, pev, eff, newB, okd, og, ogs, ogo, ogp, slv, bltv, opd, litv, strip, one, both, putE, St.put, look, gdOf, gdv, picka, pickv, pickw, binv, bini, bins, binb, binp, binq, isSlT, bina, shp, eqCells, unv, convv, nilv, faddv, addp, idxav, idxp, load1, load1m, loadn, loadnm, loadv, hget, hset, hrep, hdel, slicev, bnd, shift1, lenv, capv, IntKind.bits, extractv, fieldv, indexv, min2v, max2v, mkiv, cellsA, fillA, buildv, stC, oneC, rowMB, intsA, plN, appE, appZ, appC, appNZ, appNC, VwL, srcC, srcZ, srcM, isBoolT, isPtrT, isSliceT, uOk, Value.oneCell', Nat.reducePow, Int.reducePow, Nat.reduceAdd, Nat.reduceMul, Nat.reduceSub, Nat.reduceLT, Nat.reduceLeDiff, Nat.reduceEqDiff, Nat.reduceBEq, Nat.reduceDiv, Nat.reduceMod, ↓reduceIte, reduceCtorEq, Int.reduceToNat, Int.reduceLT, Int.reduceLE, TFStPF, SeqQ, BlkQ, LoopQ, BodyQ, kl, hs, FR.out])
      | (refine WP.seq fun K hK => ?_)
      | (refine WP.region (rvc_sound _ _ (Sm.out ?_)))
      | (refine WP.drawK rfl mixed (by decide +kernel) (Sm.out ?_))
      | (refine Ob.mk ?_; focus (first | assumption | omega | decide | trivial | (intro hob; simp only [hob, ZF]; done) | (intros; (repeat' refine And.intro ?_ ?_) <;> first | assumption | omega | trivial | decide) | (intros; simp only [ZE] at *; (repeat' refine And.intro ?_ ?_) <;> first | assumption | omega | trivial)))
      | (refine And.intro (Ob.out ?_) ?_)
      | (refine WP.block ?_)
      | (refine WP.cond rfl (fun hc => ?_) (fun hc => ?_) <;> (try simp only [ZC, reduceCtorEq, ZD] at hc) <;> (try (exact absurd hc (by decide))) <;> (try (exfalso; omega)))
      | ((first | refine WP.skip ?_ | refine WP.exit ?_); simp only [SeqQ, BlkQ, LoopQ, BodyQ, ↓reduceIte, Nat.reduceEqDiff, reduceCtorEq, look, true_and])
      | (refine WP.ret (Sm.out ?_))
      | (first | refine ExG.no (Sm.out ?_) | refine Or.inl (ExG.no (Sm.out ?_)) | refine Or.inl (And.intro (fun hg => absurd hg (by decide)) (ExG.no (Sm.out ?_))))
      | (refine Rt.mk ?_; refine And.intro ?_ ?_ <;> (intro hg; first | exact absurd hg (by decide) | refine Sm.out ?_))
      | (refine Nu.mk ?_; first | (fail_if_success (have := nb1)); intro nb1 | (fail_if_success (have := nb2)); intro nb2 | (fail_if_success (have := nb3)); intro nb3 | intro nbz)
      | (refine Fr.mk ?_; intro hfr; (first | (have hFRb : _ ≤ _ ∧ _ ≤ _ := And.intro hfr.1 hfr.2.1) | (have hFRb : _ ≤ _ := hfr.1) | skip); replace FR := Sm.mk (And.intro hfr FR.out); clear hfr; refine Sm.out ?_)
      | (refine Two.mk ?_ ?_)
      | (refine Cs.mk ?_; intro hcs; first | exact False.elim hcs | (exfalso; omega) | (refine Sm.out ?_))
      | go_step
      | omega
      | (simp only [maxLen_eq]; omega)
    (refine OutQ.all ?_ ?_; (focus (simp only [resv, ZK, look, loadv, loadn, loadnm, load1, load1m, hget, ↓reduceIte, Nat.reduceEqDiff, Nat.reduceAdd, Nat.reduceMul, Nat.reduceLeDiff, Nat.reduceLT, reduceCtorEq, TFStPF, FR.out])); (try simp only [resv, resA, Fn, ZK, look, loadv, loadn, loadnm, load1, load1m, hget, ↓reduceIte, Nat.reduceEqDiff, Nat.reduceAdd, Nat.reduceMul, Nat.reduceLeDiff, Nat.reduceLT, reduceCtorEq, TFStPF, FR.out]); (try simp [resA, Fn, look, FR.out]))
theorem rd_table (x i y : Nat) (bh z w : Int) (hd tl : Prop) (hHD : hd = (0 < x ∧ ¬ (w = 48 ∧ 1 < x))) (hTL : tl = (x < i → (1 ≤ y - x ∧ y - x ≤ 4 ∧ z ≠ 48))) (ey : y = i - 1) (hbh : bh = (y : Int) - (x : Int)) (hi : 1 ≤ i) (hx : x ≤ i) :
    ∃ b1 b2 b3 b4 b5 b6 b7 : Bool, decide ((x : Int) < (i : Int)) = b1 ∧ decide (bh < 1) = b2 ∧ decide (bh > 4) = b3 ∧ (z == 48) = b4 ∧ ((x : Int) == 0) = b5 ∧ (w == 48) = b6 ∧ decide ((x : Int) > 1) = b7 ∧
        (((b1 = true ∧ b2 = true ∨ b1 = true ∧ b2 = false ∧ b3 = true ∨ b1 = true ∧ b2 = false ∧ b3 = false ∧ b4 = true ∨ b1 = true ∧ b2 = false ∧ b3 = false ∧ b4 = false ∧ b5 = true ∨ b1 = false ∧ b5 = false ∧ b6 = true ∧ b7 = true ∨ b1 = true ∧ b2 = false ∧ b3 = false ∧ b4 = false ∧ b5 = false ∧ b6 = true ∧ b7 = true) ∧ ¬ (hd ∧ tl)) ∨
         ((b1 = false ∧ b5 = false ∧ b6 = false ∨ b1 = false ∧ b5 = false ∧ b6 = true ∧ b7 = false ∨ b1 = true ∧ b2 = false ∧ b3 = false ∧ b4 = false ∧ b5 = false ∧ b6 = false ∨ b1 = true ∧ b2 = false ∧ b3 = false ∧ b4 = false ∧ b5 = false ∧ b6 = true ∧ b7 = false) ∧ hd ∧ tl)) := by
  refine ⟨_, _, _, _, _, _, _, rfl, rfl, rfl, rfl, rfl, rfl, rfl, ?_⟩
  subst hHD hTL
  by_cases a1 : x < i
  · have d1 : decide ((x : Int) < (i : Int)) = true := decide_eq_true (by omega)
    by_cases a2 : bh < 1
    · exact .inl ⟨.inl ⟨d1, decide_eq_true a2⟩, fun h => by have := h.2 a1; omega⟩
    have d2 : decide (bh < 1) = false := decide_eq_false a2
    by_cases a3 : bh > 4
    · exact .inl ⟨.inr (.inl ⟨d1, d2, decide_eq_true a3⟩), fun h => by have := h.2 a1; omega⟩
    have d3 : decide (bh > 4) = false := decide_eq_false a3
    by_cases a4 : z = 48
    · exact .inl ⟨.inr (.inr (.inl ⟨d1, d2, d3, beq_iff_eq.2 a4⟩)), fun h => (h.2 a1).2.2 a4⟩
    have d4 : (z == 48) = false := beq_eq_false_iff_ne.2 a4
    by_cases a5 : x = 0
    · exact .inl ⟨.inr (.inr (.inr (.inl ⟨d1, d2, d3, d4, beq_iff_eq.2 (by omega)⟩))), fun h => by have := h.1.1; omega⟩
    have d5 : ((x : Int) == 0) = false := beq_eq_false_iff_ne.2 (by omega)
    have ht : x < i → (1 ≤ y - x ∧ y - x ≤ 4 ∧ z ≠ 48) := fun _ => ⟨by omega, by omega, a4⟩
    by_cases a6 : w = 48
    · by_cases a7 : 1 < x
      · exact .inl ⟨.inr (.inr (.inr (.inr (.inr ⟨d1, d2, d3, d4, d5, beq_iff_eq.2 a6, decide_eq_true (by omega)⟩)))), fun h => h.1.2 ⟨a6, a7⟩⟩
      · exact .inr ⟨.inr (.inr (.inr ⟨d1, d2, d3, d4, d5, beq_iff_eq.2 a6, decide_eq_false (by omega)⟩)), ⟨by omega, fun h => a7 h.2⟩, ht⟩
    · exact .inr ⟨.inr (.inr (.inl ⟨d1, d2, d3, d4, d5, beq_eq_false_iff_ne.2 a6⟩)), ⟨by omega, fun h => a6 h.1⟩, ht⟩
  · have d1 : decide ((x : Int) < (i : Int)) = false := decide_eq_false (by omega)
    have d5 : ((x : Int) == 0) = false := beq_eq_false_iff_ne.2 (by omega)
    by_cases a6 : w = 48
    · by_cases a7 : 1 < x
      · exact .inl ⟨.inr (.inr (.inr (.inr (.inl ⟨d1, d5, beq_iff_eq.2 a6, decide_eq_true (by omega)⟩)))), fun h => h.1.2 ⟨a6, a7⟩⟩
      · exact .inr ⟨.inr (.inl ⟨d1, d5, beq_iff_eq.2 a6, decide_eq_false (by omega)⟩), ⟨by omega, fun h => a7 h.2⟩, fun h => absurd h a1⟩
    · exact .inr ⟨.inl ⟨d1, d5, beq_eq_false_iff_ne.2 a6⟩, ⟨by omega, fun h => a6 h.1⟩, fun h => absurd h a1⟩
def dtN (Q : List Int) (i : Nat) : Nat := if ixN Q 46 < i then ixN Q 46 else Q.length
set_option maxHeartbeats 8000000 in
theorem rdR_main (Q : List Int) (hb : By (Q ++ [37])) (h1 : 1 ≤ Q.length) (hl : Q.length ≤ 1000) : ACt Tryd.prog 20 [stz (Q ++ [37])] [] (Fn (rdB Q)) := by
  have hx := ixN_le 46 Q
  have hxat := ixN_at 46 Q
  have hxlt := ixN_lt 46 Q
  have hlen : (Q ++ [37]).length = Q.length + 1 := by simp
  have eg : ∀ j, j < Q.length → (Q ++ [37]).getD j 0 = Q.getD j 0 := fun j hj => by simp [List.getD_eq_getElem?_getD, List.getElem?_append_left hj]
  have hat : ∀ j, j < Q.length → (((bstr (Q ++ [37])).data.toList.getD j 0).toNat : Int) = Q.getD j 0 := fun j hj => by
    rw [bstr_at hb (by rw [hlen]; omega), eg j hj]
  have hlast : (((bstr (Q ++ [37])).data.toList.getD Q.length 0).toNat : Int) = 37 := by
    rw [bstr_at hb (by rw [hlen]; omega)]; simp [List.getD_eq_getElem?_getD]
  have hbq : ∀ j, j < Q.length → 0 ≤ Q.getD j 0 ∧ Q.getD j 0 ≤ 255 := fun j hj => by rw [← eg j hj]; exact hb j (by rw [hlen]; omega)
  have hs : (bstr (Q ++ [37])).size = Q.length + 1 := by rw [bstr_size, hlen]
  obtain ⟨B, hB⟩ : ∃ B, B = bstr (Q ++ [37]) := ⟨_, rfl⟩
  unfold stz
  rw [← hB] at hlast hs ⊢
  simp only [← hB] at hat
  have hword := fun (h : ¬ (okB Q ∧ hdW Q ∧ tlW Q)) => rdB_word h
  have hlong := @rdB_long Q
  have hval := @rdB_val Q
  have hfb := @fvB_bd Q
  have dE : ∀ i, dtN Q i = if ixN Q 46 < i then ixN Q 46 else Q.length := fun i => rfl
  have hOK : okB Q = ∀ j, j < Q.length → j ≠ ixN Q 46 → 48 ≤ Q.getD j 0 ∧ Q.getD j 0 ≤ 57 := rfl
  have hHD : hdW Q = (0 < ixN Q 46 ∧ ¬ (Q.getD 0 0 = 48 ∧ 1 < ixN Q 46)) := rfl
  have hTL : tlW Q = (ixN Q 46 < Q.length → (1 ≤ Q.length - 1 - ixN Q 46 ∧ Q.length - 1 - ixN Q 46 ≤ 4 ∧ Q.getD (Q.length - 1) 0 ≠ 48)) := rfl
  obtain ⟨x, ex⟩ : ∃ x, x = ixN Q 46 := ⟨_, rfl⟩
  have hfb := fun (h : okB Q) {v : Int} (hv : 0 ≤ v ∧ v < 1000) => hfb h ex hv
  have hge : ∀ k v, fvB Q x v (k + 1) = 10 * fvB Q x v k + (if x + 1 + k < Q.length then Q.getD (x + 1 + k) 0 - 48 else 0) := fun k v => fvB_succ Q x v k
  rw [← ex] at hx hxat hxlt hOK hHD hTL hlong hval
  simp only [← ex] at dE
  obtain ⟨m, em⟩ : ∃ m, m = Q.length := ⟨_, rfl⟩
  rw [← em] at hx hxat hOK hTL hlast hs h1 hl
  simp only [← em] at dE hat hbq hge
  obtain ⟨n, en⟩ : ∃ n, n = m + 1 := ⟨_, rfl⟩
  rw [← en] at hs
  have kn : decide ((n : Int) < 2) = false := decide_eq_false (by omega)
  have e1 : IntKind.i64.wrap ((n : Int) - 1) = (m : Int) := by rw [wrap_i64 (by omega) (by omega)]; omega
  have t1 : ∀ k : Nat, ((k : Nat) : Int).toNat = k := fun k => by omega
  have kz : ((37 : Int) == 37) = true := by decide
  have ke : ((37 : Int) != 37) = false := by decide
  have y1 : ∀ z : Int, (z == z) = true := fun z => beq_self_eq_true z
  have d0 : dtN Q 0 = m := by rw [dE, if_neg (by omega)]
  refine ACt.intro Tryd.func20 rfl (by kernel_rfl) (by simp [Tryd.ntmps20]) (fun cx => ?_)
  simp only [argE, Tryd.ntmps20, Tryd.results20]
  first | (have FRx := FR; clear FRx) | (have FR : Sm (¬ ((1 : Nat) = 0)) := Sm.mk Nat.one_ne_zero)
  repeat' first
    | (refine Sm.mk ?_; try simp -dsimp only [ZK, rvc, drawF, headN, pureH, stp, dvc, calleeOf, gcall, pev, eff, newB, okd, og, ogs, ogo, ogp, slv, bltv, opd, litv, strip, one, both, putE, St.put, look, gdOf, gdv, picka, pickv, pickw, binv, bini, bins, binb, binp, binq, isSlT, bina, shp, eqCells, unv, convv, nilv, faddv, addp, idxav, idxp, load1, load1m, loadn, loadnm, loadv, hget, hset, hrep, hdel, slicev, bnd, shift1, lenv, capv, IntKind.bits, extractv, fieldv, indexv, min2v, max2v, mkiv, cellsA, fillA, buildv, stC, oneC, rowMB, intsA, plN, appE, appZ, appC, appNZ, appNC, VwL, srcC, srcZ, srcM, isBoolT, isPtrT, isSliceT, uOk, Value.oneCell', Nat.reducePow, Int.reducePow, Nat.reduceAdd, Nat.reduceMul, Nat.reduceSub, Nat.reduceLT, Nat.reduceLeDiff, Nat.reduceEqDiff, Nat.reduceBEq, Nat.reduceDiv, Nat.reduceMod, ↓reduceIte, reduceCtorEq, Int.reduceToNat, Int.reduceLT, Int.reduceLE, TFStPF, SeqQ, BlkQ, LoopQ, BodyQ, kn, hs, e1, t1, hlast, kz, ke, FR.out])
    | (refine WP.seq fun K hK => ?_)
    | (refine WP.region (rvc_sound _ _ (Sm.out ?_)))
    | (refine WP.drawK rfl mixed (by decide +kernel) (Sm.out ?_))
    | (refine Ob.mk ?_; focus (first | assumption | omega | decide | trivial | (intro hob; simp only [hob, ZF]; done) | (intros; (repeat' refine And.intro ?_ ?_) <;> first | assumption | omega | trivial | decide) | (intros; simp only [ZE] at *; (repeat' refine And.intro ?_ ?_) <;> first | assumption | omega | trivial)))
    | (refine And.intro (Ob.out ?_) ?_)
    | (refine WP.block ?_)
    | (refine WP.cond rfl (fun hc => ?_) (fun hc => ?_) <;> (try simp only [ZC, reduceCtorEq, ZD] at hc) <;> (try (exact absurd hc (by decide))) <;> (try (exfalso; omega)))
    | ((first | refine WP.skip ?_ | refine WP.exit ?_); simp only [SeqQ, BlkQ, LoopQ, BodyQ, ↓reduceIte, Nat.reduceEqDiff, reduceCtorEq, look, true_and])
    | (refine WP.ret (Sm.out ?_))
    | (first | refine ExG.no (Sm.out ?_) | refine Or.inl (ExG.no (Sm.out ?_)) | refine Or.inl (And.intro (fun hg => absurd hg (by decide)) (ExG.no (Sm.out ?_))))
    | (refine Rt.mk ?_; refine And.intro ?_ ?_ <;> (intro hg; first | exact absurd hg (by decide) | refine Sm.out ?_))
    | (refine Nu.mk ?_; first | (fail_if_success (have := nb1)); intro nb1 | (fail_if_success (have := nb2)); intro nb2 | (fail_if_success (have := nb3)); intro nb3 | intro nbz)
    | (refine Fr.mk ?_; intro hfr; (first | (have hFRb : _ ≤ _ ∧ _ ≤ _ := And.intro hfr.1 hfr.2.1) | (have hFRb : _ ≤ _ := hfr.1) | skip); replace FR := Sm.mk (And.intro hfr FR.out); clear hfr; refine Sm.out ?_)
    | (refine Two.mk ?_ ?_)
    | (refine Cs.mk ?_; intro hcs; first | exact False.elim hcs | (exfalso; omega) | (refine Sm.out ?_))
    | go_step
    | omega
    | (simp only [maxLen_eq]; omega)
  refine WP.loop (Γ := Nat) (fun i => ⟨[(6, iv .i64 (i : Int)), (5, iv .i64 ((dtN Q i : Nat) : Int)), (4, iv .i64 (n : Int)), (0, .lit (.string B))], []⟩)
    (fun i => i ≤ m ∧ ∀ j, j < i → j ≠ x → 48 ≤ Q.getD j 0 ∧ Q.getD j 0 ≤ 57) (fun i => m - i) 0 ⟨Nat.zero_le _, fun j hj => absurd hj (Nat.not_lt_zero _)⟩ (Sub.pick (by simp [pickB, hget, hdel, FR.out, d0]) (by simp [look, d0])) ?_
  intro i ⟨h2, h3⟩
  have FR : Sm (¬ ((1 : Nat) = 0)) := Sm.mk Nat.one_ne_zero
  by_cases hi : i < m
  · have kl : decide ((i : Int) < (m : Int)) = true := decide_eq_true (by omega)
    have hc := hat i hi
    have hbi := hbq i hi
    have hno := hxlt i
    have s1 : IntKind.i64.wrap ((i : Int) + 1) = ((i + 1 : Nat) : Int) := by rw [wrap_i64 (by omega) (by omega)]; omega
    have hnok : i ≠ x → ¬ (48 ≤ Q.getD i 0 ∧ Q.getD i 0 ≤ 57) → rdB Q = rbad 5 := fun a b => hword fun h => b (by have := h.1; rw [hOK] at this; exact this i hi a)
    have hstep : i = x ∨ (48 ≤ Q.getD i 0 ∧ Q.getD i 0 ≤ 57) → ∀ j, j < i + 1 → j ≠ x → 48 ≤ Q.getD j 0 ∧ Q.getD j 0 ≤ 57 := fun h j hj hne => by
      by_cases hji : j = i
      · rcases h with h | h
        · omega
        · rw [hji]; exact h
      · exact h3 j (by omega) hne
    obtain ⟨c, hc0⟩ : ∃ c, c = Q.getD i 0 := ⟨_, rfl⟩
    rw [← hc0] at hc hbi hno hnok hstep
    by_cases h46 : c = 46
    · have kd : (c == 46) = true := beq_iff_eq.2 h46
      by_cases hix : i = x
      · have di : dtN Q i = m := by rw [dE, if_neg (by omega)]
        have dj : dtN Q (i + 1) = i := by rw [dE, if_pos (by omega)]; omega
        first | (have FRx := FR; clear FRx) | (have FR : Sm (¬ ((1 : Nat) = 0)) := Sm.mk Nat.one_ne_zero)
        repeat' first
          | (refine Sm.mk ?_; try simp -dsimp only [ZK, rvc, drawF, headN, pureH, stp, dvc, calleeOf, gcall, pev, eff, newB, okd, og, ogs, ogo, ogp, slv, bltv, opd, litv, strip, one, both, putE, St.put, look, gdOf, gdv, picka, pickv, pickw, binv, bini, bins, binb, binp, binq, isSlT, bina, shp, eqCells, unv, convv, nilv, faddv, addp, idxav, idxp, load1, load1m, loadn, loadnm, loadv, hget, hset, hrep, hdel, slicev, bnd, shift1, lenv, capv, IntKind.bits, extractv, fieldv, indexv, min2v, max2v, mkiv, cellsA, fillA, buildv, stC, oneC, rowMB, intsA, plN, appE, appZ, appC, appNZ, appNC, VwL, srcC, srcZ, srcM, isBoolT, isPtrT, isSliceT, uOk, Value.oneCell', Nat.reducePow, Int.reducePow, Nat.reduceAdd, Nat.reduceMul, Nat.reduceSub, Nat.reduceLT, Nat.reduceLeDiff, Nat.reduceEqDiff, Nat.reduceBEq, Nat.reduceDiv, Nat.reduceMod, ↓reduceIte, reduceCtorEq, Int.reduceToNat, Int.reduceLT, Int.reduceLE, TFStPF, SeqQ, BlkQ, LoopQ, BodyQ, kl, hc, hs, s1, e1, t1, kd, di, y1, FR.out])
          | (refine WP.seq fun K hK => ?_)
          | (refine WP.region (rvc_sound _ _ (Sm.out ?_)))
          | (refine WP.drawK rfl mixed (by decide +kernel) (Sm.out ?_))
          | (refine Ob.mk ?_; focus (first | assumption | omega | decide | trivial | (intro hob; simp only [hob, ZF]; done) | (intros; (repeat' refine And.intro ?_ ?_) <;> first | assumption | omega | trivial | decide) | (intros; simp only [ZE] at *; (repeat' refine And.intro ?_ ?_) <;> first | assumption | omega | trivial)))
          | (refine And.intro (Ob.out ?_) ?_)
          | (refine WP.block ?_)
          | (refine WP.cond rfl (fun hc => ?_) (fun hc => ?_) <;> (try simp only [ZC, reduceCtorEq, ZD] at hc) <;> (try (exact absurd hc (by decide))) <;> (try (exfalso; omega)))
          | ((first | refine WP.skip ?_ | refine WP.exit ?_); simp only [SeqQ, BlkQ, LoopQ, BodyQ, ↓reduceIte, Nat.reduceEqDiff, reduceCtorEq, look, true_and])
          | (refine WP.ret (Sm.out ?_))
          | (first | refine ExG.no (Sm.out ?_) | refine Or.inl (ExG.no (Sm.out ?_)) | refine Or.inl (And.intro (fun hg => absurd hg (by decide)) (ExG.no (Sm.out ?_))))
          | (refine Rt.mk ?_; refine And.intro ?_ ?_ <;> (intro hg; first | exact absurd hg (by decide) | refine Sm.out ?_))
          | (refine Nu.mk ?_; first | (fail_if_success (have := nb1)); intro nb1 | (fail_if_success (have := nb2)); intro nb2 | (fail_if_success (have := nb3)); intro nb3 | intro nbz)
          | (refine Fr.mk ?_; intro hfr; (first | (have hFRb : _ ≤ _ ∧ _ ≤ _ := And.intro hfr.1 hfr.2.1) | (have hFRb : _ ≤ _ := hfr.1) | skip); replace FR := Sm.mk (And.intro hfr FR.out); clear hfr; refine Sm.out ?_)
          | (refine Two.mk ?_ ?_)
          | (refine Cs.mk ?_; intro hcs; first | exact False.elim hcs | (exfalso; omega) | (refine Sm.out ?_))
          | go_step
          | omega
          | (simp only [maxLen_eq]; omega)
        refine ⟨i + 1, ⟨by omega, hstep (.inl hix)⟩, by omega, (Sub.pick (by simp [pickB, hget, hdel, FR.out, dj]) (by simp [look, dj]))⟩
      · have hxi : x < i := by
          by_cases h : i < x
          · exact absurd h46 (hno h)
          · omega
        have di : dtN Q i = x := by rw [dE, if_pos hxi]
        have km : ((x : Int) == (m : Int)) = false := beq_eq_false_iff_ne.2 (by omega)
        have k8 : decide (c < 48) = true := decide_eq_true (by omega)
        have hrd := hnok hix (by omega)
        first | (have FRx := FR; clear FRx) | (have FR : Sm (¬ ((1 : Nat) = 0)) := Sm.mk Nat.one_ne_zero)
        repeat' first
          | (refine Sm.mk ?_; try simp -dsimp only [ZK, rvc, drawF, headN, pureH, stp, dvc, calleeOf, gcall, pev, eff, newB, okd, og, ogs, ogo, ogp, slv, bltv, opd, litv, strip, one, both, putE, St.put, look, gdOf, gdv, picka, pickv, pickw, binv, bini, bins, binb, binp, binq, isSlT, bina, shp, eqCells, unv, convv, nilv, faddv, addp, idxav, idxp, load1, load1m, loadn, loadnm, loadv, hget, hset, hrep, hdel, slicev, bnd, shift1, lenv, capv, IntKind.bits, extractv, fieldv, indexv, min2v, max2v, mkiv, cellsA, fillA, buildv, stC, oneC, rowMB, intsA, plN, appE, appZ, appC, appNZ, appNC, VwL, srcC, srcZ, srcM, isBoolT, isPtrT, isSliceT, uOk, Value.oneCell', Nat.reducePow, Int.reducePow, Nat.reduceAdd, Nat.reduceMul, Nat.reduceSub, Nat.reduceLT, Nat.reduceLeDiff, Nat.reduceEqDiff, Nat.reduceBEq, Nat.reduceDiv, Nat.reduceMod, ↓reduceIte, reduceCtorEq, Int.reduceToNat, Int.reduceLT, Int.reduceLE, TFStPF, SeqQ, BlkQ, LoopQ, BodyQ, kl, hc, hs, s1, e1, t1, kd, di, km, k8, FR.out])
          | (refine WP.seq fun K hK => ?_)
          | (refine WP.region (rvc_sound _ _ (Sm.out ?_)))
          | (refine WP.drawK rfl mixed (by decide +kernel) (Sm.out ?_))
          | (refine Ob.mk ?_; focus (first | assumption | omega | decide | trivial | (intro hob; simp only [hob, ZF]; done) | (intros; (repeat' refine And.intro ?_ ?_) <;> first | assumption | omega | trivial | decide) | (intros; simp only [ZE] at *; (repeat' refine And.intro ?_ ?_) <;> first | assumption | omega | trivial)))
          | (refine And.intro (Ob.out ?_) ?_)
          | (refine WP.block ?_)
          | (refine WP.cond rfl (fun hc => ?_) (fun hc => ?_) <;> (try simp only [ZC, reduceCtorEq, ZD] at hc) <;> (try (exact absurd hc (by decide))) <;> (try (exfalso; omega)))
          | ((first | refine WP.skip ?_ | refine WP.exit ?_); simp only [SeqQ, BlkQ, LoopQ, BodyQ, ↓reduceIte, Nat.reduceEqDiff, reduceCtorEq, look, true_and])
          | (refine WP.ret (Sm.out ?_))
          | (first | refine ExG.no (Sm.out ?_) | refine Or.inl (ExG.no (Sm.out ?_)) | refine Or.inl (And.intro (fun hg => absurd hg (by decide)) (ExG.no (Sm.out ?_))))
          | (refine Rt.mk ?_; refine And.intro ?_ ?_ <;> (intro hg; first | exact absurd hg (by decide) | refine Sm.out ?_))
          | (refine Nu.mk ?_; first | (fail_if_success (have := nb1)); intro nb1 | (fail_if_success (have := nb2)); intro nb2 | (fail_if_success (have := nb3)); intro nb3 | intro nbz)
          | (refine Fr.mk ?_; intro hfr; (first | (have hFRb : _ ≤ _ ∧ _ ≤ _ := And.intro hfr.1 hfr.2.1) | (have hFRb : _ ≤ _ := hfr.1) | skip); replace FR := Sm.mk (And.intro hfr FR.out); clear hfr; refine Sm.out ?_)
          | (refine Two.mk ?_ ?_)
          | (refine Cs.mk ?_; intro hcs; first | exact False.elim hcs | (exfalso; omega) | (refine Sm.out ?_))
          | go_step
          | omega
          | (simp only [maxLen_eq]; omega)
        (refine OutQ.all ?_ ?_; (focus (simp only [resv, ZK, look, loadv, loadn, loadnm, load1, load1m, hget, ↓reduceIte, Nat.reduceEqDiff, Nat.reduceAdd, Nat.reduceMul, Nat.reduceLeDiff, Nat.reduceLT, reduceCtorEq, TFStPF, hrd, FR.out])); (try simp only [resv, resA, Fn, ZK, look, loadv, loadn, loadnm, load1, load1m, hget, ↓reduceIte, Nat.reduceEqDiff, Nat.reduceAdd, Nat.reduceMul, Nat.reduceLeDiff, Nat.reduceLT, reduceCtorEq, TFStPF, hrd, FR.out]); (try simp [resA, Fn, look, hrd, FR.out]))
    · have kd : (c == 46) = false := beq_eq_false_iff_ne.2 h46
      have hix : i ≠ x := fun h => h46 (by rw [hc0, h]; exact hxat (by omega))
      have dj : dtN Q (i + 1) = dtN Q i := by rw [dE, dE]; split <;> split <;> omega
      by_cases hD : 48 ≤ c ∧ c ≤ 57
      · have k8 : decide (c < 48) = false := decide_eq_false (by omega)
        have k9 : decide (c > 57) = false := decide_eq_false (by omega)
        first | (have FRx := FR; clear FRx) | (have FR : Sm (¬ ((1 : Nat) = 0)) := Sm.mk Nat.one_ne_zero)
        repeat' first
          | (refine Sm.mk ?_; try simp -dsimp only [ZK, rvc, drawF, headN, pureH, stp, dvc, calleeOf, gcall, pev, eff, newB, okd, og, ogs, ogo, ogp, slv, bltv, opd, litv, strip, one, both, putE, St.put, look, gdOf, gdv, picka, pickv, pickw, binv, bini, bins, binb, binp, binq, isSlT, bina, shp, eqCells, unv, convv, nilv, faddv, addp, idxav, idxp, load1, load1m, loadn, loadnm, loadv, hget, hset, hrep, hdel, slicev, bnd, shift1, lenv, capv, IntKind.bits, extractv, fieldv, indexv, min2v, max2v, mkiv, cellsA, fillA, buildv, stC, oneC, rowMB, intsA, plN, appE, appZ, appC, appNZ, appNC, VwL, srcC, srcZ, srcM, isBoolT, isPtrT, isSliceT, uOk, Value.oneCell', Nat.reducePow, Int.reducePow, Nat.reduceAdd, Nat.reduceMul, Nat.reduceSub, Nat.reduceLT, Nat.reduceLeDiff, Nat.reduceEqDiff, Nat.reduceBEq, Nat.reduceDiv, Nat.reduceMod, ↓reduceIte, reduceCtorEq, Int.reduceToNat, Int.reduceLT, Int.reduceLE, TFStPF, SeqQ, BlkQ, LoopQ, BodyQ, kl, hc, hs, s1, e1, t1, kd, k8, k9, FR.out])
          | (refine WP.seq fun K hK => ?_)
          | (refine WP.region (rvc_sound _ _ (Sm.out ?_)))
          | (refine WP.drawK rfl mixed (by decide +kernel) (Sm.out ?_))
          | (refine Ob.mk ?_; focus (first | assumption | omega | decide | trivial | (intro hob; simp only [hob, ZF]; done) | (intros; (repeat' refine And.intro ?_ ?_) <;> first | assumption | omega | trivial | decide) | (intros; simp only [ZE] at *; (repeat' refine And.intro ?_ ?_) <;> first | assumption | omega | trivial)))
          | (refine And.intro (Ob.out ?_) ?_)
          | (refine WP.block ?_)
          | (refine WP.cond rfl (fun hc => ?_) (fun hc => ?_) <;> (try simp only [ZC, reduceCtorEq, ZD] at hc) <;> (try (exact absurd hc (by decide))) <;> (try (exfalso; omega)))
          | ((first | refine WP.skip ?_ | refine WP.exit ?_); simp only [SeqQ, BlkQ, LoopQ, BodyQ, ↓reduceIte, Nat.reduceEqDiff, reduceCtorEq, look, true_and])
          | (refine WP.ret (Sm.out ?_))
          | (first | refine ExG.no (Sm.out ?_) | refine Or.inl (ExG.no (Sm.out ?_)) | refine Or.inl (And.intro (fun hg => absurd hg (by decide)) (ExG.no (Sm.out ?_))))
          | (refine Rt.mk ?_; refine And.intro ?_ ?_ <;> (intro hg; first | exact absurd hg (by decide) | refine Sm.out ?_))
          | (refine Nu.mk ?_; first | (fail_if_success (have := nb1)); intro nb1 | (fail_if_success (have := nb2)); intro nb2 | (fail_if_success (have := nb3)); intro nb3 | intro nbz)
          | (refine Fr.mk ?_; intro hfr; (first | (have hFRb : _ ≤ _ ∧ _ ≤ _ := And.intro hfr.1 hfr.2.1) | (have hFRb : _ ≤ _ := hfr.1) | skip); replace FR := Sm.mk (And.intro hfr FR.out); clear hfr; refine Sm.out ?_)
          | (refine Two.mk ?_ ?_)
          | (refine Cs.mk ?_; intro hcs; first | exact False.elim hcs | (exfalso; omega) | (refine Sm.out ?_))
          | go_step
          | omega
          | (simp only [maxLen_eq]; omega)
        refine ⟨i + 1, ⟨by omega, hstep (.inr hD)⟩, by omega, (Sub.pick (by simp [pickB, hget, hdel, FR.out, dj]) (by simp [look, dj]))⟩
      · have hrd := hnok hix hD
        obtain ⟨b1, b2, k8, k9, hbs⟩ : ∃ b1 b2 : Bool, decide (c < 48) = b1 ∧ decide (c > 57) = b2 ∧ (b1 = true ∨ (b1 = false ∧ b2 = true)) := by
          refine ⟨_, _, rfl, rfl, ?_⟩
          by_cases q3 : c < 48
          · exact .inl (decide_eq_true q3)
          · exact .inr ⟨decide_eq_false q3, decide_eq_true (by omega)⟩
        rcases hbs with rfl | ⟨rfl, rfl⟩
        all_goals (
            first | (have FRx := FR; clear FRx) | (have FR : Sm (¬ ((1 : Nat) = 0)) := Sm.mk Nat.one_ne_zero)
            repeat' first
              | (refine Sm.mk ?_; try simp -dsimp only [ZK, rvc, drawF, headN, pureH, stp, dvc, calleeOf, gcall, pev, eff, newB, okd, og, ogs, ogo, ogp, slv, bltv, opd, litv, strip, one, both, putE, St.put, look, gdOf, gdv, picka, pickv, pickw, binv, bini, bins, binb, binp, binq, isSlT, bina, shp, eqCells, unv, convv, nilv, faddv, addp, idxav, idxp, load1, load1m, loadn, loadnm, loadv, hget, hset, hrep, hdel, slicev, bnd, shift1, lenv, capv, IntKind.bits, extractv, fieldv, indexv, min2v, max2v, mkiv, cellsA, fillA, buildv, stC, oneC, rowMB, intsA, plN, appE, appZ, appC, appNZ, appNC, VwL, srcC, srcZ, srcM, isBoolT, isPtrT, isSliceT, uOk, Value.oneCell', Nat.reducePow, Int.reducePow, Nat.reduceAdd, Nat.reduceMul, Nat.reduceSub, Nat.reduceLT, Nat.reduceLeDiff, Nat.reduceEqDiff, Nat.reduceBEq, Nat.reduceDiv, Nat.reduceMod, ↓reduceIte, reduceCtorEq, Int.reduceToNat, Int.reduceLT, Int.reduceLE, TFStPF, SeqQ, BlkQ, LoopQ, BodyQ, kl, hc, hs, s1, e1, t1, kd, k8, k9, FR.out])
              | (refine WP.seq fun K hK => ?_)
              | (refine WP.region (rvc_sound _ _ (Sm.out ?_)))
              | (refine WP.drawK rfl mixed (by decide +kernel) (Sm.out ?_))
              | (refine Ob.mk ?_; focus (first | assumption | omega | decide | trivial | (intro hob; simp only [hob, ZF]; done) | (intros; (repeat' refine And.intro ?_ ?_) <;> first | assumption | omega | trivial | decide) | (intros; simp only [ZE] at *; (repeat' refine And.intro ?_ ?_) <;> first | assumption | omega | trivial)))
              | (refine And.intro (Ob.out ?_) ?_)
              | (refine WP.block ?_)
              | (refine WP.cond rfl (fun hc => ?_) (fun hc => ?_) <;> (try simp only [ZC, reduceCtorEq, ZD] at hc) <;> (try (exact absurd hc (by decide))) <;> (try (exfalso; omega)))
              | ((first | refine WP.skip ?_ | refine WP.exit ?_); simp only [SeqQ, BlkQ, LoopQ, BodyQ, ↓reduceIte, Nat.reduceEqDiff, reduceCtorEq, look, true_and])
              | (refine WP.ret (Sm.out ?_))
              | (first | refine ExG.no (Sm.out ?_) | refine Or.inl (ExG.no (Sm.out ?_)) | refine Or.inl (And.intro (fun hg => absurd hg (by decide)) (ExG.no (Sm.out ?_))))
              | (refine Rt.mk ?_; refine And.intro ?_ ?_ <;> (intro hg; first | exact absurd hg (by decide) | refine Sm.out ?_))
              | (refine Nu.mk ?_; first | (fail_if_success (have := nb1)); intro nb1 | (fail_if_success (have := nb2)); intro nb2 | (fail_if_success (have := nb3)); intro nb3 | intro nbz)
              | (refine Fr.mk ?_; intro hfr; (first | (have hFRb : _ ≤ _ ∧ _ ≤ _ := And.intro hfr.1 hfr.2.1) | (have hFRb : _ ≤ _ := hfr.1) | skip); replace FR := Sm.mk (And.intro hfr FR.out); clear hfr; refine Sm.out ?_)
              | (refine Two.mk ?_ ?_)
              | (refine Cs.mk ?_; intro hcs; first | exact False.elim hcs | (exfalso; omega) | (refine Sm.out ?_))
              | go_step
              | omega
              | (simp only [maxLen_eq]; omega))
        all_goals (refine OutQ.all ?_ ?_; (focus (simp only [resv, ZK, look, loadv, loadn, loadnm, load1, load1m, hget, ↓reduceIte, Nat.reduceEqDiff, Nat.reduceAdd, Nat.reduceMul, Nat.reduceLeDiff, Nat.reduceLT, reduceCtorEq, TFStPF, hrd, FR.out])); (try simp only [resv, resA, Fn, ZK, look, loadv, loadn, loadnm, load1, load1m, hget, ↓reduceIte, Nat.reduceEqDiff, Nat.reduceAdd, Nat.reduceMul, Nat.reduceLeDiff, Nat.reduceLT, reduceCtorEq, TFStPF, hrd, FR.out]); (try simp [resA, Fn, look, hrd, FR.out]))
  · have e : i = m := by omega
    subst e
    have hok : okB Q := by rw [hOK]; exact h3
    have kl : decide ((i : Int) < (i : Int)) = false := decide_eq_false (by omega)
    have di : dtN Q i = x := by rw [dE]; split <;> omega
    obtain ⟨y, ey⟩ : ∃ y, y = i - 1 := ⟨_, rfl⟩
    have ha0 := hat 0 (by omega)
    have hay := hat y (by omega)
    rw [← ey] at hTL
    obtain ⟨bh, hbh⟩ : ∃ bh : Int, bh = (y : Int) - (x : Int) := ⟨_, rfl⟩
    have e2 : IntKind.i64.wrap ((n : Int) - 2) = (y : Int) := by rw [wrap_i64 (by omega) (by omega)]; omega
    have e3 : IntKind.i64.wrap ((y : Int) - (x : Int)) = bh := by rw [wrap_i64 (by omega) (by omega), hbh]
    have t0 : (0 : Int).toNat = 0 := rfl
    obtain ⟨b1, b2, b3, b4, b5, b6, b7, q1, q2, q3, q4, q5, q6, q7, hcs⟩ := rd_table x i y bh (Q.getD y 0) (Q.getD 0 0) (hdW Q) (tlW Q) hHD hTL ey hbh h1 hx
    rcases hcs with ⟨hbs, hw⟩ | ⟨hbs, hw⟩
    · have hrd := hword fun h => hw h.2
      rcases hbs with ⟨rfl, rfl⟩ | ⟨rfl, rfl, rfl⟩ | ⟨rfl, rfl, rfl, rfl⟩ | ⟨rfl, rfl, rfl, rfl, rfl⟩ | ⟨rfl, rfl, rfl, rfl⟩ | ⟨rfl, rfl, rfl, rfl, rfl, rfl, rfl⟩
      all_goals (
          first | (have FRx := FR; clear FRx) | (have FR : Sm (¬ ((1 : Nat) = 0)) := Sm.mk Nat.one_ne_zero)
          repeat' first
            | (refine Sm.mk ?_; try simp -dsimp only [ZK, rvc, drawF, headN, pureH, stp, dvc, calleeOf, gcall, pev, eff, newB, okd, og, ogs, ogo, ogp, slv, bltv, opd, litv, strip, one, both, putE, St.put, look, gdOf, gdv, picka, pickv, pickw, binv, bini, bins, binb, binp, binq, isSlT, bina, shp, eqCells, unv, convv, nilv, faddv, addp, idxav, idxp, load1, load1m, loadn, loadnm, loadv, hget, hset, hrep, hdel, slicev, bnd, shift1, lenv, capv, IntKind.bits, extractv, fieldv, indexv, min2v, max2v, mkiv, cellsA, fillA, buildv, stC, oneC, rowMB, intsA, plN, appE, appZ, appC, appNZ, appNC, VwL, srcC, srcZ, srcM, isBoolT, isPtrT, isSliceT, uOk, Value.oneCell', Nat.reducePow, Int.reducePow, Nat.reduceAdd, Nat.reduceMul, Nat.reduceSub, Nat.reduceLT, Nat.reduceLeDiff, Nat.reduceEqDiff, Nat.reduceBEq, Nat.reduceDiv, Nat.reduceMod, ↓reduceIte, reduceCtorEq, Int.reduceToNat, Int.reduceLT, Int.reduceLE, TFStPF, SeqQ, BlkQ, LoopQ, BodyQ, kl, hs, e1, e2, e3, t1, t0, di, ha0, hay, q1, q2, q3, q4, q5, q6, q7, FR.out])
            | (refine WP.seq fun K hK => ?_)
            | (refine WP.region (rvc_sound _ _ (Sm.out ?_)))
            | (refine WP.drawK rfl mixed (by decide +kernel) (Sm.out ?_))
            | (refine Ob.mk ?_; focus (first | assumption | omega | decide | trivial | (intro hob; simp only [hob, ZF]; done) | (intros; (repeat' refine And.intro ?_ ?_) <;> first | assumption | omega | trivial | decide) | (intros; simp only [ZE] at *; (repeat' refine And.intro ?_ ?_) <;> first | assumption | omega | trivial)))
            | (refine And.intro (Ob.out ?_) ?_)
            | (refine WP.block ?_)
            | (refine WP.cond rfl (fun hc => ?_) (fun hc => ?_) <;> (try simp only [ZC, reduceCtorEq, ZD] at hc) <;> (try (exact absurd hc (by decide))) <;> (try (exfalso; omega)))
            | ((first | refine WP.skip ?_ | refine WP.exit ?_); simp only [SeqQ, BlkQ, LoopQ, BodyQ, ↓reduceIte, Nat.reduceEqDiff, reduceCtorEq, look, true_and])
            | (refine WP.ret (Sm.out ?_))
            | (first | refine ExG.no (Sm.out ?_) | refine Or.inl (ExG.no (Sm.out ?_)) | refine Or.inl (And.intro (fun hg => absurd hg (by decide)) (ExG.no (Sm.out ?_))))
            | (refine Rt.mk ?_; refine And.intro ?_ ?_ <;> (intro hg; first | exact absurd hg (by decide) | refine Sm.out ?_))
            | (refine Nu.mk ?_; first | (fail_if_success (have := nb1)); intro nb1 | (fail_if_success (have := nb2)); intro nb2 | (fail_if_success (have := nb3)); intro nb3 | intro nbz)
            | (refine Fr.mk ?_; intro hfr; (first | (have hFRb : _ ≤ _ ∧ _ ≤ _ := And.intro hfr.1 hfr.2.1) | (have hFRb : _ ≤ _ := hfr.1) | skip); replace FR := Sm.mk (And.intro hfr FR.out); clear hfr; refine Sm.out ?_)
            | (refine Two.mk ?_ ?_)
            | (refine Cs.mk ?_; intro hcs; first | exact False.elim hcs | (exfalso; omega) | (refine Sm.out ?_))
            | go_step
            | omega
            | (simp only [maxLen_eq]; omega))
      all_goals (refine OutQ.all ?_ ?_; (focus (simp only [resv, ZK, look, loadv, loadn, loadnm, load1, load1m, hget, ↓reduceIte, Nat.reduceEqDiff, Nat.reduceAdd, Nat.reduceMul, Nat.reduceLeDiff, Nat.reduceLT, reduceCtorEq, TFStPF, hrd, FR.out])); (try simp only [resv, resA, Fn, ZK, look, loadv, loadn, loadnm, load1, load1m, hget, ↓reduceIte, Nat.reduceEqDiff, Nat.reduceAdd, Nat.reduceMul, Nat.reduceLeDiff, Nat.reduceLT, reduceCtorEq, TFStPF, hrd, FR.out]); (try simp [resA, Fn, look, hrd, FR.out]))
    · have hlong := hlong hok hw.1 hw.2
      have hval := hval hok hw.1 hw.2
      have hx0 : 0 < x := by have := hw.1; rw [hHD] at this; exact this.1
      rcases hbs with ⟨rfl, rfl, rfl⟩ | ⟨rfl, rfl, rfl, rfl⟩ | ⟨rfl, rfl, rfl, rfl, rfl, rfl⟩ | ⟨rfl, rfl, rfl, rfl, rfl, rfl, rfl⟩
      all_goals
        by_cases hx3 : 3 < x
        · have k3 : decide ((x : Int) > 3) = true := decide_eq_true (by omega)
          have hrd := hlong hx3
          first | (have FRx := FR; clear FRx) | (have FR : Sm (¬ ((1 : Nat) = 0)) := Sm.mk Nat.one_ne_zero)
          repeat' first
            | (refine Sm.mk ?_; try simp -dsimp only [ZK, rvc, drawF, headN, pureH, stp, dvc, calleeOf, gcall, pev, eff, newB, okd, og, ogs, ogo, ogp, slv, bltv, opd, litv, strip, one, both, putE, St.put, look, gdOf, gdv, picka, pickv, pickw, binv, bini, bins, binb, binp, binq, isSlT, bina, shp, eqCells, unv, convv, nilv, faddv, addp, idxav, idxp, load1, load1m, loadn, loadnm, loadv, hget, hset, hrep, hdel, slicev, bnd, shift1, lenv, capv, IntKind.bits, extractv, fieldv, indexv, min2v, max2v, mkiv, cellsA, fillA, buildv, stC, oneC, rowMB, intsA, plN, appE, appZ, appC, appNZ, appNC, VwL, srcC, srcZ, srcM, isBoolT, isPtrT, isSliceT, uOk, Value.oneCell', Nat.reducePow, Int.reducePow, Nat.reduceAdd, Nat.reduceMul, Nat.reduceSub, Nat.reduceLT, Nat.reduceLeDiff, Nat.reduceEqDiff, Nat.reduceBEq, Nat.reduceDiv, Nat.reduceMod, ↓reduceIte, reduceCtorEq, Int.reduceToNat, Int.reduceLT, Int.reduceLE, TFStPF, SeqQ, BlkQ, LoopQ, BodyQ, kl, hs, e1, e2, e3, t1, t0, di, ha0, hay, q1, q2, q3, q4, q5, q6, q7, k3, FR.out])
            | (refine WP.seq fun K hK => ?_)
            | (refine WP.region (rvc_sound _ _ (Sm.out ?_)))
            | (refine WP.drawK rfl mixed (by decide +kernel) (Sm.out ?_))
            | (refine Ob.mk ?_; focus (first | assumption | omega | decide | trivial | (intro hob; simp only [hob, ZF]; done) | (intros; (repeat' refine And.intro ?_ ?_) <;> first | assumption | omega | trivial | decide) | (intros; simp only [ZE] at *; (repeat' refine And.intro ?_ ?_) <;> first | assumption | omega | trivial)))
            | (refine And.intro (Ob.out ?_) ?_)
            | (refine WP.block ?_)
            | (refine WP.cond rfl (fun hc => ?_) (fun hc => ?_) <;> (try simp only [ZC, reduceCtorEq, ZD] at hc) <;> (try (exact absurd hc (by decide))) <;> (try (exfalso; omega)))
            | ((first | refine WP.skip ?_ | refine WP.exit ?_); simp only [SeqQ, BlkQ, LoopQ, BodyQ, ↓reduceIte, Nat.reduceEqDiff, reduceCtorEq, look, true_and])
            | (refine WP.ret (Sm.out ?_))
            | (first | refine ExG.no (Sm.out ?_) | refine Or.inl (ExG.no (Sm.out ?_)) | refine Or.inl (And.intro (fun hg => absurd hg (by decide)) (ExG.no (Sm.out ?_))))
            | (refine Rt.mk ?_; refine And.intro ?_ ?_ <;> (intro hg; first | exact absurd hg (by decide) | refine Sm.out ?_))
            | (refine Nu.mk ?_; first | (fail_if_success (have := nb1)); intro nb1 | (fail_if_success (have := nb2)); intro nb2 | (fail_if_success (have := nb3)); intro nb3 | intro nbz)
            | (refine Fr.mk ?_; intro hfr; (first | (have hFRb : _ ≤ _ ∧ _ ≤ _ := And.intro hfr.1 hfr.2.1) | (have hFRb : _ ≤ _ := hfr.1) | skip); replace FR := Sm.mk (And.intro hfr FR.out); clear hfr; refine Sm.out ?_)
            | (refine Two.mk ?_ ?_)
            | (refine Cs.mk ?_; intro hcs; first | exact False.elim hcs | (exfalso; omega) | (refine Sm.out ?_))
            | go_step
            | omega
            | (simp only [maxLen_eq]; omega)
          (refine OutQ.all ?_ ?_; (focus (simp only [resv, ZK, look, loadv, loadn, loadnm, load1, load1m, hget, ↓reduceIte, Nat.reduceEqDiff, Nat.reduceAdd, Nat.reduceMul, Nat.reduceLeDiff, Nat.reduceLT, reduceCtorEq, TFStPF, hrd, FR.out])); (try simp only [resv, resA, Fn, ZK, look, loadv, loadn, loadnm, load1, load1m, hget, ↓reduceIte, Nat.reduceEqDiff, Nat.reduceAdd, Nat.reduceMul, Nat.reduceLeDiff, Nat.reduceLT, reduceCtorEq, TFStPF, hrd, FR.out]); (try simp [resA, Fn, look, hrd, FR.out]))
        have k3 : decide ((x : Int) > 3) = false := decide_eq_false (by omega)
        have hval := hval (by omega)
        first | (have FRx := FR; clear FRx) | (have FR : Sm (¬ ((1 : Nat) = 0)) := Sm.mk Nat.one_ne_zero)
        repeat' first
          | (refine Sm.mk ?_; try simp -dsimp only [ZK, rvc, drawF, headN, pureH, stp, dvc, calleeOf, gcall, pev, eff, newB, okd, og, ogs, ogo, ogp, slv, bltv, opd, litv, strip, one, both, putE, St.put, look, gdOf, gdv, picka, pickv, pickw, binv, bini, bins, binb, binp, binq, isSlT, bina, shp, eqCells, unv, convv, nilv, faddv, addp, idxav, idxp, load1, load1m, loadn, loadnm, loadv, hget, hset, hrep, hdel, slicev, bnd, shift1, lenv, capv, IntKind.bits, extractv, fieldv, indexv, min2v, max2v, mkiv, cellsA, fillA, buildv, stC, oneC, rowMB, intsA, plN, appE, appZ, appC, appNZ, appNC, VwL, srcC, srcZ, srcM, isBoolT, isPtrT, isSliceT, uOk, Value.oneCell', Nat.reducePow, Int.reducePow, Nat.reduceAdd, Nat.reduceMul, Nat.reduceSub, Nat.reduceLT, Nat.reduceLeDiff, Nat.reduceEqDiff, Nat.reduceBEq, Nat.reduceDiv, Nat.reduceMod, ↓reduceIte, reduceCtorEq, Int.reduceToNat, Int.reduceLT, Int.reduceLE, TFStPF, SeqQ, BlkQ, LoopQ, BodyQ, kl, hs, e1, e2, e3, t1, t0, di, ha0, hay, q1, q2, q3, q4, q5, q6, q7, k3, FR.out])
          | (refine WP.seq fun K hK => ?_)
          | (refine WP.region (rvc_sound _ _ (Sm.out ?_)))
          | (refine WP.drawK rfl mixed (by decide +kernel) (Sm.out ?_))
          | (refine Ob.mk ?_; focus (first | assumption | omega | decide | trivial | (intro hob; simp only [hob, ZF]; done) | (intros; (repeat' refine And.intro ?_ ?_) <;> first | assumption | omega | trivial | decide) | (intros; simp only [ZE] at *; (repeat' refine And.intro ?_ ?_) <;> first | assumption | omega | trivial)))
          | (refine And.intro (Ob.out ?_) ?_)
          | (refine WP.block ?_)
          | (refine WP.cond rfl (fun hc => ?_) (fun hc => ?_) <;> (try simp only [ZC, reduceCtorEq, ZD] at hc) <;> (try (exact absurd hc (by decide))) <;> (try (exfalso; omega)))
          | ((first | refine WP.skip ?_ | refine WP.exit ?_); simp only [SeqQ, BlkQ, LoopQ, BodyQ, ↓reduceIte, Nat.reduceEqDiff, reduceCtorEq, look, true_and])
          | (refine WP.ret (Sm.out ?_))
          | (first | refine ExG.no (Sm.out ?_) | refine Or.inl (ExG.no (Sm.out ?_)) | refine Or.inl (And.intro (fun hg => absurd hg (by decide)) (ExG.no (Sm.out ?_))))
          | (refine Rt.mk ?_; refine And.intro ?_ ?_ <;> (intro hg; first | exact absurd hg (by decide) | refine Sm.out ?_))
          | (refine Nu.mk ?_; first | (fail_if_success (have := nb1)); intro nb1 | (fail_if_success (have := nb2)); intro nb2 | (fail_if_success (have := nb3)); intro nb3 | intro nbz)
          | (refine Fr.mk ?_; intro hfr; (first | (have hFRb : _ ≤ _ ∧ _ ≤ _ := And.intro hfr.1 hfr.2.1) | (have hFRb : _ ≤ _ := hfr.1) | skip); replace FR := Sm.mk (And.intro hfr FR.out); clear hfr; refine Sm.out ?_)
          | (refine Two.mk ?_ ?_)
          | (refine Cs.mk ?_; intro hcs; first | exact False.elim hcs | (exfalso; omega) | (refine Sm.out ?_))
          | go_step
          | omega
          | (simp only [maxLen_eq]; omega)
        refine WP.loop (Γ := Nat) (fun k => ⟨[(9, iv .i64 (k : Int)), (8, iv .u32 (valR Q 0 k)), (5, iv .i64 (x : Int)), (4, iv .i64 (n : Int)), (0, .lit (.string B))], []⟩)
          (fun k => k ≤ x) (fun k => x - k) 0 (Nat.zero_le _) (Sub.pick (by simp [pickB, hget, hdel, FR.out, valR, di]) (by simp [look, valR, di])) ?_
        intro k hk
        have FR : Sm (¬ ((1 : Nat) = 0)) := Sm.mk Nat.one_ne_zero
        have vb : 0 ≤ valR Q 0 k ∧ valR Q 0 k < (10 : Int) ^ k := valR_bd fun j hj => by rw [Nat.zero_add]; rw [hOK] at hok; exact hok j (by omega) (by omega)
        have vc : valR Q 0 k < 1000 := by
          have : (10 : Int) ^ k ≤ 1000 := by rcases (by omega : k = 0 ∨ k = 1 ∨ k = 2 ∨ k = 3) with rfl | rfl | rfl | rfl <;> decide
          omega
        by_cases hkx : k < x
        · have kk : decide ((k : Int) < (x : Int)) = true := decide_eq_true (by omega)
          have hc := hat k (by omega)
          have hdg : 48 ≤ Q.getD k 0 ∧ Q.getD k 0 ≤ 57 := by rw [hOK] at hok; exact hok k (by omega) (by omega)
          have hv1 : valR Q 0 (k + 1) = 10 * valR Q 0 k + (Q.getD k 0 - 48) := by rw [valR_succ, Nat.zero_add]
          obtain ⟨c, hc0⟩ : ∃ c, c = Q.getD k 0 := ⟨_, rfl⟩
          rw [← hc0] at hc hdg hv1
          obtain ⟨v, hv⟩ : ∃ v, v = valR Q 0 k := ⟨_, rfl⟩
          rw [← hv] at vb vc hv1 ⊢
          have u1 : IntKind.u32.wrap (10 * v) = 10 * v := wrap_u32 (by omega) (by omega)
          have u2 : IntKind.u32.wrap c = c := wrap_u32 (by omega) (by omega)
          have u3 : IntKind.u32.wrap (10 * v + c) = 10 * v + c := wrap_u32 (by omega) (by omega)
          have u4 : IntKind.u32.wrap (10 * v + c - 48) = valR Q 0 (k + 1) := by rw [hv1, wrap_u32 (by omega) (by omega)]; omega
          have s1 : IntKind.i64.wrap ((k : Int) + 1) = ((k + 1 : Nat) : Int) := by rw [wrap_i64 (by omega) (by omega)]; omega
          have hc2 : ((B.data[k]?.getD 0).toNat : Int) = c := by simpa using hc
          first | (have FRx := FR; clear FRx) | (have FR : Sm (¬ ((1 : Nat) = 0)) := Sm.mk Nat.one_ne_zero)
          repeat' first
            | (refine Sm.mk ?_; try simp -dsimp only [ZK, rvc, drawF, headN, pureH, stp, dvc, calleeOf, gcall, pev, eff, newB, okd, og, ogs, ogo, ogp, slv, bltv, opd, litv, strip, one, both, putE, St.put, look, gdOf, gdv, picka, pickv, pickw, binv, bini, bins, binb, binp, binq, isSlT, bina, shp, eqCells, unv, convv, nilv, faddv, addp, idxav, idxp, load1, load1m, loadn, loadnm, loadv, hget, hset, hrep, hdel, slicev, bnd, shift1, lenv, capv, IntKind.bits, extractv, fieldv, indexv, min2v, max2v, mkiv, cellsA, fillA, buildv, stC, oneC, rowMB, intsA, plN, appE, appZ, appC, appNZ, appNC, VwL, srcC, srcZ, srcM, isBoolT, isPtrT, isSliceT, uOk, Value.oneCell', Nat.reducePow, Int.reducePow, Nat.reduceAdd, Nat.reduceMul, Nat.reduceSub, Nat.reduceLT, Nat.reduceLeDiff, Nat.reduceEqDiff, Nat.reduceBEq, Nat.reduceDiv, Nat.reduceMod, ↓reduceIte, reduceCtorEq, Int.reduceToNat, Int.reduceLT, Int.reduceLE, TFStPF, SeqQ, BlkQ, LoopQ, BodyQ, kk, hc, hs, t1, u1, u2, u3, u4, s1, FR.out])
            | (refine WP.seq fun K hK => ?_)
            | (refine WP.region (rvc_sound _ _ (Sm.out ?_)))
            | (refine WP.drawK rfl mixed (by decide +kernel) (Sm.out ?_))
            | (refine Ob.mk ?_; focus (first | assumption | omega | decide | trivial | (intro hob; simp only [hob, ZF]; done) | (intros; (repeat' refine And.intro ?_ ?_) <;> first | assumption | omega | trivial | decide) | (intros; simp only [ZE] at *; (repeat' refine And.intro ?_ ?_) <;> first | assumption | omega | trivial)))
            | (refine And.intro (Ob.out ?_) ?_)
            | (refine WP.block ?_)
            | (refine WP.cond rfl (fun hc => ?_) (fun hc => ?_) <;> (try simp only [ZC, reduceCtorEq, ZD] at hc) <;> (try (exact absurd hc (by decide))) <;> (try (exfalso; omega)))
            | ((first | refine WP.skip ?_ | refine WP.exit ?_); simp only [SeqQ, BlkQ, LoopQ, BodyQ, ↓reduceIte, Nat.reduceEqDiff, reduceCtorEq, look, true_and])
            | (refine WP.ret (Sm.out ?_))
            | (first | refine ExG.no (Sm.out ?_) | refine Or.inl (ExG.no (Sm.out ?_)) | refine Or.inl (And.intro (fun hg => absurd hg (by decide)) (ExG.no (Sm.out ?_))))
            | (refine Rt.mk ?_; refine And.intro ?_ ?_ <;> (intro hg; first | exact absurd hg (by decide) | refine Sm.out ?_))
            | (refine Nu.mk ?_; first | (fail_if_success (have := nb1)); intro nb1 | (fail_if_success (have := nb2)); intro nb2 | (fail_if_success (have := nb3)); intro nb3 | intro nbz)
            | (refine Fr.mk ?_; intro hfr; (first | (have hFRb : _ ≤ _ ∧ _ ≤ _ := And.intro hfr.1 hfr.2.1) | (have hFRb : _ ≤ _ := hfr.1) | skip); replace FR := Sm.mk (And.intro hfr FR.out); clear hfr; refine Sm.out ?_)
            | (refine Two.mk ?_ ?_)
            | (refine Cs.mk ?_; intro hcs; first | exact False.elim hcs | (exfalso; omega) | (refine Sm.out ?_))
            | go_step
            | omega
            | (simp only [maxLen_eq]; omega)
          refine ⟨k + 1, by omega, by omega, (Sub.pick (by simp [pickB, hget, hdel, FR.out, hc2, u2, u3, u4]) (by simp [look, hc2, u2, u3, u4]))⟩
        have e : k = x := by omega
        subst e
        have kk : decide ((k : Int) < (k : Int)) = false := decide_eq_false (by omega)
        first | (have FRx := FR; clear FRx) | (have FR : Sm (¬ ((1 : Nat) = 0)) := Sm.mk Nat.one_ne_zero)
        repeat' first
          | (refine Sm.mk ?_; try simp -dsimp only [ZK, rvc, drawF, headN, pureH, stp, dvc, calleeOf, gcall, pev, eff, newB, okd, og, ogs, ogo, ogp, slv, bltv, opd, litv, strip, one, both, putE, St.put, look, gdOf, gdv, picka, pickv, pickw, binv, bini, bins, binb, binp, binq, isSlT, bina, shp, eqCells, unv, convv, nilv, faddv, addp, idxav, idxp, load1, load1m, loadn, loadnm, loadv, hget, hset, hrep, hdel, slicev, bnd, shift1, lenv, capv, IntKind.bits, extractv, fieldv, indexv, min2v, max2v, mkiv, cellsA, fillA, buildv, stC, oneC, rowMB, intsA, plN, appE, appZ, appC, appNZ, appNC, VwL, srcC, srcZ, srcM, isBoolT, isPtrT, isSliceT, uOk, Value.oneCell', Nat.reducePow, Int.reducePow, Nat.reduceAdd, Nat.reduceMul, Nat.reduceSub, Nat.reduceLT, Nat.reduceLeDiff, Nat.reduceEqDiff, Nat.reduceBEq, Nat.reduceDiv, Nat.reduceMod, ↓reduceIte, reduceCtorEq, Int.reduceToNat, Int.reduceLT, Int.reduceLE, TFStPF, SeqQ, BlkQ, LoopQ, BodyQ, kk, FR.out])
          | (refine WP.seq fun K hK => ?_)
          | (refine WP.region (rvc_sound _ _ (Sm.out ?_)))
          | (refine WP.drawK rfl mixed (by decide +kernel) (Sm.out ?_))
          | (refine Ob.mk ?_; focus (first | assumption | omega | decide | trivial | (intro hob; simp only [hob, ZF]; done) | (intros; (repeat' refine And.intro ?_ ?_) <;> first | assumption | omega | trivial | decide) | (intros; simp only [ZE] at *; (repeat' refine And.intro ?_ ?_) <;> first | assumption | omega | trivial)))
          | (refine And.intro (Ob.out ?_) ?_)
          | (refine WP.block ?_)
          | (refine WP.cond rfl (fun hc => ?_) (fun hc => ?_) <;> (try simp only [ZC, reduceCtorEq, ZD] at hc) <;> (try (exact absurd hc (by decide))) <;> (try (exfalso; omega)))
          | ((first | refine WP.skip ?_ | refine WP.exit ?_); simp only [SeqQ, BlkQ, LoopQ, BodyQ, ↓reduceIte, Nat.reduceEqDiff, reduceCtorEq, look, true_and])
          | (refine WP.ret (Sm.out ?_))
          | (first | refine ExG.no (Sm.out ?_) | refine Or.inl (ExG.no (Sm.out ?_)) | refine Or.inl (And.intro (fun hg => absurd hg (by decide)) (ExG.no (Sm.out ?_))))
          | (refine Rt.mk ?_; refine And.intro ?_ ?_ <;> (intro hg; first | exact absurd hg (by decide) | refine Sm.out ?_))
          | (refine Nu.mk ?_; first | (fail_if_success (have := nb1)); intro nb1 | (fail_if_success (have := nb2)); intro nb2 | (fail_if_success (have := nb3)); intro nb3 | intro nbz)
          | (refine Fr.mk ?_; intro hfr; (first | (have hFRb : _ ≤ _ ∧ _ ≤ _ := And.intro hfr.1 hfr.2.1) | (have hFRb : _ ≤ _ := hfr.1) | skip); replace FR := Sm.mk (And.intro hfr FR.out); clear hfr; refine Sm.out ?_)
          | (refine Two.mk ?_ ?_)
          | (refine Cs.mk ?_; intro hcs; first | exact False.elim hcs | (exfalso; omega) | (refine Sm.out ?_))
          | go_step
          | omega
          | (simp only [maxLen_eq]; omega)
        obtain ⟨v, hv⟩ : ∃ v, v = valR Q 0 k := ⟨_, rfl⟩
        rw [← hv] at vb vc hval
        have hfb := hfb hok ⟨vb.1, vc⟩
        refine WP.loop (Γ := Nat) (fun j => ⟨[(10, iv .i64 (j : Int)), (8, iv .u32 (fvB Q k v j)), (5, iv .i64 (k : Int)), (4, iv .i64 (n : Int)), (0, .lit (.string B))], []⟩)
          (fun j => j ≤ 4) (fun j => 4 - j) 0 (Nat.zero_le _) (Sub.pick (by simp [pickB, hget, hdel, FR.out, fvB, hv]) (by simp [look, fvB, hv])) ?_
        intro j hj
        have FR : Sm (¬ ((1 : Nat) = 0)) := Sm.mk Nat.one_ne_zero
        have fb := hfb j
        have hp := pow4le hj
        by_cases hj4 : j < 4
        · have kj : decide ((j : Int) < 4) = true := decide_eq_true (by omega)
          have hv1 := hge j v
          have s1 : IntKind.i64.wrap ((j : Int) + 1) = ((j + 1 : Nat) : Int) := by rw [wrap_i64 (by omega) (by omega)]; omega
          have s2 : IntKind.i64.wrap ((k : Int) + 1) = ((k + 1 : Nat) : Int) := by rw [wrap_i64 (by omega) (by omega)]; omega
          have s3 : IntKind.i64.wrap (((k + 1 : Nat) : Int) + (j : Int)) = ((k + 1 + j : Nat) : Int) := by rw [wrap_i64 (by omega) (by omega)]; omega
          obtain ⟨f, hf⟩ : ∃ f, f = fvB Q k v j := ⟨_, rfl⟩
          rw [← hf] at fb hv1 ⊢
          have u1 : IntKind.u32.wrap (10 * f) = 10 * f := wrap_u32 (by omega) (by omega)
          by_cases hin : k + 1 + j < i
          · have hc := hat (k + 1 + j) hin
            have hdg : 48 ≤ Q.getD (k + 1 + j) 0 ∧ Q.getD (k + 1 + j) 0 ≤ 57 := by rw [hOK] at hok; exact hok _ hin (by omega)
            rw [if_pos hin] at hv1
            obtain ⟨p, hp0⟩ : ∃ p, p = k + 1 + j := ⟨_, rfl⟩
            rw [← hp0] at s3 hc hdg hv1 hin
            have ki : decide ((p : Int) < (i : Int)) = true := decide_eq_true (by omega)
            obtain ⟨c, hc0⟩ : ∃ c, c = Q.getD p 0 := ⟨_, rfl⟩
            rw [← hc0] at hc hdg hv1
            have u2 : IntKind.u32.wrap c = c := wrap_u32 (by omega) (by omega)
            have u3 : IntKind.u32.wrap (10 * f + c) = 10 * f + c := wrap_u32 (by omega) (by omega)
            have u4 : IntKind.u32.wrap (10 * f + c - 48) = fvB Q k v (j + 1) := by rw [hv1, wrap_u32 (by omega) (by omega)]; omega
            have hc2 : ((B.data[p]?.getD 0).toNat : Int) = c := by simpa using hc
            first | (have FRx := FR; clear FRx) | (have FR : Sm (¬ ((1 : Nat) = 0)) := Sm.mk Nat.one_ne_zero)
            repeat' first
              | (refine Sm.mk ?_; try simp -dsimp only [ZK, rvc, drawF, headN, pureH, stp, dvc, calleeOf, gcall, pev, eff, newB, okd, og, ogs, ogo, ogp, slv, bltv, opd, litv, strip, one, both, putE, St.put, look, gdOf, gdv, picka, pickv, pickw, binv, bini, bins, binb, binp, binq, isSlT, bina, shp, eqCells, unv, convv, nilv, faddv, addp, idxav, idxp, load1, load1m, loadn, loadnm, loadv, hget, hset, hrep, hdel, slicev, bnd, shift1, lenv, capv, IntKind.bits, extractv, fieldv, indexv, min2v, max2v, mkiv, cellsA, fillA, buildv, stC, oneC, rowMB, intsA, plN, appE, appZ, appC, appNZ, appNC, VwL, srcC, srcZ, srcM, isBoolT, isPtrT, isSliceT, uOk, Value.oneCell', Nat.reducePow, Int.reducePow, Nat.reduceAdd, Nat.reduceMul, Nat.reduceSub, Nat.reduceLT, Nat.reduceLeDiff, Nat.reduceEqDiff, Nat.reduceBEq, Nat.reduceDiv, Nat.reduceMod, ↓reduceIte, reduceCtorEq, Int.reduceToNat, Int.reduceLT, Int.reduceLE, TFStPF, SeqQ, BlkQ, LoopQ, BodyQ, kj, ki, e1, hc, hs, t1, u1, u2, u3, u4, s1, s2, s3, FR.out])
              | (refine WP.seq fun K hK => ?_)
              | (refine WP.region (rvc_sound _ _ (Sm.out ?_)))
              | (refine WP.drawK rfl mixed (by decide +kernel) (Sm.out ?_))
              | (refine Ob.mk ?_; focus (first | assumption | omega | decide | trivial | (intro hob; simp only [hob, ZF]; done) | (intros; (repeat' refine And.intro ?_ ?_) <;> first | assumption | omega | trivial | decide) | (intros; simp only [ZE] at *; (repeat' refine And.intro ?_ ?_) <;> first | assumption | omega | trivial)))
              | (refine And.intro (Ob.out ?_) ?_)
              | (refine WP.block ?_)
              | (refine WP.cond rfl (fun hc => ?_) (fun hc => ?_) <;> (try simp only [ZC, reduceCtorEq, ZD] at hc) <;> (try (exact absurd hc (by decide))) <;> (try (exfalso; omega)))
              | ((first | refine WP.skip ?_ | refine WP.exit ?_); simp only [SeqQ, BlkQ, LoopQ, BodyQ, ↓reduceIte, Nat.reduceEqDiff, reduceCtorEq, look, true_and])
              | (refine WP.ret (Sm.out ?_))
              | (first | refine ExG.no (Sm.out ?_) | refine Or.inl (ExG.no (Sm.out ?_)) | refine Or.inl (And.intro (fun hg => absurd hg (by decide)) (ExG.no (Sm.out ?_))))
              | (refine Rt.mk ?_; refine And.intro ?_ ?_ <;> (intro hg; first | exact absurd hg (by decide) | refine Sm.out ?_))
              | (refine Nu.mk ?_; first | (fail_if_success (have := nb1)); intro nb1 | (fail_if_success (have := nb2)); intro nb2 | (fail_if_success (have := nb3)); intro nb3 | intro nbz)
              | (refine Fr.mk ?_; intro hfr; (first | (have hFRb : _ ≤ _ ∧ _ ≤ _ := And.intro hfr.1 hfr.2.1) | (have hFRb : _ ≤ _ := hfr.1) | skip); replace FR := Sm.mk (And.intro hfr FR.out); clear hfr; refine Sm.out ?_)
              | (refine Two.mk ?_ ?_)
              | (refine Cs.mk ?_; intro hcs; first | exact False.elim hcs | (exfalso; omega) | (refine Sm.out ?_))
              | go_step
              | omega
              | (simp only [maxLen_eq]; omega)
            refine ⟨j + 1, by omega, by omega, (Sub.pick (by simp [pickB, hget, hdel, FR.out, hc2, u2, u3, u4]) (by simp [look, hc2, u2, u3, u4]))⟩
          · rw [if_neg hin] at hv1
            have ki : decide (((k + 1 + j : Nat) : Int) < (i : Int)) = false := decide_eq_false (by omega)
            obtain ⟨p, hp0⟩ : ∃ p, p = k + 1 + j := ⟨_, rfl⟩
            rw [← hp0] at s3 ki
            have hv2 : 10 * f = fvB Q k v (j + 1) := by omega
            first | (have FRx := FR; clear FRx) | (have FR : Sm (¬ ((1 : Nat) = 0)) := Sm.mk Nat.one_ne_zero)
            repeat' first
              | (refine Sm.mk ?_; try simp -dsimp only [ZK, rvc, drawF, headN, pureH, stp, dvc, calleeOf, gcall, pev, eff, newB, okd, og, ogs, ogo, ogp, slv, bltv, opd, litv, strip, one, both, putE, St.put, look, gdOf, gdv, picka, pickv, pickw, binv, bini, bins, binb, binp, binq, isSlT, bina, shp, eqCells, unv, convv, nilv, faddv, addp, idxav, idxp, load1, load1m, loadn, loadnm, loadv, hget, hset, hrep, hdel, slicev, bnd, shift1, lenv, capv, IntKind.bits, extractv, fieldv, indexv, min2v, max2v, mkiv, cellsA, fillA, buildv, stC, oneC, rowMB, intsA, plN, appE, appZ, appC, appNZ, appNC, VwL, srcC, srcZ, srcM, isBoolT, isPtrT, isSliceT, uOk, Value.oneCell', Nat.reducePow, Int.reducePow, Nat.reduceAdd, Nat.reduceMul, Nat.reduceSub, Nat.reduceLT, Nat.reduceLeDiff, Nat.reduceEqDiff, Nat.reduceBEq, Nat.reduceDiv, Nat.reduceMod, ↓reduceIte, reduceCtorEq, Int.reduceToNat, Int.reduceLT, Int.reduceLE, TFStPF, SeqQ, BlkQ, LoopQ, BodyQ, kj, ki, e1, hs, t1, u1, s1, s2, s3, FR.out])
              | (refine WP.seq fun K hK => ?_)
              | (refine WP.region (rvc_sound _ _ (Sm.out ?_)))
              | (refine WP.drawK rfl mixed (by decide +kernel) (Sm.out ?_))
              | (refine Ob.mk ?_; focus (first | assumption | omega | decide | trivial | (intro hob; simp only [hob, ZF]; done) | (intros; (repeat' refine And.intro ?_ ?_) <;> first | assumption | omega | trivial | decide) | (intros; simp only [ZE] at *; (repeat' refine And.intro ?_ ?_) <;> first | assumption | omega | trivial)))
              | (refine And.intro (Ob.out ?_) ?_)
              | (refine WP.block ?_)
              | (refine WP.cond rfl (fun hc => ?_) (fun hc => ?_) <;> (try simp only [ZC, reduceCtorEq, ZD] at hc) <;> (try (exact absurd hc (by decide))) <;> (try (exfalso; omega)))
              | ((first | refine WP.skip ?_ | refine WP.exit ?_); simp only [SeqQ, BlkQ, LoopQ, BodyQ, ↓reduceIte, Nat.reduceEqDiff, reduceCtorEq, look, true_and])
              | (refine WP.ret (Sm.out ?_))
              | (first | refine ExG.no (Sm.out ?_) | refine Or.inl (ExG.no (Sm.out ?_)) | refine Or.inl (And.intro (fun hg => absurd hg (by decide)) (ExG.no (Sm.out ?_))))
              | (refine Rt.mk ?_; refine And.intro ?_ ?_ <;> (intro hg; first | exact absurd hg (by decide) | refine Sm.out ?_))
              | (refine Nu.mk ?_; first | (fail_if_success (have := nb1)); intro nb1 | (fail_if_success (have := nb2)); intro nb2 | (fail_if_success (have := nb3)); intro nb3 | intro nbz)
              | (refine Fr.mk ?_; intro hfr; (first | (have hFRb : _ ≤ _ ∧ _ ≤ _ := And.intro hfr.1 hfr.2.1) | (have hFRb : _ ≤ _ := hfr.1) | skip); replace FR := Sm.mk (And.intro hfr FR.out); clear hfr; refine Sm.out ?_)
              | (refine Two.mk ?_ ?_)
              | (refine Cs.mk ?_; intro hcs; first | exact False.elim hcs | (exfalso; omega) | (refine Sm.out ?_))
              | go_step
              | omega
              | (simp only [maxLen_eq]; omega)
            refine ⟨j + 1, by omega, by omega, (Sub.pick (by simp [pickB, hget, hdel, FR.out, hv2]) (by simp [look, hv2]))⟩
        have e : j = 4 := by omega
        subst e
        have kj : decide (((4 : Nat) : Int) < 4) = false := by decide
        obtain ⟨f, hf⟩ : ∃ f, f = fvB Q k v 4 := ⟨_, rfl⟩
        rw [← hf] at hval ⊢
        by_cases hbig : 1000000 < f
        · have kb : decide (f > 1000000) = true := decide_eq_true hbig
          rw [if_pos hbig] at hval
          first | (have FRx := FR; clear FRx) | (have FR : Sm (¬ ((1 : Nat) = 0)) := Sm.mk Nat.one_ne_zero)
          repeat' first
            | (refine Sm.mk ?_; try simp -dsimp only [ZK, rvc, drawF, headN, pureH, stp, dvc, calleeOf, gcall, pev, eff, newB, okd, og, ogs, ogo, ogp, slv, bltv, opd, litv, strip, one, both, putE, St.put, look, gdOf, gdv, picka, pickv, pickw, binv, bini, bins, binb, binp, binq, isSlT, bina, shp, eqCells, unv, convv, nilv, faddv, addp, idxav, idxp, load1, load1m, loadn, loadnm, loadv, hget, hset, hrep, hdel, slicev, bnd, shift1, lenv, capv, IntKind.bits, extractv, fieldv, indexv, min2v, max2v, mkiv, cellsA, fillA, buildv, stC, oneC, rowMB, intsA, plN, appE, appZ, appC, appNZ, appNC, VwL, srcC, srcZ, srcM, isBoolT, isPtrT, isSliceT, uOk, Value.oneCell', Nat.reducePow, Int.reducePow, Nat.reduceAdd, Nat.reduceMul, Nat.reduceSub, Nat.reduceLT, Nat.reduceLeDiff, Nat.reduceEqDiff, Nat.reduceBEq, Nat.reduceDiv, Nat.reduceMod, ↓reduceIte, reduceCtorEq, Int.reduceToNat, Int.reduceLT, Int.reduceLE, TFStPF, SeqQ, BlkQ, LoopQ, BodyQ, kj, kb, FR.out])
            | (refine WP.seq fun K hK => ?_)
            | (refine WP.region (rvc_sound _ _ (Sm.out ?_)))
            | (refine WP.drawK rfl mixed (by decide +kernel) (Sm.out ?_))
            | (refine Ob.mk ?_; focus (first | assumption | omega | decide | trivial | (intro hob; simp only [hob, ZF]; done) | (intros; (repeat' refine And.intro ?_ ?_) <;> first | assumption | omega | trivial | decide) | (intros; simp only [ZE] at *; (repeat' refine And.intro ?_ ?_) <;> first | assumption | omega | trivial)))
            | (refine And.intro (Ob.out ?_) ?_)
            | (refine WP.block ?_)
            | (refine WP.cond rfl (fun hc => ?_) (fun hc => ?_) <;> (try simp only [ZC, reduceCtorEq, ZD] at hc) <;> (try (exact absurd hc (by decide))) <;> (try (exfalso; omega)))
            | ((first | refine WP.skip ?_ | refine WP.exit ?_); simp only [SeqQ, BlkQ, LoopQ, BodyQ, ↓reduceIte, Nat.reduceEqDiff, reduceCtorEq, look, true_and])
            | (refine WP.ret (Sm.out ?_))
            | (first | refine ExG.no (Sm.out ?_) | refine Or.inl (ExG.no (Sm.out ?_)) | refine Or.inl (And.intro (fun hg => absurd hg (by decide)) (ExG.no (Sm.out ?_))))
            | (refine Rt.mk ?_; refine And.intro ?_ ?_ <;> (intro hg; first | exact absurd hg (by decide) | refine Sm.out ?_))
            | (refine Nu.mk ?_; first | (fail_if_success (have := nb1)); intro nb1 | (fail_if_success (have := nb2)); intro nb2 | (fail_if_success (have := nb3)); intro nb3 | intro nbz)
            | (refine Fr.mk ?_; intro hfr; (first | (have hFRb : _ ≤ _ ∧ _ ≤ _ := And.intro hfr.1 hfr.2.1) | (have hFRb : _ ≤ _ := hfr.1) | skip); replace FR := Sm.mk (And.intro hfr FR.out); clear hfr; refine Sm.out ?_)
            | (refine Two.mk ?_ ?_)
            | (refine Cs.mk ?_; intro hcs; first | exact False.elim hcs | (exfalso; omega) | (refine Sm.out ?_))
            | go_step
            | omega
            | (simp only [maxLen_eq]; omega)
          (refine OutQ.all ?_ ?_; (focus (simp only [resv, ZK, look, loadv, loadn, loadnm, load1, load1m, hget, ↓reduceIte, Nat.reduceEqDiff, Nat.reduceAdd, Nat.reduceMul, Nat.reduceLeDiff, Nat.reduceLT, reduceCtorEq, TFStPF, hval, FR.out])); (try simp only [resv, resA, Fn, ZK, look, loadv, loadn, loadnm, load1, load1m, hget, ↓reduceIte, Nat.reduceEqDiff, Nat.reduceAdd, Nat.reduceMul, Nat.reduceLeDiff, Nat.reduceLT, reduceCtorEq, TFStPF, hval, FR.out]); (try simp [resA, Fn, look, hval, FR.out]))
        · have kb : decide (f > 1000000) = false := decide_eq_false hbig
          rw [if_neg hbig] at hval
          first | (have FRx := FR; clear FRx) | (have FR : Sm (¬ ((1 : Nat) = 0)) := Sm.mk Nat.one_ne_zero)
          repeat' first
            | (refine Sm.mk ?_; try simp -dsimp only [ZK, rvc, drawF, headN, pureH, stp, dvc, calleeOf, gcall, pev, eff, newB, okd, og, ogs, ogo, ogp, slv, bltv, opd, litv, strip, one, both, putE, St.put, look, gdOf, gdv, picka, pickv, pickw, binv, bini, bins, binb, binp, binq, isSlT, bina, shp, eqCells, unv, convv, nilv, faddv, addp, idxav, idxp, load1, load1m, loadn, loadnm, loadv, hget, hset, hrep, hdel, slicev, bnd, shift1, lenv, capv, IntKind.bits, extractv, fieldv, indexv, min2v, max2v, mkiv, cellsA, fillA, buildv, stC, oneC, rowMB, intsA, plN, appE, appZ, appC, appNZ, appNC, VwL, srcC, srcZ, srcM, isBoolT, isPtrT, isSliceT, uOk, Value.oneCell', Nat.reducePow, Int.reducePow, Nat.reduceAdd, Nat.reduceMul, Nat.reduceSub, Nat.reduceLT, Nat.reduceLeDiff, Nat.reduceEqDiff, Nat.reduceBEq, Nat.reduceDiv, Nat.reduceMod, ↓reduceIte, reduceCtorEq, Int.reduceToNat, Int.reduceLT, Int.reduceLE, TFStPF, SeqQ, BlkQ, LoopQ, BodyQ, kj, kb, FR.out])
            | (refine WP.seq fun K hK => ?_)
            | (refine WP.region (rvc_sound _ _ (Sm.out ?_)))
            | (refine WP.drawK rfl mixed (by decide +kernel) (Sm.out ?_))
            | (refine Ob.mk ?_; focus (first | assumption | omega | decide | trivial | (intro hob; simp only [hob, ZF]; done) | (intros; (repeat' refine And.intro ?_ ?_) <;> first | assumption | omega | trivial | decide) | (intros; simp only [ZE] at *; (repeat' refine And.intro ?_ ?_) <;> first | assumption | omega | trivial)))
            | (refine And.intro (Ob.out ?_) ?_)
            | (refine WP.block ?_)
            | (refine WP.cond rfl (fun hc => ?_) (fun hc => ?_) <;> (try simp only [ZC, reduceCtorEq, ZD] at hc) <;> (try (exact absurd hc (by decide))) <;> (try (exfalso; omega)))
            | ((first | refine WP.skip ?_ | refine WP.exit ?_); simp only [SeqQ, BlkQ, LoopQ, BodyQ, ↓reduceIte, Nat.reduceEqDiff, reduceCtorEq, look, true_and])
            | (refine WP.ret (Sm.out ?_))
            | (first | refine ExG.no (Sm.out ?_) | refine Or.inl (ExG.no (Sm.out ?_)) | refine Or.inl (And.intro (fun hg => absurd hg (by decide)) (ExG.no (Sm.out ?_))))
            | (refine Rt.mk ?_; refine And.intro ?_ ?_ <;> (intro hg; first | exact absurd hg (by decide) | refine Sm.out ?_))
            | (refine Nu.mk ?_; first | (fail_if_success (have := nb1)); intro nb1 | (fail_if_success (have := nb2)); intro nb2 | (fail_if_success (have := nb3)); intro nb3 | intro nbz)
            | (refine Fr.mk ?_; intro hfr; (first | (have hFRb : _ ≤ _ ∧ _ ≤ _ := And.intro hfr.1 hfr.2.1) | (have hFRb : _ ≤ _ := hfr.1) | skip); replace FR := Sm.mk (And.intro hfr FR.out); clear hfr; refine Sm.out ?_)
            | (refine Two.mk ?_ ?_)
            | (refine Cs.mk ?_; intro hcs; first | exact False.elim hcs | (exfalso; omega) | (refine Sm.out ?_))
            | go_step
            | omega
            | (simp only [maxLen_eq]; omega)
          (refine OutQ.all ?_ ?_; (focus (simp only [resv, ZK, look, loadv, loadn, loadnm, load1, load1m, hget, ↓reduceIte, Nat.reduceEqDiff, Nat.reduceAdd, Nat.reduceMul, Nat.reduceLeDiff, Nat.reduceLT, reduceCtorEq, TFStPF, hval, FR.out])); (try simp only [resv, resA, Fn, ZK, look, loadv, loadn, loadnm, load1, load1m, hget, ↓reduceIte, Nat.reduceEqDiff, Nat.reduceAdd, Nat.reduceMul, Nat.reduceLeDiff, Nat.reduceLT, reduceCtorEq, TFStPF, hval, FR.out]); (try simp [resA, Fn, look, hval, FR.out]))
theorem rdR_ct (zs : List Int) (hb : By zs) (hl : zs.length ≤ 1000) : ACt Tryd.prog 20 [stz zs] [] (Fn (rdP zs)) := by
  by_cases h : 2 ≤ zs.length ∧ zs.getD (zs.length - 1) 0 = 37
  · have h37 : sfx zs 37 = true := by unfold sfx; simp only [Bool.and_eq_true, decide_eq_true_eq, beq_iff_eq]; exact ⟨by omega, h.2⟩
    have e := sfx_cut h37
    have e2 : rdP zs = rdB (cutS zs 37) := by unfold rdP; rw [if_pos h37]
    rw [e2]
    obtain ⟨Q, hQ⟩ : ∃ Q, Q = cutS zs 37 := ⟨_, rfl⟩
    rw [← hQ] at e ⊢
    subst e
    have hlq : (Q ++ [37]).length = Q.length + 1 := by simp
    exact rdR_main Q hb (by omega) (by omega)
  · have e2 : rdP zs = rbad 5 := by
      by_cases h37 : sfx zs 37 = true
      · have hk := h37
        unfold sfx at hk
        simp only [Bool.and_eq_true, decide_eq_true_eq, beq_iff_eq] at hk
        have e := sfx_cut h37
        have hl1 : zs.length = 1 := by
          by_cases h2 : 2 ≤ zs.length
          · exact absurd ⟨h2, hk.2⟩ h
          · omega
        obtain ⟨Q, hQ⟩ : ∃ Q, Q = cutS zs 37 := ⟨_, rfl⟩
        rw [← hQ] at e
        have hl0 : Q.length = 0 := by rw [e] at hl1; simpa using hl1
        have : Q = [] := List.eq_nil_of_length_eq_zero hl0
        subst this
        rw [e]; rfl
      · unfold rdP; rw [if_neg h37]
    rw [e2]
    exact rdR_short zs hb hl h
end Go.Proofs.YtocfaghflhgeeaaDoor
