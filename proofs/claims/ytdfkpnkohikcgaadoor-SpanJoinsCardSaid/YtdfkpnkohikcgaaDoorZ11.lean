/-
  The walks and the laws that the statement leans on, part 11.
-/
import Derived.Test.YtdfkpnkohikcgaaDoorZ10
namespace Go.Proofs.YtdfkpnkohikcgaaDoor
open Go
set_option linter.unusedVariables false
set_option linter.unusedSimpArgs false
theorem TFSpQ : (((((type_of% tyc2) ∧ (type_of% zmb2)) ∧ ((type_of% tyc3) ∧ ((type_of% zmb3) ∧ (type_of% tyc4)))) ∧ (((type_of% zmb4) ∧ (type_of% tyc5)) ∧ ((type_of% zmb5) ∧ ((type_of% tyc9) ∧ (type_of% zmb9))))) ∧ ((((type_of% tyc24) ∧ (type_of% zmb24)) ∧ ((type_of% tyc25) ∧ ((type_of% Tryd.underlying2) ∧ (type_of% Tryd.underlying3)))) ∧ (((type_of% Tryd.underlying4) ∧ (type_of% Tryd.underlying5)) ∧ ((type_of% Tryd.underlying9) ∧ ((type_of% Tryd.underlying24) ∧ (type_of% Tryd.underlying25)))))) :=
  ⟨⟨⟨⟨tyc2, zmb2⟩, ⟨tyc3, ⟨zmb3, tyc4⟩⟩⟩, ⟨⟨zmb4, tyc5⟩, ⟨zmb5, ⟨tyc9, zmb9⟩⟩⟩⟩, ⟨⟨⟨tyc24, zmb24⟩, ⟨tyc25, ⟨Tryd.underlying2, Tryd.underlying3⟩⟩⟩, ⟨⟨Tryd.underlying4, Tryd.underlying5⟩, ⟨Tryd.underlying9, ⟨Tryd.underlying24, Tryd.underlying25⟩⟩⟩⟩⟩
set_option maxHeartbeats 8000000 in
theorem joins_ct (a b : List Int) (ba : By a) (bb : By b) (n0 : Nat) : ACt Tryd.prog 5 [stz a, stz b] (GG n0) (fun r F' => r = bv true ∧ F' = GG n0) := by
  have cA := awake_ct n0
  have hsa := bstr_size a
  have hsb := bstr_size b
  have y2 : ∀ x : Int, (x == x) = true := fun x => beq_self_eq_true x
  have t1 : ∀ k : Nat, ((k : Nat) : Int).toNat = k := fun k => by omega
  simp only [GG, p10] at cA ⊢
  obtain ⟨Lp, hLp⟩ : ∃ Lp, Lp = p10 := ⟨_, rfl⟩
  simp only [p10] at hLp
  simp only [← hLp] at cA ⊢
  by_cases hearly : 200 < a.length ∨ 200 < b.length ∨ a.length = 0 ∨ b.length = 0
  · obtain ⟨b1, b2, b3, b4, q1, q2, q3, q4, hbs⟩ : ∃ b1 b2 b3 b4 : Bool, decide ((a.length : Int) > 200) = b1 ∧ decide ((b.length : Int) > 200) = b2 ∧ ((a.length : Int) == 0) = b3 ∧ ((b.length : Int) == 0) = b4 ∧
        (b1 = true ∨ (b1 = false ∧ b2 = true) ∨ (b1 = false ∧ b2 = false ∧ b3 = true) ∨ (b1 = false ∧ b2 = false ∧ b3 = false ∧ b4 = true)) := by
      refine ⟨_, _, _, _, rfl, rfl, rfl, rfl, ?_⟩
      by_cases h1 : 200 < a.length
      · exact .inl (decide_eq_true (by omega))
      by_cases h2 : 200 < b.length
      · exact .inr (.inl ⟨decide_eq_false (by omega), decide_eq_true (by omega)⟩)
      by_cases h3 : a.length = 0
      · exact .inr (.inr (.inl ⟨decide_eq_false (by omega), decide_eq_false (by omega), beq_iff_eq.2 (by omega)⟩))
      · exact .inr (.inr (.inr ⟨decide_eq_false (by omega), decide_eq_false (by omega), beq_eq_false_iff_ne.2 (by omega), beq_iff_eq.2 (by omega)⟩))
    obtain ⟨X, hX⟩ : ∃ X, X = bstr a := ⟨_, rfl⟩
    obtain ⟨Y, hY⟩ : ∃ Y, Y = bstr b := ⟨_, rfl⟩
    unfold stz
    rw [← hX] at hsa ⊢
    rw [← hY] at hsb ⊢
    rcases hbs with rfl | ⟨rfl, rfl⟩ | ⟨rfl, rfl, rfl⟩ | ⟨rfl, rfl, rfl, rfl⟩
    all_goals
      refine ACt.intro Tryd.func5 rfl (by kernel_rfl) (by simp [Tryd.ntmps5]) (fun cx => ?_)
      simp only [argE, Tryd.ntmps5, Tryd.results5]
    all_goals (
        first | (have FRx := FR; clear FRx) | (have FR : Sm (¬ ((1 : Nat) = 0)) := Sm.mk Nat.one_ne_zero)
        repeat' first
          | (refine Sm.mk ?_; try simp -dsimp only [ZK, rvc, drawF, headN, pureH, stp, dvc, calleeOf, gcall, pev, eff, newB, okd, og, ogs, ogo, ogp, slv, bltv, opd, litv, strip, one, both, putE, St.put, look, gdOf, gdv, picka, pickv, pickw, binv, bini, bins, binb, binp, binq, isSlT, bina, shp, eqCells, unv, convv, nilv, faddv, addp, idxav, idxp, load1, load1m, loadn, loadnm, loadv, hget, hset, hrep, hdel, slicev, bnd, shift1, lenv, capv, IntKind.bits, extractv, fieldv, indexv, min2v, max2v, mkiv, cellsA, fillA, buildv, stC, oneC, rowMB, intsA, plN, appE, appZ, appC, appNZ, appNC, VwL, srcC, srcZ, srcM, isBoolT, isPtrT, isSliceT, uOk, Value.oneCell', Nat.reducePow, Int.reducePow, Nat.reduceAdd, Nat.reduceMul, Nat.reduceSub, Nat.reduceLT, Nat.reduceLeDiff, Nat.reduceEqDiff, Nat.reduceBEq, Nat.reduceDiv, Nat.reduceMod, ↓reduceIte, reduceCtorEq, Int.reduceToNat, Int.reduceLT, Int.reduceLE, TFSpQ, SeqQ, BlkQ, LoopQ, BodyQ, hsa, hsb, q1, q2, q3, q4, FR.out])
          | (refine CallV.updM (cA) (perm1 (by simp only [hget, hdel, ↓reduceIte, FR.out, hsa, hsb, q1, q2, q3, q4]; first | done | rfl)) (Sm.out ?_))
          | ((first | refine ExF.up ?_ (cA) (Sm.out ?_) | refine ExG.up ?_ (fun _ => cA) (Sm.out ?_) | refine ExG.upJ ?_ (fun _ => cA) (Sm.out ?_) | refine ExG.upI ?_ (fun _ => cA) (Ob.out ?_) (Sm.out ?_)); focus (exact ⟨_, (perm1 (by simp only [hget, hdel, ↓reduceIte, FR.out, hsa, hsb, q1, q2, q3, q4]; first | done | rfl))⟩))
          | (refine WP.seq fun K hK => ?_)
          | (refine WP.region (rvc_sound _ _ (Sm.out ?_)))
          | (refine WP.drawK rfl mixed (by decide +kernel) (Sm.out ?_))
          | (refine Ob.mk ?_; focus (first | assumption | omega | decide | trivial | (intro hob; simp only [hob, ZF]; done) | (intros; (repeat' refine And.intro ?_ ?_) <;> first | assumption | omega | trivial | decide) | (intros; simp only [ZE] at *; (repeat' refine And.intro ?_ ?_) <;> first | assumption | omega | trivial)))
          | (refine And.intro (Ob.out ?_) ?_)
          | (refine WP.block ?_)
          | (refine WP.cond rfl (fun hc => ?_) (fun hc => ?_) <;> (try simp only [ZC, reduceCtorEq, ZD] at hc) <;> (try (exact absurd hc (by decide))) <;> (try (exfalso; omega)))
          | ((first | refine WP.skip ?_ | refine WP.exit ?_); simp only [SeqQ, BlkQ, LoopQ, BodyQ, ↓reduceIte, Nat.reduceEqDiff, reduceCtorEq, look, true_and])
          | (refine WP.ret (Sm.out ?_))
          | (first | refine ExG.no (Sm.out ?_) | refine Or.inl (ExG.no (Sm.out ?_)) | refine Or.inl (And.intro (fun hg => absurd hg (by decide)) (ExG.no (Sm.out ?_))))
          | (refine Rt.mk ?_; refine And.intro ?_ ?_ <;> (intro hg; first | exact absurd hg (by decide) | refine Sm.out ?_))
          | (refine Nu.mk ?_; first | (fail_if_success (have := nb1)); intro nb1 | (fail_if_success (have := nb2)); intro nb2 | (fail_if_success (have := nb3)); intro nb3 | (fail_if_success (have := nb4)); intro nb4 | (fail_if_success (have := nb5)); intro nb5 | (fail_if_success (have := nb6)); intro nb6 | intro nbz)
          | (refine Fr.mk ?_; intro hfr; (first | (have hFRb : _ ≤ _ ∧ _ ≤ _ := And.intro hfr.1 hfr.2.1) | (have hFRb : _ ≤ _ := hfr.1) | skip); replace FR := Sm.mk (And.intro hfr FR.out); clear hfr; refine Sm.out ?_)
          | (refine Two.mk ?_ ?_)
          | (refine Cs.mk ?_; intro hcs; first | exact False.elim hcs | (exfalso; omega) | (refine Sm.out ?_))
          | go_step
          | omega
          | (simp only [maxLen_eq]; omega))
    all_goals (refine OutQ.upd (by simp only [resv, ZK, look, loadv, loadn, loadnm, load1, load1m, hget, ↓reduceIte, Nat.reduceEqDiff, Nat.reduceAdd, Nat.reduceMul, Nat.reduceLeDiff, Nat.reduceLT, reduceCtorEq, TFSpQ, FR.out]) (by simp only [resv, resA, ZK, look, loadv, loadn, loadnm, load1, load1m, hget, ↓reduceIte, Nat.reduceEqDiff, Nat.reduceAdd, Nat.reduceMul, Nat.reduceLeDiff, Nat.reduceLT, reduceCtorEq, TFSpQ, FR.out]; first | done | rfl) (by simp only [hget, ↓reduceIte, if_true, if_false, FR.out]; first | done | rfl) ?_ <;> first | exact rfl | (simp only [ZK, look, loadv, loadn, loadnm, load1, load1m, hget, ↓reduceIte, Nat.reduceEqDiff, Nat.reduceAdd, Nat.reduceMul, Nat.reduceLeDiff, Nat.reduceLT, reduceCtorEq, TFSpQ, FR.out]; done) | skip)
  have q1 : decide ((a.length : Int) > 200) = false := decide_eq_false (by omega)
  have q2 : decide ((b.length : Int) > 200) = false := decide_eq_false (by omega)
  have q3 : ((a.length : Int) == 0) = false := beq_eq_false_iff_ne.2 (by omega)
  have q4 : ((b.length : Int) == 0) = false := beq_eq_false_iff_ne.2 (by omega)
  have cR := read_ct a ba (by omega)
  have cS := read_ct b bb (by omega)
  have cT := read_ct (a ++ b) (ba.app bb) (by rw [List.length_append]; omega)
  have hJ := join_all a b (fun h => by subst h; simp at hearly) (fun h => by subst h; simp at hearly)
  have hap := bstr_app a b
  have hala := bstr_at ba (show a.length - 1 < a.length by omega)
  have hblt := fun i (h : i < b.length) => bstr_at bb h
  have hala2 := ba (a.length - 1) (by omega)
  obtain ⟨X, hX⟩ : ∃ X, X = bstr a := ⟨_, rfl⟩
  obtain ⟨Y, hY⟩ : ∃ Y, Y = bstr b := ⟨_, rfl⟩
  obtain ⟨W, hW⟩ : ∃ W, W = bstr (a ++ b) := ⟨_, rfl⟩
  unfold stz at cR cS cT ⊢
  rw [← hX] at hsa cR hap hala ⊢
  rw [← hY] at hsb cS hap ⊢
  rw [← hW] at cT hap
  simp only [← hY] at hblt
  obtain ⟨la, hla⟩ : ∃ la, la = a.length := ⟨_, rfl⟩
  obtain ⟨lb, hlb⟩ : ∃ lb, lb = b.length := ⟨_, rfl⟩
  rw [← hla] at hsa q1 q3 hala hearly hala2
  rw [← hlb] at hsb q2 q4 hearly
  simp only [← hlb] at hblt
  obtain ⟨e, he⟩ : ∃ e, e = la - 1 := ⟨_, rfl⟩
  rw [← he] at hala hala2
  have w1 : IntKind.i64.wrap ((la : Int) - 1) = (e : Int) := by rw [wrap_i64 (by omega) (by omega)]; omega
  have kla : decide ((la : Int) > 0) = true := decide_eq_true (by omega)
  have jl : la + lb ≤ 9223372036854775807 := by omega
  have ie : e < la := by omega
  rcases hJ with ⟨ca, cb, cg, xa, xb, xg, e1, e2, e3, hor, hfin⟩ | ⟨n, m, ia, ib, e1, e2, hn, hm, hia, hib, hac, hfu, hbc, g1, g2, g3⟩
  · rw [e1] at cR
    rw [e2] at cS
    rw [e3] at cT
    rw [← hla, ← he] at hfin
    obtain ⟨z, hz⟩ : ∃ z, z = a.getD e 0 := ⟨_, rfl⟩
    rw [← hz] at hala hfin
    obtain ⟨b1, b2, b3, b4, b5, b6, p1, p2, p3, p4, p5, p6, hb1, hb2⟩ : ∃ b1 b2 b3 b4 b5 b6 : Bool, (ca == 0) = b1 ∧ (cb == 0) = b2 ∧ (ca == 8) = b3 ∧ (cb == 8) = b4 ∧ (cg == 5) = b5 ∧ decide (z ≤ 57) = b6 ∧ (b1 = false ∨ (b1 = true ∧ b2 = false)) ∧
        (b3 = true ∨ (b3 = false ∧ b4 = true) ∨ (b3 = false ∧ b4 = false ∧ b5 = true) ∨ (b3 = false ∧ b4 = false ∧ b5 = false ∧ b6 = true)) := by
      refine ⟨_, _, _, _, _, _, rfl, rfl, rfl, rfl, rfl, rfl, ?_, ?_⟩
      · by_cases h : ca = 0
        · exact .inr ⟨beq_iff_eq.2 h, beq_eq_false_iff_ne.2 (by rcases hor with h2 | h2; exact absurd h h2; exact h2)⟩
        · exact .inl (beq_eq_false_iff_ne.2 h)
      · by_cases h1 : ca = 8
        · exact .inl (beq_iff_eq.2 h1)
        by_cases h2 : cb = 8
        · exact .inr (.inl ⟨beq_eq_false_iff_ne.2 h1, beq_iff_eq.2 h2⟩)
        by_cases h3 : cg = 5
        · exact .inr (.inr (.inl ⟨beq_eq_false_iff_ne.2 h1, beq_eq_false_iff_ne.2 h2, beq_iff_eq.2 h3⟩))
        · refine .inr (.inr (.inr ⟨beq_eq_false_iff_ne.2 h1, beq_eq_false_iff_ne.2 h2, beq_eq_false_iff_ne.2 h3, decide_eq_true ?_⟩))
          rcases hfin with h | h | h | h
          · exact absurd h h1
          · exact absurd h h2
          · exact absurd h h3
          · exact h
    have r1 : (ca != 0) = !b1 := by simp only [bne, p1]
    have r2 : (cb != 0) = !b2 := by simp only [bne, p2]
    rcases hb1 with rfl | ⟨rfl, rfl⟩
    all_goals
      simp only [Bool.not_false, Bool.not_true] at r1 r2
      rcases hb2 with rfl | ⟨rfl, rfl⟩ | ⟨rfl, rfl, rfl⟩ | ⟨rfl, rfl, rfl, rfl⟩
    all_goals
      refine ACt.intro Tryd.func5 rfl (by kernel_rfl) (by simp [Tryd.ntmps5]) (fun cx => ?_)
      simp only [argE, Tryd.ntmps5, Tryd.results5]
    all_goals (
        first | (have FRx := FR; clear FRx) | (have FR : Sm (¬ ((1 : Nat) = 0)) := Sm.mk Nat.one_ne_zero)
        repeat' first
          | (refine Sm.mk ?_; try simp -dsimp only [ZK, rvc, drawF, headN, pureH, stp, dvc, calleeOf, gcall, pev, eff, newB, okd, og, ogs, ogo, ogp, slv, bltv, opd, litv, strip, one, both, putE, St.put, look, gdOf, gdv, picka, pickv, pickw, binv, bini, bins, binb, binp, binq, isSlT, bina, shp, eqCells, unv, convv, nilv, faddv, addp, idxav, idxp, load1, load1m, loadn, loadnm, loadv, hget, hset, hrep, hdel, slicev, bnd, shift1, lenv, capv, IntKind.bits, extractv, fieldv, indexv, min2v, max2v, mkiv, cellsA, fillA, buildv, stC, oneC, rowMB, intsA, plN, appE, appZ, appC, appNZ, appNC, VwL, srcC, srcZ, srcM, isBoolT, isPtrT, isSliceT, uOk, Value.oneCell', Nat.reducePow, Int.reducePow, Nat.reduceAdd, Nat.reduceMul, Nat.reduceSub, Nat.reduceLT, Nat.reduceLeDiff, Nat.reduceEqDiff, Nat.reduceBEq, Nat.reduceDiv, Nat.reduceMod, ↓reduceIte, reduceCtorEq, Int.reduceToNat, Int.reduceLT, Int.reduceLE, TFSpQ, SeqQ, BlkQ, LoopQ, BodyQ, hsa, hsb, q1, q2, q3, q4, hap, jl, p1, p2, p3, p4, p5, p6, r1, r2, w1, kla, t1, hala, ie, FR.out])
          | (refine CallV.updM (cA) (perm1 (by simp only [hget, hdel, ↓reduceIte, FR.out, hsa, hsb, q1, q2, q3, q4, hap, jl, p1, p2, p3, p4, p5, p6, r1, r2, w1, kla, t1, hala, ie]; first | done | rfl)) (Sm.out ?_))
          | ((first | refine ExF.up ?_ (cA) (Sm.out ?_) | refine ExG.up ?_ (fun _ => cA) (Sm.out ?_) | refine ExG.upJ ?_ (fun _ => cA) (Sm.out ?_) | refine ExG.upI ?_ (fun _ => cA) (Ob.out ?_) (Sm.out ?_)); focus (exact ⟨_, (perm1 (by simp only [hget, hdel, ↓reduceIte, FR.out, hsa, hsb, q1, q2, q3, q4, hap, jl, p1, p2, p3, p4, p5, p6, r1, r2, w1, kla, t1, hala, ie]; first | done | rfl))⟩))
          | (first | refine CallV.fn (cR) (Sm.out ?_) | refine ExF.mk (cR) (Sm.out ?_) | refine ExG.mk (fun _ => cR) (Sm.out ?_) | refine ExG.mkJ (fun _ => cR) (Sm.out ?_) | refine ExG.mkI (Ob.out ?_) (fun _ => cR) (Sm.out ?_))
          | (first | refine CallV.fn (cS) (Sm.out ?_) | refine ExF.mk (cS) (Sm.out ?_) | refine ExG.mk (fun _ => cS) (Sm.out ?_) | refine ExG.mkJ (fun _ => cS) (Sm.out ?_) | refine ExG.mkI (Ob.out ?_) (fun _ => cS) (Sm.out ?_))
          | (first | refine CallV.fn (cT) (Sm.out ?_) | refine ExF.mk (cT) (Sm.out ?_) | refine ExG.mk (fun _ => cT) (Sm.out ?_) | refine ExG.mkJ (fun _ => cT) (Sm.out ?_) | refine ExG.mkI (Ob.out ?_) (fun _ => cT) (Sm.out ?_))
          | (refine WP.seq fun K hK => ?_)
          | (refine WP.region (rvc_sound _ _ (Sm.out ?_)))
          | (refine WP.drawK rfl mixed (by decide +kernel) (Sm.out ?_))
          | (refine Ob.mk ?_; focus (first | assumption | omega | decide | trivial | (intro hob; simp only [hob, ZF]; done) | (intros; (repeat' refine And.intro ?_ ?_) <;> first | assumption | omega | trivial | decide) | (intros; simp only [ZE] at *; (repeat' refine And.intro ?_ ?_) <;> first | assumption | omega | trivial)))
          | (refine And.intro (Ob.out ?_) ?_)
          | (refine WP.block ?_)
          | (refine WP.cond rfl (fun hc => ?_) (fun hc => ?_) <;> (try simp only [ZC, reduceCtorEq, ZD] at hc) <;> (try (exact absurd hc (by decide))) <;> (try (exfalso; omega)))
          | ((first | refine WP.skip ?_ | refine WP.exit ?_); simp only [SeqQ, BlkQ, LoopQ, BodyQ, ↓reduceIte, Nat.reduceEqDiff, reduceCtorEq, look, true_and])
          | (refine WP.ret (Sm.out ?_))
          | (first | refine ExG.no (Sm.out ?_) | refine Or.inl (ExG.no (Sm.out ?_)) | refine Or.inl (And.intro (fun hg => absurd hg (by decide)) (ExG.no (Sm.out ?_))))
          | (refine Rt.mk ?_; refine And.intro ?_ ?_ <;> (intro hg; first | exact absurd hg (by decide) | refine Sm.out ?_))
          | (refine Nu.mk ?_; first | (fail_if_success (have := nb1)); intro nb1 | (fail_if_success (have := nb2)); intro nb2 | (fail_if_success (have := nb3)); intro nb3 | (fail_if_success (have := nb4)); intro nb4 | (fail_if_success (have := nb5)); intro nb5 | (fail_if_success (have := nb6)); intro nb6 | intro nbz)
          | (refine Fr.mk ?_; intro hfr; (first | (have hFRb : _ ≤ _ ∧ _ ≤ _ := And.intro hfr.1 hfr.2.1) | (have hFRb : _ ≤ _ := hfr.1) | skip); replace FR := Sm.mk (And.intro hfr FR.out); clear hfr; refine Sm.out ?_)
          | (refine Two.mk ?_ ?_)
          | (refine Cs.mk ?_; intro hcs; first | exact False.elim hcs | (exfalso; omega) | (refine Sm.out ?_))
          | go_step
          | omega
          | (simp only [maxLen_eq]; omega))
    all_goals (refine OutQ.upd (by simp only [resv, ZK, look, loadv, loadn, loadnm, load1, load1m, hget, ↓reduceIte, Nat.reduceEqDiff, Nat.reduceAdd, Nat.reduceMul, Nat.reduceLeDiff, Nat.reduceLT, reduceCtorEq, TFSpQ, FR.out]) (by simp only [resv, resA, ZK, look, loadv, loadn, loadnm, load1, load1m, hget, ↓reduceIte, Nat.reduceEqDiff, Nat.reduceAdd, Nat.reduceMul, Nat.reduceLeDiff, Nat.reduceLT, reduceCtorEq, TFSpQ, FR.out]; first | done | rfl) (by simp only [hget, ↓reduceIte, if_true, if_false, FR.out]; first | done | rfl) ?_ <;> first | exact rfl | (simp only [ZK, look, loadv, loadn, loadnm, load1, load1m, hget, ↓reduceIte, Nat.reduceEqDiff, Nat.reduceAdd, Nat.reduceMul, Nat.reduceLeDiff, Nat.reduceLT, reduceCtorEq, TFSpQ, FR.out]; done) | skip)
  · rw [e1] at cR
    rw [e2] at cS
    rw [← hla, ← he] at hac
    rw [hac] at hala hala2
    have cU := runit_ct ((uch ia : Nat) : Int) hala2
    obtain ⟨u1, u2, u3, u4, u5, _⟩ := uch_c ia hia
    obtain ⟨v1, v2, v3, v4, v5, _⟩ := uch_c ib hib
    rw [u1] at cU
    obtain ⟨F, hF⟩ : ∃ F, F = fuN b := ⟨_, rfl⟩
    have hlt := fuN_lt b
    rw [← hF, ← hlb] at hfu
    rw [← hF] at hbc hlt
    have hbF := hblt F hfu
    rw [hbc] at hbF
    have cV := runit_ct ((uch ib : Nat) : Int) (by omega)
    rw [v1] at cV
    have mono := uni_mono ib hib ia hia
    obtain ⟨ua, hua⟩ : ∃ ua, ua = uni ia := ⟨_, rfl⟩
    obtain ⟨ub', hub⟩ : ∃ u, u = uni ib := ⟨_, rfl⟩
    rw [← hua] at cU mono u2
    rw [← hub] at cV mono v2
    obtain ⟨cc, hcc⟩ : ∃ c, c = uch ia := ⟨_, rfl⟩
    obtain ⟨dd, hdd⟩ : ∃ c, c = uch ib := ⟨_, rfl⟩
    rw [← hcc] at cU hala
    rw [← hdd] at cV hbF
    have cV' := cV
    rw [← hbF] at cV'
    have kv : ((ub' : Int) == 0) = false := beq_eq_false_iff_ne.2 (by omega)
    have s9 : IntKind.i64.wrap (253402300799 - m) = 253402300799 - m := wrap_i64 (by omega) (by omega)
    have hbb := bb
    refine ACt.intro Tryd.func5 rfl (by kernel_rfl) (by simp [Tryd.ntmps5]) (fun cx => ?_)
    simp only [argE, Tryd.ntmps5, Tryd.results5]
    have k00 : ((0 : Int) == 0) = true := by decide
    obtain ⟨R, hR⟩ : ∃ R, R = rdS (a ++ b) := ⟨_, rfl⟩
    obtain ⟨xg, cg, eg⟩ := rd_form (a ++ b)
    rw [← hR] at cT g1 g2 g3 eg
    rw [eg] at cT g1 g2 g3
    first | (have FRx := FR; clear FRx) | (have FR : Sm (¬ ((1 : Nat) = 0)) := Sm.mk Nat.one_ne_zero)
    repeat' first
      | (refine Sm.mk ?_; try simp -dsimp only [ZK, rvc, drawF, headN, pureH, stp, dvc, calleeOf, gcall, pev, eff, newB, okd, og, ogs, ogo, ogp, slv, bltv, opd, litv, strip, one, both, putE, St.put, look, gdOf, gdv, picka, pickv, pickw, binv, bini, bins, binb, binp, binq, isSlT, bina, shp, eqCells, unv, convv, nilv, faddv, addp, idxav, idxp, load1, load1m, loadn, loadnm, loadv, hget, hset, hrep, hdel, slicev, bnd, shift1, lenv, capv, IntKind.bits, extractv, fieldv, indexv, min2v, max2v, mkiv, cellsA, fillA, buildv, stC, oneC, rowMB, intsA, plN, appE, appZ, appC, appNZ, appNC, VwL, srcC, srcZ, srcM, isBoolT, isPtrT, isSliceT, uOk, Value.oneCell', Nat.reducePow, Int.reducePow, Nat.reduceAdd, Nat.reduceMul, Nat.reduceSub, Nat.reduceLT, Nat.reduceLeDiff, Nat.reduceEqDiff, Nat.reduceBEq, Nat.reduceDiv, Nat.reduceMod, ↓reduceIte, reduceCtorEq, Int.reduceToNat, Int.reduceLT, Int.reduceLE, TFSpQ, SeqQ, BlkQ, LoopQ, BodyQ, hsa, hsb, q1, q2, q3, q4, hap, jl, k00, w1, t1, hala, ie, FR.out])
      | (refine CallV.updM (cA) (perm1 (by simp only [hget, hdel, ↓reduceIte, FR.out, hsa, hsb, q1, q2, q3, q4, hap, jl, k00, w1, t1, hala, ie]; first | done | rfl)) (Sm.out ?_))
      | ((first | refine ExF.up ?_ (cA) (Sm.out ?_) | refine ExG.up ?_ (fun _ => cA) (Sm.out ?_) | refine ExG.upJ ?_ (fun _ => cA) (Sm.out ?_) | refine ExG.upI ?_ (fun _ => cA) (Ob.out ?_) (Sm.out ?_)); focus (exact ⟨_, (perm1 (by simp only [hget, hdel, ↓reduceIte, FR.out, hsa, hsb, q1, q2, q3, q4, hap, jl, k00, w1, t1, hala, ie]; first | done | rfl))⟩))
      | (first | refine CallV.fn (cR) (Sm.out ?_) | refine ExF.mk (cR) (Sm.out ?_) | refine ExG.mk (fun _ => cR) (Sm.out ?_) | refine ExG.mkJ (fun _ => cR) (Sm.out ?_) | refine ExG.mkI (Ob.out ?_) (fun _ => cR) (Sm.out ?_))
      | (first | refine CallV.fn (cS) (Sm.out ?_) | refine ExF.mk (cS) (Sm.out ?_) | refine ExG.mk (fun _ => cS) (Sm.out ?_) | refine ExG.mkJ (fun _ => cS) (Sm.out ?_) | refine ExG.mkI (Ob.out ?_) (fun _ => cS) (Sm.out ?_))
      | (first | refine CallV.fn (cT) (Sm.out ?_) | refine ExF.mk (cT) (Sm.out ?_) | refine ExG.mk (fun _ => cT) (Sm.out ?_) | refine ExG.mkJ (fun _ => cT) (Sm.out ?_) | refine ExG.mkI (Ob.out ?_) (fun _ => cT) (Sm.out ?_))
      | (first | refine CallV.fn (cU) (Sm.out ?_) | refine ExF.mk (cU) (Sm.out ?_) | refine ExG.mk (fun _ => cU) (Sm.out ?_) | refine ExG.mkJ (fun _ => cU) (Sm.out ?_) | refine ExG.mkI (Ob.out ?_) (fun _ => cU) (Sm.out ?_))
      | (refine WP.seq fun K hK => ?_)
      | (refine WP.region (rvc_sound _ _ (Sm.out ?_)))
      | (refine WP.drawK rfl mixed (by decide +kernel) (Sm.out ?_))
      | (refine Ob.mk ?_; focus (first | assumption | omega | decide | trivial | (intro hob; simp only [hob, ZF]; done) | (intros; (repeat' refine And.intro ?_ ?_) <;> first | assumption | omega | trivial | decide) | (intros; simp only [ZE] at *; (repeat' refine And.intro ?_ ?_) <;> first | assumption | omega | trivial)))
      | (refine And.intro (Ob.out ?_) ?_)
      | (refine WP.block ?_)
      | (refine WP.cond rfl (fun hc => ?_) (fun hc => ?_) <;> (try simp only [ZC, reduceCtorEq, ZD] at hc) <;> (try (exact absurd hc (by decide))) <;> (try (exfalso; omega)))
      | ((first | refine WP.skip ?_ | refine WP.exit ?_); simp only [SeqQ, BlkQ, LoopQ, BodyQ, ↓reduceIte, Nat.reduceEqDiff, reduceCtorEq, look, true_and])
      | (refine WP.ret (Sm.out ?_))
      | (first | refine ExG.no (Sm.out ?_) | refine Or.inl (ExG.no (Sm.out ?_)) | refine Or.inl (And.intro (fun hg => absurd hg (by decide)) (ExG.no (Sm.out ?_))))
      | (refine Rt.mk ?_; refine And.intro ?_ ?_ <;> (intro hg; first | exact absurd hg (by decide) | refine Sm.out ?_))
      | (refine Nu.mk ?_; first | (fail_if_success (have := nb1)); intro nb1 | (fail_if_success (have := nb2)); intro nb2 | (fail_if_success (have := nb3)); intro nb3 | (fail_if_success (have := nb4)); intro nb4 | (fail_if_success (have := nb5)); intro nb5 | (fail_if_success (have := nb6)); intro nb6 | intro nbz)
      | (refine Fr.mk ?_; intro hfr; (first | (have hFRb : _ ≤ _ ∧ _ ≤ _ := And.intro hfr.1 hfr.2.1) | (have hFRb : _ ≤ _ := hfr.1) | skip); replace FR := Sm.mk (And.intro hfr FR.out); clear hfr; refine Sm.out ?_)
      | (refine Two.mk ?_ ?_)
      | (refine Cs.mk ?_; intro hcs; first | exact False.elim hcs | (exfalso; omega) | (refine Sm.out ?_))
      | go_step
      | omega
      | (simp only [maxLen_eq]; omega)
    refine WP.loop (Γ := Nat) (fun i => ⟨[(12, iv .i64 (i : Int)), (11, iv .i64 (ua : Int)), (9, iv .i64 xg), (10, iv .i64 cg), (5, iv .i64 n), (7, iv .i64 m), (1, .lit (.string Y))], [(0, .zs .u64 Lp 20 n0)]⟩)
      (fun i => i ≤ F) (fun i => F - i) 0 (Nat.zero_le _) (Sub.pick (by simp [pickB, hget, hdel, FR.out]) (by simp [look])) ?_
    intro i hi
    have FR : Sm (¬ ((1 : Nat) = 0)) := Sm.mk Nat.one_ne_zero
    by_cases hiF : i < F
    · have kl : decide ((i : Int) < (lb : Int)) = true := decide_eq_true (by omega)
      have hc := hblt i (by omega)
      have hbi := bb i (by omega)
      have h0 := hlt i hiF
      have cX := runit_ct (b.getD i 0) hbi
      rw [h0] at cX
      have cX' := cX
      rw [← hc] at cX'
      have s1 : IntKind.i64.wrap ((i : Int) + 1) = ((i + 1 : Nat) : Int) := by rw [wrap_i64 (by omega) (by omega)]; omega
      have ilb : i < lb := by omega
      first | (have FRx := FR; clear FRx) | (have FR : Sm (¬ ((1 : Nat) = 0)) := Sm.mk Nat.one_ne_zero)
      repeat' first
        | (refine Sm.mk ?_; try simp -dsimp only [ZK, rvc, drawF, headN, pureH, stp, dvc, calleeOf, gcall, pev, eff, newB, okd, og, ogs, ogo, ogp, slv, bltv, opd, litv, strip, one, both, putE, St.put, look, gdOf, gdv, picka, pickv, pickw, binv, bini, bins, binb, binp, binq, isSlT, bina, shp, eqCells, unv, convv, nilv, faddv, addp, idxav, idxp, load1, load1m, loadn, loadnm, loadv, hget, hset, hrep, hdel, slicev, bnd, shift1, lenv, capv, IntKind.bits, extractv, fieldv, indexv, min2v, max2v, mkiv, cellsA, fillA, buildv, stC, oneC, rowMB, intsA, plN, appE, appZ, appC, appNZ, appNC, VwL, srcC, srcZ, srcM, isBoolT, isPtrT, isSliceT, uOk, Value.oneCell', Nat.reducePow, Int.reducePow, Nat.reduceAdd, Nat.reduceMul, Nat.reduceSub, Nat.reduceLT, Nat.reduceLeDiff, Nat.reduceEqDiff, Nat.reduceBEq, Nat.reduceDiv, Nat.reduceMod, ↓reduceIte, reduceCtorEq, Int.reduceToNat, Int.reduceLT, Int.reduceLE, TFSpQ, SeqQ, BlkQ, LoopQ, BodyQ, hsb, kl, t1, k00, s1, ilb, FR.out])
        | (first | refine CallV.fn (cX') (Sm.out ?_) | refine ExF.mk (cX') (Sm.out ?_) | refine ExG.mk (fun _ => cX') (Sm.out ?_) | refine ExG.mkJ (fun _ => cX') (Sm.out ?_) | refine ExG.mkI (Ob.out ?_) (fun _ => cX') (Sm.out ?_))
        | (refine WP.seq fun K hK => ?_)
        | (refine WP.region (rvc_sound _ _ (Sm.out ?_)))
        | (refine WP.drawK rfl mixed (by decide +kernel) (Sm.out ?_))
        | (refine Ob.mk ?_; focus (first | assumption | omega | decide | trivial | (intro hob; simp only [hob, ZF]; done) | (intros; (repeat' refine And.intro ?_ ?_) <;> first | assumption | omega | trivial | decide) | (intros; simp only [ZE] at *; (repeat' refine And.intro ?_ ?_) <;> first | assumption | omega | trivial)))
        | (refine And.intro (Ob.out ?_) ?_)
        | (refine WP.block ?_)
        | (refine WP.cond rfl (fun hc => ?_) (fun hc => ?_) <;> (try simp only [ZC, reduceCtorEq, ZD] at hc) <;> (try (exact absurd hc (by decide))) <;> (try (exfalso; omega)))
        | ((first | refine WP.skip ?_ | refine WP.exit ?_); simp only [SeqQ, BlkQ, LoopQ, BodyQ, ↓reduceIte, Nat.reduceEqDiff, reduceCtorEq, look, true_and])
        | (refine WP.ret (Sm.out ?_))
        | (first | refine ExG.no (Sm.out ?_) | refine Or.inl (ExG.no (Sm.out ?_)) | refine Or.inl (And.intro (fun hg => absurd hg (by decide)) (ExG.no (Sm.out ?_))))
        | (refine Rt.mk ?_; refine And.intro ?_ ?_ <;> (intro hg; first | exact absurd hg (by decide) | refine Sm.out ?_))
        | (refine Nu.mk ?_; first | (fail_if_success (have := nb1)); intro nb1 | (fail_if_success (have := nb2)); intro nb2 | (fail_if_success (have := nb3)); intro nb3 | (fail_if_success (have := nb4)); intro nb4 | (fail_if_success (have := nb5)); intro nb5 | (fail_if_success (have := nb6)); intro nb6 | intro nbz)
        | (refine Fr.mk ?_; intro hfr; (first | (have hFRb : _ ≤ _ ∧ _ ≤ _ := And.intro hfr.1 hfr.2.1) | (have hFRb : _ ≤ _ := hfr.1) | skip); replace FR := Sm.mk (And.intro hfr FR.out); clear hfr; refine Sm.out ?_)
        | (refine Two.mk ?_ ?_)
        | (refine Cs.mk ?_; intro hcs; first | exact False.elim hcs | (exfalso; omega) | (refine Sm.out ?_))
        | go_step
        | omega
        | (simp only [maxLen_eq]; omega)
      refine ⟨i + 1, by omega, by omega, (Sub.pick (by simp [pickB, hget, hdel, FR.out]) (by simp [look]))⟩
    · obtain rfl : i = F := by omega
      have kl : decide ((i : Int) < (lb : Int)) = true := decide_eq_true (by omega)
      by_cases hge : ub' ≥ ua
      · have kg : decide ((ub' : Int) ≥ (ua : Int)) = true := decide_eq_true (by omega)
        have g := g1 (mono.1 hge)
        simp only [AV.tup.injEq, List.cons.injEq, AV.lit.injEq, Value.int.injEq, and_true, true_and] at g
        obtain ⟨rfl, rfl⟩ := g
        have k5 : ((5 : Int) == 5) = true := by decide
        first | (have FRx := FR; clear FRx) | (have FR : Sm (¬ ((1 : Nat) = 0)) := Sm.mk Nat.one_ne_zero)
        repeat' first
          | (refine Sm.mk ?_; try simp -dsimp only [ZK, rvc, drawF, headN, pureH, stp, dvc, calleeOf, gcall, pev, eff, newB, okd, og, ogs, ogo, ogp, slv, bltv, opd, litv, strip, one, both, putE, St.put, look, gdOf, gdv, picka, pickv, pickw, binv, bini, bins, binb, binp, binq, isSlT, bina, shp, eqCells, unv, convv, nilv, faddv, addp, idxav, idxp, load1, load1m, loadn, loadnm, loadv, hget, hset, hrep, hdel, slicev, bnd, shift1, lenv, capv, IntKind.bits, extractv, fieldv, indexv, min2v, max2v, mkiv, cellsA, fillA, buildv, stC, oneC, rowMB, intsA, plN, appE, appZ, appC, appNZ, appNC, VwL, srcC, srcZ, srcM, isBoolT, isPtrT, isSliceT, uOk, Value.oneCell', Nat.reducePow, Int.reducePow, Nat.reduceAdd, Nat.reduceMul, Nat.reduceSub, Nat.reduceLT, Nat.reduceLeDiff, Nat.reduceEqDiff, Nat.reduceBEq, Nat.reduceDiv, Nat.reduceMod, ↓reduceIte, reduceCtorEq, Int.reduceToNat, Int.reduceLT, Int.reduceLE, TFSpQ, SeqQ, BlkQ, LoopQ, BodyQ, hsb, kl, t1, kv, hfu, hbF, kg, k00, k5, FR.out])
          | (first | refine CallV.fn (cV) (Sm.out ?_) | refine ExF.mk (cV) (Sm.out ?_) | refine ExG.mk (fun _ => cV) (Sm.out ?_) | refine ExG.mkJ (fun _ => cV) (Sm.out ?_) | refine ExG.mkI (Ob.out ?_) (fun _ => cV) (Sm.out ?_))
          | (first | refine CallV.fn (cV') (Sm.out ?_) | refine ExF.mk (cV') (Sm.out ?_) | refine ExG.mk (fun _ => cV') (Sm.out ?_) | refine ExG.mkJ (fun _ => cV') (Sm.out ?_) | refine ExG.mkI (Ob.out ?_) (fun _ => cV') (Sm.out ?_))
          | (refine WP.seq fun K hK => ?_)
          | (refine WP.region (rvc_sound _ _ (Sm.out ?_)))
          | (refine WP.drawK rfl mixed (by decide +kernel) (Sm.out ?_))
          | (refine Ob.mk ?_; focus (first | assumption | omega | decide | trivial | (intro hob; simp only [hob, ZF]; done) | (intros; (repeat' refine And.intro ?_ ?_) <;> first | assumption | omega | trivial | decide) | (intros; simp only [ZE] at *; (repeat' refine And.intro ?_ ?_) <;> first | assumption | omega | trivial)))
          | (refine And.intro (Ob.out ?_) ?_)
          | (refine WP.block ?_)
          | (refine WP.cond rfl (fun hc => ?_) (fun hc => ?_) <;> (try simp only [ZC, reduceCtorEq, ZD] at hc) <;> (try (exact absurd hc (by decide))) <;> (try (exfalso; omega)))
          | ((first | refine WP.skip ?_ | refine WP.exit ?_); simp only [SeqQ, BlkQ, LoopQ, BodyQ, ↓reduceIte, Nat.reduceEqDiff, reduceCtorEq, look, true_and])
          | (refine WP.ret (Sm.out ?_))
          | (first | refine ExG.no (Sm.out ?_) | refine Or.inl (ExG.no (Sm.out ?_)) | refine Or.inl (And.intro (fun hg => absurd hg (by decide)) (ExG.no (Sm.out ?_))))
          | (refine Rt.mk ?_; refine And.intro ?_ ?_ <;> (intro hg; first | exact absurd hg (by decide) | refine Sm.out ?_))
          | (refine Nu.mk ?_; first | (fail_if_success (have := nb1)); intro nb1 | (fail_if_success (have := nb2)); intro nb2 | (fail_if_success (have := nb3)); intro nb3 | (fail_if_success (have := nb4)); intro nb4 | (fail_if_success (have := nb5)); intro nb5 | (fail_if_success (have := nb6)); intro nb6 | intro nbz)
          | (refine Fr.mk ?_; intro hfr; (first | (have hFRb : _ ≤ _ ∧ _ ≤ _ := And.intro hfr.1 hfr.2.1) | (have hFRb : _ ≤ _ := hfr.1) | skip); replace FR := Sm.mk (And.intro hfr FR.out); clear hfr; refine Sm.out ?_)
          | (refine Two.mk ?_ ?_)
          | (refine Cs.mk ?_; intro hcs; first | exact False.elim hcs | (exfalso; omega) | (refine Sm.out ?_))
          | go_step
          | omega
          | (simp only [maxLen_eq]; omega)
        (refine OutQ.upd (by simp only [resv, ZK, look, loadv, loadn, loadnm, load1, load1m, hget, ↓reduceIte, Nat.reduceEqDiff, Nat.reduceAdd, Nat.reduceMul, Nat.reduceLeDiff, Nat.reduceLT, reduceCtorEq, TFSpQ, FR.out]) (by simp only [resv, resA, ZK, look, loadv, loadn, loadnm, load1, load1m, hget, ↓reduceIte, Nat.reduceEqDiff, Nat.reduceAdd, Nat.reduceMul, Nat.reduceLeDiff, Nat.reduceLT, reduceCtorEq, TFSpQ, FR.out]; first | done | rfl) (by simp only [hget, ↓reduceIte, if_true, if_false, FR.out]; first | done | rfl) ?_ <;> first | exact rfl | (simp only [ZK, look, loadv, loadn, loadnm, load1, load1m, hget, ↓reduceIte, Nat.reduceEqDiff, Nat.reduceAdd, Nat.reduceMul, Nat.reduceLeDiff, Nat.reduceLT, reduceCtorEq, TFSpQ, FR.out]; done) | skip)
      · have kg : decide ((ub' : Int) ≥ (ua : Int)) = false := decide_eq_false (by omega)
        have hab : ia < ib := by
          by_cases h : ib ≤ ia
          · exact absurd (mono.2 h) hge
          · omega
        by_cases hbig : n + m > 253402300799
        · have kb : decide (n > 253402300799 - m) = true := decide_eq_true (by omega)
          have g := g2 hab hbig
          simp only [AV.tup.injEq, List.cons.injEq, AV.lit.injEq, Value.int.injEq, and_true, true_and] at g
          obtain ⟨rfl, rfl⟩ := g
          have k8 : ((8 : Int) == 8) = true := by decide
          first | (have FRx := FR; clear FRx) | (have FR : Sm (¬ ((1 : Nat) = 0)) := Sm.mk Nat.one_ne_zero)
          repeat' first
            | (refine Sm.mk ?_; try simp -dsimp only [ZK, rvc, drawF, headN, pureH, stp, dvc, calleeOf, gcall, pev, eff, newB, okd, og, ogs, ogo, ogp, slv, bltv, opd, litv, strip, one, both, putE, St.put, look, gdOf, gdv, picka, pickv, pickw, binv, bini, bins, binb, binp, binq, isSlT, bina, shp, eqCells, unv, convv, nilv, faddv, addp, idxav, idxp, load1, load1m, loadn, loadnm, loadv, hget, hset, hrep, hdel, slicev, bnd, shift1, lenv, capv, IntKind.bits, extractv, fieldv, indexv, min2v, max2v, mkiv, cellsA, fillA, buildv, stC, oneC, rowMB, intsA, plN, appE, appZ, appC, appNZ, appNC, VwL, srcC, srcZ, srcM, isBoolT, isPtrT, isSliceT, uOk, Value.oneCell', Nat.reducePow, Int.reducePow, Nat.reduceAdd, Nat.reduceMul, Nat.reduceSub, Nat.reduceLT, Nat.reduceLeDiff, Nat.reduceEqDiff, Nat.reduceBEq, Nat.reduceDiv, Nat.reduceMod, ↓reduceIte, reduceCtorEq, Int.reduceToNat, Int.reduceLT, Int.reduceLE, TFSpQ, SeqQ, BlkQ, LoopQ, BodyQ, hsb, kl, t1, kv, hfu, hbF, kg, kb, s9, k00, k8, FR.out])
            | (first | refine CallV.fn (cV) (Sm.out ?_) | refine ExF.mk (cV) (Sm.out ?_) | refine ExG.mk (fun _ => cV) (Sm.out ?_) | refine ExG.mkJ (fun _ => cV) (Sm.out ?_) | refine ExG.mkI (Ob.out ?_) (fun _ => cV) (Sm.out ?_))
            | (first | refine CallV.fn (cV') (Sm.out ?_) | refine ExF.mk (cV') (Sm.out ?_) | refine ExG.mk (fun _ => cV') (Sm.out ?_) | refine ExG.mkJ (fun _ => cV') (Sm.out ?_) | refine ExG.mkI (Ob.out ?_) (fun _ => cV') (Sm.out ?_))
            | (refine WP.seq fun K hK => ?_)
            | (refine WP.region (rvc_sound _ _ (Sm.out ?_)))
            | (refine WP.drawK rfl mixed (by decide +kernel) (Sm.out ?_))
            | (refine Ob.mk ?_; focus (first | assumption | omega | decide | trivial | (intro hob; simp only [hob, ZF]; done) | (intros; (repeat' refine And.intro ?_ ?_) <;> first | assumption | omega | trivial | decide) | (intros; simp only [ZE] at *; (repeat' refine And.intro ?_ ?_) <;> first | assumption | omega | trivial)))
            | (refine And.intro (Ob.out ?_) ?_)
            | (refine WP.block ?_)
            | (refine WP.cond rfl (fun hc => ?_) (fun hc => ?_) <;> (try simp only [ZC, reduceCtorEq, ZD] at hc) <;> (try (exact absurd hc (by decide))) <;> (try (exfalso; omega)))
            | ((first | refine WP.skip ?_ | refine WP.exit ?_); simp only [SeqQ, BlkQ, LoopQ, BodyQ, ↓reduceIte, Nat.reduceEqDiff, reduceCtorEq, look, true_and])
            | (refine WP.ret (Sm.out ?_))
            | (first | refine ExG.no (Sm.out ?_) | refine Or.inl (ExG.no (Sm.out ?_)) | refine Or.inl (And.intro (fun hg => absurd hg (by decide)) (ExG.no (Sm.out ?_))))
            | (refine Rt.mk ?_; refine And.intro ?_ ?_ <;> (intro hg; first | exact absurd hg (by decide) | refine Sm.out ?_))
            | (refine Nu.mk ?_; first | (fail_if_success (have := nb1)); intro nb1 | (fail_if_success (have := nb2)); intro nb2 | (fail_if_success (have := nb3)); intro nb3 | (fail_if_success (have := nb4)); intro nb4 | (fail_if_success (have := nb5)); intro nb5 | (fail_if_success (have := nb6)); intro nb6 | intro nbz)
            | (refine Fr.mk ?_; intro hfr; (first | (have hFRb : _ ≤ _ ∧ _ ≤ _ := And.intro hfr.1 hfr.2.1) | (have hFRb : _ ≤ _ := hfr.1) | skip); replace FR := Sm.mk (And.intro hfr FR.out); clear hfr; refine Sm.out ?_)
            | (refine Two.mk ?_ ?_)
            | (refine Cs.mk ?_; intro hcs; first | exact False.elim hcs | (exfalso; omega) | (refine Sm.out ?_))
            | go_step
            | omega
            | (simp only [maxLen_eq]; omega)
          (refine OutQ.upd (by simp only [resv, ZK, look, loadv, loadn, loadnm, load1, load1m, hget, ↓reduceIte, Nat.reduceEqDiff, Nat.reduceAdd, Nat.reduceMul, Nat.reduceLeDiff, Nat.reduceLT, reduceCtorEq, TFSpQ, FR.out]) (by simp only [resv, resA, ZK, look, loadv, loadn, loadnm, load1, load1m, hget, ↓reduceIte, Nat.reduceEqDiff, Nat.reduceAdd, Nat.reduceMul, Nat.reduceLeDiff, Nat.reduceLT, reduceCtorEq, TFSpQ, FR.out]; first | done | rfl) (by simp only [hget, ↓reduceIte, if_true, if_false, FR.out]; first | done | rfl) ?_ <;> first | exact rfl | (simp only [ZK, look, loadv, loadn, loadnm, load1, load1m, hget, ↓reduceIte, Nat.reduceEqDiff, Nat.reduceAdd, Nat.reduceMul, Nat.reduceLeDiff, Nat.reduceLT, reduceCtorEq, TFSpQ, FR.out]; done) | skip)
        · have kb : decide (n > 253402300799 - m) = false := decide_eq_false (by omega)
          have g := g3 hab (by omega)
          simp only [AV.tup.injEq, List.cons.injEq, AV.lit.injEq, Value.int.injEq, and_true, true_and] at g
          obtain ⟨rfl, rfl⟩ := g
          have s10 : IntKind.i64.wrap (n + m) = n + m := wrap_i64 (by omega) (by omega)
          first | (have FRx := FR; clear FRx) | (have FR : Sm (¬ ((1 : Nat) = 0)) := Sm.mk Nat.one_ne_zero)
          repeat' first
            | (refine Sm.mk ?_; try simp -dsimp only [ZK, rvc, drawF, headN, pureH, stp, dvc, calleeOf, gcall, pev, eff, newB, okd, og, ogs, ogo, ogp, slv, bltv, opd, litv, strip, one, both, putE, St.put, look, gdOf, gdv, picka, pickv, pickw, binv, bini, bins, binb, binp, binq, isSlT, bina, shp, eqCells, unv, convv, nilv, faddv, addp, idxav, idxp, load1, load1m, loadn, loadnm, loadv, hget, hset, hrep, hdel, slicev, bnd, shift1, lenv, capv, IntKind.bits, extractv, fieldv, indexv, min2v, max2v, mkiv, cellsA, fillA, buildv, stC, oneC, rowMB, intsA, plN, appE, appZ, appC, appNZ, appNC, VwL, srcC, srcZ, srcM, isBoolT, isPtrT, isSliceT, uOk, Value.oneCell', Nat.reducePow, Int.reducePow, Nat.reduceAdd, Nat.reduceMul, Nat.reduceSub, Nat.reduceLT, Nat.reduceLeDiff, Nat.reduceEqDiff, Nat.reduceBEq, Nat.reduceDiv, Nat.reduceMod, ↓reduceIte, reduceCtorEq, Int.reduceToNat, Int.reduceLT, Int.reduceLE, TFSpQ, SeqQ, BlkQ, LoopQ, BodyQ, hsb, kl, t1, kv, hfu, hbF, kg, kb, s9, s10, k00, y2, FR.out])
            | (first | refine CallV.fn (cV) (Sm.out ?_) | refine ExF.mk (cV) (Sm.out ?_) | refine ExG.mk (fun _ => cV) (Sm.out ?_) | refine ExG.mkJ (fun _ => cV) (Sm.out ?_) | refine ExG.mkI (Ob.out ?_) (fun _ => cV) (Sm.out ?_))
            | (first | refine CallV.fn (cV') (Sm.out ?_) | refine ExF.mk (cV') (Sm.out ?_) | refine ExG.mk (fun _ => cV') (Sm.out ?_) | refine ExG.mkJ (fun _ => cV') (Sm.out ?_) | refine ExG.mkI (Ob.out ?_) (fun _ => cV') (Sm.out ?_))
            | (refine WP.seq fun K hK => ?_)
            | (refine WP.region (rvc_sound _ _ (Sm.out ?_)))
            | (refine WP.drawK rfl mixed (by decide +kernel) (Sm.out ?_))
            | (refine Ob.mk ?_; focus (first | assumption | omega | decide | trivial | (intro hob; simp only [hob, ZF]; done) | (intros; (repeat' refine And.intro ?_ ?_) <;> first | assumption | omega | trivial | decide) | (intros; simp only [ZE] at *; (repeat' refine And.intro ?_ ?_) <;> first | assumption | omega | trivial)))
            | (refine And.intro (Ob.out ?_) ?_)
            | (refine WP.block ?_)
            | (refine WP.cond rfl (fun hc => ?_) (fun hc => ?_) <;> (try simp only [ZC, reduceCtorEq, ZD] at hc) <;> (try (exact absurd hc (by decide))) <;> (try (exfalso; omega)))
            | ((first | refine WP.skip ?_ | refine WP.exit ?_); simp only [SeqQ, BlkQ, LoopQ, BodyQ, ↓reduceIte, Nat.reduceEqDiff, reduceCtorEq, look, true_and])
            | (refine WP.ret (Sm.out ?_))
            | (first | refine ExG.no (Sm.out ?_) | refine Or.inl (ExG.no (Sm.out ?_)) | refine Or.inl (And.intro (fun hg => absurd hg (by decide)) (ExG.no (Sm.out ?_))))
            | (refine Rt.mk ?_; refine And.intro ?_ ?_ <;> (intro hg; first | exact absurd hg (by decide) | refine Sm.out ?_))
            | (refine Nu.mk ?_; first | (fail_if_success (have := nb1)); intro nb1 | (fail_if_success (have := nb2)); intro nb2 | (fail_if_success (have := nb3)); intro nb3 | (fail_if_success (have := nb4)); intro nb4 | (fail_if_success (have := nb5)); intro nb5 | (fail_if_success (have := nb6)); intro nb6 | intro nbz)
            | (refine Fr.mk ?_; intro hfr; (first | (have hFRb : _ ≤ _ ∧ _ ≤ _ := And.intro hfr.1 hfr.2.1) | (have hFRb : _ ≤ _ := hfr.1) | skip); replace FR := Sm.mk (And.intro hfr FR.out); clear hfr; refine Sm.out ?_)
            | (refine Two.mk ?_ ?_)
            | (refine Cs.mk ?_; intro hcs; first | exact False.elim hcs | (exfalso; omega) | (refine Sm.out ?_))
            | go_step
            | omega
            | (simp only [maxLen_eq]; omega)
          (refine OutQ.upd (by simp only [resv, ZK, look, loadv, loadn, loadnm, load1, load1m, hget, ↓reduceIte, Nat.reduceEqDiff, Nat.reduceAdd, Nat.reduceMul, Nat.reduceLeDiff, Nat.reduceLT, reduceCtorEq, TFSpQ, FR.out]) (by simp only [resv, resA, ZK, look, loadv, loadn, loadnm, load1, load1m, hget, ↓reduceIte, Nat.reduceEqDiff, Nat.reduceAdd, Nat.reduceMul, Nat.reduceLeDiff, Nat.reduceLT, reduceCtorEq, TFSpQ, FR.out]; first | done | rfl) (by simp only [hget, ↓reduceIte, if_true, if_false, FR.out]; first | done | rfl) ?_ <;> first | exact rfl | (simp only [ZK, look, loadv, loadn, loadnm, load1, load1m, hget, ↓reduceIte, Nat.reduceEqDiff, Nat.reduceAdd, Nat.reduceMul, Nat.reduceLeDiff, Nat.reduceLT, reduceCtorEq, TFSpQ, FR.out]; done) | skip)
theorem str_of2 (s : ByteArray) : s = bstr (ub s.data.toList) ∧ By (ub s.data.toList) := by
  constructor
  · apply ByteArray.ext
    apply Array.ext'
    simp only [bstr, ub, List.map_map]
    have e2 : s.data.toList.map ((fun n : Int => UInt8.ofNat n.toNat) ∘ fun b : UInt8 => (b.toNat : Int)) = s.data.toList.map id := List.map_congr_left fun b _ => by simp
    rw [e2, List.map_id]
  · intro i hi
    rw [ub_getD]
    have := ((s.data.toList).getD i 0).toNat_lt
    omega
theorem joins_law (s t : ByteArray) (n0 : Nat) : ACt Tryd.prog 5 [.lit (.string s), .lit (.string t)] (GG n0) (fun r F' => r = bv true ∧ F' = GG n0) := by
  obtain ⟨e1, h1⟩ := str_of2 s
  obtain ⟨e2, h2⟩ := str_of2 t
  rw [e1, e2]
  exact joins_ct _ _ h1 h2 n0
end Go.Proofs.YtdfkpnkohikcgaaDoor
