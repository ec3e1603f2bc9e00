/-
  The walks and the laws that the statement leans on, part 11.
-/
import Derived.Test.YtbnkmhlnoaebcaaZ10
namespace Go.Proofs.Ytbnkmhlnoaebcaa
open Go Wi
set_option linter.unusedVariables false
set_option linter.unusedSimpArgs false
theorem TFRhA : ((((((type_of% tyc0) ∧ (type_of% tyc3)) ∧ ((type_of% zmb3) ∧ ((type_of% tyc4) ∧ (type_of% zmb4)))) ∧ (((type_of% tyc5) ∧ (type_of% zmb5)) ∧ ((type_of% tyc32) ∧ ((type_of% elt32) ∧ (type_of% mkz32))))) ∧ ((((type_of% mkc32) ∧ (type_of% apT32)) ∧ ((type_of% elk32) ∧ ((type_of% zmb32) ∧ (type_of% tyc35)))) ∧ (((type_of% zmb35) ∧ (type_of% tyc41)) ∧ ((type_of% zmb41) ∧ ((type_of% tyc43) ∧ (type_of% foff43_0)))))) ∧ (((((type_of% fpart43_0) ∧ (type_of% foff43_1)) ∧ ((type_of% fpart43_1) ∧ ((type_of% fe43) ∧ (type_of% zmb43)))) ∧ (((type_of% bldT43) ∧ (type_of% tyc50)) ∧ ((type_of% elt50) ∧ ((type_of% mkz50) ∧ (type_of% apT50))))) ∧ ((((type_of% elk50) ∧ (type_of% zmb50)) ∧ ((type_of% Try.underlying0) ∧ ((type_of% Try.underlying3) ∧ (type_of% Try.underlying4)))) ∧ (((type_of% Try.underlying5) ∧ ((type_of% Try.underlying32) ∧ (type_of% Try.underlying35))) ∧ ((type_of% Try.underlying41) ∧ ((type_of% Try.underlying43) ∧ (type_of% Try.underlying50))))))) :=
  ⟨⟨⟨⟨⟨tyc0, tyc3⟩, ⟨zmb3, ⟨tyc4, zmb4⟩⟩⟩, ⟨⟨tyc5, zmb5⟩, ⟨tyc32, ⟨elt32, mkz32⟩⟩⟩⟩, ⟨⟨⟨mkc32, apT32⟩, ⟨elk32, ⟨zmb32, tyc35⟩⟩⟩, ⟨⟨zmb35, tyc41⟩, ⟨zmb41, ⟨tyc43, foff43_0⟩⟩⟩⟩⟩, ⟨⟨⟨⟨fpart43_0, foff43_1⟩, ⟨fpart43_1, ⟨fe43, zmb43⟩⟩⟩, ⟨⟨bldT43, tyc50⟩, ⟨elt50, ⟨mkz50, apT50⟩⟩⟩⟩, ⟨⟨⟨elk50, zmb50⟩, ⟨Try.underlying0, ⟨Try.underlying3, Try.underlying4⟩⟩⟩, ⟨⟨Try.underlying5, ⟨Try.underlying32, Try.underlying35⟩⟩, ⟨Try.underlying41, ⟨Try.underlying43, Try.underlying50⟩⟩⟩⟩⟩⟩
/-- the buckets, written one behind the other -/
def pdL (A B : Nat → Nat) : Nat → List Int
  | 0 => []
  | k + 1 => pdL A B k ++ (putL 0 (A k) ++ putL 0 (B k))
theorem pdL_len (A B : Nat → Nat) : ∀ k, (∀ i, i < k → A i < 18446744073709551616 ∧ B i < 18446744073709551616) → (pdL A B k).length ≤ 18 * k
  | 0, _ => by simp [pdL]
  | k + 1, h => by
    have h1 := pdL_len A B k fun i hi => h i (by omega)
    have h2 := Wi.putL_len 0 (A k) (h k (by omega)).1
    have h3 := Wi.putL_len 0 (B k) (h k (by omega)).2
    simp only [pdL, List.length_append]; omega
structure WG where
  i : Nat
  b : Nat
  cap : Nat
set_option maxRecDepth 8000 in
set_option maxHeartbeats 2000000 in
theorem refPut_n (mb k : Nat) (M : MB) (A B : Nat → Nat) (hk : k ≤ 60) (hA : ∀ i, i < k → A i < 18446744073709551616 ∧ B i < 18446744073709551616)
    (cL : ACt Try.prog 32 [pt mb 0] [(mb, M)] (fun r F' => r = .sl k (lC k A B) ∧ F' = [(mb, M)])) :
    ACt Try.prog 28 [pt mb 0] [(mb, M)] (fun r F' => ∃ q : Gm (pdL A B k).length, r = ms q.1.1 0 (pdL A B k).length q.1.2 ∧ F' = [(q.1.1, .zs .u8 (pdL A B k) q.1.2 5), (mb, M)]) := by
  refine ACt.intro Try.func28 rfl (by kernel_rfl) (by simp [Try.ntmps28]) (fun cx => ?_)
  simp only [argE, Try.ntmps28, Try.results28]
  have hdr := lC_drop A B k
  have hCl := lC_len A B k
  obtain ⟨C, hC⟩ : ∃ C, C = lC k A B := ⟨_, rfl⟩
  rw [← hC] at cL hdr hCl
  first | (have FRx := FR; clear FRx) | (have FR : ¬ ((1 : Nat) = 0) := Nat.one_ne_zero)
  repeat' first
    | (refine Sm.mk ?_; try simp -dsimp only [ZK, rvc, drawF, headN, pureH, stp, dvc, calleeOf, gcall, pev, eff, newB, okd, og, ogs, ogo, ogp, slv, bltv, opd, litv, strip, one, both, putE, St.put, look, gdOf, gdv, picka, pickv, pickw, binv, bini, bins, binb, binp, bina, shp, eqCells, unv, convv, nilv, faddv, addp, idxav, idxp, load1, load1m, loadn, loadnm, loadv, hget, hset, hrep, hdel, slicev, bnd, shift1, lenv, IntKind.bits, extractv, fieldv, indexv, min2v, max2v, mkiv, cellsA, fillA, buildv, stC, oneC, rowMB, intsA, plN, appE, appZ, appC, appNZ, appNC, VwL, srcC, srcZ, srcM, isBoolT, isPtrT, isSliceT, uOk, Value.oneCell', Nat.reducePow, Int.reducePow, Nat.reduceAdd, Nat.reduceMul, Nat.reduceSub, Nat.reduceLT, Nat.reduceLeDiff, Nat.reduceEqDiff, Nat.reduceBEq, Nat.reduceDiv, Nat.reduceMod, ↓reduceIte, reduceCtorEq, Int.reduceToNat, Int.reduceLT, Int.reduceLE, TFRhA, SeqQ, BlkQ, LoopQ, BodyQ, FR])
    | (refine CallV.updM (cL) (perm1 (by simp only [hget, hdel, ↓reduceIte, FR]; first | done | rfl)) (Sm.out ?_))
    | ((first | refine ExF.up ?_ (cL) (Sm.out ?_) | refine ExG.up ?_ (fun _ => cL) (Sm.out ?_) | refine ExG.upJ ?_ (fun _ => cL) (Sm.out ?_) | refine ExG.upI ?_ (fun _ => cL) (Ob.out ?_) (Sm.out ?_)); focus (exact ⟨_, (perm1 (by simp only [hget, hdel, ↓reduceIte, FR]; first | done | rfl))⟩))
    | (refine WP.seq fun K hK => ?_)
    | (refine WP.region (rvc_sound _ _ (Sm.out ?_)))
    | (refine WP.drawK rfl mixed (by decide +kernel) (Sm.out ?_))
    | (refine Ob.mk ?_; focus (first | assumption | omega | decide | trivial | (intro hob; simp only [hob, ZF]; done) | (intros; (repeat' refine And.intro ?_ ?_) <;> first | assumption | omega | trivial | decide) | (intros; simp only [ZE] at *; (repeat' refine And.intro ?_ ?_) <;> first | assumption | omega | trivial)))
    | (refine And.intro (Ob.out ?_) ?_)
    | (refine WP.block ?_)
    | (refine WP.cond rfl (fun hc => ?_) (fun hc => ?_) <;> (try simp only [ZC, reduceCtorEq, ZD] at hc) <;> (try (exact absurd hc (by decide))) <;> (try (exfalso; omega)))
    | ((first | refine WP.skip ?_ | refine WP.exit ?_); simp only [SeqQ, BlkQ, LoopQ, BodyQ, ↓reduceIte, Nat.reduceEqDiff, reduceCtorEq, look, true_and])
    | (refine WP.ret (Sm.out ?_))
    | (first | refine ExG.no (Sm.out ?_) | refine Or.inl (ExG.no (Sm.out ?_)) | refine Or.inl (And.intro (fun hg => absurd hg (by decide)) (ExG.no (Sm.out ?_))))
    | (refine Rt.mk ?_; refine And.intro ?_ ?_ <;> (intro hg; first | exact absurd hg (by decide) | refine Sm.out ?_))
    | (refine Nu.mk ?_; first | (fail_if_success (have := nb1)); intro nb1 | (fail_if_success (have := nb2)); intro nb2 | (fail_if_success (have := nb3)); intro nb3 | (fail_if_success (have := nb4)); intro nb4 | (fail_if_success (have := nb5)); intro nb5 | (fail_if_success (have := nb6)); intro nb6 | (fail_if_success (have := nb7)); intro nb7 | (fail_if_success (have := nb8)); intro nb8 | (fail_if_success (have := nb9)); intro nb9 | intro nbz)
    | (refine Fr.mk ?_; intro hfr; replace FR := And.intro hfr FR; clear hfr; refine Sm.out ?_)
    | (refine Two.mk ?_ ?_)
    | (refine Cs.mk ?_; intro hcs; first | exact False.elim hcs | (exfalso; omega) | (refine Sm.out ?_))
    | go_step
    | omega
    | (simp only [maxLen_eq]; omega)
    | (refine Or.inr (Rt.mk ?_); refine And.intro ?_ ?_ <;> (intro hg; first | exact absurd hg (by decide) | refine Sm.out ?_))
  refine WP.loop (Γ := WG) (fun q => ⟨[(5, iv .i64 q.i), (3, .sl k C), (4, ms q.b 0 (pdL A B q.i).length q.cap)], [(q.b, .zs .u8 (pdL A B q.i) q.cap 5), (mb, M)]⟩)
    (fun q => q.i ≤ k ∧ (pdL A B q.i).length ≤ q.cap ∧ q.cap ≤ 9223372036854775807) (fun q => k - q.i) ⟨0, nb1, 0⟩ ⟨by simp, by simp [pdL], by simp⟩ (Sub.pick (by simp [pickB, hget, hdel, FR, pdL]) (by simp [look, pdL])) ?_
  intro ⟨i, b, cap⟩ ⟨hi, q1, q2⟩
  simp only at hi q1 q2 ⊢
  (refine WP.nd fun hnd => ?_; simp only [ndF, fresh_cons, fresh_nil, and_true, ne_eq] at hnd; replace FR := And.intro hnd FR; clear hnd)
  have hl := pdL_len A B i fun j hj => hA j (by omega)
  by_cases hlt : i < k
  · have k1 : decide ((i : Int) < (k : Int)) = true := by simp; omega
    have w1 : IntKind.i64.wrap ((i : Int) + 1) = ((i + 1 : Nat) : Int) := by rw [wrap_i64 (by omega) (by omega)]; omega
    obtain ⟨rr, hd⟩ := hdr i hlt
    have g1 : C.getD (i * 2) .any = nu (A i) := by
      have := congrArg (fun l => l.getD 0 .any) hd
      simpa [List.getD_eq_getElem?_getD, List.getElem?_drop] using this
    have g2 : (C.drop (i * 2)).getD 1 .any = nu (B i) := by rw [hd]; rfl
    have t1 : ∀ L : List Int, L.take L.length = L := fun L => List.take_length
    clear hdr hd
    have c1 := Wi.refNum_ct (A i) (hA i hlt).1
    have c2 := Wi.refNum_ct (B i) (hA i hlt).2
    have e3 : pdL A B (i + 1) = pdL A B i ++ (putL 0 (A i) ++ putL 0 (B i)) := rfl
    have l1 := Wi.putL_len 0 (A i) (hA i hlt).1
    have l2 := Wi.putL_len 0 (B i) (hA i hlt).2
    have q4 : i * 2 + 2 ≤ C.length := by omega
    obtain ⟨D, hD⟩ : ∃ D, D = pdL A B i := ⟨_, rfl⟩
    obtain ⟨P1, hP1⟩ : ∃ P1, P1 = putL 0 (A i) := ⟨_, rfl⟩
    obtain ⟨P2, hP2⟩ : ∃ P2, P2 = putL 0 (B i) := ⟨_, rfl⟩
    rw [← hP1] at c1 e3 l1
    rw [← hP2] at c2 e3 l2
    rw [← hD] at e3 q1 hl ⊢
    first | (have FRx := FR; clear FRx) | (have FR : ¬ ((1 : Nat) = 0) := Nat.one_ne_zero)
    repeat' first
      | (refine Sm.mk ?_; try simp -dsimp only [ZK, rvc, drawF, headN, pureH, stp, dvc, calleeOf, gcall, pev, eff, newB, okd, og, ogs, ogo, ogp, slv, bltv, opd, litv, strip, one, both, putE, St.put, look, gdOf, gdv, picka, pickv, pickw, binv, bini, bins, binb, binp, bina, shp, eqCells, unv, convv, nilv, faddv, addp, idxav, idxp, load1, load1m, loadn, loadnm, loadv, hget, hset, hrep, hdel, slicev, bnd, shift1, lenv, IntKind.bits, extractv, fieldv, indexv, min2v, max2v, mkiv, cellsA, fillA, buildv, stC, oneC, rowMB, intsA, plN, appE, appZ, appC, appNZ, appNC, VwL, srcC, srcZ, srcM, isBoolT, isPtrT, isSliceT, uOk, Value.oneCell', Nat.reducePow, Int.reducePow, Nat.reduceAdd, Nat.reduceMul, Nat.reduceSub, Nat.reduceLT, Nat.reduceLeDiff, Nat.reduceEqDiff, Nat.reduceBEq, Nat.reduceDiv, Nat.reduceMod, ↓reduceIte, reduceCtorEq, Int.reduceToNat, Int.reduceLT, Int.reduceLE, TFRhA, SeqQ, BlkQ, LoopQ, BodyQ, k1, w1, g1, g2, q4, List.take_length, FR])
      | (refine CallV.row (by simp only [hget, ↓reduceIte, FR, k1, w1, g1, g2, q4, List.take_length]; first | done | rfl) (c1) (Sm.out ?_))
      | (refine CallV.mkrow (c1) (Sm.out ?_))
      | (refine CallV.upd (by simp only [hget, ↓reduceIte, FR, k1, w1, g1, g2, q4, List.take_length]; first | done | rfl) (c1) (Sm.out ?_))
      | (refine CallV.mkobj (c1) (Sm.out ?_))
      | (first | refine CallV.fn (c1) (Sm.out ?_) | refine ExF.mk (c1) (Sm.out ?_) | refine ExG.mk (fun _ => c1) (Sm.out ?_) | refine ExG.mkJ (fun _ => c1) (Sm.out ?_) | refine ExG.mkI (Ob.out ?_) (fun _ => c1) (Sm.out ?_))
      | (refine CallV.row (by simp only [hget, ↓reduceIte, FR, k1, w1, g1, g2, q4, List.take_length]; first | done | rfl) (c2) (Sm.out ?_))
      | (refine CallV.mkrow (c2) (Sm.out ?_))
      | (refine CallV.upd (by simp only [hget, ↓reduceIte, FR, k1, w1, g1, g2, q4, List.take_length]; first | done | rfl) (c2) (Sm.out ?_))
      | (refine CallV.mkobj (c2) (Sm.out ?_))
      | (first | refine CallV.fn (c2) (Sm.out ?_) | refine ExF.mk (c2) (Sm.out ?_) | refine ExG.mk (fun _ => c2) (Sm.out ?_) | refine ExG.mkJ (fun _ => c2) (Sm.out ?_) | refine ExG.mkI (Ob.out ?_) (fun _ => c2) (Sm.out ?_))
      | (refine WP.seq fun K hK => ?_)
      | (refine WP.region (rvc_sound _ _ (Sm.out ?_)))
      | (refine WP.drawK rfl mixed (by decide +kernel) (Sm.out ?_))
      | (refine Ob.mk ?_; focus (first | assumption | omega | decide | trivial | (intro hob; simp only [hob, ZF]; done) | (intros; (repeat' refine And.intro ?_ ?_) <;> first | assumption | omega | trivial | decide) | (intros; simp only [ZE] at *; (repeat' refine And.intro ?_ ?_) <;> first | assumption | omega | trivial)))
      | (refine And.intro (Ob.out ?_) ?_)
      | (refine WP.block ?_)
      | (refine WP.cond rfl (fun hc => ?_) (fun hc => ?_) <;> (try simp only [ZC, reduceCtorEq, ZD] at hc) <;> (try (exact absurd hc (by decide))) <;> (try (exfalso; omega)))
      | ((first | refine WP.skip ?_ | refine WP.exit ?_); simp only [SeqQ, BlkQ, LoopQ, BodyQ, ↓reduceIte, Nat.reduceEqDiff, reduceCtorEq, look, true_and])
      | (refine WP.ret (Sm.out ?_))
      | (first | refine ExG.no (Sm.out ?_) | refine Or.inl (ExG.no (Sm.out ?_)) | refine Or.inl (And.intro (fun hg => absurd hg (by decide)) (ExG.no (Sm.out ?_))))
      | (refine Rt.mk ?_; refine And.intro ?_ ?_ <;> (intro hg; first | exact absurd hg (by decide) | refine Sm.out ?_))
      | (refine Nu.mk ?_; first | (fail_if_success (have := nb1)); intro nb1 | (fail_if_success (have := nb2)); intro nb2 | (fail_if_success (have := nb3)); intro nb3 | (fail_if_success (have := nb4)); intro nb4 | (fail_if_success (have := nb5)); intro nb5 | (fail_if_success (have := nb6)); intro nb6 | (fail_if_success (have := nb7)); intro nb7 | (fail_if_success (have := nb8)); intro nb8 | (fail_if_success (have := nb9)); intro nb9 | intro nbz)
      | (refine Fr.mk ?_; intro hfr; replace FR := And.intro hfr FR; clear hfr; refine Sm.out ?_)
      | (refine Two.mk ?_ ?_)
      | (refine Cs.mk ?_; intro hcs; first | exact False.elim hcs | (exfalso; omega) | (refine Sm.out ?_))
      | go_step
      | omega
      | (simp only [maxLen_eq]; omega)
      | (refine Or.inr (Rt.mk ?_); refine And.intro ?_ ?_ <;> (intro hg; first | exact absurd hg (by decide) | refine Sm.out ?_))
    have q5 : (pdL A B (i + 1)).length = D.length + P1.length + P2.length := by rw [e3, List.length_append, List.length_append]; omega
    have e4 : D ++ P1 ++ P2 = pdL A B (i + 1) := by rw [e3, List.append_assoc]
    all_goals exact ⟨⟨i + 1, nb8, nb9⟩, ⟨by simp only; omega, by simp only; omega, by simp only; omega⟩, by simp only; omega, (Sub.pick (by simp [pickB, hget, hdel, FR, q5, e4, ← List.append_assoc]) (by simp [look, q5, e4, ← List.append_assoc]))⟩
  · obtain rfl : i = k := by omega
    have k1 : decide ((i : Int) < (i : Int)) = false := by simp
    obtain ⟨D, hD⟩ : ∃ D, D = pdL A B i := ⟨_, rfl⟩
    rw [← hD] at q1 ⊢
    first | (have FRx := FR; clear FRx) | (have FR : ¬ ((1 : Nat) = 0) := Nat.one_ne_zero)
    repeat' first
      | (refine Sm.mk ?_; try simp -dsimp only [ZK, rvc, drawF, headN, pureH, stp, dvc, calleeOf, gcall, pev, eff, newB, okd, og, ogs, ogo, ogp, slv, bltv, opd, litv, strip, one, both, putE, St.put, look, gdOf, gdv, picka, pickv, pickw, binv, bini, bins, binb, binp, bina, shp, eqCells, unv, convv, nilv, faddv, addp, idxav, idxp, load1, load1m, loadn, loadnm, loadv, hget, hset, hrep, hdel, slicev, bnd, shift1, lenv, IntKind.bits, extractv, fieldv, indexv, min2v, max2v, mkiv, cellsA, fillA, buildv, stC, oneC, rowMB, intsA, plN, appE, appZ, appC, appNZ, appNC, VwL, srcC, srcZ, srcM, isBoolT, isPtrT, isSliceT, uOk, Value.oneCell', Nat.reducePow, Int.reducePow, Nat.reduceAdd, Nat.reduceMul, Nat.reduceSub, Nat.reduceLT, Nat.reduceLeDiff, Nat.reduceEqDiff, Nat.reduceBEq, Nat.reduceDiv, Nat.reduceMod, ↓reduceIte, reduceCtorEq, Int.reduceToNat, Int.reduceLT, Int.reduceLE, TFRhA, SeqQ, BlkQ, LoopQ, BodyQ, k1, FR])
      | (refine WP.seq fun K hK => ?_)
      | (refine WP.region (rvc_sound _ _ (Sm.out ?_)))
      | (refine WP.drawK rfl mixed (by decide +kernel) (Sm.out ?_))
      | (refine Ob.mk ?_; focus (first | assumption | omega | decide | trivial | (intro hob; simp only [hob, ZF]; done) | (intros; (repeat' refine And.intro ?_ ?_) <;> first | assumption | omega | trivial | decide) | (intros; simp only [ZE] at *; (repeat' refine And.intro ?_ ?_) <;> first | assumption | omega | trivial)))
      | (refine And.intro (Ob.out ?_) ?_)
      | (refine WP.block ?_)
      | (refine WP.cond rfl (fun hc => ?_) (fun hc => ?_) <;> (try simp only [ZC, reduceCtorEq, ZD] at hc) <;> (try (exact absurd hc (by decide))) <;> (try (exfalso; omega)))
      | ((first | refine WP.skip ?_ | refine WP.exit ?_); simp only [SeqQ, BlkQ, LoopQ, BodyQ, ↓reduceIte, Nat.reduceEqDiff, reduceCtorEq, look, true_and])
      | (refine WP.ret (Sm.out ?_))
      | (first | refine ExG.no (Sm.out ?_) | refine Or.inl (ExG.no (Sm.out ?_)) | refine Or.inl (And.intro (fun hg => absurd hg (by decide)) (ExG.no (Sm.out ?_))))
      | (refine Rt.mk ?_; refine And.intro ?_ ?_ <;> (intro hg; first | exact absurd hg (by decide) | refine Sm.out ?_))
      | (refine Nu.mk ?_; first | (fail_if_success (have := nb1)); intro nb1 | (fail_if_success (have := nb2)); intro nb2 | (fail_if_success (have := nb3)); intro nb3 | (fail_if_success (have := nb4)); intro nb4 | (fail_if_success (have := nb5)); intro nb5 | (fail_if_success (have := nb6)); intro nb6 | (fail_if_success (have := nb7)); intro nb7 | (fail_if_success (have := nb8)); intro nb8 | (fail_if_success (have := nb9)); intro nb9 | intro nbz)
      | (refine Fr.mk ?_; intro hfr; replace FR := And.intro hfr FR; clear hfr; refine Sm.out ?_)
      | (refine Two.mk ?_ ?_)
      | (refine Cs.mk ?_; intro hcs; first | exact False.elim hcs | (exfalso; omega) | (refine Sm.out ?_))
      | go_step
      | omega
      | (simp only [maxLen_eq]; omega)
      | (refine Or.inr (Rt.mk ?_); refine And.intro ?_ ?_ <;> (intro hg; first | exact absurd hg (by decide) | refine Sm.out ?_))
    rw [← hD]
    (refine OutQ.drop _ _ (perm2 (by simp only [hget, hdel, ↓reduceIte, if_true, if_false, FR]; first | done | rfl) (by simp only [hget, hdel, ↓reduceIte, if_true, if_false, FR]; first | done | rfl)) (by simp only [resv, ZK, look, loadv, loadn, loadnm, load1, load1m, hget, ↓reduceIte, Nat.reduceEqDiff, Nat.reduceAdd, Nat.reduceMul, Nat.reduceLeDiff, Nat.reduceLT, reduceCtorEq, TFRhA, FR]) ⟨⟨(b, cap), by simp only; omega⟩, (by simp only [resv, resA, ZK, look, loadv, loadn, loadnm, load1, load1m, hget, ↓reduceIte, Nat.reduceEqDiff, Nat.reduceAdd, Nat.reduceMul, Nat.reduceLeDiff, Nat.reduceLT, reduceCtorEq, TFRhA, FR]; first | done | rfl), rfl⟩)
set_option maxRecDepth 8000 in
set_option maxHeartbeats 2000000 in
theorem refPut_s (mb b0 k : Nat) (M m0 : MB) (A B : Nat → Nat) (hb0 : mb ≠ b0 ∧ b0 ≠ mb) (hk : k ≤ 60) (hA : ∀ i, i < k → A i < 18446744073709551616 ∧ B i < 18446744073709551616)
    (cL : ACt Try.prog 32 [pt mb 0] [(mb, M), (b0, m0)] (fun r F' => r = .sl k (lC k A B) ∧ F' = [(mb, M), (b0, m0)])) :
    ACt Try.prog 28 [pt mb 0] [(mb, M), (b0, m0)] (fun r F' => ∃ q : Gm (pdL A B k).length, r = ms q.1.1 0 (pdL A B k).length q.1.2 ∧ F' = [(q.1.1, .zs .u8 (pdL A B k) q.1.2 5), (mb, M), (b0, m0)]) := by
  refine ACt.intro Try.func28 rfl (by kernel_rfl) (by simp [Try.ntmps28]) (fun cx => ?_)
  simp only [argE, Try.ntmps28, Try.results28]
  have hdr := lC_drop A B k
  have hCl := lC_len A B k
  obtain ⟨C, hC⟩ : ∃ C, C = lC k A B := ⟨_, rfl⟩
  rw [← hC] at cL hdr hCl
  first | (have FRx := FR; clear FRx) | (have FR : ¬ ((1 : Nat) = 0) := Nat.one_ne_zero)
  repeat' first
    | (refine Sm.mk ?_; try simp -dsimp only [ZK, rvc, drawF, headN, pureH, stp, dvc, calleeOf, gcall, pev, eff, newB, okd, og, ogs, ogo, ogp, slv, bltv, opd, litv, strip, one, both, putE, St.put, look, gdOf, gdv, picka, pickv, pickw, binv, bini, bins, binb, binp, bina, shp, eqCells, unv, convv, nilv, faddv, addp, idxav, idxp, load1, load1m, loadn, loadnm, loadv, hget, hset, hrep, hdel, slicev, bnd, shift1, lenv, IntKind.bits, extractv, fieldv, indexv, min2v, max2v, mkiv, cellsA, fillA, buildv, stC, oneC, rowMB, intsA, plN, appE, appZ, appC, appNZ, appNC, VwL, srcC, srcZ, srcM, isBoolT, isPtrT, isSliceT, uOk, Value.oneCell', Nat.reducePow, Int.reducePow, Nat.reduceAdd, Nat.reduceMul, Nat.reduceSub, Nat.reduceLT, Nat.reduceLeDiff, Nat.reduceEqDiff, Nat.reduceBEq, Nat.reduceDiv, Nat.reduceMod, ↓reduceIte, reduceCtorEq, Int.reduceToNat, Int.reduceLT, Int.reduceLE, TFRhA, SeqQ, BlkQ, LoopQ, BodyQ, hb0, FR])
    | (refine CallV.updM (cL) (perm2 (by simp only [hget, hdel, ↓reduceIte, FR, hb0]; first | done | rfl) (by simp only [hget, hdel, ↓reduceIte, FR, hb0]; first | done | rfl)) (Sm.out ?_))
    | ((first | refine ExF.up ?_ (cL) (Sm.out ?_) | refine ExG.up ?_ (fun _ => cL) (Sm.out ?_) | refine ExG.upJ ?_ (fun _ => cL) (Sm.out ?_) | refine ExG.upI ?_ (fun _ => cL) (Ob.out ?_) (Sm.out ?_)); focus (exact ⟨_, (perm2 (by simp only [hget, hdel, ↓reduceIte, FR, hb0]; first | done | rfl) (by simp only [hget, hdel, ↓reduceIte, FR, hb0]; first | done | rfl))⟩))
    | (refine WP.seq fun K hK => ?_)
    | (refine WP.region (rvc_sound _ _ (Sm.out ?_)))
    | (refine WP.drawK rfl mixed (by decide +kernel) (Sm.out ?_))
    | (refine Ob.mk ?_; focus (first | assumption | omega | decide | trivial | (intro hob; simp only [hob, ZF]; done) | (intros; (repeat' refine And.intro ?_ ?_) <;> first | assumption | omega | trivial | decide) | (intros; simp only [ZE] at *; (repeat' refine And.intro ?_ ?_) <;> first | assumption | omega | trivial)))
    | (refine And.intro (Ob.out ?_) ?_)
    | (refine WP.block ?_)
    | (refine WP.cond rfl (fun hc => ?_) (fun hc => ?_) <;> (try simp only [ZC, reduceCtorEq, ZD] at hc) <;> (try (exact absurd hc (by decide))) <;> (try (exfalso; omega)))
    | ((first | refine WP.skip ?_ | refine WP.exit ?_); simp only [SeqQ, BlkQ, LoopQ, BodyQ, ↓reduceIte, Nat.reduceEqDiff, reduceCtorEq, look, true_and])
    | (refine WP.ret (Sm.out ?_))
    | (first | refine ExG.no (Sm.out ?_) | refine Or.inl (ExG.no (Sm.out ?_)) | refine Or.inl (And.intro (fun hg => absurd hg (by decide)) (ExG.no (Sm.out ?_))))
    | (refine Rt.mk ?_; refine And.intro ?_ ?_ <;> (intro hg; first | exact absurd hg (by decide) | refine Sm.out ?_))
    | (refine Nu.mk ?_; first | (fail_if_success (have := nb1)); intro nb1 | (fail_if_success (have := nb2)); intro nb2 | (fail_if_success (have := nb3)); intro nb3 | (fail_if_success (have := nb4)); intro nb4 | (fail_if_success (have := nb5)); intro nb5 | (fail_if_success (have := nb6)); intro nb6 | (fail_if_success (have := nb7)); intro nb7 | (fail_if_success (have := nb8)); intro nb8 | (fail_if_success (have := nb9)); intro nb9 | intro nbz)
    | (refine Fr.mk ?_; intro hfr; replace FR := And.intro hfr FR; clear hfr; refine Sm.out ?_)
    | (refine Two.mk ?_ ?_)
    | (refine Cs.mk ?_; intro hcs; first | exact False.elim hcs | (exfalso; omega) | (refine Sm.out ?_))
    | go_step
    | omega
    | (simp only [maxLen_eq]; omega)
    | (refine Or.inr (Rt.mk ?_); refine And.intro ?_ ?_ <;> (intro hg; first | exact absurd hg (by decide) | refine Sm.out ?_))
  refine WP.loop (Γ := WG) (fun q => ⟨[(5, iv .i64 q.i), (3, .sl k C), (4, ms q.b 0 (pdL A B q.i).length q.cap)], [(q.b, .zs .u8 (pdL A B q.i) q.cap 5), (mb, M), (b0, m0)]⟩)
    (fun q => q.i ≤ k ∧ (pdL A B q.i).length ≤ q.cap ∧ q.cap ≤ 9223372036854775807) (fun q => k - q.i) ⟨0, nb1, 0⟩ ⟨by simp, by simp [pdL], by simp⟩ (Sub.pick (by simp [pickB, hget, hdel, FR, pdL, hb0]) (by simp [look, pdL, hb0])) ?_
  intro ⟨i, b, cap⟩ ⟨hi, q1, q2⟩
  simp only at hi q1 q2 ⊢
  (refine WP.nd fun hnd => ?_; simp only [ndF, fresh_cons, fresh_nil, and_true, ne_eq] at hnd; replace FR := And.intro hnd FR; clear hnd)
  have hl := pdL_len A B i fun j hj => hA j (by omega)
  by_cases hlt : i < k
  · have k1 : decide ((i : Int) < (k : Int)) = true := by simp; omega
    have w1 : IntKind.i64.wrap ((i : Int) + 1) = ((i + 1 : Nat) : Int) := by rw [wrap_i64 (by omega) (by omega)]; omega
    obtain ⟨rr, hd⟩ := hdr i hlt
    have g1 : C.getD (i * 2) .any = nu (A i) := by
      have := congrArg (fun l => l.getD 0 .any) hd
      simpa [List.getD_eq_getElem?_getD, List.getElem?_drop] using this
    have g2 : (C.drop (i * 2)).getD 1 .any = nu (B i) := by rw [hd]; rfl
    have t1 : ∀ L : List Int, L.take L.length = L := fun L => List.take_length
    clear hdr hd
    have c1 := Wi.refNum_ct (A i) (hA i hlt).1
    have c2 := Wi.refNum_ct (B i) (hA i hlt).2
    have e3 : pdL A B (i + 1) = pdL A B i ++ (putL 0 (A i) ++ putL 0 (B i)) := rfl
    have l1 := Wi.putL_len 0 (A i) (hA i hlt).1
    have l2 := Wi.putL_len 0 (B i) (hA i hlt).2
    have q4 : i * 2 + 2 ≤ C.length := by omega
    obtain ⟨D, hD⟩ : ∃ D, D = pdL A B i := ⟨_, rfl⟩
    obtain ⟨P1, hP1⟩ : ∃ P1, P1 = putL 0 (A i) := ⟨_, rfl⟩
    obtain ⟨P2, hP2⟩ : ∃ P2, P2 = putL 0 (B i) := ⟨_, rfl⟩
    rw [← hP1] at c1 e3 l1
    rw [← hP2] at c2 e3 l2
    rw [← hD] at e3 q1 hl ⊢
    first | (have FRx := FR; clear FRx) | (have FR : ¬ ((1 : Nat) = 0) := Nat.one_ne_zero)
    repeat' first
      | (refine Sm.mk ?_; try simp -dsimp only [ZK, rvc, drawF, headN, pureH, stp, dvc, calleeOf, gcall, pev, eff, newB, okd, og, ogs, ogo, ogp, slv, bltv, opd, litv, strip, one, both, putE, St.put, look, gdOf, gdv, picka, pickv, pickw, binv, bini, bins, binb, binp, bina, shp, eqCells, unv, convv, nilv, faddv, addp, idxav, idxp, load1, load1m, loadn, loadnm, loadv, hget, hset, hrep, hdel, slicev, bnd, shift1, lenv, IntKind.bits, extractv, fieldv, indexv, min2v, max2v, mkiv, cellsA, fillA, buildv, stC, oneC, rowMB, intsA, plN, appE, appZ, appC, appNZ, appNC, VwL, srcC, srcZ, srcM, isBoolT, isPtrT, isSliceT, uOk, Value.oneCell', Nat.reducePow, Int.reducePow, Nat.reduceAdd, Nat.reduceMul, Nat.reduceSub, Nat.reduceLT, Nat.reduceLeDiff, Nat.reduceEqDiff, Nat.reduceBEq, Nat.reduceDiv, Nat.reduceMod, ↓reduceIte, reduceCtorEq, Int.reduceToNat, Int.reduceLT, Int.reduceLE, TFRhA, SeqQ, BlkQ, LoopQ, BodyQ, k1, w1, g1, g2, q4, List.take_length, hb0, FR])
      | (refine CallV.row (by simp only [hget, ↓reduceIte, FR, k1, w1, g1, g2, q4, List.take_length, hb0]; first | done | rfl) (c1) (Sm.out ?_))
      | (refine CallV.mkrow (c1) (Sm.out ?_))
      | (refine CallV.upd (by simp only [hget, ↓reduceIte, FR, k1, w1, g1, g2, q4, List.take_length, hb0]; first | done | rfl) (c1) (Sm.out ?_))
      | (refine CallV.mkobj (c1) (Sm.out ?_))
      | (first | refine CallV.fn (c1) (Sm.out ?_) | refine ExF.mk (c1) (Sm.out ?_) | refine ExG.mk (fun _ => c1) (Sm.out ?_) | refine ExG.mkJ (fun _ => c1) (Sm.out ?_) | refine ExG.mkI (Ob.out ?_) (fun _ => c1) (Sm.out ?_))
      | (refine CallV.row (by simp only [hget, ↓reduceIte, FR, k1, w1, g1, g2, q4, List.take_length, hb0]; first | done | rfl) (c2) (Sm.out ?_))
      | (refine CallV.mkrow (c2) (Sm.out ?_))
      | (refine CallV.upd (by simp only [hget, ↓reduceIte, FR, k1, w1, g1, g2, q4, List.take_length, hb0]; first | done | rfl) (c2) (Sm.out ?_))
      | (refine CallV.mkobj (c2) (Sm.out ?_))
      | (first | refine CallV.fn (c2) (Sm.out ?_) | refine ExF.mk (c2) (Sm.out ?_) | refine ExG.mk (fun _ => c2) (Sm.out ?_) | refine ExG.mkJ (fun _ => c2) (Sm.out ?_) | refine ExG.mkI (Ob.out ?_) (fun _ => c2) (Sm.out ?_))
      | (refine WP.seq fun K hK => ?_)
      | (refine WP.region (rvc_sound _ _ (Sm.out ?_)))
      | (refine WP.drawK rfl mixed (by decide +kernel) (Sm.out ?_))
      | (refine Ob.mk ?_; focus (first | assumption | omega | decide | trivial | (intro hob; simp only [hob, ZF]; done) | (intros; (repeat' refine And.intro ?_ ?_) <;> first | assumption | omega | trivial | decide) | (intros; simp only [ZE] at *; (repeat' refine And.intro ?_ ?_) <;> first | assumption | omega | trivial)))
      | (refine And.intro (Ob.out ?_) ?_)
      | (refine WP.block ?_)
      | (refine WP.cond rfl (fun hc => ?_) (fun hc => ?_) <;> (try simp only [ZC, reduceCtorEq, ZD] at hc) <;> (try (exact absurd hc (by decide))) <;> (try (exfalso; omega)))
      | ((first | refine WP.skip ?_ | refine WP.exit ?_); simp only [SeqQ, BlkQ, LoopQ, BodyQ, ↓reduceIte, Nat.reduceEqDiff, reduceCtorEq, look, true_and])
      | (refine WP.ret (Sm.out ?_))
      | (first | refine ExG.no (Sm.out ?_) | refine Or.inl (ExG.no (Sm.out ?_)) | refine Or.inl (And.intro (fun hg => absurd hg (by decide)) (ExG.no (Sm.out ?_))))
      | (refine Rt.mk ?_; refine And.intro ?_ ?_ <;> (intro hg; first | exact absurd hg (by decide) | refine Sm.out ?_))
      | (refine Nu.mk ?_; first | (fail_if_success (have := nb1)); intro nb1 | (fail_if_success (have := nb2)); intro nb2 | (fail_if_success (have := nb3)); intro nb3 | (fail_if_success (have := nb4)); intro nb4 | (fail_if_success (have := nb5)); intro nb5 | (fail_if_success (have := nb6)); intro nb6 | (fail_if_success (have := nb7)); intro nb7 | (fail_if_success (have := nb8)); intro nb8 | (fail_if_success (have := nb9)); intro nb9 | intro nbz)
      | (refine Fr.mk ?_; intro hfr; replace FR := And.intro hfr FR; clear hfr; refine Sm.out ?_)
      | (refine Two.mk ?_ ?_)
      | (refine Cs.mk ?_; intro hcs; first | exact False.elim hcs | (exfalso; omega) | (refine Sm.out ?_))
      | go_step
      | omega
      | (simp only [maxLen_eq]; omega)
      | (refine Or.inr (Rt.mk ?_); refine And.intro ?_ ?_ <;> (intro hg; first | exact absurd hg (by decide) | refine Sm.out ?_))
    have q5 : (pdL A B (i + 1)).length = D.length + P1.length + P2.length := by rw [e3, List.length_append, List.length_append]; omega
    have e4 : D ++ P1 ++ P2 = pdL A B (i + 1) := by rw [e3, List.append_assoc]
    all_goals exact ⟨⟨i + 1, nb8, nb9⟩, ⟨by simp only; omega, by simp only; omega, by simp only; omega⟩, by simp only; omega, (Sub.pick (by simp [pickB, hget, hdel, FR, q5, e4, ← List.append_assoc, hb0]) (by simp [look, q5, e4, ← List.append_assoc, hb0]))⟩
  · obtain rfl : i = k := by omega
    have k1 : decide ((i : Int) < (i : Int)) = false := by simp
    obtain ⟨D, hD⟩ : ∃ D, D = pdL A B i := ⟨_, rfl⟩
    rw [← hD] at q1 ⊢
    first | (have FRx := FR; clear FRx) | (have FR : ¬ ((1 : Nat) = 0) := Nat.one_ne_zero)
    repeat' first
      | (refine Sm.mk ?_; try simp -dsimp only [ZK, rvc, drawF, headN, pureH, stp, dvc, calleeOf, gcall, pev, eff, newB, okd, og, ogs, ogo, ogp, slv, bltv, opd, litv, strip, one, both, putE, St.put, look, gdOf, gdv, picka, pickv, pickw, binv, bini, bins, binb, binp, bina, shp, eqCells, unv, convv, nilv, faddv, addp, idxav, idxp, load1, load1m, loadn, loadnm, loadv, hget, hset, hrep, hdel, slicev, bnd, shift1, lenv, IntKind.bits, extractv, fieldv, indexv, min2v, max2v, mkiv, cellsA, fillA, buildv, stC, oneC, rowMB, intsA, plN, appE, appZ, appC, appNZ, appNC, VwL, srcC, srcZ, srcM, isBoolT, isPtrT, isSliceT, uOk, Value.oneCell', Nat.reducePow, Int.reducePow, Nat.reduceAdd, Nat.reduceMul, Nat.reduceSub, Nat.reduceLT, Nat.reduceLeDiff, Nat.reduceEqDiff, Nat.reduceBEq, Nat.reduceDiv, Nat.reduceMod, ↓reduceIte, reduceCtorEq, Int.reduceToNat, Int.reduceLT, Int.reduceLE, TFRhA, SeqQ, BlkQ, LoopQ, BodyQ, k1, hb0, FR])
      | (refine WP.seq fun K hK => ?_)
      | (refine WP.region (rvc_sound _ _ (Sm.out ?_)))
      | (refine WP.drawK rfl mixed (by decide +kernel) (Sm.out ?_))
      | (refine Ob.mk ?_; focus (first | assumption | omega | decide | trivial | (intro hob; simp only [hob, ZF]; done) | (intros; (repeat' refine And.intro ?_ ?_) <;> first | assumption | omega | trivial | decide) | (intros; simp only [ZE] at *; (repeat' refine And.intro ?_ ?_) <;> first | assumption | omega | trivial)))
      | (refine And.intro (Ob.out ?_) ?_)
      | (refine WP.block ?_)
      | (refine WP.cond rfl (fun hc => ?_) (fun hc => ?_) <;> (try simp only [ZC, reduceCtorEq, ZD] at hc) <;> (try (exact absurd hc (by decide))) <;> (try (exfalso; omega)))
      | ((first | refine WP.skip ?_ | refine WP.exit ?_); simp only [SeqQ, BlkQ, LoopQ, BodyQ, ↓reduceIte, Nat.reduceEqDiff, reduceCtorEq, look, true_and])
      | (refine WP.ret (Sm.out ?_))
      | (first | refine ExG.no (Sm.out ?_) | refine Or.inl (ExG.no (Sm.out ?_)) | refine Or.inl (And.intro (fun hg => absurd hg (by decide)) (ExG.no (Sm.out ?_))))
      | (refine Rt.mk ?_; refine And.intro ?_ ?_ <;> (intro hg; first | exact absurd hg (by decide) | refine Sm.out ?_))
      | (refine Nu.mk ?_; first | (fail_if_success (have := nb1)); intro nb1 | (fail_if_success (have := nb2)); intro nb2 | (fail_if_success (have := nb3)); intro nb3 | (fail_if_success (have := nb4)); intro nb4 | (fail_if_success (have := nb5)); intro nb5 | (fail_if_success (have := nb6)); intro nb6 | (fail_if_success (have := nb7)); intro nb7 | (fail_if_success (have := nb8)); intro nb8 | (fail_if_success (have := nb9)); intro nb9 | intro nbz)
      | (refine Fr.mk ?_; intro hfr; replace FR := And.intro hfr FR; clear hfr; refine Sm.out ?_)
      | (refine Two.mk ?_ ?_)
      | (refine Cs.mk ?_; intro hcs; first | exact False.elim hcs | (exfalso; omega) | (refine Sm.out ?_))
      | go_step
      | omega
      | (simp only [maxLen_eq]; omega)
      | (refine Or.inr (Rt.mk ?_); refine And.intro ?_ ?_ <;> (intro hg; first | exact absurd hg (by decide) | refine Sm.out ?_))
    rw [← hD]
    (refine OutQ.drop _ _ (perm3 (by simp only [hget, hdel, ↓reduceIte, if_true, if_false, FR, hb0]; first | done | rfl) (by simp only [hget, hdel, ↓reduceIte, if_true, if_false, FR, hb0]; first | done | rfl) (by simp only [hget, hdel, ↓reduceIte, if_true, if_false, FR, hb0]; first | done | rfl)) (by simp only [resv, ZK, look, loadv, loadn, loadnm, load1, load1m, hget, ↓reduceIte, Nat.reduceEqDiff, Nat.reduceAdd, Nat.reduceMul, Nat.reduceLeDiff, Nat.reduceLT, reduceCtorEq, TFRhA, FR, hb0]) ⟨⟨(b, cap), by simp only; omega⟩, (by simp only [resv, resA, ZK, look, loadv, loadn, loadnm, load1, load1m, hget, ↓reduceIte, Nat.reduceEqDiff, Nat.reduceAdd, Nat.reduceMul, Nat.reduceLeDiff, Nat.reduceLT, reduceCtorEq, TFRhA, FR, hb0]; first | done | rfl), rfl⟩)
end Go.Proofs.Ytbnkmhlnoaebcaa
namespace Go.Proofs.Ytbnkmhlnoaebcaa
open Go Wi
set_option linter.unusedVariables false
set_option linter.unusedSimpArgs false
theorem bk_lt (w k n : Nat) (s : RS) (h : Inv w k n s) (hk1 : 1 ≤ k) : ∀ i, i < k → bkA (slG (s.now / w) w k s.E) k (s.now / w) i < 18446744073709551616 ∧ bkA (slT (s.now / w) w k s.E) k (s.now / w) i < 18446744073709551616 := by
  intro i hi
  have hs := h.sum
  have hgs : sG (winP s.now w k) s.E ≤ sT (winP s.now w k) s.E := sG_le_sT h.gt
  have hG := slG_sum (s.now / w) w k hk1 s.E
  have hT := slT_sum (s.now / w) w k hk1 s.E
  unfold bkA
  split
  · have hj : (s.now / w + 1 + i - k) % k < k := Nat.mod_lt _ (by omega)
    have h1 := sumN_ge (slG (s.now / w) w k s.E) hj
    have h2 := sumN_ge (slT (s.now / w) w k s.E) hj
    rw [hG] at h1
    rw [hT] at h2
    exact ⟨Nat.lt_of_le_of_lt (Nat.le_trans h1 (Nat.le_trans hgs hs)) (by omega), Nat.lt_of_le_of_lt (Nat.le_trans h2 hs) (by omega)⟩
  · exact ⟨by omega, by omega⟩
abbrev pdS (w k : Nat) (s : RS) : List Int := pdL (bkA (slG (s.now / w) w k s.E) k (s.now / w)) (bkA (slT (s.now / w) w k s.E) k (s.now / w)) k
theorem put_d (mb W G k w n : Nat) (s : RS) (h : Inv w k n s) (hn : n ≤ 1000) (hg : goP W G) (hgo : GoOk W G k w) (hmb : ∀ p ∈ evB s.E s.o, p.1 ≠ mb) :
    ACt Try.prog 28 [pt mb 0] ((mb, mM W G s.now (evL s.E s.o)) :: evB s.E s.o) (fun r F' => ∃ q : Gm (pdS w k s).length, r = ms q.1.1 0 (pdS w k s).length q.1.2 ∧ F' = (q.1.1, .zs .u8 (pdS w k s) q.1.2 5) :: (mb, mM W G s.now (evL s.E s.o)) :: evB s.E s.o) := by
  have cL := list_d mb W G k w n s h hn hg hgo hmb
  have hA := bk_lt w k n s h hgo.k1
  obtain ⟨o, ho⟩ : ∃ o, o = s.o := ⟨_, rfl⟩
  rw [← ho] at cL hmb ⊢
  cases o with
  | none => exact refPut_n mb k _ _ _ hgo.k2 hA cL
  | some p =>
    have hb := hmb (p.1, .cells (evC s.E) (p.2 * 3) 70) (by simp [evB])
    exact refPut_s mb p.1 k _ _ _ _ ⟨Ne.symm hb, hb⟩ hgo.k2 hA cL
end Go.Proofs.Ytbnkmhlnoaebcaa
namespace Go.Proofs.Ytbnkmhlnoaebcaa.Wi
open Go
set_option linter.unusedVariables false
set_option linter.unusedSimpArgs false
theorem valL_byteL (n : Nat) : ∀ k, valL (byteL n k) = n % 256 ^ k
  | 0 => by simp [byteL, valL, Nat.mod_one]
  | k + 1 => by
    rw [byteL, valL, byteL_len, valL_byteL n k, Int.toNat_natCast, Nat.mod_pow_succ, Nat.add_comm, Nat.mul_comm]
theorem by_byteL (n : Nat) : ∀ k, By (byteL n k)
  | 0 => fun x hx => by cases hx
  | k + 1 => fun x hx => by
    rcases List.mem_cons.1 hx with rfl | hx
    · omega
    · exact by_byteL n k x hx
theorem By.app {a b : List Int} (ha : By a) (hb : By b) : By (a ++ b) := fun x hx => by
  rcases List.mem_append.1 hx with h | h
  · exact ha x h
  · exact hb x h
theorem by_putL (n : Nat) (hn : n < 18446744073709551616) : By (putL 0 n) := by
  obtain ⟨k, _, hk, h, _⟩ := putL0 n hn
  rw [h]
  intro x hx
  rcases List.mem_cons.1 hx with rfl | hx
  · omega
  · exact by_byteL n k x hx
theorem nF_put (n : Nat) (rest : List Int) (hn : n < 18446744073709551616) : nF (putL 0 n ++ rest) = some (n, rest) := by
  obtain ⟨k, hk, hk9, h, _⟩ := putL0 n hn
  have a := and16 k hk9
  have hlt : n < 256 ^ k := size_le.1 (Nat.le_of_eq hk.symm)
  have hlb := byteL_len n k
  rw [h]
  unfold nF
  rw [List.cons_append]
  simp only [gF, a.2.2.2.2.2, a.2.2.2.2.1, Int.toNat_natCast]
  have hz : ¬ (0 < k ∧ (byteL n k ++ rest).getD 0 0 = 0) := by
    rintro ⟨h0, h1⟩
    have e : (byteL n k ++ rest).getD 0 0 = ((n / 256 ^ (k - 1 - 0) % 256 : Nat) : Int) := by
      rw [← byteL_at n k 0 h0]
      simp only [List.getD_eq_getElem?_getD]
      rw [List.getElem?_append_left (by omega)]
    have hge : 256 ^ (k - 1) ≤ n := by
      apply Classical.byContradiction; intro hc
      have := size_le.2 (show n < 256 ^ (k - 1) by omega)
      omega
    have hne := byteL_hd (k := k - 1) (by rw [show k - 1 + 1 = k by omega]; exact hlt) hge
    rw [e, Nat.sub_zero] at h1
    exact hne (by exact_mod_cast h1)
  rw [if_neg]
  · simp only [Option.map_some, List.take_left' hlb, List.drop_left' hlb, valL_byteL, Nat.mod_eq_of_lt hlt]
  · rintro (h1 | h1 | h1)
    · omega
    · rw [List.length_append] at h1; omega
    · exact hz h1
end Go.Proofs.Ytbnkmhlnoaebcaa.Wi
namespace Go.Proofs.Ytbnkmhlnoaebcaa
open Go Wi
set_option linter.unusedVariables false
set_option linter.unusedSimpArgs false
theorem TFRhE : ((((((type_of% tyc0) ∧ (type_of% tyc3)) ∧ ((type_of% zmb3) ∧ ((type_of% tyc5) ∧ (type_of% zmb5)))) ∧ (((type_of% tyc26) ∧ (type_of% mth26_30)) ∧ ((type_of% mth26_39) ∧ ((type_of% mth26_38) ∧ (type_of% con26))))) ∧ ((((type_of% zmb26) ∧ (type_of% tyc32)) ∧ ((type_of% elt32) ∧ ((type_of% mkz32) ∧ (type_of% mkc32)))) ∧ (((type_of% apT32) ∧ ((type_of% elk32) ∧ (type_of% zmb32))) ∧ ((type_of% tyc41) ∧ ((type_of% zmb41) ∧ (type_of% tyc43)))))) ∧ (((((type_of% foff43_0) ∧ (type_of% fpart43_0)) ∧ ((type_of% foff43_1) ∧ ((type_of% fpart43_1) ∧ (type_of% fe43)))) ∧ (((type_of% zmb43) ∧ (type_of% bldT43)) ∧ ((type_of% tyc50) ∧ ((type_of% elt50) ∧ (type_of% mkz50))))) ∧ ((((type_of% apT50) ∧ (type_of% elk50)) ∧ ((type_of% zmb50) ∧ ((type_of% Try.underlying0) ∧ (type_of% Try.underlying3)))) ∧ (((type_of% Try.underlying5) ∧ ((type_of% Try.underlying26) ∧ (type_of% Try.underlying32))) ∧ ((type_of% Try.underlying41) ∧ ((type_of% Try.underlying43) ∧ (type_of% Try.underlying50))))))) :=
  ⟨⟨⟨⟨⟨tyc0, tyc3⟩, ⟨zmb3, ⟨tyc5, zmb5⟩⟩⟩, ⟨⟨tyc26, mth26_30⟩, ⟨mth26_39, ⟨mth26_38, con26⟩⟩⟩⟩, ⟨⟨⟨zmb26, tyc32⟩, ⟨elt32, ⟨mkz32, mkc32⟩⟩⟩, ⟨⟨apT32, ⟨elk32, zmb32⟩⟩, ⟨tyc41, ⟨zmb41, tyc43⟩⟩⟩⟩⟩, ⟨⟨⟨⟨foff43_0, fpart43_0⟩, ⟨foff43_1, ⟨fpart43_1, fe43⟩⟩⟩, ⟨⟨zmb43, bldT43⟩, ⟨tyc50, ⟨elt50, mkz50⟩⟩⟩⟩, ⟨⟨⟨apT50, elk50⟩, ⟨zmb50, ⟨Try.underlying0, Try.underlying3⟩⟩⟩, ⟨⟨Try.underlying5, ⟨Try.underlying26, Try.underlying32⟩⟩, ⟨Try.underlying41, ⟨Try.underlying43, Try.underlying50⟩⟩⟩⟩⟩⟩
/-- bytes that are there, or none at all -/
def slO (o : Option (Nat × Nat)) (n : Nat) : AV :=
  match o with
  | none => nilS
  | some p => ms p.1 0 n p.2
def hpO (o : Option (Nat × Nat)) (zs : List Int) : Hp :=
  match o with
  | none => []
  | some p => [(p.1, .zs .u8 zs p.2 5)]
def okO (o : Option (Nat × Nat)) (n : Nat) : Prop :=
  match o with
  | none => n = 0
  | some p => n ≤ p.2 ∧ p.2 ≤ 9223372036854775807
def pzL (zs : List Int) (A B : Nat → Nat) (i : Nat) : List Int := zs ++ pdL A B i
structure OG where
  i : Nat
  o : Option (Nat × Nat)
set_option maxRecDepth 8000 in
set_option maxHeartbeats 4000000 in
theorem Put_ct (rb lb k : Nat) (R L : MB) (A B : Nat → Nat) (o : Option (Nat × Nat)) (zs : List Int) (hne : rb ≠ lb ∧ lb ≠ rb) (hk1 : 1 ≤ k) (hk : k ≤ 60) (hA : ∀ i, i < k → A i < 18446744073709551616 ∧ B i < 18446744073709551616)
    (hz : zs.length ≤ 1000) (ho : okO o zs.length)
    (cL : ACt Try.prog 14 [pt rb 0] [(rb, R), (lb, L)] (fun r F' => r = .sl k (lC k A B) ∧ F' = [(rb, R), (lb, L)])) :
    ACt Try.prog 22 [pt rb 0, slO o zs.length] ((rb, R) :: (lb, L) :: hpO o zs)
      (fun r F' => ∃ q : Gm (pzL zs A B k).length, r = ms q.1.1 0 (pzL zs A B k).length q.1.2 ∧ F' = [(q.1.1, .zs .u8 (pzL zs A B k) q.1.2 5), (rb, R), (lb, L)]) := by
  refine ACt.intro Try.func22 rfl (by kernel_rfl) (by simp [Try.ntmps22]) (fun cx => ?_)
  simp only [argE, Try.ntmps22, Try.results22]
  have hdr := lC_drop A B k
  have hCl := lC_len A B k
  obtain ⟨C, hC⟩ : ∃ C, C = lC k A B := ⟨_, rfl⟩
  rw [← hC] at cL hdr hCl
  have e0 : pzL zs A B 0 = zs := by simp [pzL, pdL]
  first | (have FRx := FR; clear FRx) | (have FR : ¬ ((1 : Nat) = 0) := Nat.one_ne_zero)
  repeat' first
    | (refine Sm.mk ?_; try simp -dsimp only [ZK, rvc, drawF, headN, pureH, stp, dvc, calleeOf, gcall, pev, eff, newB, okd, og, ogs, ogo, ogp, slv, bltv, opd, litv, strip, one, both, putE, St.put, look, gdOf, gdv, picka, pickv, pickw, binv, bini, bins, binb, binp, bina, shp, eqCells, unv, convv, nilv, faddv, addp, idxav, idxp, load1, load1m, loadn, loadnm, loadv, hget, hset, hrep, hdel, slicev, bnd, shift1, lenv, IntKind.bits, extractv, fieldv, indexv, min2v, max2v, mkiv, cellsA, fillA, buildv, stC, oneC, rowMB, intsA, plN, appE, appZ, appC, appNZ, appNC, VwL, srcC, srcZ, srcM, isBoolT, isPtrT, isSliceT, uOk, Value.oneCell', Nat.reducePow, Int.reducePow, Nat.reduceAdd, Nat.reduceMul, Nat.reduceSub, Nat.reduceLT, Nat.reduceLeDiff, Nat.reduceEqDiff, Nat.reduceBEq, Nat.reduceDiv, Nat.reduceMod, ↓reduceIte, reduceCtorEq, Int.reduceToNat, Int.reduceLT, Int.reduceLE, drawWF, splitH, calleeV, putE, hdel, TFRhE, SeqQ, BlkQ, LoopQ, BodyQ, hne, FR])
    | (refine CallV.updM (cL) (perm2 (by simp only [hget, hdel, ↓reduceIte, FR, hne]; first | done | rfl) (by simp only [hget, hdel, ↓reduceIte, FR, hne]; first | done | rfl)) (Sm.out ?_))
    | ((first | refine ExF.up ?_ (cL) (Sm.out ?_) | refine ExG.up ?_ (fun _ => cL) (Sm.out ?_) | refine ExG.upJ ?_ (fun _ => cL) (Sm.out ?_) | refine ExG.upI ?_ (fun _ => cL) (Ob.out ?_) (Sm.out ?_)); focus (exact ⟨_, (perm2 (by simp only [hget, hdel, ↓reduceIte, FR, hne]; first | done | rfl) (by simp only [hget, hdel, ↓reduceIte, FR, hne]; first | done | rfl))⟩))
    | (refine WP.seq fun K hK => ?_)
    | (refine WP.region (rvc_sound _ _ (Sm.out ?_)))
    | (refine WP.drawW (c := 3) (k := 6) (bs := [b]) mixed (by decide +kernel) (by decide +kernel) (Sm.out ?_))
    | (refine WP.drawW (c := 3) (k := 6) (bs := []) mixed (by decide +kernel) (by decide +kernel) (Sm.out ?_))
    | (refine WP.drawK rfl mixed (by decide +kernel) (Sm.out ?_))
    | (refine Ob.mk ?_; focus (first | assumption | omega | decide | trivial | (intro hob; simp only [hob, ZF]; done) | (intros; (repeat' refine And.intro ?_ ?_) <;> first | assumption | omega | trivial | decide) | (intros; simp only [ZE] at *; (repeat' refine And.intro ?_ ?_) <;> first | assumption | omega | trivial)))
    | (refine And.intro (Ob.out ?_) ?_)
    | (refine WP.block ?_)
    | (refine WP.cond rfl (fun hc => ?_) (fun hc => ?_) <;> (try simp only [ZC, reduceCtorEq, ZD] at hc) <;> (try (exact absurd hc (by decide))) <;> (try (exfalso; omega)))
    | ((first | refine WP.skip ?_ | refine WP.exit ?_); simp only [SeqQ, BlkQ, LoopQ, BodyQ, ↓reduceIte, Nat.reduceEqDiff, reduceCtorEq, look, true_and])
    | (refine WP.ret (Sm.out ?_))
    | (first | refine ExG.no (Sm.out ?_) | refine Or.inl (ExG.no (Sm.out ?_)) | refine Or.inl (And.intro (fun hg => absurd hg (by decide)) (ExG.no (Sm.out ?_))))
    | (refine Rt.mk ?_; refine And.intro ?_ ?_ <;> (intro hg; first | exact absurd hg (by decide) | refine Sm.out ?_))
    | (refine Nu.mk ?_; first | (fail_if_success (have := nb1)); intro nb1 | (fail_if_success (have := nb2)); intro nb2 | (fail_if_success (have := nb3)); intro nb3 | (fail_if_success (have := nb4)); intro nb4 | (fail_if_success (have := nb5)); intro nb5 | intro nbz)
    | (refine Fr.mk ?_; intro hfr; replace FR := And.intro hfr FR; clear hfr; refine Sm.out ?_)
    | (refine Two.mk ?_ ?_)
    | (refine Cs.mk ?_; intro hcs; first | exact False.elim hcs | (exfalso; omega) | (refine Sm.out ?_))
    | go_step
    | omega
    | (simp only [maxLen_eq]; omega)
    | (refine Or.inr (Rt.mk ?_); refine And.intro ?_ ?_ <;> (intro hg; first | exact absurd hg (by decide) | refine Sm.out ?_))
  refine WP.loop (Γ := OG) (fun q => ⟨[(10, iv .i64 q.i), (9, iv .i64 k), (8, .sl k C), (1, slO q.o (pzL zs A B q.i).length)], (rb, R) :: (lb, L) :: hpO q.o (pzL zs A B q.i)⟩)
    (fun q => q.i ≤ k ∧ okO q.o (pzL zs A B q.i).length ∧ (q.o = none → q.i = 0)) (fun q => k - q.i) ⟨0, o⟩ ⟨by simp, by rw [e0]; exact ho, fun _ => rfl⟩
    (Sub.of_env [] (by rw [e0]; exact pmz _) (by rw [e0]; simp [look])) ?_
  intro ⟨i, o⟩ ⟨hi, q1, q2⟩
  simp only at hi q1 q2 ⊢
  have hl := pdL_len A B i fun j hj => hA j (by omega)
  by_cases hlt : i < k
  · have k1 : decide ((i : Int) < (k : Int)) = true := by simp; omega
    have w1 : IntKind.i64.wrap ((i : Int) + 1) = ((i + 1 : Nat) : Int) := by rw [wrap_i64 (by omega) (by omega)]; omega
    obtain ⟨rr, hd⟩ := hdr i hlt
    have q4 : i * 2 + 2 ≤ C.length := by omega
    clear hdr
    have lD : (pzL zs A B i).length ≤ 2080 := by unfold pzL; rw [List.length_append]; omega
    have hAi := (hA i hlt).1
    have hBi := (hA i hlt).2
    have e3 : pzL zs A B (i + 1) = pzL zs A B i ++ putL 0 (A i) ++ putL 0 (B i) := by unfold pzL; rw [pdL, List.append_assoc, List.append_assoc]
    have l1 := Wi.putL_len 0 (A i) (hA i hlt).1
    cases o with
    | some p =>
      obtain ⟨b, cap⟩ := p
      simp only [slO, hpO, okO] at q1 ⊢
      (refine WP.nd fun hnd => ?_; simp only [ndF, fresh_cons, fresh_nil, and_true, ne_eq] at hnd; replace FR := And.intro hnd FR; clear hnd)
      have c1 := num_ct b cap (pzL zs A B i) (A i) (by omega) (by omega) (by omega) hAi
      have c2 := fun b' cap' h1 h2 => num_ct b' cap' ((pzL zs A B i) ++ putL 0 (A i)) (B i) (by rw [List.length_append]; omega) h1 h2 hBi
      obtain ⟨D, hD⟩ : ∃ D, D = pzL zs A B i := ⟨_, rfl⟩
      rw [← hD] at q1 c1 c2 e3 lD ⊢
      obtain ⟨D1, hD1⟩ : ∃ D1, D1 = D ++ putL 0 (A i) := ⟨_, rfl⟩
      rw [← hD1] at c1 c2 e3
      obtain ⟨D2, hD2⟩ : ∃ D2, D2 = D1 ++ putL 0 (B i) := ⟨_, rfl⟩
      rw [← hD2] at c2 e3
      first | (have FRx := FR; clear FRx) | (have FR : ¬ ((1 : Nat) = 0) := Nat.one_ne_zero)
      repeat' first
        | (refine Sm.mk ?_; try simp -dsimp only [ZK, rvc, drawF, headN, pureH, stp, dvc, calleeOf, gcall, pev, eff, newB, okd, og, ogs, ogo, ogp, slv, bltv, opd, litv, strip, one, both, putE, St.put, look, gdOf, gdv, picka, pickv, pickw, binv, bini, bins, binb, binp, bina, shp, eqCells, unv, convv, nilv, faddv, addp, idxav, idxp, load1, load1m, loadn, loadnm, loadv, hget, hset, hrep, hdel, slicev, bnd, shift1, lenv, IntKind.bits, extractv, fieldv, indexv, min2v, max2v, mkiv, cellsA, fillA, buildv, stC, oneC, rowMB, intsA, plN, appE, appZ, appC, appNZ, appNC, VwL, srcC, srcZ, srcM, isBoolT, isPtrT, isSliceT, uOk, Value.oneCell', Nat.reducePow, Int.reducePow, Nat.reduceAdd, Nat.reduceMul, Nat.reduceSub, Nat.reduceLT, Nat.reduceLeDiff, Nat.reduceEqDiff, Nat.reduceBEq, Nat.reduceDiv, Nat.reduceMod, ↓reduceIte, reduceCtorEq, Int.reduceToNat, Int.reduceLT, Int.reduceLE, drawWF, splitH, calleeV, putE, hdel, TFRhE, SeqQ, BlkQ, LoopQ, BodyQ, k1, w1, hd, q4, hne, FR])
        | (refine WCt.row (by simp only [hget, ↓reduceIte, FR, k1, w1, hd, q4, hne]; first | done | rfl) (c1) (Sm.out ?_))
        | (refine WCt.mkrow (c1) (Sm.out ?_))
        | (refine CallV.row (by simp only [hget, ↓reduceIte, FR, k1, w1, hd, q4, hne]; first | done | rfl) (c1) (Sm.out ?_))
        | (refine CallV.mkrow (c1) (Sm.out ?_))
        | (refine CallV.upd (by simp only [hget, ↓reduceIte, FR, k1, w1, hd, q4, hne]; first | done | rfl) (c1) (Sm.out ?_))
        | (refine CallV.mkobj (c1) (Sm.out ?_))
        | (first | refine CallV.fn (c1) (Sm.out ?_) | refine ExF.mk (c1) (Sm.out ?_) | refine ExG.mk (fun _ => c1) (Sm.out ?_) | refine ExG.mkJ (fun _ => c1) (Sm.out ?_) | refine ExG.mkI (Ob.out ?_) (fun _ => c1) (Sm.out ?_))
        | (refine WCt.row (by simp only [hget, ↓reduceIte, FR, k1, w1, hd, q4, hne]; first | done | rfl) (c2 nb2 nb3 (by omega) (by omega)) (Sm.out ?_))
        | (refine WCt.mkrow (c2 nb2 nb3 (by omega) (by omega)) (Sm.out ?_))
        | (refine CallV.row (by simp only [hget, ↓reduceIte, FR, k1, w1, hd, q4, hne]; first | done | rfl) (c2 nb2 nb3 (by omega) (by omega)) (Sm.out ?_))
        | (refine CallV.mkrow (c2 nb2 nb3 (by omega) (by omega)) (Sm.out ?_))
        | (refine CallV.upd (by simp only [hget, ↓reduceIte, FR, k1, w1, hd, q4, hne]; first | done | rfl) (c2 nb2 nb3 (by omega) (by omega)) (Sm.out ?_))
        | (refine CallV.mkobj (c2 nb2 nb3 (by omega) (by omega)) (Sm.out ?_))
        | (first | refine CallV.fn (c2 nb2 nb3 (by omega) (by omega)) (Sm.out ?_) | refine ExF.mk (c2 nb2 nb3 (by omega) (by omega)) (Sm.out ?_) | refine ExG.mk (fun _ => c2 nb2 nb3 (by omega) (by omega)) (Sm.out ?_) | refine ExG.mkJ (fun _ => c2 nb2 nb3 (by omega) (by omega)) (Sm.out ?_) | refine ExG.mkI (Ob.out ?_) (fun _ => c2 nb2 nb3 (by omega) (by omega)) (Sm.out ?_))
        | (refine WP.seq fun K hK => ?_)
        | (refine WP.region (rvc_sound _ _ (Sm.out ?_)))
        | (refine WP.drawW (c := 3) (k := 6) (bs := [b]) mixed (by decide +kernel) (by decide +kernel) (Sm.out ?_))
        | (refine WP.drawW (c := 3) (k := 6) (bs := []) mixed (by decide +kernel) (by decide +kernel) (Sm.out ?_))
        | (refine WP.drawK rfl mixed (by decide +kernel) (Sm.out ?_))
        | (refine Ob.mk ?_; focus (first | assumption | omega | decide | trivial | (intro hob; simp only [hob, ZF]; done) | (intros; (repeat' refine And.intro ?_ ?_) <;> first | assumption | omega | trivial | decide) | (intros; simp only [ZE] at *; (repeat' refine And.intro ?_ ?_) <;> first | assumption | omega | trivial)))
        | (refine And.intro (Ob.out ?_) ?_)
        | (refine WP.block ?_)
        | (refine WP.cond rfl (fun hc => ?_) (fun hc => ?_) <;> (try simp only [ZC, reduceCtorEq, ZD] at hc) <;> (try (exact absurd hc (by decide))) <;> (try (exfalso; omega)))
        | ((first | refine WP.skip ?_ | refine WP.exit ?_); simp only [SeqQ, BlkQ, LoopQ, BodyQ, ↓reduceIte, Nat.reduceEqDiff, reduceCtorEq, look, true_and])
        | (refine WP.ret (Sm.out ?_))
        | (first | refine ExG.no (Sm.out ?_) | refine Or.inl (ExG.no (Sm.out ?_)) | refine Or.inl (And.intro (fun hg => absurd hg (by decide)) (ExG.no (Sm.out ?_))))
        | (refine Rt.mk ?_; refine And.intro ?_ ?_ <;> (intro hg; first | exact absurd hg (by decide) | refine Sm.out ?_))
        | (refine Nu.mk ?_; first | (fail_if_success (have := nb1)); intro nb1 | (fail_if_success (have := nb2)); intro nb2 | (fail_if_success (have := nb3)); intro nb3 | (fail_if_success (have := nb4)); intro nb4 | (fail_if_success (have := nb5)); intro nb5 | intro nbz)
        | (refine Fr.mk ?_; intro hfr; replace FR := And.intro hfr FR; clear hfr; refine Sm.out ?_)
        | (refine Two.mk ?_ ?_)
        | (refine Cs.mk ?_; intro hcs; first | exact False.elim hcs | (exfalso; omega) | (refine Sm.out ?_))
        | go_step
        | omega
        | (simp only [maxLen_eq]; omega)
        | (refine Or.inr (Rt.mk ?_); refine And.intro ?_ ?_ <;> (intro hg; first | exact absurd hg (by decide) | refine Sm.out ?_))
      all_goals exact ⟨⟨i + 1, some (nb4, nb5)⟩, ⟨by simp only; omega, by simp only [okO, e3]; omega, fun h => by cases h⟩, by simp only; omega, by simp only [slO, hpO, e3]; exact (Sub.pick (by simp [pickB, hget, hdel, FR, hne]) (by simp [look, hne]))⟩
    | none =>
      obtain rfl := q2 rfl
      have y1 : IntKind.i64.wrap 1 = 1 := by decide
      simp only [slO, hpO, okO] at q1 ⊢
      have ez : pzL zs A B 0 = [] := List.eq_nil_of_length_eq_zero q1
      rw [ez, List.nil_append] at e3
      have c1 := num_nil (A 0) hAi
      have c2 := fun b' cap' h1 h2 => num_ct b' cap' (putL 0 (A 0)) (B 0) (by omega) h1 h2 hBi
      obtain ⟨D1, hD1⟩ : ∃ D1, D1 = putL 0 (A 0) := ⟨_, rfl⟩
      rw [← hD1] at c1 c2 e3
      obtain ⟨D2, hD2⟩ : ∃ D2, D2 = D1 ++ putL 0 (B 0) := ⟨_, rfl⟩
      rw [← hD2] at c2 e3
      first | (have FRx := FR; clear FRx) | (have FR : ¬ ((1 : Nat) = 0) := Nat.one_ne_zero)
      repeat' first
        | (refine Sm.mk ?_; try simp -dsimp only [ZK, rvc, drawF, headN, pureH, stp, dvc, calleeOf, gcall, pev, eff, newB, okd, og, ogs, ogo, ogp, slv, bltv, opd, litv, strip, one, both, putE, St.put, look, gdOf, gdv, picka, pickv, pickw, binv, bini, bins, binb, binp, bina, shp, eqCells, unv, convv, nilv, faddv, addp, idxav, idxp, load1, load1m, loadn, loadnm, loadv, hget, hset, hrep, hdel, slicev, bnd, shift1, lenv, IntKind.bits, extractv, fieldv, indexv, min2v, max2v, mkiv, cellsA, fillA, buildv, stC, oneC, rowMB, intsA, plN, appE, appZ, appC, appNZ, appNC, VwL, srcC, srcZ, srcM, isBoolT, isPtrT, isSliceT, uOk, Value.oneCell', Nat.reducePow, Int.reducePow, Nat.reduceAdd, Nat.reduceMul, Nat.reduceSub, Nat.reduceLT, Nat.reduceLeDiff, Nat.reduceEqDiff, Nat.reduceBEq, Nat.reduceDiv, Nat.reduceMod, ↓reduceIte, reduceCtorEq, Int.reduceToNat, Int.reduceLT, Int.reduceLE, drawWF, splitH, calleeV, putE, hdel, TFRhE, SeqQ, BlkQ, LoopQ, BodyQ, k1, w1, hd, q4, hne, FR])
        | (refine WCt.row (by simp only [hget, ↓reduceIte, FR, k1, w1, hd, q4, hne]; first | done | rfl) (c1) (Sm.out ?_))
        | (refine WCt.mkrow (c1) (Sm.out ?_))
        | (refine CallV.row (by simp only [hget, ↓reduceIte, FR, k1, w1, hd, q4, hne]; first | done | rfl) (c1) (Sm.out ?_))
        | (refine CallV.mkrow (c1) (Sm.out ?_))
        | (refine CallV.upd (by simp only [hget, ↓reduceIte, FR, k1, w1, hd, q4, hne]; first | done | rfl) (c1) (Sm.out ?_))
        | (refine CallV.mkobj (c1) (Sm.out ?_))
        | (first | refine CallV.fn (c1) (Sm.out ?_) | refine ExF.mk (c1) (Sm.out ?_) | refine ExG.mk (fun _ => c1) (Sm.out ?_) | refine ExG.mkJ (fun _ => c1) (Sm.out ?_) | refine ExG.mkI (Ob.out ?_) (fun _ => c1) (Sm.out ?_))
        | (refine WCt.row (by simp only [hget, ↓reduceIte, FR, k1, w1, hd, q4, hne]; first | done | rfl) (c2 nb2 nb3 (by omega) (by omega)) (Sm.out ?_))
        | (refine WCt.mkrow (c2 nb2 nb3 (by omega) (by omega)) (Sm.out ?_))
        | (refine CallV.row (by simp only [hget, ↓reduceIte, FR, k1, w1, hd, q4, hne]; first | done | rfl) (c2 nb2 nb3 (by omega) (by omega)) (Sm.out ?_))
        | (refine CallV.mkrow (c2 nb2 nb3 (by omega) (by omega)) (Sm.out ?_))
        | (refine CallV.upd (by simp only [hget, ↓reduceIte, FR, k1, w1, hd, q4, hne]; first | done | rfl) (c2 nb2 nb3 (by omega) (by omega)) (Sm.out ?_))
        | (refine CallV.mkobj (c2 nb2 nb3 (by omega) (by omega)) (Sm.out ?_))
        | (first | refine CallV.fn (c2 nb2 nb3 (by omega) (by omega)) (Sm.out ?_) | refine ExF.mk (c2 nb2 nb3 (by omega) (by omega)) (Sm.out ?_) | refine ExG.mk (fun _ => c2 nb2 nb3 (by omega) (by omega)) (Sm.out ?_) | refine ExG.mkJ (fun _ => c2 nb2 nb3 (by omega) (by omega)) (Sm.out ?_) | refine ExG.mkI (Ob.out ?_) (fun _ => c2 nb2 nb3 (by omega) (by omega)) (Sm.out ?_))
        | (refine WP.seq fun K hK => ?_)
        | (refine WP.region (rvc_sound _ _ (Sm.out ?_)))
        | (refine WP.drawW (c := 3) (k := 6) (bs := [b]) mixed (by decide +kernel) (by decide +kernel) (Sm.out ?_))
        | (refine WP.drawW (c := 3) (k := 6) (bs := []) mixed (by decide +kernel) (by decide +kernel) (Sm.out ?_))
        | (refine WP.drawK rfl mixed (by decide +kernel) (Sm.out ?_))
        | (refine Ob.mk ?_; focus (first | assumption | omega | decide | trivial | (intro hob; simp only [hob, ZF]; done) | (intros; (repeat' refine And.intro ?_ ?_) <;> first | assumption | omega | trivial | decide) | (intros; simp only [ZE] at *; (repeat' refine And.intro ?_ ?_) <;> first | assumption | omega | trivial)))
        | (refine And.intro (Ob.out ?_) ?_)
        | (refine WP.block ?_)
        | (refine WP.cond rfl (fun hc => ?_) (fun hc => ?_) <;> (try simp only [ZC, reduceCtorEq, ZD] at hc) <;> (try (exact absurd hc (by decide))) <;> (try (exfalso; omega)))
        | ((first | refine WP.skip ?_ | refine WP.exit ?_); simp only [SeqQ, BlkQ, LoopQ, BodyQ, ↓reduceIte, Nat.reduceEqDiff, reduceCtorEq, look, true_and])
        | (refine WP.ret (Sm.out ?_))
        | (first | refine ExG.no (Sm.out ?_) | refine Or.inl (ExG.no (Sm.out ?_)) | refine Or.inl (And.intro (fun hg => absurd hg (by decide)) (ExG.no (Sm.out ?_))))
        | (refine Rt.mk ?_; refine And.intro ?_ ?_ <;> (intro hg; first | exact absurd hg (by decide) | refine Sm.out ?_))
        | (refine Nu.mk ?_; first | (fail_if_success (have := nb1)); intro nb1 | (fail_if_success (have := nb2)); intro nb2 | (fail_if_success (have := nb3)); intro nb3 | (fail_if_success (have := nb4)); intro nb4 | (fail_if_success (have := nb5)); intro nb5 | intro nbz)
        | (refine Fr.mk ?_; intro hfr; replace FR := And.intro hfr FR; clear hfr; refine Sm.out ?_)
        | (refine Two.mk ?_ ?_)
        | (refine Cs.mk ?_; intro hcs; first | exact False.elim hcs | (exfalso; omega) | (refine Sm.out ?_))
        | go_step
        | omega
        | (simp only [maxLen_eq]; omega)
        | (refine Or.inr (Rt.mk ?_); refine And.intro ?_ ?_ <;> (intro hg; first | exact absurd hg (by decide) | refine Sm.out ?_))
      all_goals exact ⟨⟨0 + 1, some (nb4, nb5)⟩, ⟨by simp only; omega, by simp only [okO, e3]; omega, fun h => by cases h⟩, by simp only; omega, by simp only [slO, hpO, e3]; exact (Sub.pick (by simp [pickB, hget, hdel, FR, hne, y1]) (by simp [look, hne, y1]))⟩
  · obtain rfl : i = k := by omega
    have k1 : decide ((i : Int) < (i : Int)) = false := by simp
    cases o with
    | none => have := q2 rfl; omega
    | some p =>
      obtain ⟨b, cap⟩ := p
      simp only [slO, hpO, okO] at q1 ⊢
      (refine WP.nd fun hnd => ?_; simp only [ndF, fresh_cons, fresh_nil, and_true, ne_eq] at hnd; replace FR := And.intro hnd FR; clear hnd)
      obtain ⟨D, hD⟩ : ∃ D, D = pzL zs A B i := ⟨_, rfl⟩
      rw [← hD] at q1 ⊢
      first | (have FRx := FR; clear FRx) | (have FR : ¬ ((1 : Nat) = 0) := Nat.one_ne_zero)
      repeat' first
        | (refine Sm.mk ?_; try simp -dsimp only [ZK, rvc, drawF, headN, pureH, stp, dvc, calleeOf, gcall, pev, eff, newB, okd, og, ogs, ogo, ogp, slv, bltv, opd, litv, strip, one, both, putE, St.put, look, gdOf, gdv, picka, pickv, pickw, binv, bini, bins, binb, binp, bina, shp, eqCells, unv, convv, nilv, faddv, addp, idxav, idxp, load1, load1m, loadn, loadnm, loadv, hget, hset, hrep, hdel, slicev, bnd, shift1, lenv, IntKind.bits, extractv, fieldv, indexv, min2v, max2v, mkiv, cellsA, fillA, buildv, stC, oneC, rowMB, intsA, plN, appE, appZ, appC, appNZ, appNC, VwL, srcC, srcZ, srcM, isBoolT, isPtrT, isSliceT, uOk, Value.oneCell', Nat.reducePow, Int.reducePow, Nat.reduceAdd, Nat.reduceMul, Nat.reduceSub, Nat.reduceLT, Nat.reduceLeDiff, Nat.reduceEqDiff, Nat.reduceBEq, Nat.reduceDiv, Nat.reduceMod, ↓reduceIte, reduceCtorEq, Int.reduceToNat, Int.reduceLT, Int.reduceLE, drawWF, splitH, calleeV, putE, hdel, TFRhE, SeqQ, BlkQ, LoopQ, BodyQ, k1, FR])
        | (refine WP.seq fun K hK => ?_)
        | (refine WP.region (rvc_sound _ _ (Sm.out ?_)))
        | (refine WP.drawW (c := 3) (k := 6) (bs := [b]) mixed (by decide +kernel) (by decide +kernel) (Sm.out ?_))
        | (refine WP.drawW (c := 3) (k := 6) (bs := []) mixed (by decide +kernel) (by decide +kernel) (Sm.out ?_))
        | (refine WP.drawK rfl mixed (by decide +kernel) (Sm.out ?_))
        | (refine Ob.mk ?_; focus (first | assumption | omega | decide | trivial | (intro hob; simp only [hob, ZF]; done) | (intros; (repeat' refine And.intro ?_ ?_) <;> first | assumption | omega | trivial | decide) | (intros; simp only [ZE] at *; (repeat' refine And.intro ?_ ?_) <;> first | assumption | omega | trivial)))
        | (refine And.intro (Ob.out ?_) ?_)
        | (refine WP.block ?_)
        | (refine WP.cond rfl (fun hc => ?_) (fun hc => ?_) <;> (try simp only [ZC, reduceCtorEq, ZD] at hc) <;> (try (exact absurd hc (by decide))) <;> (try (exfalso; omega)))
        | ((first | refine WP.skip ?_ | refine WP.exit ?_); simp only [SeqQ, BlkQ, LoopQ, BodyQ, ↓reduceIte, Nat.reduceEqDiff, reduceCtorEq, look, true_and])
        | (refine WP.ret (Sm.out ?_))
        | (first | refine ExG.no (Sm.out ?_) | refine Or.inl (ExG.no (Sm.out ?_)) | refine Or.inl (And.intro (fun hg => absurd hg (by decide)) (ExG.no (Sm.out ?_))))
        | (refine Rt.mk ?_; refine And.intro ?_ ?_ <;> (intro hg; first | exact absurd hg (by decide) | refine Sm.out ?_))
        | (refine Nu.mk ?_; first | (fail_if_success (have := nb1)); intro nb1 | (fail_if_success (have := nb2)); intro nb2 | (fail_if_success (have := nb3)); intro nb3 | (fail_if_success (have := nb4)); intro nb4 | (fail_if_success (have := nb5)); intro nb5 | intro nbz)
        | (refine Fr.mk ?_; intro hfr; replace FR := And.intro hfr FR; clear hfr; refine Sm.out ?_)
        | (refine Two.mk ?_ ?_)
        | (refine Cs.mk ?_; intro hcs; first | exact False.elim hcs | (exfalso; omega) | (refine Sm.out ?_))
        | go_step
        | omega
        | (simp only [maxLen_eq]; omega)
        | (refine Or.inr (Rt.mk ?_); refine And.intro ?_ ?_ <;> (intro hg; first | exact absurd hg (by decide) | refine Sm.out ?_))
      rw [← hD]
      (refine OutQ.drop _ _ (perm3 (by simp only [hget, hdel, ↓reduceIte, if_true, if_false, FR, hne]; first | done | rfl) (by simp only [hget, hdel, ↓reduceIte, if_true, if_false, FR, hne]; first | done | rfl) (by simp only [hget, hdel, ↓reduceIte, if_true, if_false, FR, hne]; first | done | rfl)) (by simp only [resv, ZK, look, loadv, loadn, loadnm, load1, load1m, hget, ↓reduceIte, Nat.reduceEqDiff, Nat.reduceAdd, Nat.reduceMul, Nat.reduceLeDiff, Nat.reduceLT, reduceCtorEq, TFRhE, FR, hne]) ⟨⟨(b, cap), by simp only; omega⟩, (by simp only [resv, resA, ZK, look, loadv, loadn, loadnm, load1, load1m, hget, ↓reduceIte, Nat.reduceEqDiff, Nat.reduceAdd, Nat.reduceMul, Nat.reduceLeDiff, Nat.reduceLT, reduceCtorEq, TFRhE, FR, hne]; first | done | rfl), rfl⟩)
end Go.Proofs.Ytbnkmhlnoaebcaa
namespace Go.Proofs.Ytbnkmhlnoaebcaa
open Go Wi
set_option linter.unusedVariables false
set_option linter.unusedSimpArgs false
/-- buckets, one behind the other, as events -/
def rdE (w k now : Nat) : Nat → List Ev → List Int → Option (List Ev × List Int)
  | 0, E, zs => some (E, zs)
  | j + 1, E, zs => match nF zs with
    | none => none
    | some (g, z1) => match nF z1 with
      | none => none
      | some (t, z2) =>
        if t < g ∨ 9223372036854775807 < sT (winP now w k) E + t then none
        else if k ≤ now / w + 1 + (k - (j + 1)) then rdE w k now j (E ++ [⟨(now / w + 1 + (k - (j + 1)) - k) * w, g, t⟩]) z2
        else if g = 0 ∧ t = 0 then rdE w k now j E z2 else none
/-- what is known of the events of so many buckets -/
structure RI (w k now i : Nat) (E : List Ev) : Prop where
  at_ : ∀ e ∈ E, e.at_ ≤ now
  gt : ∀ e ∈ E, e.g ≤ e.t
  len : E.length ≤ i
  sum : sT (winP now w k) E ≤ 9223372036854775807
  cls : ∀ e ∈ E, e.at_ / w + k < now / w + 1 + i ∧ now / w < e.at_ / w + k
theorem RI.zero (w k now : Nat) : RI w k now 0 [] := ⟨fun e he => (by cases he), fun e he => (by cases he), by simp, by simp [sT], fun e he => (by cases he)⟩
theorem RI.next {w k now i : Nat} {E : List Ev} (h : RI w k now i E) : RI w k now (i + 1) E := ⟨h.at_, h.gt, by have := h.len; omega, h.sum, fun e he => by have := h.cls e he; omega⟩
theorem RI.add {w k now i g t : Nat} {E : List Ev} (hw : 1 ≤ w) (h : RI w k now i E) (hi : i < k) (hk : k ≤ now / w + 1 + i) (hgt : g ≤ t) (hs : sT (winP now w k) E + t ≤ 9223372036854775807) :
    RI w k now (i + 1) (E ++ [⟨(now / w + 1 + i - k) * w, g, t⟩]) := by
  have hm : (now / w + 1 + i - k) * w / w = now / w + 1 + i - k := Nat.mul_div_cancel _ (by omega)
  have hle : (now / w + 1 + i - k) * w ≤ now := Nat.le_trans (Nat.mul_le_mul_right w (show now / w + 1 + i - k ≤ now / w by omega)) (Nat.div_mul_le_self now w)
  refine ⟨?_, ?_, by have := h.len; simp; omega, ?_, ?_⟩
  · intro e he
    rcases List.mem_append.1 he with he | he
    · exact h.at_ e he
    · rw [List.mem_singleton.1 he]; exact hle
  · intro e he
    rcases List.mem_append.1 he with he | he
    · exact h.gt e he
    · rw [List.mem_singleton.1 he]; exact hgt
  · rw [sT_app]
    have : sT (winP now w k) [⟨(now / w + 1 + i - k) * w, g, t⟩] ≤ t := by unfold sT; split <;> simp [sT]
    omega
  · intro e he
    rcases List.mem_append.1 he with he | he
    · have := h.cls e he; omega
    · rw [List.mem_singleton.1 he]; simp only [hm]; omega
theorem mod_ne {a b k : Nat} (h1 : a < b) (h2 : b < a + k) : a % k ≠ b % k := by
  intro h
  have h3 := Nat.sub_mod_eq_zero_of_mod_eq h.symm
  have h4 : (b - a) % k = b - a := Nat.mod_eq_of_lt (by omega)
  omega
abbrev bkG (w k now : Nat) (E : List Ev) : Nat → Nat := bkA (slG (now / w) w k E) k (now / w)
abbrev bkT (w k now : Nat) (E : List Ev) : Nat → Nat := bkA (slT (now / w) w k E) k (now / w)
theorem bk_zero {w k now i j : Nat} {E : List Ev} (h : RI w k now i E) (hij : i ≤ j) (hj : j < k) : bkG w k now E j = 0 ∧ bkT w k now E j = 0 := by
  unfold bkG bkT bkA
  by_cases hk : k ≤ now / w + 1 + j
  · rw [if_pos hk, if_pos hk]
    have key : ∀ e ∈ E, slP (now / w) w k ((now / w + 1 + j - k) % k) e.at_ = false := by
      intro e he
      have := h.cls e he
      unfold slP
      have hne := mod_ne (a := e.at_ / w) (b := now / w + 1 + j - k) (k := k) (by omega) (by omega)
      simp [hne]
    exact ⟨sG_none key, sT_none key⟩
  · rw [if_neg hk, if_neg hk]; exact ⟨rfl, rfl⟩
theorem bk_add {w k now i g t : Nat} {E : List Ev} (hw : 1 ≤ w) (h : RI w k now i E) (hi : i < k) (hk : k ≤ now / w + 1 + i) : ∀ j, j < k →
    bkG w k now (E ++ [⟨(now / w + 1 + i - k) * w, g, t⟩]) j = (if j = i then g else bkG w k now E j) ∧ bkT w k now (E ++ [⟨(now / w + 1 + i - k) * w, g, t⟩]) j = (if j = i then t else bkT w k now E j) := by
  intro j hj
  have hm : (now / w + 1 + i - k) * w / w = now / w + 1 + i - k := Nat.mul_div_cancel _ (by omega)
  have a1 := add_slG (ne := now / w) (w := w) (k := k) (m := (now / w + 1 + i - k) * w) (g := g) (t := t) (E := E) (by rw [hm]; omega)
  have a2 := add_slT (ne := now / w) (w := w) (k := k) (m := (now / w + 1 + i - k) * w) (g := g) (t := t) (E := E) (by rw [hm]; omega)
  rw [hm] at a1 a2
  have z := bk_zero h (Nat.le_refl i) hi
  unfold bkG bkT bkA at z ⊢
  rw [if_pos hk, if_pos hk] at z
  rw [a1, a2, z.1, z.2]
  by_cases hji : j = i
  · subst hji
    simp [upd, hk]
  · rw [if_neg hji, if_neg hji]
    by_cases hkj : k ≤ now / w + 1 + j
    · rw [if_pos hkj, if_pos hkj, if_pos hkj, if_pos hkj]
      have hne : (now / w + 1 + j - k) % k ≠ (now / w + 1 + i - k) % k := by
        rcases Nat.lt_or_gt_of_ne hji with hlt | hlt
        · exact mod_ne (by omega) (by omega)
        · exact (mod_ne (by omega) (by omega)).symm
      unfold upd
      rw [if_neg hne, if_neg hne]
      exact ⟨rfl, rfl⟩
    · rw [if_neg hkj, if_neg hkj, if_neg hkj, if_neg hkj]; exact ⟨rfl, rfl⟩
/-- the rest of the buckets -/
def pdF (A B : Nat → Nat) (i : Nat) : Nat → List Int
  | 0 => []
  | j + 1 => putL 0 (A i) ++ (putL 0 (B i) ++ pdF A B (i + 1) j)
theorem pdL_pdF (A B : Nat → Nat) : ∀ (j i : Nat), pdL A B (i + j) = pdL A B i ++ pdF A B i j
  | 0, i => by simp [pdF]
  | j + 1, i => by
    rw [show i + (j + 1) = (i + 1) + j by omega, pdL_pdF A B j (i + 1), pdL, pdF]
    simp only [List.append_assoc]
theorem sumN_mono {f : Nat → Nat} {i k : Nat} (h : i ≤ k) : sumN f i ≤ sumN f k := by
  induction k with
  | zero => obtain rfl : i = 0 := by omega
            exact Nat.le_refl _
  | succ k ih =>
    rcases Nat.lt_or_ge i (k + 1) with h1 | h1
    · have := ih (by omega); rw [sumN]; omega
    · obtain rfl : i = k + 1 := by omega
      exact Nat.le_refl _
theorem rdE_put {w k now : Nat} {A B : Nat → Nat} (hw : 1 ≤ w) (hAB : ∀ i, i < k → A i ≤ B i) (h0 : ∀ i, i < k → ¬ k ≤ now / w + 1 + i → A i = 0 ∧ B i = 0) (hs : sumN B k ≤ 9223372036854775807) (rest : List Int) :
    ∀ (j : Nat) (E : List Ev), j ≤ k → RI w k now (k - j) E → (∀ i, i < k - j → bkG w k now E i = A i ∧ bkT w k now E i = B i) → sT (winP now w k) E = sumN B (k - j) →
      ∃ E', rdE w k now j E (pdF A B (k - j) j ++ rest) = some (E', rest) ∧ RI w k now k E' ∧ (∀ i, i < k → bkG w k now E' i = A i ∧ bkT w k now E' i = B i) ∧ sT (winP now w k) E' = sumN B k
  | 0, E, hj, hR, hb, hsum => ⟨E, by simp [rdE, pdF], hR, hb, hsum⟩
  | j + 1, E, hj, hR, hb, hsum => by
    obtain ⟨i, hi⟩ : ∃ i, i = k - (j + 1) := ⟨_, rfl⟩
    have hi1 : k - j = i + 1 := by omega
    rw [rdE, ← hi]
    rw [← hi] at hR hb hsum
    have hik : i < k := by omega
    have hBi : B i ≤ 9223372036854775807 := Nat.le_trans (sumN_ge B hik) hs
    have hAi := hAB i hik
    have hsi : sumN B i + B i ≤ 9223372036854775807 := by have := sumN_mono (f := B) (show i + 1 ≤ k by omega); rw [sumN] at this; omega
    rw [pdF, List.append_assoc, nF_put _ _ (by omega)]
    simp only
    rw [List.append_assoc, nF_put _ _ (by omega)]
    simp only
    rw [if_neg (by omega)]
    by_cases hk : k ≤ now / w + 1 + i
    · rw [if_pos hk]
      have ba := bk_add (g := A i) (t := B i) hw hR hik hk
      have hm : (now / w + 1 + i - k) * w / w = now / w + 1 + i - k := Nat.mul_div_cancel _ (by omega)
      have := rdE_put hw hAB h0 hs rest j (E ++ [⟨(now / w + 1 + i - k) * w, A i, B i⟩]) (by omega) (by rw [hi1]; exact hR.add hw hik hk hAi (by omega)) (fun x hx => by
          have b := ba x (by omega)
          by_cases hxi : x = i
          · subst hxi; rw [if_pos rfl, if_pos rfl] at b; exact b
          · rw [if_neg hxi, if_neg hxi] at b
            rw [b.1, b.2]
            exact hb x (by omega)) (by
          rw [hi1, sumN, sT_app, hsum]
          congr 1
          simp only [sT, winP, hm]
          rw [if_pos (by simp; omega)]; simp)
      rw [hi1] at this
      exact this
    · rw [if_neg hk]
      have z := h0 i hik hk
      rw [if_pos z]
      have := rdE_put hw hAB h0 hs rest j E (by omega) (by rw [hi1]; exact hR.next) (fun x hx => by
          by_cases hxi : x = i
          · subst hxi
            have b := bk_zero hR (Nat.le_refl _) hik
            rw [b.1, b.2, z.1, z.2]; exact ⟨rfl, rfl⟩
          · exact hb x (by omega)) (by rw [hi1, sumN, hsum, z.2]; rfl)
      rw [hi1] at this
      exact this
theorem sl_eq {w k now : Nat} {E E' : List Ev} (hk1 : 1 ≤ k) (h1 : ∀ e ∈ E, e.at_ ≤ now) (h2 : ∀ e ∈ E', e.at_ ≤ now) (hb : ∀ i, i < k → bkG w k now E' i = bkG w k now E i ∧ bkT w k now E' i = bkT w k now E i) :
    ∀ j, j < k → slG (now / w) w k E' j = slG (now / w) w k E j ∧ slT (now / w) w k E' j = slT (now / w) w k E j := by
  intro j hj
  by_cases hc : ∃ i, i < k ∧ k ≤ now / w + 1 + i ∧ (now / w + 1 + i - k) % k = j
  · obtain ⟨i, hi, hk, rfl⟩ := hc
    have := hb i hi
    unfold bkG bkT bkA at this
    rw [if_pos hk, if_pos hk, if_pos hk, if_pos hk] at this
    exact this
  · have key : ∀ F : List Ev, (∀ e ∈ F, e.at_ ≤ now) → ∀ e ∈ F, slP (now / w) w k j e.at_ = false := by
      intro F hF e he
      have hle := Nat.div_le_div_right (c := w) (hF e he)
      unfold slP
      simp only [Bool.and_eq_false_iff, decide_eq_false_iff_not]
      generalize e.at_ / w = q at *
      generalize now / w = nn at *
      by_cases hn : nn < q + k
      · right
        intro hmod
        exact hc ⟨q + k - nn - 1, by omega, by omega, by rw [show nn + 1 + (q + k - nn - 1) - k = q by omega]; exact hmod⟩
      · left; exact hn
    exact ⟨(sG_none (key E' h2)).trans (sG_none (key E h1)).symm, (sT_none (key E' h2)).trans (sT_none (key E h1)).symm⟩
theorem lL_congr {A B A' B' : Nat → Nat} : ∀ {k : Nat}, (∀ j, j < k → A j = A' j ∧ B j = B' j) → lL k A B = lL k A' B'
  | 0, _ => rfl
  | k + 1, h => by rw [lL, lL, lL_congr fun j hj => h j (by omega), (h k (by omega)).1, (h k (by omega)).2]
/-- rings of the same buckets are the same -/
theorem ring_eq {w k now lb : Nat} {E E' : List Ev} (hk1 : 1 ≤ k) (h1 : ∀ e ∈ E, e.at_ ≤ now) (h2 : ∀ e ∈ E', e.at_ ≤ now) (hb : ∀ i, i < k → bkG w k now E' i = bkG w k now E i ∧ bkT w k now E' i = bkT w k now E i) :
    R1 lb w k E' now = R1 lb w k E now ∧ L1 w k E' now = L1 w k E now := by
  have h := sl_eq hk1 h1 h2 hb
  have hG := slG_sum (now / w) w k hk1
  have hT := slT_sum (now / w) w k hk1
  have eG : sG (winP now w k) E' = sG (winP now w k) E := by
    show sG (fun a => decide (now / w < a / w + k)) E' = sG (fun a => decide (now / w < a / w + k)) E
    rw [← hG E', ← hG E]; exact sumN_congr fun j hj => (h j hj).1
  have eT : sT (winP now w k) E' = sT (winP now w k) E := by
    show sT (fun a => decide (now / w < a / w + k)) E' = sT (fun a => decide (now / w < a / w + k)) E
    rw [← hT E', ← hT E]; exact sumN_congr fun j hj => (h j hj).2
  unfold R1 L1 lbM
  rw [eG, eT, lL_congr h]
  exact ⟨rfl, rfl⟩
end Go.Proofs.Ytbnkmhlnoaebcaa
namespace Go.Proofs.Ytbnkmhlnoaebcaa
open Go Wi
set_option linter.unusedVariables false
set_option linter.unusedSimpArgs false
theorem rdE_some {w k now j : Nat} {E : List Ev} {zs : List Int} {p : List Ev × List Int} (h : rdE w k now (j + 1) E zs = some p) :
    ∃ g z1 t z2, nF zs = some (g, z1) ∧ nF z1 = some (t, z2) ∧ g ≤ t ∧ sT (winP now w k) E + t ≤ 9223372036854775807 ∧
      ((k ≤ now / w + 1 + (k - (j + 1)) ∧ rdE w k now j (E ++ [⟨(now / w + 1 + (k - (j + 1)) - k) * w, g, t⟩]) z2 = some p) ∨
        (¬ k ≤ now / w + 1 + (k - (j + 1)) ∧ g = 0 ∧ t = 0 ∧ rdE w k now j E z2 = some p)) := by
  rw [rdE] at h
  cases h1 : nF zs with
  | none => rw [h1] at h; cases h
  | some a =>
    obtain ⟨g, z1⟩ := a
    rw [h1] at h
    simp only at h
    cases h2 : nF z1 with
    | none => rw [h2] at h; cases h
    | some b =>
      obtain ⟨t, z2⟩ := b
      rw [h2] at h
      simp only at h
      split at h
      · cases h
      rename_i hg
      refine ⟨g, z1, t, z2, rfl, h2, by omega, by omega, ?_⟩
      split at h
      · rename_i hk; exact .inl ⟨hk, h⟩
      · rename_i hk
        split at h
        · rename_i h0; exact .inr ⟨hk, h0.1, h0.2, h⟩
        · cases h
theorem grow_step (rb lb w k now m i g t : Nat) (E : List Ev) (hne : rb ≠ lb ∧ lb ≠ rb) (hw : 1 ≤ w) (hk1 : 1 ≤ k) (hk2 : k ≤ 60) (hnow : now ≤ 253402300799) (h : RI w k now i E) (hgt : g ≤ t) (hs : sT (winP now w k) E + t ≤ 9223372036854775807) (hm : now / w < m + k) :
    ACt Try.prog 39 [pt rb 0, pt lb (m % k * 2), cnt g t] [(rb, rbM lb w k (now / w) now (sG (winP now w k) E) (sT (winP now w k) E)), (lb, lbM k (slG (now / w) w k E) (slT (now / w) w k E))]
      (fun r F' => r = .tup [] ∧ F' = [(rb, rbM lb w k (now / w) now (sG (winP now w k) (E ++ [⟨m * w, g, t⟩])) (sT (winP now w k) (E ++ [⟨m * w, g, t⟩]))), (lb, lbM k (slG (now / w) w k (E ++ [⟨m * w, g, t⟩])) (slT (now / w) w k (E ++ [⟨m * w, g, t⟩])))]) := by
  have hg : sG (winP now w k) E ≤ sT (winP now w k) E := sG_le_sT h.gt
  have hj : m % k < k := Nat.mod_lt _ (by omega)
  have hmw : m * w / w = m := Nat.mul_div_cancel _ (by omega)
  have hG := sumN_ge (slG (now / w) w k E) hj
  have hT := sumN_ge (slT (now / w) w k E) hj
  rw [slG_sum _ _ _ hk1] at hG
  rw [slT_sum _ _ _ hk1] at hT
  have hG : slG (now / w) w k E (m % k) ≤ sG (winP now w k) E := hG
  have hT : slT (now / w) w k E (m % k) ≤ sT (winP now w k) E := hT
  have c := grow_ct rb lb w k (now / w) now (sG (winP now w k) E) (sT (winP now w k) E) (m % k) g t (slG (now / w) w k E) (slT (now / w) w k E) hne hj hk2 (by omega) (by omega) (by omega) (by omega)
  have a1 := add_slG (ne := now / w) (w := w) (k := k) (m := m * w) (g := g) (t := t) (E := E) (by rw [hmw]; exact hm)
  have a2 := add_slT (ne := now / w) (w := w) (k := k) (m := m * w) (g := g) (t := t) (E := E) (by rw [hmw]; exact hm)
  rw [hmw] at a1 a2
  have e1 : sG (winP now w k) (E ++ [⟨m * w, g, t⟩]) = sG (winP now w k) E + g := by
    rw [sG_app]; simp [sG, winP, hmw, hm]
  have e2 : sT (winP now w k) (E ++ [⟨m * w, g, t⟩]) = sT (winP now w k) E + t := by
    rw [sT_app]; simp [sT, winP, hmw, hm]
  rw [a1, a2, e1, e2]
  exact c
structure TG where
  i : Nat
  E : List Ev
  zs : List Int
theorem nF_len {zs q : List Int} {n : Nat} (hb : By zs) (h : nF zs = some (n, q)) : n < 18446744073709551616 ∧ By q ∧ q.length ≤ zs.length := by
  have := nF_bd hb h
  exact ⟨this.1, this.2.1, by omega⟩
end Go.Proofs.Ytbnkmhlnoaebcaa
namespace Go.Proofs.Ytbnkmhlnoaebcaa
open Go Wi
set_option linter.unusedVariables false
set_option linter.unusedSimpArgs false
theorem TFRhH : (((((((type_of% tyc0) ∧ (type_of% tyc2)) ∧ ((type_of% zmb2) ∧ (type_of% tyc3))) ∧ (((type_of% zmb3) ∧ (type_of% tyc4)) ∧ ((type_of% zmb4) ∧ (type_of% tyc23)))) ∧ ((((type_of% zmb23) ∧ (type_of% tyc26)) ∧ ((type_of% mth26_30) ∧ (type_of% mth26_39))) ∧ (((type_of% mth26_38) ∧ (type_of% con26)) ∧ ((type_of% zmb26) ∧ (type_of% tyc27))))) ∧ (((((type_of% tyc32) ∧ (type_of% elt32)) ∧ ((type_of% mkz32) ∧ (type_of% mkc32))) ∧ (((type_of% apT32) ∧ (type_of% elk32)) ∧ ((type_of% zmb32) ∧ (type_of% tyc41)))) ∧ ((((type_of% zmb41) ∧ (type_of% tyc43)) ∧ ((type_of% foff43_0) ∧ (type_of% fpart43_0))) ∧ (((type_of% foff43_1) ∧ (type_of% fpart43_1)) ∧ ((type_of% fe43) ∧ ((type_of% zmb43) ∧ (type_of% bldT43))))))) ∧ ((((((type_of% tyc54) ∧ (type_of% mth54_53)) ∧ ((type_of% mth54_50) ∧ (type_of% mth54_54))) ∧ (((type_of% con54) ∧ (type_of% zmb54)) ∧ ((type_of% tyc64) ∧ (type_of% foff64_0)))) ∧ ((((type_of% fpart64_0) ∧ (type_of% foff64_1)) ∧ ((type_of% fpart64_1) ∧ (type_of% foff64_2))) ∧ (((type_of% fpart64_2) ∧ (type_of% foff64_3)) ∧ ((type_of% fpart64_3) ∧ ((type_of% foff64_4) ∧ (type_of% fpart64_4)))))) ∧ (((((type_of% zmb64) ∧ (type_of% bldT64)) ∧ ((type_of% tyc65) ∧ (type_of% zmb65))) ∧ (((type_of% Try.underlying0) ∧ (type_of% Try.underlying2)) ∧ ((type_of% Try.underlying3) ∧ (type_of% Try.underlying4)))) ∧ ((((type_of% Try.underlying23) ∧ (type_of% Try.underlying26)) ∧ ((type_of% Try.underlying27) ∧ (type_of% Try.underlying32))) ∧ (((type_of% Try.underlying41) ∧ (type_of% Try.underlying43)) ∧ ((type_of% Try.underlying54) ∧ ((type_of% Try.underlying64) ∧ (type_of% Try.underlying65)))))))) :=
  ⟨⟨⟨⟨⟨⟨tyc0, tyc2⟩, ⟨zmb2, tyc3⟩⟩, ⟨⟨zmb3, tyc4⟩, ⟨zmb4, tyc23⟩⟩⟩, ⟨⟨⟨zmb23, tyc26⟩, ⟨mth26_30, mth26_39⟩⟩, ⟨⟨mth26_38, con26⟩, ⟨zmb26, tyc27⟩⟩⟩⟩, ⟨⟨⟨⟨tyc32, elt32⟩, ⟨mkz32, mkc32⟩⟩, ⟨⟨apT32, elk32⟩, ⟨zmb32, tyc41⟩⟩⟩, ⟨⟨⟨zmb41, tyc43⟩, ⟨foff43_0, fpart43_0⟩⟩, ⟨⟨foff43_1, fpart43_1⟩, ⟨fe43, ⟨zmb43, bldT43⟩⟩⟩⟩⟩⟩, ⟨⟨⟨⟨⟨tyc54, mth54_53⟩, ⟨mth54_50, mth54_54⟩⟩, ⟨⟨con54, zmb54⟩, ⟨tyc64, foff64_0⟩⟩⟩, ⟨⟨⟨fpart64_0, foff64_1⟩, ⟨fpart64_1, foff64_2⟩⟩, ⟨⟨fpart64_2, foff64_3⟩, ⟨fpart64_3, ⟨foff64_4, fpart64_4⟩⟩⟩⟩⟩, ⟨⟨⟨⟨zmb64, bldT64⟩, ⟨tyc65, zmb65⟩⟩, ⟨⟨Try.underlying0, Try.underlying2⟩, ⟨Try.underlying3, Try.underlying4⟩⟩⟩, ⟨⟨⟨Try.underlying23, Try.underlying26⟩, ⟨Try.underlying27, Try.underlying32⟩⟩, ⟨⟨Try.underlying41, Try.underlying43⟩, ⟨Try.underlying54, ⟨Try.underlying64, Try.underlying65⟩⟩⟩⟩⟩⟩⟩
theorem wr_k {k i : Nat} (hk1 : 1 ≤ k) (hk2 : k ≤ 60) (hi : i < k) (ne : Nat) (hn : ne ≤ 253402300799) : IntKind.i64.wrap ((k : Int) - 1) = (k : Int) - 1 ∧ IntKind.i64.wrap ((k : Int) - 1 - (i : Int)) = (k : Int) - 1 - (i : Int) ∧
    IntKind.i64.wrap ((ne : Int) - ((k : Int) - 1 - (i : Int))) = (ne : Int) + 1 + i - k :=
  ⟨wrap_i64 (by omega) (by omega), wrap_i64 (by omega) (by omega), by rw [wrap_i64 (by omega) (by omega)]; omega⟩
theorem Move_new (rb lb : Nat) {w k : Nat} (ne now : Nat) (hnn : ne = now / w) (hne : rb ≠ lb ∧ lb ≠ rb) (hw : 1 ≤ w) (hk1 : 1 ≤ k) (hk2 : k ≤ 60) (hn : now ≤ 253402300799) :
    ACt Try.prog 20 [pt rb 0, iv .i64 (now : Int)] [(rb, rbM lb w k 0 0 0 0), (lb, lbM k z0 z0)] (fun r F' => r = iv .i64 0 ∧ F' = [(rb, rbM lb w k ne now 0 0), (lb, lbM k z0 z0)]) := by
  have := Move_step rb lb (s := ⟨[], 0, none⟩) now hne hw hk1 hk2 (Inv.zero w k) hn (by simp)
  have e : R1 lb w k [] 0 = rbM lb w k 0 0 0 0 := by simp [R1, sG, sT]
  rw [e] at this
  subst hnn
  exact this
set_option maxRecDepth 8000 in
set_option maxHeartbeats 8000000 in
theorem Get_some (xb W G k w now : Nat) (zs : List Int) (E' : List Ev) (zs' : List Int) (hb : By zs) (hz : zs.length ≤ 10000) (hg : goP W G) (hgo : GoOk W G k w) (hn : now ≤ 253402300799)
    (hres : rdE w k now k [] zs = some (E', zs')) :
    ACt Try.prog 23 [pt xb 0, iv .i64 W, iv .i64 G, iv .i64 now] [(xb, rd zs false)] (fun r F' => ∃ b c, r = pt b 0 ∧ F' = [(b, R1 c w k E' now), (c, L1 w k E' now), (xb, rd zs' false)]) := by
  refine ACt.intro Try.func23 rfl (by kernel_rfl) (by simp [Try.ntmps23]) (fun cx => ?_)
  simp only [argE, Try.ntmps23, Try.results23]
  have hk1 := hgo.k1
  have hk2 := hgo.k2
  have hw := hgo.w0
  have c1 := New_ok W G k w hg hgo
  obtain ⟨ne, hnn⟩ : ∃ ne, ne = now / w := ⟨_, rfl⟩
  have hnel : ne ≤ 253402300799 := by rw [hnn]; exact Nat.le_trans (Nat.div_le_self _ _) hn
  have c3 := fun rb lb h => Move_new rb lb (w := w) (k := k) ne now hnn h hw hk1 hk2 hn
  have z : ((0 : Int) != 0) = false := by decide
  have eG0 : slG ne w k [] = z0 := rfl
  have eT0 : slT ne w k [] = z0 := rfl
  have eG1 : sG (winP now w k) [] = 0 := rfl
  have eT1 : sT (winP now w k) [] = 0 := rfl
  unfold R1 L1
  rw [← hnn]
  first | (have FRx := FR; clear FRx) | (have FR : ¬ ((1 : Nat) = 0) := Nat.one_ne_zero)
  repeat' first
    | (refine Sm.mk ?_; try simp -dsimp only [ZK, rvc, drawF, headN, pureH, stp, dvc, calleeOf, gcall, pev, eff, newB, okd, og, ogs, ogo, ogp, slv, bltv, opd, litv, strip, one, both, putE, St.put, look, gdOf, gdv, picka, pickv, pickw, binv, bini, bins, binb, binp, bina, shp, eqCells, unv, convv, nilv, faddv, addp, idxav, idxp, load1, load1m, loadn, loadnm, loadv, hget, hset, hrep, hdel, slicev, bnd, shift1, lenv, IntKind.bits, extractv, fieldv, indexv, min2v, max2v, mkiv, cellsA, fillA, buildv, stC, oneC, rowMB, intsA, plN, appE, appZ, appC, appNZ, appNC, VwL, srcC, srcZ, srcM, isBoolT, isPtrT, isSliceT, uOk, Value.oneCell', Nat.reducePow, Int.reducePow, Nat.reduceAdd, Nat.reduceMul, Nat.reduceSub, Nat.reduceLT, Nat.reduceLeDiff, Nat.reduceEqDiff, Nat.reduceBEq, Nat.reduceDiv, Nat.reduceMod, ↓reduceIte, reduceCtorEq, Int.reduceToNat, Int.reduceLT, Int.reduceLE, drawCF, xvc, xst, splitH, calleeV, putE, hdel, TFRhH, SeqQ, BlkQ, LoopQ, BodyQ, z, FR])
    | (refine CallV.new2 (F := []) (List.Perm.refl _) (c1) rfl (Sm.out ?_))
    | (refine CallV.updM (c3 nb1 nb2 (by omega)) (perm2 (by simp only [hget, hdel, ↓reduceIte, FR, z]; first | done | rfl) (by simp only [hget, hdel, ↓reduceIte, FR, z]; first | done | rfl)) (Sm.out ?_))
    | (refine ExW.mk (perm2 (by simp only [hget, hdel, ↓reduceIte, FR, z]; first | done | rfl) (by simp only [hget, hdel, ↓reduceIte, FR, z]; first | done | rfl)) (c3 nb1 nb2 (by omega)) rfl (Sm.out ?_))
    | (refine WP.seq fun K hK => ?_)
    | (refine WP.region (rvc_sound _ _ (Sm.out ?_)))
    | (refine WP.drawC (c := 5) (ws := []) (ls := []) (bs := []) mixed (by decide +kernel) (by decide +kernel) (by decide +kernel) (Sm.out ?_))
    | (refine WP.drawK rfl mixed (by decide +kernel) (Sm.out ?_))
    | (refine Ob.mk ?_; focus (first | assumption | omega | decide | trivial | (intro hob; simp only [hob, ZF]; done) | (intros; (repeat' refine And.intro ?_ ?_) <;> first | assumption | omega | trivial | decide) | (intros; simp only [ZE] at *; (repeat' refine And.intro ?_ ?_) <;> first | assumption | omega | trivial)))
    | (refine And.intro (Ob.out ?_) ?_)
    | (refine WP.block ?_)
    | (refine WP.cond rfl (fun hc => ?_) (fun hc => ?_) <;> (try simp only [ZC, reduceCtorEq, ZD] at hc) <;> (try (exact absurd hc (by decide))) <;> (try (exfalso; omega)))
    | ((first | refine WP.skip ?_ | refine WP.exit ?_); simp only [SeqQ, BlkQ, LoopQ, BodyQ, ↓reduceIte, Nat.reduceEqDiff, reduceCtorEq, look, true_and])
    | (refine WP.ret (Sm.out ?_))
    | (first | refine ExG.no (Sm.out ?_) | refine Or.inl (ExG.no (Sm.out ?_)) | refine Or.inl (And.intro (fun hg => absurd hg (by decide)) (ExG.no (Sm.out ?_))))
    | (refine Rt.mk ?_; refine And.intro ?_ ?_ <;> (intro hg; first | exact absurd hg (by decide) | refine Sm.out ?_))
    | (refine Nu.mk ?_; first | (fail_if_success (have := nb1)); intro nb1 | (fail_if_success (have := nb2)); intro nb2 | (fail_if_success (have := nb3)); intro nb3 | intro nbz)
    | (refine Fr.mk ?_; intro hfr; replace FR := And.intro hfr FR; clear hfr; refine Sm.out ?_)
    | (refine Two.mk ?_ ?_)
    | (refine Cs.mk ?_; intro hcs; first | exact False.elim hcs | (exfalso; omega) | (refine Sm.out ?_))
    | go_step
    | omega
    | (simp only [maxLen_eq]; omega)
    | (refine Or.inr (Rt.mk ?_); refine And.intro ?_ ?_ <;> (intro hg; first | exact absurd hg (by decide) | refine Sm.out ?_))
  refine WP.loop (Γ := TG) (fun q => ⟨[(35, iv .i64 q.i), (34, iv .i64 k), (9, pt nb1 0), (0, pt xb 0)], [(nb1, rbM nb2 w k ne now (sG (winP now w k) q.E) (sT (winP now w k) q.E)), (nb2, lbM k (slG ne w k q.E) (slT ne w k q.E)), (xb, rd q.zs false)]⟩)
    (fun q => q.i ≤ k ∧ RI w k now q.i q.E ∧ By q.zs ∧ q.zs.length ≤ 10000 ∧ rdE w k now (k - q.i) q.E q.zs = some (E', zs')) (fun q => k - q.i) ⟨0, [], zs⟩ ⟨by simp, RI.zero w k now, hb, hz, by simpa using hres⟩ (Sub.pick (by simp [pickB, hget, hdel, FR, eG0, eT0, eG1, eT1]) (by simp [look, eG0, eT0, eG1, eT1])) ?_
  intro ⟨i, E, zs⟩ ⟨hi, hR, hb, hz, hres⟩
  simp only at hi hR hb hz hres ⊢
  (refine WP.nd fun hnd => ?_; simp only [ndF, fresh_cons, fresh_nil, and_true, ne_eq] at hnd; replace FR := And.intro hnd FR; clear hnd)
  obtain ⟨SG, hSG⟩ : ∃ SG, SG = sG (winP now w k) E := ⟨_, rfl⟩
  obtain ⟨ST, hST⟩ : ∃ ST, ST = sT (winP now w k) E := ⟨_, rfl⟩
  obtain ⟨LB, hLB⟩ : ∃ LB, LB = lbM k (slG ne w k E) (slT ne w k E) := ⟨_, rfl⟩
  by_cases hlt : i < k
  · have k1 : decide ((i : Int) < (k : Int)) = true := by simp; omega
    have w1 : IntKind.i64.wrap ((i : Int) + 1) = ((i + 1 : Nat) : Int) := by rw [wrap_i64 (by omega) (by omega)]; omega
    obtain ⟨wa, wb, wc⟩ := wr_k hk1 hk2 hlt ne hnel
    obtain ⟨j, hj⟩ : ∃ j, k - i = j + 1 := ⟨k - i - 1, by omega⟩
    rw [hj] at hres
    obtain ⟨g, z1, t, z2, n1, n2, hgt, hov, hh⟩ := rdE_some hres
    have hki : k - (j + 1) = i := by omega
    have hj2 : k - (i + 1) = j := by omega
    rw [hki] at hh
    obtain ⟨hg64, hb1, hl1⟩ := nF_len hb n1
    obtain ⟨ht64, hb2, hl2⟩ := nF_len hb1 n2
    have x1 : ACt Try.prog 42 [pt xb 0] [(xb, rd zs false)] (fun r F' => r = iv .u64 (g : Int) ∧ F' = [(xb, rd z1 false)]) := by
      have := numX xb zs hb hz; rw [n1] at this; exact this
    have x2 : ACt Try.prog 42 [pt xb 0] [(xb, rd z1 false)] (fun r F' => r = iv .u64 (t : Int) ∧ F' = [(xb, rd z2 false)]) := by
      have := numX xb z1 hb1 (by omega); rw [n2] at this; exact this
    have x3 := badR xb z2 false
    have x4 := right_ct g t
    rw [decide_eq_true hgt] at x4
    have x5 := room_ct nb1 nb2 w k ne now SG ST g t (by rw [hST]; exact hR.sum)
    rw [decide_eq_true (show ST + t ≤ 9223372036854775807 by rw [hST]; exact hov)] at x5
    by_cases hk : k ≤ ne + 1 + i
    · have hh := hh.resolve_right (fun h => h.1 (by rw [← hnn]; exact hk))
      obtain ⟨m, hm⟩ : ∃ m, m = ne + 1 + i - k := ⟨_, rfl⟩
      have em : now / w + 1 + i - k = m := by rw [← hnn, hm]
      rw [em] at hh
      have wd : (ne : Int) + 1 + i - k = (m : Int) := by omega
      rw [wd] at wc
      have d1 : decide ((m : Int) < 0) = false := by simp
      have d2 : decide ((m : Int) ≥ 0) = true := by simp
      have x6 := at_ct nb1 nb2 w k ne now SG ST m hk1 hk2 (by omega)
      have x7 := grow_step nb1 nb2 w k now m i g t E (by omega) hw hk1 hk2 hn hR hgt hov (by rw [← hnn]; omega)
      have hR' := hR.add hw hlt (by rw [← hnn]; exact hk) hgt hov
      rw [em] at hR'
      rw [← hnn] at x7
      obtain ⟨SG', hSG'⟩ : ∃ SG', sG (winP now w k) (E ++ [⟨m * w, g, t⟩]) = SG' := ⟨_, rfl⟩
      obtain ⟨ST', hST'⟩ : ∃ ST', sT (winP now w k) (E ++ [⟨m * w, g, t⟩]) = ST' := ⟨_, rfl⟩
      obtain ⟨LB', hLB'⟩ : ∃ LB', lbM k (slG ne w k (E ++ [⟨m * w, g, t⟩])) (slT ne w k (E ++ [⟨m * w, g, t⟩])) = LB' := ⟨_, rfl⟩
      obtain ⟨M, hM⟩ : ∃ M, M = m % k * 2 := ⟨_, rfl⟩
      rw [hSG', hST', hLB', ← hSG, ← hST, ← hLB, ← hM] at x7
      rw [← hM] at x6
      rw [← hSG, ← hST, ← hLB]
      clear hSG hST hLB hM hnn
      first | (have FRx := FR; clear FRx) | (have FR : ¬ ((1 : Nat) = 0) := Nat.one_ne_zero)
      repeat' first
        | (refine Sm.mk ?_; try simp -dsimp only [ZK, rvc, drawF, headN, pureH, stp, dvc, calleeOf, gcall, pev, eff, newB, okd, og, ogs, ogo, ogp, slv, bltv, opd, litv, strip, one, both, putE, St.put, look, gdOf, gdv, picka, pickv, pickw, binv, bini, bins, binb, binp, bina, shp, eqCells, unv, convv, nilv, faddv, addp, idxav, idxp, load1, load1m, loadn, loadnm, loadv, hget, hset, hrep, hdel, slicev, bnd, shift1, lenv, IntKind.bits, extractv, fieldv, indexv, min2v, max2v, mkiv, cellsA, fillA, buildv, stC, oneC, rowMB, intsA, plN, appE, appZ, appC, appNZ, appNC, VwL, srcC, srcZ, srcM, isBoolT, isPtrT, isSliceT, uOk, Value.oneCell', Nat.reducePow, Int.reducePow, Nat.reduceAdd, Nat.reduceMul, Nat.reduceSub, Nat.reduceLT, Nat.reduceLeDiff, Nat.reduceEqDiff, Nat.reduceBEq, Nat.reduceDiv, Nat.reduceMod, ↓reduceIte, reduceCtorEq, Int.reduceToNat, Int.reduceLT, Int.reduceLE, drawCF, xvc, xst, splitH, calleeV, putE, hdel, TFRhH, SeqQ, BlkQ, LoopQ, BodyQ, k1, w1, wa, wb, wc, d1, d2, FR])
        | (refine CallV.upd (by simp only [hget, ↓reduceIte, FR, k1, w1, wa, wb, wc, d1, d2]; first | done | rfl) (x1) (Sm.out ?_))
        | (refine CallV.upd (by simp only [hget, ↓reduceIte, FR, k1, w1, wa, wb, wc, d1, d2]; first | done | rfl) (x2) (Sm.out ?_))
        | (refine CallV.updM (x3) (perm1 (by simp only [hget, hdel, ↓reduceIte, FR, k1, w1, wa, wb, wc, d1, d2]; first | done | rfl)) (Sm.out ?_))
        | ((first | refine ExF.up ?_ (x3) (Sm.out ?_) | refine ExG.up ?_ (fun _ => x3) (Sm.out ?_) | refine ExG.upJ ?_ (fun _ => x3) (Sm.out ?_) | refine ExG.upI ?_ (fun _ => x3) (Ob.out ?_) (Sm.out ?_)); focus (exact ⟨_, (perm1 (by simp only [hget, hdel, ↓reduceIte, FR, k1, w1, wa, wb, wc, d1, d2]; first | done | rfl))⟩))
        | (first | refine CallV.fn (x4) (Sm.out ?_) | refine ExF.mk (x4) (Sm.out ?_) | refine ExG.mk (fun _ => x4) (Sm.out ?_) | refine ExG.mkJ (fun _ => x4) (Sm.out ?_) | refine ExG.mkI (Ob.out ?_) (fun _ => x4) (Sm.out ?_))
        | (refine CallV.updM (x5) (perm1 (by simp only [hget, hdel, ↓reduceIte, FR, k1, w1, wa, wb, wc, d1, d2]; first | done | rfl)) (Sm.out ?_))
        | ((first | refine ExF.up ?_ (x5) (Sm.out ?_) | refine ExG.up ?_ (fun _ => x5) (Sm.out ?_) | refine ExG.upJ ?_ (fun _ => x5) (Sm.out ?_) | refine ExG.upI ?_ (fun _ => x5) (Ob.out ?_) (Sm.out ?_)); focus (exact ⟨_, (perm1 (by simp only [hget, hdel, ↓reduceIte, FR, k1, w1, wa, wb, wc, d1, d2]; first | done | rfl))⟩))
        | (refine CallV.updM (x6) (perm1 (by simp only [hget, hdel, ↓reduceIte, FR, k1, w1, wa, wb, wc, d1, d2]; first | done | rfl)) (Sm.out ?_))
        | ((first | refine ExF.up ?_ (x6) (Sm.out ?_) | refine ExG.up ?_ (fun _ => x6) (Sm.out ?_) | refine ExG.upJ ?_ (fun _ => x6) (Sm.out ?_) | refine ExG.upI ?_ (fun _ => x6) (Ob.out ?_) (Sm.out ?_)); focus (exact ⟨_, (perm1 (by simp only [hget, hdel, ↓reduceIte, FR, k1, w1, wa, wb, wc, d1, d2]; first | done | rfl))⟩))
        | (refine CallV.updM (x7) (perm2 (by simp only [hget, hdel, ↓reduceIte, FR, k1, w1, wa, wb, wc, d1, d2]; first | done | rfl) (by simp only [hget, hdel, ↓reduceIte, FR, k1, w1, wa, wb, wc, d1, d2]; first | done | rfl)) (Sm.out ?_))
        | (refine ExW.mk (perm2 (by simp only [hget, hdel, ↓reduceIte, FR, k1, w1, wa, wb, wc, d1, d2]; first | done | rfl) (by simp only [hget, hdel, ↓reduceIte, FR, k1, w1, wa, wb, wc, d1, d2]; first | done | rfl)) (x7) rfl (Sm.out ?_))
        | (refine WP.seq fun K hK => ?_)
        | (refine WP.region (rvc_sound _ _ (Sm.out ?_)))
        | (refine WP.drawC (c := 5) (ws := []) (ls := []) (bs := []) mixed (by decide +kernel) (by decide +kernel) (by decide +kernel) (Sm.out ?_))
        | (refine WP.drawK rfl mixed (by decide +kernel) (Sm.out ?_))
        | (refine Ob.mk ?_; focus (first | assumption | omega | decide | trivial | (intro hob; simp only [hob, ZF]; done) | (intros; (repeat' refine And.intro ?_ ?_) <;> first | assumption | omega | trivial | decide) | (intros; simp only [ZE] at *; (repeat' refine And.intro ?_ ?_) <;> first | assumption | omega | trivial)))
        | (refine And.intro (Ob.out ?_) ?_)
        | (refine WP.block ?_)
        | (refine WP.cond rfl (fun hc => ?_) (fun hc => ?_) <;> (try simp only [ZC, reduceCtorEq, ZD] at hc) <;> (try (exact absurd hc (by decide))) <;> (try (exfalso; omega)))
        | ((first | refine WP.skip ?_ | refine WP.exit ?_); simp only [SeqQ, BlkQ, LoopQ, BodyQ, ↓reduceIte, Nat.reduceEqDiff, reduceCtorEq, look, true_and])
        | (refine WP.ret (Sm.out ?_))
        | (first | refine ExG.no (Sm.out ?_) | refine Or.inl (ExG.no (Sm.out ?_)) | refine Or.inl (And.intro (fun hg => absurd hg (by decide)) (ExG.no (Sm.out ?_))))
        | (refine Rt.mk ?_; refine And.intro ?_ ?_ <;> (intro hg; first | exact absurd hg (by decide) | refine Sm.out ?_))
        | (refine Nu.mk ?_; first | (fail_if_success (have := nb1)); intro nb1 | (fail_if_success (have := nb2)); intro nb2 | (fail_if_success (have := nb3)); intro nb3 | intro nbz)
        | (refine Fr.mk ?_; intro hfr; replace FR := And.intro hfr FR; clear hfr; refine Sm.out ?_)
        | (refine Two.mk ?_ ?_)
        | (refine Cs.mk ?_; intro hcs; first | exact False.elim hcs | (exfalso; omega) | (refine Sm.out ?_))
        | go_step
        | omega
        | (simp only [maxLen_eq]; omega)
        | (refine Or.inr (Rt.mk ?_); refine And.intro ?_ ?_ <;> (intro hg; first | exact absurd hg (by decide) | refine Sm.out ?_))
      exact ⟨⟨i + 1, E ++ [⟨m * w, g, t⟩], z2⟩, ⟨by simp only; omega, hR', hb2, by simp only; omega, by simp only; rw [hj2]; exact hh.2⟩, by simp only; omega, (Sub.pick (by simp [pickB, hget, hdel, FR, hSG', hST', hLB']) (by simp [look, hSG', hST', hLB']))⟩
    · obtain ⟨-, rfl, rfl, h9⟩ := hh.resolve_left (fun h => hk (by rw [hnn]; exact h.1))
      clear hh
      have d1 : decide ((ne : Int) + 1 + i - k < 0) = true := by simp; omega
      have d2 : decide ((ne : Int) + 1 + i - k ≥ 0) = false := by simp; omega
      have z5 : ((0 : Int) == 0) = true := by decide
      have y0 : ((0 : Nat) : Int) = 0 := rfl
      rw [y0] at x1 x2
      have x4 : ACt Try.prog 37 [.agg [iv .u64 0, iv .u64 0]] [] (Fn (bv true)) := x4
      have x5 : ACt Try.prog 38 [pt nb1 0, .agg [iv .u64 0, iv .u64 0]] [(nb1, rbM nb2 w k ne now SG ST)] (fun r F' => r = bv true ∧ F' = [(nb1, rbM nb2 w k ne now SG ST)]) := x5
      rw [← hSG, ← hST, ← hLB]
      first | (have FRx := FR; clear FRx) | (have FR : ¬ ((1 : Nat) = 0) := Nat.one_ne_zero)
      repeat' first
        | (refine Sm.mk ?_; try simp -dsimp only [ZK, rvc, drawF, headN, pureH, stp, dvc, calleeOf, gcall, pev, eff, newB, okd, og, ogs, ogo, ogp, slv, bltv, opd, litv, strip, one, both, putE, St.put, look, gdOf, gdv, picka, pickv, pickw, binv, bini, bins, binb, binp, bina, shp, eqCells, unv, convv, nilv, faddv, addp, idxav, idxp, load1, load1m, loadn, loadnm, loadv, hget, hset, hrep, hdel, slicev, bnd, shift1, lenv, IntKind.bits, extractv, fieldv, indexv, min2v, max2v, mkiv, cellsA, fillA, buildv, stC, oneC, rowMB, intsA, plN, appE, appZ, appC, appNZ, appNC, VwL, srcC, srcZ, srcM, isBoolT, isPtrT, isSliceT, uOk, Value.oneCell', Nat.reducePow, Int.reducePow, Nat.reduceAdd, Nat.reduceMul, Nat.reduceSub, Nat.reduceLT, Nat.reduceLeDiff, Nat.reduceEqDiff, Nat.reduceBEq, Nat.reduceDiv, Nat.reduceMod, ↓reduceIte, reduceCtorEq, Int.reduceToNat, Int.reduceLT, Int.reduceLE, drawCF, xvc, xst, splitH, calleeV, putE, hdel, TFRhH, SeqQ, BlkQ, LoopQ, BodyQ, k1, w1, wa, wb, wc, d1, d2, z5, fe43, FR])
        | (refine CallV.upd (by simp only [hget, ↓reduceIte, FR, k1, w1, wa, wb, wc, d1, d2, z5, fe43]; first | done | rfl) (x1) (Sm.out ?_))
        | (refine CallV.upd (by simp only [hget, ↓reduceIte, FR, k1, w1, wa, wb, wc, d1, d2, z5, fe43]; first | done | rfl) (x2) (Sm.out ?_))
        | (refine CallV.updM (x3) (perm1 (by simp only [hget, hdel, ↓reduceIte, FR, k1, w1, wa, wb, wc, d1, d2, z5, fe43]; first | done | rfl)) (Sm.out ?_))
        | ((first | refine ExF.up ?_ (x3) (Sm.out ?_) | refine ExG.up ?_ (fun _ => x3) (Sm.out ?_) | refine ExG.upJ ?_ (fun _ => x3) (Sm.out ?_) | refine ExG.upI ?_ (fun _ => x3) (Ob.out ?_) (Sm.out ?_)); focus (exact ⟨_, (perm1 (by simp only [hget, hdel, ↓reduceIte, FR, k1, w1, wa, wb, wc, d1, d2, z5, fe43]; first | done | rfl))⟩))
        | (first | refine CallV.fn (x4) (Sm.out ?_) | refine ExF.mk (x4) (Sm.out ?_) | refine ExG.mk (fun _ => x4) (Sm.out ?_) | refine ExG.mkJ (fun _ => x4) (Sm.out ?_) | refine ExG.mkI (Ob.out ?_) (fun _ => x4) (Sm.out ?_))
        | (refine CallV.updM (x5) (perm1 (by simp only [hget, hdel, ↓reduceIte, FR, k1, w1, wa, wb, wc, d1, d2, z5, fe43]; first | done | rfl)) (Sm.out ?_))
        | ((first | refine ExF.up ?_ (x5) (Sm.out ?_) | refine ExG.up ?_ (fun _ => x5) (Sm.out ?_) | refine ExG.upJ ?_ (fun _ => x5) (Sm.out ?_) | refine ExG.upI ?_ (fun _ => x5) (Ob.out ?_) (Sm.out ?_)); focus (exact ⟨_, (perm1 (by simp only [hget, hdel, ↓reduceIte, FR, k1, w1, wa, wb, wc, d1, d2, z5, fe43]; first | done | rfl))⟩))
        | (refine WP.seq fun K hK => ?_)
        | (refine WP.region (rvc_sound _ _ (Sm.out ?_)))
        | (refine WP.drawC (c := 5) (ws := []) (ls := []) (bs := []) mixed (by decide +kernel) (by decide +kernel) (by decide +kernel) (Sm.out ?_))
        | (refine WP.drawK rfl mixed (by decide +kernel) (Sm.out ?_))
        | (refine Ob.mk ?_; focus (first | assumption | omega | decide | trivial | (intro hob; simp only [hob, ZF]; done) | (intros; (repeat' refine And.intro ?_ ?_) <;> first | assumption | omega | trivial | decide) | (intros; simp only [ZE] at *; (repeat' refine And.intro ?_ ?_) <;> first | assumption | omega | trivial)))
        | (refine And.intro (Ob.out ?_) ?_)
        | (refine WP.block ?_)
        | (refine WP.cond rfl (fun hc => ?_) (fun hc => ?_) <;> (try simp only [ZC, reduceCtorEq, ZD] at hc) <;> (try (exact absurd hc (by decide))) <;> (try (exfalso; omega)))
        | ((first | refine WP.skip ?_ | refine WP.exit ?_); simp only [SeqQ, BlkQ, LoopQ, BodyQ, ↓reduceIte, Nat.reduceEqDiff, reduceCtorEq, look, true_and])
        | (refine WP.ret (Sm.out ?_))
        | (first | refine ExG.no (Sm.out ?_) | refine Or.inl (ExG.no (Sm.out ?_)) | refine Or.inl (And.intro (fun hg => absurd hg (by decide)) (ExG.no (Sm.out ?_))))
        | (refine Rt.mk ?_; refine And.intro ?_ ?_ <;> (intro hg; first | exact absurd hg (by decide) | refine Sm.out ?_))
        | (refine Nu.mk ?_; first | (fail_if_success (have := nb1)); intro nb1 | (fail_if_success (have := nb2)); intro nb2 | (fail_if_success (have := nb3)); intro nb3 | intro nbz)
        | (refine Fr.mk ?_; intro hfr; replace FR := And.intro hfr FR; clear hfr; refine Sm.out ?_)
        | (refine Two.mk ?_ ?_)
        | (refine Cs.mk ?_; intro hcs; first | exact False.elim hcs | (exfalso; omega) | (refine Sm.out ?_))
        | go_step
        | omega
        | (simp only [maxLen_eq]; omega)
        | (refine Or.inr (Rt.mk ?_); refine And.intro ?_ ?_ <;> (intro hg; first | exact absurd hg (by decide) | refine Sm.out ?_))
      exact ⟨⟨i + 1, E, z2⟩, ⟨by simp only; omega, hR.next, hb2, by simp only; omega, by simp only; rw [hj2]; exact h9⟩, by simp only; omega, (Sub.pick (by simp [pickB, hget, hdel, FR, ← hSG, ← hST, ← hLB]) (by simp [look, ← hSG, ← hST, ← hLB]))⟩
  · obtain rfl : i = k := by omega
    have k1 : decide ((i : Int) < (i : Int)) = false := by simp
    rw [Nat.sub_self] at hres
    simp only [rdE, Option.some.injEq, Prod.mk.injEq] at hres
    obtain ⟨rfl, rfl⟩ := hres
    rw [← hSG, ← hST, ← hLB]
    first | (have FRx := FR; clear FRx) | (have FR : ¬ ((1 : Nat) = 0) := Nat.one_ne_zero)
    repeat' first
      | (refine Sm.mk ?_; try simp -dsimp only [ZK, rvc, drawF, headN, pureH, stp, dvc, calleeOf, gcall, pev, eff, newB, okd, og, ogs, ogo, ogp, slv, bltv, opd, litv, strip, one, both, putE, St.put, look, gdOf, gdv, picka, pickv, pickw, binv, bini, bins, binb, binp, bina, shp, eqCells, unv, convv, nilv, faddv, addp, idxav, idxp, load1, load1m, loadn, loadnm, loadv, hget, hset, hrep, hdel, slicev, bnd, shift1, lenv, IntKind.bits, extractv, fieldv, indexv, min2v, max2v, mkiv, cellsA, fillA, buildv, stC, oneC, rowMB, intsA, plN, appE, appZ, appC, appNZ, appNC, VwL, srcC, srcZ, srcM, isBoolT, isPtrT, isSliceT, uOk, Value.oneCell', Nat.reducePow, Int.reducePow, Nat.reduceAdd, Nat.reduceMul, Nat.reduceSub, Nat.reduceLT, Nat.reduceLeDiff, Nat.reduceEqDiff, Nat.reduceBEq, Nat.reduceDiv, Nat.reduceMod, ↓reduceIte, reduceCtorEq, Int.reduceToNat, Int.reduceLT, Int.reduceLE, drawCF, xvc, xst, splitH, calleeV, putE, hdel, TFRhH, SeqQ, BlkQ, LoopQ, BodyQ, k1, FR])
      | (refine WP.seq fun K hK => ?_)
      | (refine WP.region (rvc_sound _ _ (Sm.out ?_)))
      | (refine WP.drawC (c := 5) (ws := []) (ls := []) (bs := []) mixed (by decide +kernel) (by decide +kernel) (by decide +kernel) (Sm.out ?_))
      | (refine WP.drawK rfl mixed (by decide +kernel) (Sm.out ?_))
      | (refine Ob.mk ?_; focus (first | assumption | omega | decide | trivial | (intro hob; simp only [hob, ZF]; done) | (intros; (repeat' refine And.intro ?_ ?_) <;> first | assumption | omega | trivial | decide) | (intros; simp only [ZE] at *; (repeat' refine And.intro ?_ ?_) <;> first | assumption | omega | trivial)))
      | (refine And.intro (Ob.out ?_) ?_)
      | (refine WP.block ?_)
      | (refine WP.cond rfl (fun hc => ?_) (fun hc => ?_) <;> (try simp only [ZC, reduceCtorEq, ZD] at hc) <;> (try (exact absurd hc (by decide))) <;> (try (exfalso; omega)))
      | ((first | refine WP.skip ?_ | refine WP.exit ?_); simp only [SeqQ, BlkQ, LoopQ, BodyQ, ↓reduceIte, Nat.reduceEqDiff, reduceCtorEq, look, true_and])
      | (refine WP.ret (Sm.out ?_))
      | (first | refine ExG.no (Sm.out ?_) | refine Or.inl (ExG.no (Sm.out ?_)) | refine Or.inl (And.intro (fun hg => absurd hg (by decide)) (ExG.no (Sm.out ?_))))
      | (refine Rt.mk ?_; refine And.intro ?_ ?_ <;> (intro hg; first | exact absurd hg (by decide) | refine Sm.out ?_))
      | (refine Nu.mk ?_; first | (fail_if_success (have := nb1)); intro nb1 | (fail_if_success (have := nb2)); intro nb2 | (fail_if_success (have := nb3)); intro nb3 | intro nbz)
      | (refine Fr.mk ?_; intro hfr; replace FR := And.intro hfr FR; clear hfr; refine Sm.out ?_)
      | (refine Two.mk ?_ ?_)
      | (refine Cs.mk ?_; intro hcs; first | exact False.elim hcs | (exfalso; omega) | (refine Sm.out ?_))
      | go_step
      | omega
      | (simp only [maxLen_eq]; omega)
      | (refine Or.inr (Rt.mk ?_); refine And.intro ?_ ?_ <;> (intro hg; first | exact absurd hg (by decide) | refine Sm.out ?_))
    (refine OutQ.drop _ _ (perm3 (by simp only [hget, hdel, ↓reduceIte, if_true, if_false, FR, hSG, hST, hLB]; first | done | rfl) (by simp only [hget, hdel, ↓reduceIte, if_true, if_false, FR, hSG, hST, hLB]; first | done | rfl) (by simp only [hget, hdel, ↓reduceIte, if_true, if_false, FR, hSG, hST, hLB]; first | done | rfl)) (by simp only [resv, ZK, look, loadv, loadn, loadnm, load1, load1m, hget, ↓reduceIte, Nat.reduceEqDiff, Nat.reduceAdd, Nat.reduceMul, Nat.reduceLeDiff, Nat.reduceLT, reduceCtorEq, TFRhH, FR, hSG, hST, hLB]) ⟨nb1, nb2, (by simp only [resv, resA, ZK, look, loadv, loadn, loadnm, load1, load1m, hget, ↓reduceIte, Nat.reduceEqDiff, Nat.reduceAdd, Nat.reduceMul, Nat.reduceLeDiff, Nat.reduceLT, reduceCtorEq, TFRhH, FR, hSG, hST, hLB]; first | done | rfl), rfl⟩)
end Go.Proofs.Ytbnkmhlnoaebcaa
namespace Go.Proofs.Ytbnkmhlnoaebcaa
open Go Wi
set_option linter.unusedVariables false
set_option linter.unusedSimpArgs false
theorem TFRhL : ((((((type_of% tyc2) ∧ ((type_of% zmb2) ∧ (type_of% tyc3))) ∧ ((type_of% zmb3) ∧ ((type_of% tyc4) ∧ (type_of% zmb4)))) ∧ (((type_of% tyc5) ∧ ((type_of% zmb5) ∧ (type_of% tyc9))) ∧ ((type_of% zmb9) ∧ ((type_of% tyc26) ∧ (type_of% mth26_30))))) ∧ ((((type_of% mth26_39) ∧ ((type_of% mth26_38) ∧ (type_of% con26))) ∧ ((type_of% zmb26) ∧ ((type_of% tyc35) ∧ (type_of% zmb35)))) ∧ (((type_of% tyc50) ∧ ((type_of% elt50) ∧ (type_of% mkz50))) ∧ ((type_of% apT50) ∧ ((type_of% elk50) ∧ (type_of% zmb50)))))) ∧ (((((type_of% tyc54) ∧ ((type_of% mth54_53) ∧ (type_of% mth54_50))) ∧ ((type_of% mth54_54) ∧ ((type_of% con54) ∧ (type_of% zmb54)))) ∧ (((type_of% tyc56) ∧ ((type_of% tyc78) ∧ (type_of% foff78_0))) ∧ ((type_of% fpart78_0) ∧ ((type_of% foff78_1) ∧ (type_of% fpart78_1))))) ∧ ((((type_of% zmb78) ∧ ((type_of% bldT78) ∧ (type_of% Try.underlying2))) ∧ ((type_of% Try.underlying3) ∧ ((type_of% Try.underlying4) ∧ (type_of% Try.underlying5)))) ∧ (((type_of% Try.underlying9) ∧ ((type_of% Try.underlying26) ∧ (type_of% Try.underlying35))) ∧ (((type_of% Try.underlying50) ∧ (type_of% Try.underlying54)) ∧ ((type_of% Try.underlying56) ∧ (type_of% Try.underlying78))))))) :=
  ⟨⟨⟨⟨⟨tyc2, ⟨zmb2, tyc3⟩⟩, ⟨zmb3, ⟨tyc4, zmb4⟩⟩⟩, ⟨⟨tyc5, ⟨zmb5, tyc9⟩⟩, ⟨zmb9, ⟨tyc26, mth26_30⟩⟩⟩⟩, ⟨⟨⟨mth26_39, ⟨mth26_38, con26⟩⟩, ⟨zmb26, ⟨tyc35, zmb35⟩⟩⟩, ⟨⟨tyc50, ⟨elt50, mkz50⟩⟩, ⟨apT50, ⟨elk50, zmb50⟩⟩⟩⟩⟩, ⟨⟨⟨⟨tyc54, ⟨mth54_53, mth54_50⟩⟩, ⟨mth54_54, ⟨con54, zmb54⟩⟩⟩, ⟨⟨tyc56, ⟨tyc78, foff78_0⟩⟩, ⟨fpart78_0, ⟨foff78_1, fpart78_1⟩⟩⟩⟩, ⟨⟨⟨zmb78, ⟨bldT78, Try.underlying2⟩⟩, ⟨Try.underlying3, ⟨Try.underlying4, Try.underlying5⟩⟩⟩, ⟨⟨Try.underlying9, ⟨Try.underlying26, Try.underlying35⟩⟩, ⟨⟨Try.underlying50, Try.underlying54⟩, ⟨Try.underlying56, Try.underlying78⟩⟩⟩⟩⟩⟩
theorem new_cr (zs : List Int) : ACt Try.prog 24 [.slz .u8 zs] [] (NewC 78 [.slz .u8 zs, bv false]) := by
  refine ACt.intro Try.func24 rfl (by kernel_rfl) (by simp [Try.ntmps24]) (fun cx => ?_)
  simp only [argE, Try.ntmps24, Try.results24]
  first | (have FRx := FR; clear FRx) | (have FR : ¬ ((1 : Nat) = 0) := Nat.one_ne_zero)
  repeat' first
    | (refine Sm.mk ?_; try simp -dsimp only [ZK, rvc, drawF, headN, pureH, stp, dvc, calleeOf, gcall, pev, eff, newB, okd, og, ogs, ogo, ogp, slv, bltv, opd, litv, strip, one, both, putE, St.put, look, gdOf, gdv, picka, pickv, pickw, binv, bini, bins, binb, binp, bina, shp, eqCells, unv, convv, nilv, faddv, addp, idxav, idxp, load1, load1m, loadn, loadnm, loadv, hget, hset, hrep, hdel, slicev, bnd, shift1, lenv, IntKind.bits, extractv, fieldv, indexv, min2v, max2v, mkiv, cellsA, fillA, buildv, stC, oneC, rowMB, intsA, plN, appE, appZ, appC, appNZ, appNC, VwL, srcC, srcZ, srcM, isBoolT, isPtrT, isSliceT, uOk, Value.oneCell', Nat.reducePow, Int.reducePow, Nat.reduceAdd, Nat.reduceMul, Nat.reduceSub, Nat.reduceLT, Nat.reduceLeDiff, Nat.reduceEqDiff, Nat.reduceBEq, Nat.reduceDiv, Nat.reduceMod, ↓reduceIte, reduceCtorEq, Int.reduceToNat, Int.reduceLT, Int.reduceLE, TFRhL, SeqQ, BlkQ, LoopQ, BodyQ, FR])
    | (refine WP.seq fun K hK => ?_)
    | (refine WP.region (rvc_sound _ _ (Sm.out ?_)))
    | (refine WP.drawK rfl mixed (by decide +kernel) (Sm.out ?_))
    | (refine Ob.mk ?_; focus (first | assumption | omega | decide | trivial | (intro hob; simp only [hob, ZF]; done) | (intros; (repeat' refine And.intro ?_ ?_) <;> first | assumption | omega | trivial | decide) | (intros; simp only [ZE] at *; (repeat' refine And.intro ?_ ?_) <;> first | assumption | omega | trivial)))
    | (refine And.intro (Ob.out ?_) ?_)
    | (refine WP.block ?_)
    | (refine WP.cond rfl (fun hc => ?_) (fun hc => ?_) <;> (try simp only [ZC, reduceCtorEq, ZD] at hc) <;> (try (exact absurd hc (by decide))) <;> (try (exfalso; omega)))
    | ((first | refine WP.skip ?_ | refine WP.exit ?_); simp only [SeqQ, BlkQ, LoopQ, BodyQ, ↓reduceIte, Nat.reduceEqDiff, reduceCtorEq, look, true_and])
    | (refine WP.ret (Sm.out ?_))
    | (first | refine ExG.no (Sm.out ?_) | refine Or.inl (ExG.no (Sm.out ?_)) | refine Or.inl (And.intro (fun hg => absurd hg (by decide)) (ExG.no (Sm.out ?_))))
    | (refine Rt.mk ?_; refine And.intro ?_ ?_ <;> (intro hg; first | exact absurd hg (by decide) | refine Sm.out ?_))
    | (refine Nu.mk ?_; first | (fail_if_success (have := nb1)); intro nb1 | (fail_if_success (have := nb2)); intro nb2 | (fail_if_success (have := nb3)); intro nb3 | intro nbz)
    | (refine Fr.mk ?_; intro hfr; replace FR := And.intro hfr FR; clear hfr; refine Sm.out ?_)
    | (refine Two.mk ?_ ?_)
    | (refine Cs.mk ?_; intro hcs; first | exact False.elim hcs | (exfalso; omega) | (refine Sm.out ?_))
    | go_step
    | omega
    | (simp only [maxLen_eq]; omega)
    | (refine Or.inr (Rt.mk ?_); refine And.intro ?_ ?_ <;> (intro hg; first | exact absurd hg (by decide) | refine Sm.out ?_))
  (refine OutQ.newC (by simp only [resv, ZK, look, loadv, loadn, loadnm, load1, load1m, hget, ↓reduceIte, Nat.reduceEqDiff, Nat.reduceAdd, Nat.reduceMul, Nat.reduceLeDiff, Nat.reduceLT, reduceCtorEq, TFRhL, FR]) (by simp only [resv, resA, ZK, look, loadv, loadn, loadnm, load1, load1m, hget, ↓reduceIte, Nat.reduceEqDiff, Nat.reduceAdd, Nat.reduceMul, Nat.reduceLeDiff, Nat.reduceLT, reduceCtorEq, TFRhL, FR]; first | done | rfl) (by simp only [hget, ↓reduceIte, if_true, if_false, FR]; first | done | rfl) ?_ ?_ <;> first | exact rfl | (simp only [ZK, look, loadv, loadn, loadnm, load1, load1m, hget, ↓reduceIte, Nat.reduceEqDiff, Nat.reduceAdd, Nat.reduceMul, Nat.reduceLeDiff, Nat.reduceLT, reduceCtorEq, TFRhL, FR]; done) | skip)
theorem put_look (rb lb w k n : Nat) (s : RS) (o : Option (Nat × Nat)) (zs : List Int) (h : Inv w k n s) (hne : rb ≠ lb ∧ lb ≠ rb) (hk1 : 1 ≤ k) (hk : k ≤ 60) (hz : zs.length ≤ 1000) (ho : okO o zs.length) :
    ACt Try.prog 22 [pt rb 0, slO o zs.length] ((rb, R1 lb w k s.E s.now) :: (lb, L1 w k s.E s.now) :: hpO o zs)
      (fun r F' => r = .slz .u8 (zs ++ pdS w k s) ∧ F' = [(rb, R1 lb w k s.E s.now), (lb, L1 w k s.E s.now)]) := by
  have h0 := h.now
  have c := Buckets_row rb lb w k (s.now / w) s.now (sG (winP s.now w k) s.E) (sT (winP s.now w k) s.E) (slG (s.now / w) w k s.E) (slT (s.now / w) w k s.E) hne hk1 hk (Nat.le_trans (Nat.div_le_self _ _) h0)
  exact ACt.fz (Put_ct rb lb k _ _ _ _ o zs hne hk1 hk (bk_lt w k n s h hk1) hz ho c)
end Go.Proofs.Ytbnkmhlnoaebcaa
namespace Go.Proofs.Ytbnkmhlnoaebcaa
open Go Wi
set_option linter.unusedVariables false
set_option linter.unusedSimpArgs false
theorem sum_bkT {w k ne : Nat} (hk1 : 1 ≤ k) : ∀ {E : List Ev}, (∀ e ∈ E, e.at_ / w ≤ ne) → sumN (fun i => sT (pB ((ne : Int) - k + 1 + i) w) E) k = sT (fun a => decide (ne < a / w + k)) E
  | [], _ => by
    have : ∀ k, sumN (fun _ => 0) k = 0 := fun k => by induction k with | zero => rfl | succ k ih => rw [sumN, ih]
    simp [sT, this]
  | e :: r, h => by
    have ih := sum_bkT (w := w) (k := k) (ne := ne) hk1 (E := r) fun x hx => h x (List.mem_cons_of_mem _ hx)
    have hq := h e (List.mem_cons_self ..)
    have key : ∀ j : Nat, j < k → (if pB ((ne : Int) - k + 1 + j) w e.at_ then e.t else 0) = if ne < e.at_ / w + k ∧ e.at_ / w + k - ne - 1 = j then e.t else 0 := by
      intro j hj
      unfold pB
      generalize e.at_ / w = q at hq ⊢
      by_cases hc : ne < q + k ∧ q + k - ne - 1 = j
      · rw [if_pos hc, if_pos]
        simp only [Bool.and_eq_true, decide_eq_true_eq]; omega
      · rw [if_neg hc, if_neg]
        simp only [Bool.and_eq_true, decide_eq_true_eq]; omega
    simp only [sT]
    rw [sumN_add, ih, sumN_congr key]
    congr 1
    by_cases hn : ne < e.at_ / w + k
    · rw [if_pos (by simpa using hn)]
      have e1 : sumN (fun j => if ne < e.at_ / w + k ∧ e.at_ / w + k - ne - 1 = j then e.t else 0) k = sumN (fun j => if e.at_ / w + k - ne - 1 = j then e.t else 0) k :=
        sumN_congr fun j hj => by simp [hn]
      generalize e.at_ / w = q at *
      rw [e1, sumN_ite, if_pos (by omega)]
    · rw [if_neg (by simpa using hn)]
      have e1 : sumN (fun j => if ne < e.at_ / w + k ∧ e.at_ / w + k - ne - 1 = j then e.t else 0) k = sumN (fun _ => 0) k :=
        sumN_congr fun j hj => by simp [hn]
      have e2 : ∀ k, sumN (fun _ => 0) k = 0 := fun k => by induction k with | zero => rfl | succ k ih => rw [sumN, ih]
      rw [e1, e2]
theorem by_pdL {A B : Nat → Nat} : ∀ {k : Nat}, (∀ i, i < k → A i < 18446744073709551616 ∧ B i < 18446744073709551616) → By (pdL A B k)
  | 0, _ => fun x hx => by cases hx
  | k + 1, h => by
    rw [pdL]
    exact (by_pdL fun i hi => h i (by omega)).app ((by_putL _ (h k (by omega)).1).app (by_putL _ (h k (by omega)).2))
/-- what was put is got -/
theorem rd_put {w k n : Nat} (hw : 1 ≤ w) (hk1 : 1 ≤ k) (s : RS) (h : Inv w k n s) : ∃ E', rdE w k s.now k [] (pdS w k s) = some (E', []) ∧
    ∀ lb, R1 lb w k E' s.now = R1 lb w k s.E s.now ∧ L1 w k E' s.now = L1 w k s.E s.now := by
  have hs := h.sum
  have hE : ∀ e ∈ s.E, e.at_ / w ≤ s.now / w := fun e he => Nat.div_le_div_right (h.at_ e he)
  have hAB : ∀ i, i < k → bkG w k s.now s.E i ≤ bkT w k s.now s.E i := by
    intro i hi
    unfold bkG bkT bkA
    split
    · exact sG_le_sT h.gt
    · exact Nat.le_refl _
  have h0 : ∀ i, i < k → ¬ k ≤ s.now / w + 1 + i → bkG w k s.now s.E i = 0 ∧ bkT w k s.now s.E i = 0 := by
    intro i _ hn
    unfold bkG bkT bkA
    rw [if_neg hn, if_neg hn]; exact ⟨rfl, rfl⟩
  have hsum : sumN (bkT w k s.now s.E) k ≤ 9223372036854775807 := by
    have e1 : sumN (bkT w k s.now s.E) k = sT (winP s.now w k) s.E := by
      rw [show sT (winP s.now w k) s.E = sT (fun a => decide (s.now / w < a / w + k)) s.E from rfl, ← sum_bkT (w := w) (k := k) (ne := s.now / w) hk1 hE]
      exact sumN_congr fun j hj => rowT hk1 hE j hj
    rw [e1]; exact hs
  obtain ⟨E', e1, e2, e3, _⟩ := rdE_put (A := bkG w k s.now s.E) (B := bkT w k s.now s.E) hw hAB h0 hsum [] k [] (Nat.le_refl k) (by rw [Nat.sub_self]; exact RI.zero w k s.now) (fun i hi => by omega) (by rw [Nat.sub_self]; rfl)
  rw [Nat.sub_self, List.append_nil] at e1
  have hp := pdL_pdF (bkG w k s.now s.E) (bkT w k s.now s.E) k 0
  rw [Nat.zero_add] at hp
  have hp2 : pdS w k s = pdF (bkG w k s.now s.E) (bkT w k s.now s.E) 0 k := hp
  rw [← hp2] at e1
  exact ⟨E', e1, fun lb => ring_eq hk1 h.at_ e2.at_ e3⟩
end Go.Proofs.Ytbnkmhlnoaebcaa
