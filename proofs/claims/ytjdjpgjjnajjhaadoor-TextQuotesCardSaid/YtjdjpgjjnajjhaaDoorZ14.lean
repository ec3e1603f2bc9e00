/-
  The walks and the laws that the statement leans on, part 14.
-/
import Derived.Test.YtjdjpgjjnajjhaaDoorZ13
namespace Go.Proofs.YtjdjpgjjnajjhaaDoor
open Go
set_option linter.unusedVariables false
set_option linter.unusedSimpArgs false
theorem TFTyH : (((((type_of% tyc0) ∧ (type_of% tyc3)) ∧ ((type_of% zmb3) ∧ ((type_of% tyc4) ∧ (type_of% zmb4)))) ∧ (((type_of% tyc9) ∧ (type_of% zmb9)) ∧ ((type_of% tyc21) ∧ ((type_of% zmb21) ∧ (type_of% tyc26))))) ∧ ((((type_of% elt26) ∧ (type_of% mkz26)) ∧ ((type_of% apT26) ∧ ((type_of% elk26) ∧ (type_of% zmb26)))) ∧ (((type_of% Tryd.underlying0) ∧ ((type_of% Tryd.underlying3) ∧ (type_of% Tryd.underlying4))) ∧ ((type_of% Tryd.underlying9) ∧ ((type_of% Tryd.underlying21) ∧ (type_of% Tryd.underlying26)))))) :=
  ⟨⟨⟨⟨tyc0, tyc3⟩, ⟨zmb3, ⟨tyc4, zmb4⟩⟩⟩, ⟨⟨tyc9, zmb9⟩, ⟨tyc21, ⟨zmb21, tyc26⟩⟩⟩⟩, ⟨⟨⟨elt26, mkz26⟩, ⟨apT26, ⟨elk26, zmb26⟩⟩⟩, ⟨⟨Tryd.underlying0, ⟨Tryd.underlying3, Tryd.underlying4⟩⟩, ⟨Tryd.underlying9, ⟨Tryd.underlying21, Tryd.underlying26⟩⟩⟩⟩⟩
structure RqG where
  i : Nat
  S : ByteArray
  o : List Int
theorem gr_getD {L : List Int} (h : ∀ r ∈ L, Gr r) {i : Nat} (hi : i < L.length) : Gr (L.getD i 0) := by
  rw [List.getD_eq_getElem?_getD, List.getElem?_eq_getElem hi, Option.getD_some]
  exact h _ (List.getElem_mem hi)
set_option maxHeartbeats 4000000 in
theorem rquo_ct (zs : List Int) (hb : By zs) (hl : zs.length ≤ 5000) (hg : gdB zs = true) : ACt Tryd.prog 20 [stz zs] [] (Fn (stz ([34] ++ (rn zs).flatMap qrep ++ [34]))) := by
  have cR := ACt.fzRow (runes_ct zs hb hl)
  have hL : (rn zs).length ≤ 5000 := by have := rnF_len zs zs.length 0; unfold rn; omega
  have hgr := gr_rn hb (gdB_iff.1 hg)
  obtain ⟨M, hM⟩ : ∃ M, M = [34] ++ (rn zs).flatMap qrep := ⟨_, rfl⟩
  rw [← hM]
  obtain ⟨L, eL⟩ : ∃ L, L = rn zs := ⟨_, rfl⟩
  rw [← eL] at cR hL hM hgr
  obtain ⟨n, hn⟩ : ∃ n, n = L.length := ⟨_, rfl⟩
  have hLn : L.length = n := hn.symm
  obtain ⟨R, hR⟩ : ∃ R, R = bstr (M ++ [34]) := ⟨_, rfl⟩
  rw [show stz (M ++ [34]) = .lit (.string R) by rw [hR]]
  obtain ⟨A, hA⟩ : ∃ A, A = bstr [34] := ⟨_, rfl⟩
  have zA : (⟨#[34]⟩ : ByteArray) = A := hA.symm ▸ rfl
  refine ACt.intro Tryd.func20 rfl (by kernel_rfl) (by simp [Tryd.ntmps20]) (fun cx => ?_)
  simp only [argE, Tryd.ntmps20, Tryd.results20]
  first | (have FRx := FR; clear FRx) | (have FR : Sm (¬ ((1 : Nat) = 0)) := Sm.mk Nat.one_ne_zero)
  repeat' first
    | (refine Sm.mk ?_; try simp -dsimp only [ZK, rvc, drawF, headN, pureH, stp, dvc, calleeOf, gcall, pev, eff, newB, okd, og, ogs, ogo, ogp, slv, bltv, opd, litv, strip, one, both, putE, St.put, look, gdOf, gdv, picka, pickv, pickw, binv, bini, bins, binb, binp, binq, isSlT, bina, shp, eqCells, unv, convv, nilv, faddv, addp, idxav, idxp, load1, load1m, loadn, loadnm, loadv, hget, hset, hrep, hdel, slicev, bnd, shift1, lenv, capv, IntKind.bits, extractv, fieldv, indexv, min2v, max2v, mkiv, cellsA, fillA, buildv, stC, oneC, rowMB, intsA, plN, appE, appZ, appC, appNZ, appNC, VwL, srcC, srcZ, srcM, isBoolT, isPtrT, isSliceT, uOk, Value.oneCell', Nat.reducePow, Int.reducePow, Nat.reduceAdd, Nat.reduceMul, Nat.reduceSub, Nat.reduceLT, Nat.reduceLeDiff, Nat.reduceEqDiff, Nat.reduceBEq, Nat.reduceDiv, Nat.reduceMod, ↓reduceIte, reduceCtorEq, Int.reduceToNat, Int.reduceLT, Int.reduceLE, TFTyH, SeqQ, BlkQ, LoopQ, BodyQ, hLn, zA, FR.out])
    | (first | refine CallV.fn (cR) (Sm.out ?_) | refine ExF.mk (cR) (Sm.out ?_) | refine ExG.mk (fun _ => cR) (Sm.out ?_) | refine ExG.mkJ (fun _ => cR) (Sm.out ?_) | refine ExG.mkI (Ob.out ?_) (fun _ => cR) (Sm.out ?_))
    | (refine WP.seq fun K hK => ?_)
    | (refine WP.region (rvc_sound _ _ (Sm.out ?_)))
    | (refine WP.drawK rfl mixed (by decide +kernel) (Sm.out ?_))
    | (refine Ob.mk ?_; focus (first | assumption | omega | decide | trivial | (intro hob; simp only [hob, ZF]; done) | (intros; (repeat' refine And.intro ?_ ?_) <;> first | assumption | omega | trivial | decide) | (intros; simp only [ZE] at *; (repeat' refine And.intro ?_ ?_) <;> first | assumption | omega | trivial)))
    | (refine And.intro (Ob.out ?_) ?_)
    | (refine WP.block ?_)
    | (refine WP.cond rfl (fun hc => ?_) (fun hc => ?_) <;> (try simp only [ZC, reduceCtorEq, ZD] at hc) <;> (try (exact absurd hc (by decide))) <;> (try (exfalso; omega)))
    | ((first | refine WP.skip ?_ | refine WP.exit ?_); simp only [SeqQ, BlkQ, LoopQ, BodyQ, ↓reduceIte, Nat.reduceEqDiff, reduceCtorEq, look, true_and])
    | (refine WP.ret (Sm.out ?_))
    | (first | refine ExG.no (Sm.out ?_) | refine Or.inl (ExG.no (Sm.out ?_)) | refine Or.inl (And.intro (fun hg => absurd hg (by decide)) (ExG.no (Sm.out ?_))))
    | (refine Rt.mk ?_; refine And.intro ?_ ?_ <;> (intro hg; first | exact absurd hg (by decide) | refine Sm.out ?_))
    | (refine Nu.mk ?_; first | (fail_if_success (have := nb1)); intro nb1 | (fail_if_success (have := nb2)); intro nb2 | (fail_if_success (have := nb3)); intro nb3 | (fail_if_success (have := nb4)); intro nb4 | intro nbz)
    | (refine Fr.mk ?_; intro hfr; (first | (have hFRb : _ ≤ _ ∧ _ ≤ _ := And.intro hfr.1 hfr.2.1) | (have hFRb : _ ≤ _ := hfr.1) | skip); replace FR := Sm.mk (And.intro hfr FR.out); clear hfr; refine Sm.out ?_)
    | (refine Two.mk ?_ ?_)
    | (refine Cs.mk ?_; intro hcs; first | exact False.elim hcs | (exfalso; omega) | (refine Sm.out ?_))
    | go_step
    | omega
    | (simp only [maxLen_eq]; omega)
  refine WP.loop (Γ := RqG) (fun g => ⟨[(5, iv .i64 (g.i : Int)), (4, .slz .i32 L), (3, .lit (.string g.S))], []⟩) (fun g => g.i ≤ n ∧ g.S = bstr g.o ∧ g.o.length ≤ 1 + 6 * g.i ∧ M = g.o ++ (L.drop g.i).flatMap qrep) (fun g => n - g.i) ⟨0, A, [34]⟩ ⟨Nat.zero_le _, hA, by simp, hM⟩ (Sub.pick (by simp [pickB, hget, hdel, FR.out]) (by simp [look])) ?_
  intro ⟨i, S, o⟩ ⟨hi, hS, hol, hMi⟩
  simp only at hi hS hol hMi ⊢
  have FR : Sm (¬ ((1 : Nat) = 0)) := Sm.mk Nat.one_ne_zero
  have s0 : S.size = o.length := by rw [hS, bstr_size]
  obtain ⟨lo, hlo⟩ : ∃ l, l = o.length := ⟨_, rfl⟩
  rw [← hlo] at s0 hol
  by_cases hin : i < n
  · have ki : decide ((i : Int) < (n : Int)) = true := decide_eq_true (by omega)
    have s1 : IntKind.i64.wrap ((i : Int) + 1) = ((i + 1 : Nat) : Int) := by rw [wrap_i64 (by omega) (by omega)]; omega
    have t1 : ∀ k : Nat, ((k : Nat) : Int).toNat = k := fun k => by omega
    have hX0 := gr_getD hgr (show i < L.length by omega)
    rw [drop_cons2 (show i < L.length by omega), List.flatMap_cons, ← List.append_assoc] at hMi
    obtain ⟨X, hX⟩ : ∃ X, X = L.getD i 0 := ⟨_, rfl⟩
    have hX' : L.getD i 0 = X := hX.symm
    rw [← hX] at hX0 hMi
    have hql := qrep_len X
    by_cases c34 : X = 34
    · have kx : (X == 34) = true := beq_iff_eq.2 c34
      have eq : qrep X = [92, 34] := by rw [c34]; rfl
      rw [eq] at hMi
      have eE := bstr_app o [92, 34]
      have sE := bstr_size [92, 34]
      simp only [List.length_cons, List.length_nil, Nat.zero_add, Nat.reduceAdd] at sE
      have z1 : (⟨#[92, 34]⟩ : ByteArray) = bstr [92, 34] := rfl
      have bE : lo + 2 ≤ 9223372036854775807 := by omega
      rw [← hS] at eE
      obtain ⟨A1, hA1⟩ : ∃ A, A = bstr [92, 34] := ⟨_, rfl⟩
      obtain ⟨A2, hA2⟩ : ∃ A, A = bstr (o ++ [92, 34]) := ⟨_, rfl⟩
      rw [← hA1] at eE sE z1
      rw [← hA2] at eE
      have hMn : M = (o ++ [92, 34]) ++ (L.drop (i + 1)).flatMap qrep := hMi
      have hln : (o ++ [92, 34]).length ≤ 1 + 6 * (i + 1) := by rw [List.length_append, ← hlo]; simp only [List.length_cons, List.length_nil]; omega
      first | (have FRx := FR; clear FRx) | (have FR : Sm (¬ ((1 : Nat) = 0)) := Sm.mk Nat.one_ne_zero)
      repeat' first
        | (refine Sm.mk ?_; try simp -dsimp only [ZK, rvc, drawF, headN, pureH, stp, dvc, calleeOf, gcall, pev, eff, newB, okd, og, ogs, ogo, ogp, slv, bltv, opd, litv, strip, one, both, putE, St.put, look, gdOf, gdv, picka, pickv, pickw, binv, bini, bins, binb, binp, binq, isSlT, bina, shp, eqCells, unv, convv, nilv, faddv, addp, idxav, idxp, load1, load1m, loadn, loadnm, loadv, hget, hset, hrep, hdel, slicev, bnd, shift1, lenv, capv, IntKind.bits, extractv, fieldv, indexv, min2v, max2v, mkiv, cellsA, fillA, buildv, stC, oneC, rowMB, intsA, plN, appE, appZ, appC, appNZ, appNC, VwL, srcC, srcZ, srcM, isBoolT, isPtrT, isSliceT, uOk, Value.oneCell', Nat.reducePow, Int.reducePow, Nat.reduceAdd, Nat.reduceMul, Nat.reduceSub, Nat.reduceLT, Nat.reduceLeDiff, Nat.reduceEqDiff, Nat.reduceBEq, Nat.reduceDiv, Nat.reduceMod, ↓reduceIte, reduceCtorEq, Int.reduceToNat, Int.reduceLT, Int.reduceLE, TFTyH, SeqQ, BlkQ, LoopQ, BodyQ, hLn, ki, s1, t1, hX', kx, hin, z1, s0, sE, bE, eE, FR.out])
        | (refine WP.seq fun K hK => ?_)
        | (refine WP.region (rvc_sound _ _ (Sm.out ?_)))
        | (refine WP.drawK rfl mixed (by decide +kernel) (Sm.out ?_))
        | (refine Ob.mk ?_; focus (first | assumption | omega | decide | trivial | (intro hob; simp only [hob, ZF]; done) | (intros; (repeat' refine And.intro ?_ ?_) <;> first | assumption | omega | trivial | decide) | (intros; simp only [ZE] at *; (repeat' refine And.intro ?_ ?_) <;> first | assumption | omega | trivial)))
        | (refine And.intro (Ob.out ?_) ?_)
        | (refine WP.block ?_)
        | (refine WP.cond rfl (fun hc => ?_) (fun hc => ?_) <;> (try simp only [ZC, reduceCtorEq, ZD] at hc) <;> (try (exact absurd hc (by decide))) <;> (try (exfalso; omega)))
        | ((first | refine WP.skip ?_ | refine WP.exit ?_); simp only [SeqQ, BlkQ, LoopQ, BodyQ, ↓reduceIte, Nat.reduceEqDiff, reduceCtorEq, look, true_and])
        | (refine WP.ret (Sm.out ?_))
        | (first | refine ExG.no (Sm.out ?_) | refine Or.inl (ExG.no (Sm.out ?_)) | refine Or.inl (And.intro (fun hg => absurd hg (by decide)) (ExG.no (Sm.out ?_))))
        | (refine Rt.mk ?_; refine And.intro ?_ ?_ <;> (intro hg; first | exact absurd hg (by decide) | refine Sm.out ?_))
        | (refine Nu.mk ?_; first | (fail_if_success (have := nb1)); intro nb1 | (fail_if_success (have := nb2)); intro nb2 | (fail_if_success (have := nb3)); intro nb3 | (fail_if_success (have := nb4)); intro nb4 | intro nbz)
        | (refine Fr.mk ?_; intro hfr; (first | (have hFRb : _ ≤ _ ∧ _ ≤ _ := And.intro hfr.1 hfr.2.1) | (have hFRb : _ ≤ _ := hfr.1) | skip); replace FR := Sm.mk (And.intro hfr FR.out); clear hfr; refine Sm.out ?_)
        | (refine Two.mk ?_ ?_)
        | (refine Cs.mk ?_; intro hcs; first | exact False.elim hcs | (exfalso; omega) | (refine Sm.out ?_))
        | go_step
        | omega
        | (simp only [maxLen_eq]; omega)
      exact ⟨⟨i + 1, A2, o ++ [92, 34]⟩, ⟨by simp only; omega, hA2, hln, hMn⟩, by simp only; omega, (Sub.pick (by simp [pickB, hget, hdel, FR.out]) (by simp [look]))⟩
    have k1 : (X == 34) = false := beq_eq_false_iff_ne.2 c34
    by_cases c92 : X = 92
    · have kx : (X == 92) = true := beq_iff_eq.2 c92
      have eq : qrep X = [92, 92] := by rw [c92]; rfl
      rw [eq] at hMi
      have eE := bstr_app o [92, 92]
      have sE := bstr_size [92, 92]
      simp only [List.length_cons, List.length_nil, Nat.zero_add, Nat.reduceAdd] at sE
      have z1 : (⟨#[92, 92]⟩ : ByteArray) = bstr [92, 92] := rfl
      have bE : lo + 2 ≤ 9223372036854775807 := by omega
      rw [← hS] at eE
      obtain ⟨A1, hA1⟩ : ∃ A, A = bstr [92, 92] := ⟨_, rfl⟩
      obtain ⟨A2, hA2⟩ : ∃ A, A = bstr (o ++ [92, 92]) := ⟨_, rfl⟩
      rw [← hA1] at eE sE z1
      rw [← hA2] at eE
      have hMn : M = (o ++ [92, 92]) ++ (L.drop (i + 1)).flatMap qrep := hMi
      have hln : (o ++ [92, 92]).length ≤ 1 + 6 * (i + 1) := by rw [List.length_append, ← hlo]; simp only [List.length_cons, List.length_nil]; omega
      first | (have FRx := FR; clear FRx) | (have FR : Sm (¬ ((1 : Nat) = 0)) := Sm.mk Nat.one_ne_zero)
      repeat' first
        | (refine Sm.mk ?_; try simp -dsimp only [ZK, rvc, drawF, headN, pureH, stp, dvc, calleeOf, gcall, pev, eff, newB, okd, og, ogs, ogo, ogp, slv, bltv, opd, litv, strip, one, both, putE, St.put, look, gdOf, gdv, picka, pickv, pickw, binv, bini, bins, binb, binp, binq, isSlT, bina, shp, eqCells, unv, convv, nilv, faddv, addp, idxav, idxp, load1, load1m, loadn, loadnm, loadv, hget, hset, hrep, hdel, slicev, bnd, shift1, lenv, capv, IntKind.bits, extractv, fieldv, indexv, min2v, max2v, mkiv, cellsA, fillA, buildv, stC, oneC, rowMB, intsA, plN, appE, appZ, appC, appNZ, appNC, VwL, srcC, srcZ, srcM, isBoolT, isPtrT, isSliceT, uOk, Value.oneCell', Nat.reducePow, Int.reducePow, Nat.reduceAdd, Nat.reduceMul, Nat.reduceSub, Nat.reduceLT, Nat.reduceLeDiff, Nat.reduceEqDiff, Nat.reduceBEq, Nat.reduceDiv, Nat.reduceMod, ↓reduceIte, reduceCtorEq, Int.reduceToNat, Int.reduceLT, Int.reduceLE, TFTyH, SeqQ, BlkQ, LoopQ, BodyQ, hLn, ki, s1, t1, hX', k1, kx, hin, z1, s0, sE, bE, eE, FR.out])
        | (refine WP.seq fun K hK => ?_)
        | (refine WP.region (rvc_sound _ _ (Sm.out ?_)))
        | (refine WP.drawK rfl mixed (by decide +kernel) (Sm.out ?_))
        | (refine Ob.mk ?_; focus (first | assumption | omega | decide | trivial | (intro hob; simp only [hob, ZF]; done) | (intros; (repeat' refine And.intro ?_ ?_) <;> first | assumption | omega | trivial | decide) | (intros; simp only [ZE] at *; (repeat' refine And.intro ?_ ?_) <;> first | assumption | omega | trivial)))
        | (refine And.intro (Ob.out ?_) ?_)
        | (refine WP.block ?_)
        | (refine WP.cond rfl (fun hc => ?_) (fun hc => ?_) <;> (try simp only [ZC, reduceCtorEq, ZD] at hc) <;> (try (exact absurd hc (by decide))) <;> (try (exfalso; omega)))
        | ((first | refine WP.skip ?_ | refine WP.exit ?_); simp only [SeqQ, BlkQ, LoopQ, BodyQ, ↓reduceIte, Nat.reduceEqDiff, reduceCtorEq, look, true_and])
        | (refine WP.ret (Sm.out ?_))
        | (first | refine ExG.no (Sm.out ?_) | refine Or.inl (ExG.no (Sm.out ?_)) | refine Or.inl (And.intro (fun hg => absurd hg (by decide)) (ExG.no (Sm.out ?_))))
        | (refine Rt.mk ?_; refine And.intro ?_ ?_ <;> (intro hg; first | exact absurd hg (by decide) | refine Sm.out ?_))
        | (refine Nu.mk ?_; first | (fail_if_success (have := nb1)); intro nb1 | (fail_if_success (have := nb2)); intro nb2 | (fail_if_success (have := nb3)); intro nb3 | (fail_if_success (have := nb4)); intro nb4 | intro nbz)
        | (refine Fr.mk ?_; intro hfr; (first | (have hFRb : _ ≤ _ ∧ _ ≤ _ := And.intro hfr.1 hfr.2.1) | (have hFRb : _ ≤ _ := hfr.1) | skip); replace FR := Sm.mk (And.intro hfr FR.out); clear hfr; refine Sm.out ?_)
        | (refine Two.mk ?_ ?_)
        | (refine Cs.mk ?_; intro hcs; first | exact False.elim hcs | (exfalso; omega) | (refine Sm.out ?_))
        | go_step
        | omega
        | (simp only [maxLen_eq]; omega)
      exact ⟨⟨i + 1, A2, o ++ [92, 92]⟩, ⟨by simp only; omega, hA2, hln, hMn⟩, by simp only; omega, (Sub.pick (by simp [pickB, hget, hdel, FR.out]) (by simp [look]))⟩
    have k2 : (X == 92) = false := beq_eq_false_iff_ne.2 c92
    by_cases c10 : X = 10
    · have kx : (X == 10) = true := beq_iff_eq.2 c10
      have eq : qrep X = [92, 110] := by rw [c10]; rfl
      rw [eq] at hMi
      have eE := bstr_app o [92, 110]
      have sE := bstr_size [92, 110]
      simp only [List.length_cons, List.length_nil, Nat.zero_add, Nat.reduceAdd] at sE
      have z1 : (⟨#[92, 110]⟩ : ByteArray) = bstr [92, 110] := rfl
      have bE : lo + 2 ≤ 9223372036854775807 := by omega
      rw [← hS] at eE
      obtain ⟨A1, hA1⟩ : ∃ A, A = bstr [92, 110] := ⟨_, rfl⟩
      obtain ⟨A2, hA2⟩ : ∃ A, A = bstr (o ++ [92, 110]) := ⟨_, rfl⟩
      rw [← hA1] at eE sE z1
      rw [← hA2] at eE
      have hMn : M = (o ++ [92, 110]) ++ (L.drop (i + 1)).flatMap qrep := hMi
      have hln : (o ++ [92, 110]).length ≤ 1 + 6 * (i + 1) := by rw [List.length_append, ← hlo]; simp only [List.length_cons, List.length_nil]; omega
      first | (have FRx := FR; clear FRx) | (have FR : Sm (¬ ((1 : Nat) = 0)) := Sm.mk Nat.one_ne_zero)
      repeat' first
        | (refine Sm.mk ?_; try simp -dsimp only [ZK, rvc, drawF, headN, pureH, stp, dvc, calleeOf, gcall, pev, eff, newB, okd, og, ogs, ogo, ogp, slv, bltv, opd, litv, strip, one, both, putE, St.put, look, gdOf, gdv, picka, pickv, pickw, binv, bini, bins, binb, binp, binq, isSlT, bina, shp, eqCells, unv, convv, nilv, faddv, addp, idxav, idxp, load1, load1m, loadn, loadnm, loadv, hget, hset, hrep, hdel, slicev, bnd, shift1, lenv, capv, IntKind.bits, extractv, fieldv, indexv, min2v, max2v, mkiv, cellsA, fillA, buildv, stC, oneC, rowMB, intsA, plN, appE, appZ, appC, appNZ, appNC, VwL, srcC, srcZ, srcM, isBoolT, isPtrT, isSliceT, uOk, Value.oneCell', Nat.reducePow, Int.reducePow, Nat.reduceAdd, Nat.reduceMul, Nat.reduceSub, Nat.reduceLT, Nat.reduceLeDiff, Nat.reduceEqDiff, Nat.reduceBEq, Nat.reduceDiv, Nat.reduceMod, ↓reduceIte, reduceCtorEq, Int.reduceToNat, Int.reduceLT, Int.reduceLE, TFTyH, SeqQ, BlkQ, LoopQ, BodyQ, hLn, ki, s1, t1, hX', k1, k2, kx, hin, z1, s0, sE, bE, eE, FR.out])
        | (refine WP.seq fun K hK => ?_)
        | (refine WP.region (rvc_sound _ _ (Sm.out ?_)))
        | (refine WP.drawK rfl mixed (by decide +kernel) (Sm.out ?_))
        | (refine Ob.mk ?_; focus (first | assumption | omega | decide | trivial | (intro hob; simp only [hob, ZF]; done) | (intros; (repeat' refine And.intro ?_ ?_) <;> first | assumption | omega | trivial | decide) | (intros; simp only [ZE] at *; (repeat' refine And.intro ?_ ?_) <;> first | assumption | omega | trivial)))
        | (refine And.intro (Ob.out ?_) ?_)
        | (refine WP.block ?_)
        | (refine WP.cond rfl (fun hc => ?_) (fun hc => ?_) <;> (try simp only [ZC, reduceCtorEq, ZD] at hc) <;> (try (exact absurd hc (by decide))) <;> (try (exfalso; omega)))
        | ((first | refine WP.skip ?_ | refine WP.exit ?_); simp only [SeqQ, BlkQ, LoopQ, BodyQ, ↓reduceIte, Nat.reduceEqDiff, reduceCtorEq, look, true_and])
        | (refine WP.ret (Sm.out ?_))
        | (first | refine ExG.no (Sm.out ?_) | refine Or.inl (ExG.no (Sm.out ?_)) | refine Or.inl (And.intro (fun hg => absurd hg (by decide)) (ExG.no (Sm.out ?_))))
        | (refine Rt.mk ?_; refine And.intro ?_ ?_ <;> (intro hg; first | exact absurd hg (by decide) | refine Sm.out ?_))
        | (refine Nu.mk ?_; first | (fail_if_success (have := nb1)); intro nb1 | (fail_if_success (have := nb2)); intro nb2 | (fail_if_success (have := nb3)); intro nb3 | (fail_if_success (have := nb4)); intro nb4 | intro nbz)
        | (refine Fr.mk ?_; intro hfr; (first | (have hFRb : _ ≤ _ ∧ _ ≤ _ := And.intro hfr.1 hfr.2.1) | (have hFRb : _ ≤ _ := hfr.1) | skip); replace FR := Sm.mk (And.intro hfr FR.out); clear hfr; refine Sm.out ?_)
        | (refine Two.mk ?_ ?_)
        | (refine Cs.mk ?_; intro hcs; first | exact False.elim hcs | (exfalso; omega) | (refine Sm.out ?_))
        | go_step
        | omega
        | (simp only [maxLen_eq]; omega)
      exact ⟨⟨i + 1, A2, o ++ [92, 110]⟩, ⟨by simp only; omega, hA2, hln, hMn⟩, by simp only; omega, (Sub.pick (by simp [pickB, hget, hdel, FR.out]) (by simp [look]))⟩
    have k3 : (X == 10) = false := beq_eq_false_iff_ne.2 c10
    by_cases c9 : X = 9
    · have kx : (X == 9) = true := beq_iff_eq.2 c9
      have eq : qrep X = [92, 116] := by rw [c9]; rfl
      rw [eq] at hMi
      have eE := bstr_app o [92, 116]
      have sE := bstr_size [92, 116]
      simp only [List.length_cons, List.length_nil, Nat.zero_add, Nat.reduceAdd] at sE
      have z1 : (⟨#[92, 116]⟩ : ByteArray) = bstr [92, 116] := rfl
      have bE : lo + 2 ≤ 9223372036854775807 := by omega
      rw [← hS] at eE
      obtain ⟨A1, hA1⟩ : ∃ A, A = bstr [92, 116] := ⟨_, rfl⟩
      obtain ⟨A2, hA2⟩ : ∃ A, A = bstr (o ++ [92, 116]) := ⟨_, rfl⟩
      rw [← hA1] at eE sE z1
      rw [← hA2] at eE
      have hMn : M = (o ++ [92, 116]) ++ (L.drop (i + 1)).flatMap qrep := hMi
      have hln : (o ++ [92, 116]).length ≤ 1 + 6 * (i + 1) := by rw [List.length_append, ← hlo]; simp only [List.length_cons, List.length_nil]; omega
      first | (have FRx := FR; clear FRx) | (have FR : Sm (¬ ((1 : Nat) = 0)) := Sm.mk Nat.one_ne_zero)
      repeat' first
        | (refine Sm.mk ?_; try simp -dsimp only [ZK, rvc, drawF, headN, pureH, stp, dvc, calleeOf, gcall, pev, eff, newB, okd, og, ogs, ogo, ogp, slv, bltv, opd, litv, strip, one, both, putE, St.put, look, gdOf, gdv, picka, pickv, pickw, binv, bini, bins, binb, binp, binq, isSlT, bina, shp, eqCells, unv, convv, nilv, faddv, addp, idxav, idxp, load1, load1m, loadn, loadnm, loadv, hget, hset, hrep, hdel, slicev, bnd, shift1, lenv, capv, IntKind.bits, extractv, fieldv, indexv, min2v, max2v, mkiv, cellsA, fillA, buildv, stC, oneC, rowMB, intsA, plN, appE, appZ, appC, appNZ, appNC, VwL, srcC, srcZ, srcM, isBoolT, isPtrT, isSliceT, uOk, Value.oneCell', Nat.reducePow, Int.reducePow, Nat.reduceAdd, Nat.reduceMul, Nat.reduceSub, Nat.reduceLT, Nat.reduceLeDiff, Nat.reduceEqDiff, Nat.reduceBEq, Nat.reduceDiv, Nat.reduceMod, ↓reduceIte, reduceCtorEq, Int.reduceToNat, Int.reduceLT, Int.reduceLE, TFTyH, SeqQ, BlkQ, LoopQ, BodyQ, hLn, ki, s1, t1, hX', k1, k2, k3, kx, hin, z1, s0, sE, bE, eE, FR.out])
        | (refine WP.seq fun K hK => ?_)
        | (refine WP.region (rvc_sound _ _ (Sm.out ?_)))
        | (refine WP.drawK rfl mixed (by decide +kernel) (Sm.out ?_))
        | (refine Ob.mk ?_; focus (first | assumption | omega | decide | trivial | (intro hob; simp only [hob, ZF]; done) | (intros; (repeat' refine And.intro ?_ ?_) <;> first | assumption | omega | trivial | decide) | (intros; simp only [ZE] at *; (repeat' refine And.intro ?_ ?_) <;> first | assumption | omega | trivial)))
        | (refine And.intro (Ob.out ?_) ?_)
        | (refine WP.block ?_)
        | (refine WP.cond rfl (fun hc => ?_) (fun hc => ?_) <;> (try simp only [ZC, reduceCtorEq, ZD] at hc) <;> (try (exact absurd hc (by decide))) <;> (try (exfalso; omega)))
        | ((first | refine WP.skip ?_ | refine WP.exit ?_); simp only [SeqQ, BlkQ, LoopQ, BodyQ, ↓reduceIte, Nat.reduceEqDiff, reduceCtorEq, look, true_and])
        | (refine WP.ret (Sm.out ?_))
        | (first | refine ExG.no (Sm.out ?_) | refine Or.inl (ExG.no (Sm.out ?_)) | refine Or.inl (And.intro (fun hg => absurd hg (by decide)) (ExG.no (Sm.out ?_))))
        | (refine Rt.mk ?_; refine And.intro ?_ ?_ <;> (intro hg; first | exact absurd hg (by decide) | refine Sm.out ?_))
        | (refine Nu.mk ?_; first | (fail_if_success (have := nb1)); intro nb1 | (fail_if_success (have := nb2)); intro nb2 | (fail_if_success (have := nb3)); intro nb3 | (fail_if_success (have := nb4)); intro nb4 | intro nbz)
        | (refine Fr.mk ?_; intro hfr; (first | (have hFRb : _ ≤ _ ∧ _ ≤ _ := And.intro hfr.1 hfr.2.1) | (have hFRb : _ ≤ _ := hfr.1) | skip); replace FR := Sm.mk (And.intro hfr FR.out); clear hfr; refine Sm.out ?_)
        | (refine Two.mk ?_ ?_)
        | (refine Cs.mk ?_; intro hcs; first | exact False.elim hcs | (exfalso; omega) | (refine Sm.out ?_))
        | go_step
        | omega
        | (simp only [maxLen_eq]; omega)
      exact ⟨⟨i + 1, A2, o ++ [92, 116]⟩, ⟨by simp only; omega, hA2, hln, hMn⟩, by simp only; omega, (Sub.pick (by simp [pickB, hget, hdel, FR.out]) (by simp [look]))⟩
    have k4 : (X == 9) = false := beq_eq_false_iff_ne.2 c9
    by_cases c : X < 32 ∨ X = 127
    · obtain ⟨x, y, k5, k6, hxy⟩ : ∃ x y : Bool, decide (X < 32) = x ∧ (X == 127) = y ∧ (x || y) = true := ⟨_, _, rfl, rfl, by
        rcases c with h | h
        · rw [decide_eq_true h]; rfl
        · rw [show (X == 127) = true from beq_iff_eq.2 h]; simp⟩
      have e : escS X = [92, 117, 123] ++ (hexD X.toNat ++ [125]) := by
        unfold escS
        rw [if_neg (by omega), if_neg c10, if_neg c9, if_pos c]
      have eq : qrep X = [92, 117, 123] ++ (hexD X.toNat ++ [125]) := by unfold qrep; rw [if_neg (by rw [e]; simp), e]
      have h0 := hX0.1
      have cF := rhex_ct X.toNat (by omega)
      rw [show ((X.toNat : Nat) : Int) = X by omega] at cF
      rw [eq] at hMi hql
      have hle := hexD_len X.toNat
      obtain ⟨H, hH⟩ : ∃ H, H = hexD X.toNat := ⟨_, rfl⟩
      rw [← hH] at cF hMi hql hle
      have ea := bstr_app o [92, 117, 123]
      have eb := bstr_app (o ++ [92, 117, 123]) H
      have ec := bstr_app (o ++ [92, 117, 123] ++ H) [125]
      have ed : o ++ [92, 117, 123] ++ H ++ [125] = o ++ ([92, 117, 123] ++ (H ++ [125])) := by simp
      rw [ed] at ec
      have p1 := bstr_size [92, 117, 123]
      have p2 := bstr_size H
      have p3 := bstr_size [125]
      have p4 := bstr_size (o ++ [92, 117, 123])
      have p5 := bstr_size (o ++ [92, 117, 123] ++ H)
      rw [List.length_append, List.length_append, ← hlo] at p5
      rw [List.length_append, ← hlo] at p4
      simp only [List.length_cons, List.length_nil, Nat.zero_add, Nat.reduceAdd] at p1 p3 p4 p5
      obtain ⟨l, hl'⟩ : ∃ l, l = H.length := ⟨_, rfl⟩
      rw [← hl'] at hle p2 p5
      have b1 : lo + 3 ≤ 9223372036854775807 := by omega
      have b2 : lo + 3 + l ≤ 9223372036854775807 := by omega
      have b3 : lo + 3 + l + 1 ≤ 9223372036854775807 := by omega
      have z1 : (⟨#[92, 117, 123]⟩ : ByteArray) = bstr [92, 117, 123] := rfl
      have z2 : (⟨#[125]⟩ : ByteArray) = bstr [125] := rfl
      unfold stz at cF
      rw [← hS] at ea
      obtain ⟨A1, hA1⟩ : ∃ A, A = bstr [92, 117, 123] := ⟨_, rfl⟩
      obtain ⟨A2, hA2⟩ : ∃ A, A = bstr H := ⟨_, rfl⟩
      obtain ⟨A3, hA3⟩ : ∃ A, A = bstr [125] := ⟨_, rfl⟩
      obtain ⟨A4, hA4⟩ : ∃ A, A = bstr (o ++ [92, 117, 123]) := ⟨_, rfl⟩
      obtain ⟨A5, hA5⟩ : ∃ A, A = bstr (o ++ [92, 117, 123] ++ H) := ⟨_, rfl⟩
      obtain ⟨A6, hA6⟩ : ∃ A, A = bstr (o ++ ([92, 117, 123] ++ (H ++ [125]))) := ⟨_, rfl⟩
      rw [← hA1] at z1 ea p1
      rw [← hA2] at eb p2 cF
      rw [← hA3] at z2 ec p3
      rw [← hA4] at ea eb p4
      rw [← hA5] at eb ec p5
      rw [← hA6] at ec
      have hnl : (o ++ ([92, 117, 123] ++ (H ++ [125]))).length ≤ 1 + 6 * (i + 1) := by
        rw [List.length_append, ← hlo]; omega
      have hMn : M = (o ++ ([92, 117, 123] ++ (H ++ [125]))) ++ (L.drop (i + 1)).flatMap qrep := hMi
      cases x <;> cases y
      all_goals first | (cases hxy; done) | skip
      all_goals (
          first | (have FRx := FR; clear FRx) | (have FR : Sm (¬ ((1 : Nat) = 0)) := Sm.mk Nat.one_ne_zero)
          repeat' first
            | (refine Sm.mk ?_; try simp -dsimp only [ZK, rvc, drawF, headN, pureH, stp, dvc, calleeOf, gcall, pev, eff, newB, okd, og, ogs, ogo, ogp, slv, bltv, opd, litv, strip, one, both, putE, St.put, look, gdOf, gdv, picka, pickv, pickw, binv, bini, bins, binb, binp, binq, isSlT, bina, shp, eqCells, unv, convv, nilv, faddv, addp, idxav, idxp, load1, load1m, loadn, loadnm, loadv, hget, hset, hrep, hdel, slicev, bnd, shift1, lenv, capv, IntKind.bits, extractv, fieldv, indexv, min2v, max2v, mkiv, cellsA, fillA, buildv, stC, oneC, rowMB, intsA, plN, appE, appZ, appC, appNZ, appNC, VwL, srcC, srcZ, srcM, isBoolT, isPtrT, isSliceT, uOk, Value.oneCell', Nat.reducePow, Int.reducePow, Nat.reduceAdd, Nat.reduceMul, Nat.reduceSub, Nat.reduceLT, Nat.reduceLeDiff, Nat.reduceEqDiff, Nat.reduceBEq, Nat.reduceDiv, Nat.reduceMod, ↓reduceIte, reduceCtorEq, Int.reduceToNat, Int.reduceLT, Int.reduceLE, TFTyH, SeqQ, BlkQ, LoopQ, BodyQ, hLn, ki, s1, t1, hX', k1, k2, k3, k4, k5, k6, hin, z1, z2, s0, p1, p2, p3, p4, p5, ea, eb, ec, b1, b2, b3, FR.out])
            | (first | refine CallV.fn (cF) (Sm.out ?_) | refine ExF.mk (cF) (Sm.out ?_) | refine ExG.mk (fun _ => cF) (Sm.out ?_) | refine ExG.mkJ (fun _ => cF) (Sm.out ?_) | refine ExG.mkI (Ob.out ?_) (fun _ => cF) (Sm.out ?_))
            | (refine WP.seq fun K hK => ?_)
            | (refine WP.region (rvc_sound _ _ (Sm.out ?_)))
            | (refine WP.drawK rfl mixed (by decide +kernel) (Sm.out ?_))
            | (refine Ob.mk ?_; focus (first | assumption | omega | decide | trivial | (intro hob; simp only [hob, ZF]; done) | (intros; (repeat' refine And.intro ?_ ?_) <;> first | assumption | omega | trivial | decide) | (intros; simp only [ZE] at *; (repeat' refine And.intro ?_ ?_) <;> first | assumption | omega | trivial)))
            | (refine And.intro (Ob.out ?_) ?_)
            | (refine WP.block ?_)
            | (refine WP.cond rfl (fun hc => ?_) (fun hc => ?_) <;> (try simp only [ZC, reduceCtorEq, ZD] at hc) <;> (try (exact absurd hc (by decide))) <;> (try (exfalso; omega)))
            | ((first | refine WP.skip ?_ | refine WP.exit ?_); simp only [SeqQ, BlkQ, LoopQ, BodyQ, ↓reduceIte, Nat.reduceEqDiff, reduceCtorEq, look, true_and])
            | (refine WP.ret (Sm.out ?_))
            | (first | refine ExG.no (Sm.out ?_) | refine Or.inl (ExG.no (Sm.out ?_)) | refine Or.inl (And.intro (fun hg => absurd hg (by decide)) (ExG.no (Sm.out ?_))))
            | (refine Rt.mk ?_; refine And.intro ?_ ?_ <;> (intro hg; first | exact absurd hg (by decide) | refine Sm.out ?_))
            | (refine Nu.mk ?_; first | (fail_if_success (have := nb1)); intro nb1 | (fail_if_success (have := nb2)); intro nb2 | (fail_if_success (have := nb3)); intro nb3 | (fail_if_success (have := nb4)); intro nb4 | intro nbz)
            | (refine Fr.mk ?_; intro hfr; (first | (have hFRb : _ ≤ _ ∧ _ ≤ _ := And.intro hfr.1 hfr.2.1) | (have hFRb : _ ≤ _ := hfr.1) | skip); replace FR := Sm.mk (And.intro hfr FR.out); clear hfr; refine Sm.out ?_)
            | (refine Two.mk ?_ ?_)
            | (refine Cs.mk ?_; intro hcs; first | exact False.elim hcs | (exfalso; omega) | (refine Sm.out ?_))
            | go_step
            | omega
            | (simp only [maxLen_eq]; omega))
      all_goals exact ⟨⟨i + 1, A6, o ++ ([92, 117, 123] ++ (H ++ [125]))⟩, ⟨by simp only; omega, hA6, hnl, hMn⟩, by simp only; omega, (Sub.pick (by simp [pickB, hget, hdel, FR.out]) (by simp [look]))⟩
    · have k5 : decide (X < 32) = false := decide_eq_false (by omega)
      have k6 : (X == 127) = false := beq_eq_false_iff_ne.2 (by omega)
      have eq : qrep X = enc8 X := by unfold qrep; rw [if_pos (escS_no (by unfold escB; omega))]
      have cB := rbytes_ct X hX0
      rw [eq] at hMi hql
      have ea := bstr_app o (enc8 X)
      have p2 := bstr_size (enc8 X)
      obtain ⟨H, hH⟩ : ∃ H, H = enc8 X := ⟨_, rfl⟩
      rw [← hH] at cB hMi hql ea p2
      obtain ⟨l, hl'⟩ : ∃ l, l = H.length := ⟨_, rfl⟩
      rw [← hl'] at hql p2
      have b1 : lo + l ≤ 9223372036854775807 := by omega
      unfold stz at cB
      rw [← hS] at ea
      obtain ⟨A1, hA1⟩ : ∃ A, A = bstr H := ⟨_, rfl⟩
      obtain ⟨A4, hA4⟩ : ∃ A, A = bstr (o ++ H) := ⟨_, rfl⟩
      rw [← hA1] at cB ea p2
      rw [← hA4] at ea
      first | (have FRx := FR; clear FRx) | (have FR : Sm (¬ ((1 : Nat) = 0)) := Sm.mk Nat.one_ne_zero)
      repeat' first
        | (refine Sm.mk ?_; try simp -dsimp only [ZK, rvc, drawF, headN, pureH, stp, dvc, calleeOf, gcall, pev, eff, newB, okd, og, ogs, ogo, ogp, slv, bltv, opd, litv, strip, one, both, putE, St.put, look, gdOf, gdv, picka, pickv, pickw, binv, bini, bins, binb, binp, binq, isSlT, bina, shp, eqCells, unv, convv, nilv, faddv, addp, idxav, idxp, load1, load1m, loadn, loadnm, loadv, hget, hset, hrep, hdel, slicev, bnd, shift1, lenv, capv, IntKind.bits, extractv, fieldv, indexv, min2v, max2v, mkiv, cellsA, fillA, buildv, stC, oneC, rowMB, intsA, plN, appE, appZ, appC, appNZ, appNC, VwL, srcC, srcZ, srcM, isBoolT, isPtrT, isSliceT, uOk, Value.oneCell', Nat.reducePow, Int.reducePow, Nat.reduceAdd, Nat.reduceMul, Nat.reduceSub, Nat.reduceLT, Nat.reduceLeDiff, Nat.reduceEqDiff, Nat.reduceBEq, Nat.reduceDiv, Nat.reduceMod, ↓reduceIte, reduceCtorEq, Int.reduceToNat, Int.reduceLT, Int.reduceLE, TFTyH, SeqQ, BlkQ, LoopQ, BodyQ, hLn, ki, s1, t1, hX', k1, k2, k3, k4, k5, k6, hin, s0, p2, ea, b1, FR.out])
        | (first | refine CallV.fn (cB) (Sm.out ?_) | refine ExF.mk (cB) (Sm.out ?_) | refine ExG.mk (fun _ => cB) (Sm.out ?_) | refine ExG.mkJ (fun _ => cB) (Sm.out ?_) | refine ExG.mkI (Ob.out ?_) (fun _ => cB) (Sm.out ?_))
        | (refine WP.seq fun K hK => ?_)
        | (refine WP.region (rvc_sound _ _ (Sm.out ?_)))
        | (refine WP.drawK rfl mixed (by decide +kernel) (Sm.out ?_))
        | (refine Ob.mk ?_; focus (first | assumption | omega | decide | trivial | (intro hob; simp only [hob, ZF]; done) | (intros; (repeat' refine And.intro ?_ ?_) <;> first | assumption | omega | trivial | decide) | (intros; simp only [ZE] at *; (repeat' refine And.intro ?_ ?_) <;> first | assumption | omega | trivial)))
        | (refine And.intro (Ob.out ?_) ?_)
        | (refine WP.block ?_)
        | (refine WP.cond rfl (fun hc => ?_) (fun hc => ?_) <;> (try simp only [ZC, reduceCtorEq, ZD] at hc) <;> (try (exact absurd hc (by decide))) <;> (try (exfalso; omega)))
        | ((first | refine WP.skip ?_ | refine WP.exit ?_); simp only [SeqQ, BlkQ, LoopQ, BodyQ, ↓reduceIte, Nat.reduceEqDiff, reduceCtorEq, look, true_and])
        | (refine WP.ret (Sm.out ?_))
        | (first | refine ExG.no (Sm.out ?_) | refine Or.inl (ExG.no (Sm.out ?_)) | refine Or.inl (And.intro (fun hg => absurd hg (by decide)) (ExG.no (Sm.out ?_))))
        | (refine Rt.mk ?_; refine And.intro ?_ ?_ <;> (intro hg; first | exact absurd hg (by decide) | refine Sm.out ?_))
        | (refine Nu.mk ?_; first | (fail_if_success (have := nb1)); intro nb1 | (fail_if_success (have := nb2)); intro nb2 | (fail_if_success (have := nb3)); intro nb3 | (fail_if_success (have := nb4)); intro nb4 | intro nbz)
        | (refine Fr.mk ?_; intro hfr; (first | (have hFRb : _ ≤ _ ∧ _ ≤ _ := And.intro hfr.1 hfr.2.1) | (have hFRb : _ ≤ _ := hfr.1) | skip); replace FR := Sm.mk (And.intro hfr FR.out); clear hfr; refine Sm.out ?_)
        | (refine Two.mk ?_ ?_)
        | (refine Cs.mk ?_; intro hcs; first | exact False.elim hcs | (exfalso; omega) | (refine Sm.out ?_))
        | go_step
        | omega
        | (simp only [maxLen_eq]; omega)
      exact ⟨⟨i + 1, A4, o ++ H⟩, ⟨by simp only; omega, hA4, by simp only [List.length_append]; omega, hMi⟩, by simp only; omega, (Sub.pick (by simp [pickB, hget, hdel, FR.out]) (by simp [look]))⟩
  · have ki : decide ((i : Int) < (n : Int)) = false := decide_eq_false (by omega)
    have eM : M = o := by rw [hMi, List.drop_eq_nil_of_le (by omega)]; simp
    have ea := bstr_app o [34]
    have p1 := bstr_size [34]
    rw [← hS, ← hA, ← eM, ← hR] at ea
    rw [← hA] at p1
    simp only [List.length_cons, List.length_nil, Nat.zero_add] at p1
    have b1 : lo + 1 ≤ 9223372036854775807 := by omega
    first | (have FRx := FR; clear FRx) | (have FR : Sm (¬ ((1 : Nat) = 0)) := Sm.mk Nat.one_ne_zero)
    repeat' first
      | (refine Sm.mk ?_; try simp -dsimp only [ZK, rvc, drawF, headN, pureH, stp, dvc, calleeOf, gcall, pev, eff, newB, okd, og, ogs, ogo, ogp, slv, bltv, opd, litv, strip, one, both, putE, St.put, look, gdOf, gdv, picka, pickv, pickw, binv, bini, bins, binb, binp, binq, isSlT, bina, shp, eqCells, unv, convv, nilv, faddv, addp, idxav, idxp, load1, load1m, loadn, loadnm, loadv, hget, hset, hrep, hdel, slicev, bnd, shift1, lenv, capv, IntKind.bits, extractv, fieldv, indexv, min2v, max2v, mkiv, cellsA, fillA, buildv, stC, oneC, rowMB, intsA, plN, appE, appZ, appC, appNZ, appNC, VwL, srcC, srcZ, srcM, isBoolT, isPtrT, isSliceT, uOk, Value.oneCell', Nat.reducePow, Int.reducePow, Nat.reduceAdd, Nat.reduceMul, Nat.reduceSub, Nat.reduceLT, Nat.reduceLeDiff, Nat.reduceEqDiff, Nat.reduceBEq, Nat.reduceDiv, Nat.reduceMod, ↓reduceIte, reduceCtorEq, Int.reduceToNat, Int.reduceLT, Int.reduceLE, TFTyH, SeqQ, BlkQ, LoopQ, BodyQ, hLn, ki, zA, s0, p1, ea, b1, FR.out])
      | (refine WP.seq fun K hK => ?_)
      | (refine WP.region (rvc_sound _ _ (Sm.out ?_)))
      | (refine WP.drawK rfl mixed (by decide +kernel) (Sm.out ?_))
      | (refine Ob.mk ?_; focus (first | assumption | omega | decide | trivial | (intro hob; simp only [hob, ZF]; done) | (intros; (repeat' refine And.intro ?_ ?_) <;> first | assumption | omega | trivial | decide) | (intros; simp only [ZE] at *; (repeat' refine And.intro ?_ ?_) <;> first | assumption | omega | trivial)))
      | (refine And.intro (Ob.out ?_) ?_)
      | (refine WP.block ?_)
      | (refine WP.cond rfl (fun hc => ?_) (fun hc => ?_) <;> (try simp only [ZC, reduceCtorEq, ZD] at hc) <;> (try (exact absurd hc (by decide))) <;> (try (exfalso; omega)))
      | ((first | refine WP.skip ?_ | refine WP.exit ?_); simp only [SeqQ, BlkQ, LoopQ, BodyQ, ↓reduceIte, Nat.reduceEqDiff, reduceCtorEq, look, true_and])
      | (refine WP.ret (Sm.out ?_))
      | (first | refine ExG.no (Sm.out ?_) | refine Or.inl (ExG.no (Sm.out ?_)) | refine Or.inl (And.intro (fun hg => absurd hg (by decide)) (ExG.no (Sm.out ?_))))
      | (refine Rt.mk ?_; refine And.intro ?_ ?_ <;> (intro hg; first | exact absurd hg (by decide) | refine Sm.out ?_))
      | (refine Nu.mk ?_; first | (fail_if_success (have := nb1)); intro nb1 | (fail_if_success (have := nb2)); intro nb2 | (fail_if_success (have := nb3)); intro nb3 | (fail_if_success (have := nb4)); intro nb4 | intro nbz)
      | (refine Fr.mk ?_; intro hfr; (first | (have hFRb : _ ≤ _ ∧ _ ≤ _ := And.intro hfr.1 hfr.2.1) | (have hFRb : _ ≤ _ := hfr.1) | skip); replace FR := Sm.mk (And.intro hfr FR.out); clear hfr; refine Sm.out ?_)
      | (refine Two.mk ?_ ?_)
      | (refine Cs.mk ?_; intro hcs; first | exact False.elim hcs | (exfalso; omega) | (refine Sm.out ?_))
      | go_step
      | omega
      | (simp only [maxLen_eq]; omega)
    (refine OutQ.all ?_ ?_; (focus (simp only [resv, ZK, look, loadv, loadn, loadnm, load1, load1m, hget, ↓reduceIte, Nat.reduceEqDiff, Nat.reduceAdd, Nat.reduceMul, Nat.reduceLeDiff, Nat.reduceLT, reduceCtorEq, TFTyH, ea])); (try simp only [resv, resA, Fn, ZK, look, loadv, loadn, loadnm, load1, load1m, hget, ↓reduceIte, Nat.reduceEqDiff, Nat.reduceAdd, Nat.reduceMul, Nat.reduceLeDiff, Nat.reduceLT, reduceCtorEq, TFTyH, ea]); (try simp [resA, Fn, look, ea]))
end Go.Proofs.YtjdjpgjjnajjhaaDoor
namespace Go.Proofs.YtjdjpgjjnajjhaaDoor
open Go
set_option linter.unusedVariables false
set_option linter.unusedSimpArgs false
/-- hex digits, six at most -/
def hexR : List Int → Nat → Int → Nat × Int × List Int
  | [], k, r => (k, r, [])
  | c :: T, k, r => if 0 ≤ hexV c ∧ k < 6 then hexR T (k + 1) (16 * r + hexV c) else (k, r, c :: T)
theorem hexR_cons (c : Int) (T : List Int) (k : Nat) (r : Int) : hexR (c :: T) k r = if 0 ≤ hexV c ∧ k < 6 then hexR T (k + 1) (16 * r + hexV c) else (k, r, c :: T) := rfl
theorem hexR_len : ∀ (V : List Int) (k : Nat) (r : Int), (hexR V k r).2.2.length ≤ V.length := by
  intro V
  induction V with
  | nil => intro k r; exact Nat.le_refl _
  | cons c T ih =>
    intro k r
    rw [hexR_cons]
    split
    · exact Nat.le_succ_of_le (ih _ _)
    · exact Nat.le_refl _
open Classical in
/-- what comes of hex digits -/
noncomputable def endR : Nat × Int × List Int → Option (Int × List Int)
  | (_, _, []) => none
  | (k, r, c :: W) => if c ≠ 125 ∨ k = 0 ∨ ¬ Gr r then none else some (r, W)
theorem endR_no {k : Nat} {r c : Int} {W : List Int} (h : c ≠ 125 ∨ k = 0 ∨ ¬ Gr r) : endR (k, r, c :: W) = none := if_pos h
theorem endR_yes {k : Nat} {r c : Int} {W : List Int} (h : ¬ (c ≠ 125 ∨ k = 0 ∨ ¬ Gr r)) : endR (k, r, c :: W) = some (r, W) := if_neg h
/-- behind a backslash and a u -/
noncomputable def numR : List Int → Option (Int × List Int)
  | [] => none
  | d :: V => if d = 123 then endR (hexR V 0 0) else none
/-- behind a backslash -/
noncomputable def escR : List Int → Option (Int × List Int)
  | [] => none
  | c :: U => if c = 34 ∨ c = 92 then some (c, U) else if c = 110 then some (10, U) else if c = 116 then some (9, U) else if c = 117 then numR U else none
/-- a rune that is no mark, and what stands behind it -/
noncomputable def oneR (r : Int) (T : List Int) : Option (Int × List Int) := if r < 32 ∨ r = 127 then none else if r = 92 then escR T else some (r, T)
noncomputable def loopR : Nat → List Int → List Int → Option (List Int × List Int)
  | 0, _, _ => none
  | _ + 1, a, [] => some (a, [])
  | f + 1, a, r :: T => if r = 34 then some (a, r :: T) else match oneR r T with
    | none => none
    | some p => loopR f (a ++ [p.1]) p.2
theorem loopR_nil (f : Nat) (a : List Int) : loopR (f + 1) a [] = some (a, []) := rfl
theorem loopR_end (f : Nat) (a T : List Int) : loopR (f + 1) a (34 :: T) = some (a, 34 :: T) := rfl
theorem loopR_no {f : Nat} {a T : List Int} {r : Int} (h : r ≠ 34) (ho : oneR r T = none) : loopR (f + 1) a (r :: T) = none := by
  show (if r = 34 then _ else match oneR r T with | none => none | some p => loopR f (a ++ [p.1]) p.2) = none
  rw [if_neg h, ho]
theorem loopR_go {f : Nat} {a T U : List Int} {r c : Int} (h : r ≠ 34) (ho : oneR r T = some (c, U)) : loopR (f + 1) a (r :: T) = loopR f (a ++ [c]) U := by
  show (if r = 34 then _ else match oneR r T with | none => none | some p => loopR f (a ++ [p.1]) p.2) = _
  rw [if_neg h, ho]
noncomputable def refE : Option (List Int × List Int) → List Int × Int
  | none => ([], 5)
  | some (a, rest) => if rest ≠ [34] then ([], 5) else if 120 < a.length then ([], 9) else (a.flatMap enc8, 0)
theorem refE_some (a rest : List Int) : refE (some (a, rest)) = if rest ≠ [34] then ([], 5) else if 120 < a.length then ([], 9) else (a.flatMap enc8, 0) := rfl
noncomputable def refU (L : List Int) : List Int × Int := if L.length < 2 ∨ L.getD 0 0 ≠ 34 then ([], 5) else refE (loopR (L.length + 1) [] (L.drop 1))
theorem tk0_m (nn ct : Int) : tkS ⟨0, nn, ct⟩ 34 = ⟨true, ⟨4, nn, ct⟩, []⟩ := by unfold tkS; rw [if_pos rfl, if_pos rfl]
theorem tk0_b (nn ct : Int) : tkS ⟨0, nn, ct⟩ 92 = ⟨true, ⟨1, nn, ct⟩, []⟩ := by unfold tkS; rw [if_pos rfl, if_neg (by decide), if_pos rfl]
theorem tk0_l (nn ct : Int) {r : Int} (h : r < 32 ∨ r = 127) : (tkS ⟨0, nn, ct⟩ r).ok = false := by unfold tkS; rw [if_pos rfl, if_neg (by omega), if_neg (by omega), if_pos h]
theorem tk0_p (nn ct : Int) {r : Int} (h : r ≠ 34 ∧ r ≠ 92 ∧ ¬ (r < 32 ∨ r = 127)) : tkS ⟨0, nn, ct⟩ r = ⟨true, ⟨0, nn, ct⟩, enc8 r⟩ := by unfold tkS; rw [if_pos rfl, if_neg h.1, if_neg h.2.1, if_neg h.2.2]
theorem tk1_u (nn ct : Int) : tkS ⟨1, nn, ct⟩ 117 = ⟨true, ⟨2, nn, ct⟩, []⟩ := by unfold tkS; rw [if_neg (show ¬ ((1 : Int) = 0) by decide), if_pos rfl, if_pos rfl]
theorem tk1_s (nn ct : Int) {r : Int} (h : r = 34 ∨ r = 92) : tkS ⟨1, nn, ct⟩ r = ⟨true, ⟨0, nn, ct⟩, enc8 r⟩ := by unfold tkS; rw [if_neg (show ¬ ((1 : Int) = 0) by decide), if_pos rfl, if_neg (by omega), if_pos h]
theorem tk1_n (nn ct : Int) : tkS ⟨1, nn, ct⟩ 110 = ⟨true, ⟨0, nn, ct⟩, enc8 10⟩ := by unfold tkS; rw [if_neg (show ¬ ((1 : Int) = 0) by decide), if_pos rfl, if_neg (by decide), if_neg (by decide), if_pos rfl]
theorem tk1_t (nn ct : Int) : tkS ⟨1, nn, ct⟩ 116 = ⟨true, ⟨0, nn, ct⟩, enc8 9⟩ := by unfold tkS; rw [if_neg (show ¬ ((1 : Int) = 0) by decide), if_pos rfl, if_neg (by decide), if_neg (by decide), if_neg (by decide), if_pos rfl]
theorem tk1_x (nn ct : Int) {r : Int} (h : r ≠ 34 ∧ r ≠ 92 ∧ r ≠ 110 ∧ r ≠ 116 ∧ r ≠ 117) : (tkS ⟨1, nn, ct⟩ r).ok = false := by
  unfold tkS; rw [if_neg (show ¬ ((1 : Int) = 0) by decide), if_pos rfl, if_neg h.2.2.2.2, if_neg (by omega), if_neg h.2.2.1, if_neg h.2.2.2.1]
theorem tk2_o (nn ct r : Int) : tkS ⟨2, nn, ct⟩ r = ⟨r == 123, ⟨3, 0, 0⟩, []⟩ := by unfold tkS; rw [if_neg (show ¬ ((2 : Int) = 0) by decide), if_neg (show ¬ ((2 : Int) = 1) by decide), if_pos rfl]
theorem tk3_d (nn ct : Int) {r : Int} (h : 0 ≤ hexV r ∧ ct < 6) : tkS ⟨3, nn, ct⟩ r = ⟨true, ⟨3, 16 * nn + hexV r, ct + 1⟩, []⟩ := by
  unfold tkS; rw [if_neg (show ¬ ((3 : Int) = 0) by decide), if_neg (show ¬ ((3 : Int) = 1) by decide), if_neg (show ¬ ((3 : Int) = 2) by decide), if_pos rfl, if_pos h]
theorem tk3_x (nn ct : Int) {r : Int} (h : ¬ (0 ≤ hexV r ∧ ct < 6)) (h2 : r ≠ 125 ∨ ct = 0 ∨ ¬ Gr nn) : (tkS ⟨3, nn, ct⟩ r).ok = false := by
  unfold tkS; rw [if_neg (show ¬ ((3 : Int) = 0) by decide), if_neg (show ¬ ((3 : Int) = 1) by decide), if_neg (show ¬ ((3 : Int) = 2) by decide), if_pos rfl, if_neg h, if_pos h2]
theorem tk3_e (nn ct : Int) {r : Int} (h : ¬ (0 ≤ hexV r ∧ ct < 6)) (h2 : ¬ (r ≠ 125 ∨ ct = 0 ∨ ¬ Gr nn)) : tkS ⟨3, nn, ct⟩ r = ⟨true, ⟨0, nn, ct⟩, enc8 nn⟩ := by
  unfold tkS; rw [if_neg (show ¬ ((3 : Int) = 0) by decide), if_neg (show ¬ ((3 : Int) = 1) by decide), if_neg (show ¬ ((3 : Int) = 2) by decide), if_pos rfl, if_neg h, if_neg h2]
theorem tk4_x (nn ct r : Int) : (tkS ⟨4, nn, ct⟩ r).ok = false := by
  unfold tkS; rw [if_neg (show ¬ ((4 : Int) = 0) by decide), if_neg (show ¬ ((4 : Int) = 1) by decide), if_neg (show ¬ ((4 : Int) = 2) by decide), if_neg (show ¬ ((4 : Int) = 3) by decide)]
theorem mach_go {s : RS} {o : List Int} {r : Int} {l : List Int} {O : RO} (h : tkS s r = O) (hk : O.ok = true) : mach s o (r :: l) = mach O.s (o ++ O.out) l := by
  rw [mach_cons, h, if_pos hk]
theorem mach_no {s : RS} {o : List Int} {r : Int} {l : List Int} (h : (tkS s r).ok = false) : mach s o (r :: l) = none := by
  rw [mach_cons, h]; rfl
theorem mach_nil (s : RS) (o : List Int) : mach s o [] = some (s, o) := rfl
theorem unqE_st {s : RS} {o : List Int} (h : s.st ≠ 4) : unqE (some (s, o)) = ([], 5) := by rw [unqE_some, if_pos h]
theorem mach_hex (o : List Int) : ∀ (V : List Int) (k : Nat) (r : Int), unqE (mach ⟨3, r, (k : Int)⟩ o V) = match endR (hexR V k r) with
    | none => ([], 5)
    | some p => unqE (mach ⟨0, p.1, ((hexR V k r).1 : Int)⟩ (o ++ enc8 p.1) p.2) := by
  intro V
  induction V with
  | nil => intro k r; rw [mach_nil, unqE_st (by simp)]; rfl
  | cons c T ih =>
    intro k r
    by_cases h : 0 ≤ hexV c ∧ k < 6
    · rw [mach_go (tk3_d r (k : Int) (r := c) ⟨h.1, by omega⟩) rfl, List.append_nil, hexR_cons, if_pos h]
      exact ih (k + 1) _
    · have h' : ¬ (0 ≤ hexV c ∧ (k : Int) < 6) := fun x => h ⟨x.1, by omega⟩
      rw [hexR_cons, if_neg h]
      by_cases h2 : c ≠ 125 ∨ (k : Int) = 0 ∨ ¬ Gr r
      · rw [mach_no (tk3_x r (k : Int) h' h2), endR_no (by rcases h2 with x | x | x; exact .inl x; exact .inr (.inl (by omega)); exact .inr (.inr x))]; rfl
      · rw [mach_go (tk3_e r (k : Int) h' h2) rfl, endR_yes (by intro x; exact h2 (by rcases x with x | x | x; exact .inl x; exact .inr (.inl (by omega)); exact .inr (.inr x)))]
theorem endR_gr {p : Nat × Int × List Int} {c : Int} {U : List Int} (h : endR p = some (c, U)) : Gr c ∧ U.length ≤ p.2.2.length ∧ ∀ x ∈ U, x ∈ p.2.2 := by
  obtain ⟨k, r, W⟩ := p
  cases W with
  | nil => cases h
  | cons d W =>
    by_cases h2 : d ≠ 125 ∨ k = 0 ∨ ¬ Gr r
    · rw [endR_no h2] at h; cases h
    · rw [endR_yes h2] at h
      cases h
      exact ⟨Classical.byContradiction fun x => h2 (.inr (.inr x)), Nat.le_succ _, fun x hx => List.mem_cons_of_mem _ hx⟩
theorem hexR_mem : ∀ (V : List Int) (k : Nat) (r : Int), ∀ x ∈ (hexR V k r).2.2, x ∈ V := by
  intro V
  induction V with
  | nil => intro k r x hx; exact hx
  | cons c T ih =>
    intro k r x hx
    rw [hexR_cons] at hx
    split at hx
    · exact List.mem_cons_of_mem _ (ih _ _ x hx)
    · exact hx
theorem fm_app (a : List Int) (c : Int) : (a ++ [c]).flatMap enc8 = a.flatMap enc8 ++ enc8 c := by simp
theorem unq_mach : ∀ (f : Nat) (L a : List Int) (nn ct : Int), L.length < f → (∀ r ∈ L, Gr r) → (∀ r ∈ a, Gr r) → unqE (mach ⟨0, nn, ct⟩ (a.flatMap enc8) L) = refE (loopR f a L) := by
  intro f
  induction f with
  | zero => intro L a nn ct h; exact absurd h (Nat.not_lt_zero _)
  | succ f ih =>
    intro L a nn ct hf hL ha
    have happ : ∀ c, Gr c → ∀ r ∈ a ++ [c], Gr r := fun c hc r hr => by
      rcases List.mem_append.1 hr with h | h
      · exact ha r h
      · rw [List.mem_singleton.1 h]; exact hc
    cases L with
    | nil => rw [mach_nil, unqE_st (by simp), loopR_nil, refE_some, if_pos (by simp)]
    | cons r T =>
      have hT : ∀ x ∈ T, Gr x := fun x hx => hL x (List.mem_cons_of_mem _ hx)
      have hr := hL r (by simp)
      have hfT : T.length < f := by simp only [List.length_cons] at hf; omega
      clear hf
      by_cases c1 : r = 34
      · subst c1
        rw [mach_go (tk0_m nn ct) rfl, List.append_nil, loopR_end, refE_some]
        cases T with
        | nil =>
          have e1 : ¬ ((⟨4, nn, ct⟩ : RS).st ≠ 4) := fun h => h rfl
          have e2 : ¬ (([34] : List Int) ≠ [34]) := fun h => h rfl
          rw [mach_nil, unqE_some, rn_encs0 ha, if_neg e1, if_neg e2]
        | cons t T => rw [mach_no (tk4_x nn ct t), if_pos (by simp)]; rfl
      by_cases c2 : r < 32 ∨ r = 127
      · rw [mach_no (tk0_l nn ct c2), loopR_no c1 (by unfold oneR; rw [if_pos c2])]; rfl
      by_cases c3 : r = 92
      · subst c3
        rw [mach_go (tk0_b nn ct) rfl, List.append_nil]
        have ho : oneR 92 T = escR T := by unfold oneR; rw [if_neg c2, if_pos rfl]
        cases T with
        | nil => rw [mach_nil, unqE_st (by simp), loopR_no c1 (by rw [ho]; rfl)]; rfl
        | cons c U =>
          have hU : ∀ x ∈ U, Gr x := fun x hx => hT x (List.mem_cons_of_mem _ hx)
          have hfU : U.length < f := by simp only [List.length_cons] at hfT; omega
          clear hfT
          have he : escR (c :: U) = if c = 34 ∨ c = 92 then some (c, U) else if c = 110 then some (10, U) else if c = 116 then some (9, U) else if c = 117 then numR U else none := rfl
          by_cases d1 : c = 34 ∨ c = 92
          · rw [mach_go (tk1_s nn ct d1) rfl, loopR_go c1 (by rw [ho, he, if_pos d1]), ← fm_app]
            exact ih U _ nn ct hfU hU (happ _ (hT c (by simp)))
          by_cases d2 : c = 110
          · subst d2
            rw [mach_go (tk1_n nn ct) rfl, loopR_go c1 (by rw [ho, he, if_neg d1, if_pos rfl]), ← fm_app]
            exact ih U _ nn ct hfU hU (happ _ (by unfold Gr; omega))
          by_cases d3 : c = 116
          · subst d3
            rw [mach_go (tk1_t nn ct) rfl, loopR_go c1 (by rw [ho, he, if_neg d1, if_neg d2, if_pos rfl]), ← fm_app]
            exact ih U _ nn ct hfU hU (happ _ (by unfold Gr; omega))
          by_cases d4 : c = 117
          · subst d4
            rw [mach_go (tk1_u nn ct) rfl, List.append_nil]
            rw [if_neg d1, if_neg d2, if_neg d3, if_pos rfl] at he
            cases U with
            | nil => rw [mach_nil, unqE_st (by simp), loopR_no c1 (by rw [ho, he]; rfl)]; rfl
            | cons d V =>
              have hV : ∀ x ∈ V, Gr x := fun x hx => hU x (List.mem_cons_of_mem _ hx)
              have hfV : V.length < f := by simp only [List.length_cons] at hfU; omega
              clear hfU
              by_cases e1 : d = 123
              · subst e1
                rw [mach_go (tk2_o nn ct 123) rfl, List.append_nil]
                have hh := mach_hex (a.flatMap enc8) V 0 0
                have hn : numR (123 :: V) = endR (hexR V 0 0) := rfl
                rw [hn] at he
                have hl := hexR_len V 0 0
                have hm := hexR_mem V 0 0
                have hg := fun c U => @endR_gr (hexR V 0 0) c U
                cases hE : endR (hexR V 0 0) with
                | none => rw [hE] at hh he; rw [loopR_no c1 (by rw [ho, he])]; exact hh
                | some p =>
                  obtain ⟨c', U'⟩ := p
                  rw [hE] at hh he
                  obtain ⟨g1, g2, g3⟩ := hg c' U' hE
                  rw [loopR_go c1 (by rw [ho, he])]
                  refine Eq.trans hh ?_
                  simp only
                  rw [← fm_app]
                  exact ih U' _ _ _ (by omega) (fun x hx => hV x (hm x (g3 x hx))) (happ _ g1)
              · have hno : (tkS ⟨2, nn, ct⟩ d).ok = false := by rw [tk2_o]; exact beq_eq_false_iff_ne.2 e1
                rw [mach_no hno, loopR_no c1 (by rw [ho, he]; show (if d = 123 then _ else none) = none; rw [if_neg e1])]; rfl
          · rw [mach_no (tk1_x nn ct (by omega)), loopR_no c1 (by rw [ho, he, if_neg d1, if_neg d2, if_neg d3, if_neg d4])]; rfl
      · rw [mach_go (tk0_p nn ct ⟨c1, c3, c2⟩) rfl, loopR_go c1 (show oneR r T = some (r, T) by unfold oneR; rw [if_neg c2, if_neg c3]), ← fm_app]
        exact ih T _ nn ct hfT hT (happ _ hr)
/-- the first rune is a mark just if the first byte is one -/
theorem rn_first {zs : List Int} (hb : By zs) (hg : Gd zs 0) : zs.take 1 = [34] ↔ (rn zs).take 1 = [34] := by
  cases zs with
  | nil => exact Iff.intro (fun h => by cases h) (fun h => by cases h)
  | cons z r =>
    have h : 0 < (z :: r).length := by simp
    rw [← rF_zero, rF_step h]
    have h2 := enc_el hb h ((Gd_step h).1 hg).1
    rw [List.drop_zero] at h2
    constructor
    · intro h0
      have hz : z = 34 := by simpa using h0
      subst hz
      have he : (elR (34 :: r) 0).1 = 34 := by unfold elR; rw [if_pos (show (34 :: r).getD 0 0 < 128 from (show (34 : Int) < 128 by decide))]; rfl
      rw [he]; rfl
    · intro h0
      have he : (elR (z :: r) 0).1 = 34 := by simpa using h0
      rw [he] at h2
      have e34 : enc8 34 = [34] := rfl
      rw [e34] at h2
      rw [h2]; rfl
theorem rn_tail {zs : List Int} (hb : By zs) (hg : Gd zs 0) (h : zs.take 1 = [34]) : rn zs = 34 :: rn (zs.drop 1) := by
  cases zs with
  | nil => cases h
  | cons z r =>
    have hz : z = 34 := by simpa using h
    subst hz
    rw [← rF_zero, rF_step (by simp), rn_drop]
    have he : elR (34 :: r) 0 = (34, 1) := by unfold elR; rw [if_pos (show (34 :: r).getD 0 0 < 128 from (show (34 : Int) < 128 by decide))]; rfl
    rw [he]; rfl
theorem unqA_ref {zs : List Int} (hb : By zs) (hg : gdB zs = true) : unqA zs = refU (rn zs) := by
  have hG := gdB_iff.1 hg
  have hgr := gr_rn hb hG
  unfold unqA refU
  by_cases h : zs.take 1 = [34]
  · rw [if_pos ⟨h, hg⟩]
    have ht := rn_tail hb hG h
    rw [ht] at hgr ⊢
    have hr : ∀ x ∈ rn (zs.drop 1), Gr x := fun x hx => hgr x (List.mem_cons_of_mem _ hx)
    have hm := unq_mach ((rn (zs.drop 1)).length + 2) (rn (zs.drop 1)) [] 0 0 (by omega) hr (fun r hr => by cases hr)
    rw [List.flatMap_nil] at hm
    by_cases hl : (rn (zs.drop 1)) = []
    · rw [hl, if_pos (.inl (by simp)), mach_nil, unqE_st (by simp)]
    · have hp := List.length_pos_iff.2 hl
      rw [if_neg (by simp only [List.length_cons, List.getD_cons_zero]; omega)]
      exact hm
  · rw [if_neg (fun x => h x.1)]
    have h2 := fun x => h ((rn_first hb hG).2 x)
    cases hL : rn zs with
    | nil => rw [if_pos (.inl (by simp))]
    | cons r T =>
      rw [hL] at h2
      rw [if_pos (.inr (by intro e; apply h2; simp at e; subst e; rfl))]
end Go.Proofs.YtjdjpgjjnajjhaaDoor
namespace Go.Proofs.YtjdjpgjjnajjhaaDoor
open Go
set_option linter.unusedVariables false
set_option linter.unusedSimpArgs false
theorem hz0 : bstr [] = (⟨#[]⟩ : ByteArray) := rfl
end Go.Proofs.YtjdjpgjjnajjhaaDoor
namespace Go.Proofs.YtjdjpgjjnajjhaaDoor
open Go
set_option linter.unusedVariables false
set_option linter.unusedSimpArgs false
/-- what a rune is quoted as, as runes -/
def qru (r : Int) : List Int := if escS r = [] then [r] else escS r
theorem enc_ascii : ∀ l : List Int, (∀ x ∈ l, 0 ≤ x ∧ x < 128) → l.flatMap enc8 = l := by
  intro l
  induction l with
  | nil => intro _; rfl
  | cons x l ih =>
    intro h
    have hx := h x (by simp)
    have e : enc8 x = [x] := by unfold enc8; rw [if_pos hx.2]
    rw [List.flatMap_cons, e, ih fun y hy => h y (List.mem_cons_of_mem _ hy)]; rfl
theorem qru_gr {r : Int} (hr : Gr r) : ∀ x ∈ qru r, Gr x := by
  intro x hx
  unfold qru at hx
  split at hx
  · rw [List.mem_singleton.1 hx]; exact hr
  · have := escS_mem hr.1 x hx
    unfold Gr; omega
theorem qrep_qru {r : Int} (hr : Gr r) : qrep r = (qru r).flatMap enc8 := by
  unfold qrep qru
  split
  · simp
  · exact (enc_ascii _ (escS_mem hr.1)).symm
theorem fm_qrep {L : List Int} (h : ∀ r ∈ L, Gr r) : L.flatMap qrep = (L.flatMap qru).flatMap enc8 := by
  induction L with
  | nil => rfl
  | cons r L ih =>
    rw [List.flatMap_cons, List.flatMap_cons, List.flatMap_append, ih fun x hx => h x (List.mem_cons_of_mem _ hx), qrep_qru (h r (by simp))]
theorem fm_gr {L : List Int} (h : ∀ r ∈ L, Gr r) : ∀ x ∈ L.flatMap qru, Gr x := by
  intro x hx
  obtain ⟨r, hr, hx⟩ := List.mem_flatMap.1 hx
  exact qru_gr (h r hr) x hx
theorem hexV_hxd : ∀ m : Nat, m < 16 → hexV (hxd m) = (m : Int) := by
  intro m hm
  unfold hxd hexV
  split
  · rw [if_pos (by omega)]; omega
  · rw [if_neg (by omega), if_pos (by omega)]; omega
theorem hexR_end (rest : List Int) (k : Nat) (r : Int) : hexR (125 :: rest) k r = (k, r, 125 :: rest) := by
  rw [hexR_cons, if_neg (by rw [show hexV 125 = -1 by decide]; omega)]
theorem numR_hexD {n : Nat} (hn : n < 256) (rest : List Int) : numR (123 :: (hexD n ++ 125 :: rest)) = some ((n : Int), rest) := by
  have hg : Gr (n : Int) := by unfold Gr; omega
  show (if (123 : Int) = 123 then endR (hexR (hexD n ++ 125 :: rest) 0 0) else none) = _
  rw [if_pos rfl]
  unfold hexD
  split
  · rename_i h
    have h1 := hexV_hxd n h
    rw [List.cons_append, List.nil_append, hexR_cons, if_pos (by rw [h1]; omega), h1, hexR_end, show (16 : Int) * 0 + (n : Int) = n by omega]
    exact endR_yes (by intro x; rcases x with x | x | x; exact x rfl; omega; exact x hg)
  · have h1 := hexV_hxd (n / 16) (by omega)
    have h2 := hexV_hxd (n % 16) (by omega)
    rw [List.cons_append, List.cons_append, List.nil_append, hexR_cons, if_pos (by rw [h1]; omega), h1, hexR_cons, if_pos (by rw [h2]; omega), h2, hexR_end,
      show (16 : Int) * (16 * 0 + ((n / 16 : Nat) : Int)) + ((n % 16 : Nat) : Int) = n by omega]
    exact endR_yes (by intro x; rcases x with x | x | x; exact x rfl; omega; exact x hg)
/-- a rune that is quoted is read as one -/
theorem one_qru {r : Int} (hr : Gr r) (rest : List Int) : ∃ h T, qru r ++ rest = h :: T ∧ h ≠ 34 ∧ oneR h T = some (r, rest) := by
  have o92 : ∀ T, oneR 92 T = escR T := fun T => by unfold oneR; rw [if_neg (by omega), if_pos rfl]
  unfold qru
  by_cases c1 : r = 34 ∨ r = 92
  · have e : escS r = [92, r] := by unfold escS; rw [if_pos c1]
    rw [e, if_neg (by simp)]
    refine ⟨92, r :: rest, rfl, by omega, ?_⟩
    rw [o92]
    show (if r = 34 ∨ r = 92 then some (r, rest) else _) = _
    rw [if_pos c1]
  by_cases c2 : r = 10
  · have e : escS r = [92, 110] := by unfold escS; rw [if_neg c1, if_pos c2]
    rw [e, if_neg (by simp)]
    exact ⟨92, 110 :: rest, rfl, by omega, by rw [o92, c2]; rfl⟩
  by_cases c3 : r = 9
  · have e : escS r = [92, 116] := by unfold escS; rw [if_neg c1, if_neg c2, if_pos c3]
    rw [e, if_neg (by simp)]
    exact ⟨92, 116 :: rest, rfl, by omega, by rw [o92, c3]; rfl⟩
  by_cases c4 : r < 32 ∨ r = 127
  · have e : escS r = [92, 117, 123] ++ (hexD r.toNat ++ [125]) := by unfold escS; rw [if_neg c1, if_neg c2, if_neg c3, if_pos c4]
    rw [e, if_neg (by simp)]
    have h0 := hr.1
    refine ⟨92, 117 :: 123 :: (hexD r.toNat ++ 125 :: rest), by simp, by omega, ?_⟩
    rw [o92]
    rw [show escR (117 :: 123 :: (hexD r.toNat ++ 125 :: rest)) = numR (123 :: (hexD r.toNat ++ 125 :: rest)) from rfl, numR_hexD (by omega), show ((r.toNat : Nat) : Int) = r by omega]
  · have e : escS r = [] := escS_no (by unfold escB; omega)
    rw [e, if_pos rfl]
    exact ⟨r, rest, rfl, fun h => c1 (.inl h), by unfold oneR; rw [if_neg c4, if_neg (fun h => c1 (.inr h))]⟩
theorem loop_q : ∀ (L a : List Int) (f : Nat), (∀ r ∈ L, Gr r) → (L.flatMap qru).length + 1 < f → loopR f a (L.flatMap qru ++ [34]) = some (a ++ L, [34]) := by
  intro L
  induction L with
  | nil =>
    intro a f _ hf
    obtain ⟨f', rfl⟩ : ∃ f', f = f' + 1 := ⟨f - 1, by omega⟩
    rw [List.append_nil]; exact loopR_end f' a []
  | cons r L ih =>
    intro a f hL hf
    obtain ⟨f', rfl⟩ : ∃ f', f = f' + 1 := ⟨f - 1, by omega⟩
    obtain ⟨h, T, e, h34, ho⟩ := one_qru (hL r (by simp)) (L.flatMap qru ++ [34])
    rw [List.flatMap_cons, List.length_append] at hf
    have hp : 1 ≤ (qru r).length := by
      unfold qru
      split
      · simp
      · rename_i hne; exact List.length_pos_iff.2 hne
    rw [List.flatMap_cons, List.append_assoc, e, loopR_go h34 ho, ih _ f' (fun x hx => hL x (List.mem_cons_of_mem _ hx)) (by omega), List.append_assoc]; rfl
theorem unq_quo {zs : List Int} (hb : By zs) (hg : gdB zs = true) (hl : ¬ 120 < (rn zs).length) (q : List Int) (hq : q = [34] ++ (rn zs).flatMap qrep ++ [34]) : By q ∧ unqA q = (zs, 0) := by
  have hG := gdB_iff.1 hg
  have hgr := gr_rn hb hG
  have hez := enc_rn hb hG
  obtain ⟨L, hL⟩ : ∃ L, L = rn zs := ⟨_, rfl⟩
  rw [← hL] at hgr hez hl hq
  have e34 : enc8 34 = [34] := rfl
  have eq : q = ([34] ++ L.flatMap qru ++ [34]).flatMap enc8 := by
    rw [hq, fm_qrep hgr, List.flatMap_append, List.flatMap_append]; simp [e34]
  have g34 : Gr 34 := by unfold Gr; omega
  have hgq : ∀ x ∈ [34] ++ L.flatMap qru ++ [34], Gr x := by
    intro x hx
    rcases List.mem_append.1 hx with h | h
    · rcases List.mem_append.1 h with h | h
      · rw [List.mem_singleton.1 h]; exact g34
      · exact fm_gr hgr x h
    · rw [List.mem_singleton.1 h]; exact g34
  have hbq : By q := by rw [eq]; exact by_encs hgq
  have hgdq : gdB q = true := gdB_iff.2 (by rw [eq]; exact gd_encs hgq)
  refine ⟨hbq, ?_⟩
  rw [unqA_ref hbq hgdq, eq, rn_encs0 hgq]
  unfold refU
  rw [if_neg (by simp)]
  have h1 : ([34] ++ L.flatMap qru ++ [34]).drop 1 = L.flatMap qru ++ [34] := by rw [List.append_assoc]; rfl
  rw [h1, loop_q L [] _ hgr (by simp only [List.length_append, List.length_cons, List.length_nil]; omega), List.nil_append, refE_some, if_neg (by simp), if_neg hl, hez]
theorem rep_len {L : List Int} : (L.flatMap qrep).length ≤ 6 * L.length := by
  induction L with
  | nil => simp
  | cons r L ih =>
    have := qrep_len r
    rw [List.flatMap_cons, List.length_append, List.length_cons]; omega
end Go.Proofs.YtjdjpgjjnajjhaaDoor
namespace Go.Proofs.YtjdjpgjjnajjhaaDoor
open Go
set_option linter.unusedVariables false
set_option linter.unusedSimpArgs false
theorem TFTyM : (((((type_of% tyc3) ∧ ((type_of% zmb3) ∧ (type_of% tyc4))) ∧ ((type_of% zmb4) ∧ ((type_of% tyc9) ∧ (type_of% zmb9)))) ∧ (((type_of% tyc21) ∧ ((type_of% zmb21) ∧ (type_of% tyc26))) ∧ ((type_of% elt26) ∧ ((type_of% mkz26) ∧ (type_of% apT26))))) ∧ ((((type_of% elk26) ∧ ((type_of% zmb26) ∧ (type_of% tyc32))) ∧ ((type_of% zmb32) ∧ ((type_of% tyc33) ∧ (type_of% Tryd.underlying3)))) ∧ (((type_of% Tryd.underlying4) ∧ ((type_of% Tryd.underlying9) ∧ (type_of% Tryd.underlying21))) ∧ ((type_of% Tryd.underlying26) ∧ ((type_of% Tryd.underlying32) ∧ (type_of% Tryd.underlying33)))))) :=
  ⟨⟨⟨⟨tyc3, ⟨zmb3, tyc4⟩⟩, ⟨zmb4, ⟨tyc9, zmb9⟩⟩⟩, ⟨⟨tyc21, ⟨zmb21, tyc26⟩⟩, ⟨elt26, ⟨mkz26, apT26⟩⟩⟩⟩, ⟨⟨⟨elk26, ⟨zmb26, tyc32⟩⟩, ⟨zmb32, ⟨tyc33, Tryd.underlying3⟩⟩⟩, ⟨⟨Tryd.underlying4, ⟨Tryd.underlying9, Tryd.underlying21⟩⟩, ⟨Tryd.underlying26, ⟨Tryd.underlying32, Tryd.underlying33⟩⟩⟩⟩⟩
set_option maxHeartbeats 2000000 in
theorem quos_ct (zs : List Int) (hb : By zs) (n0 n1 n4 : Nat) : ACt Tryd.prog 5 [stz zs] [(0, .zs .u8 fsZ 256 n0), (1, .zs .u8 acZ 32 n1), (4, .zs .u8 dbZ 64 n4)] (fun r F' => r = bv true ∧ F' = [(0, .zs .u8 fsZ 256 n0), (1, .zs .u8 acZ 32 n1), (4, .zs .u8 dbZ 64 n4)]) := by
  have hs := bstr_size zs
  have cA := awake_ct
  have y1 : ∀ x : List UInt8, (x == x) = true := fun x => beq_self_eq_true x
  by_cases hl : 1000 < zs.length
  · have k0 : decide ((zs.length : Int) > 1000) = true := decide_eq_true (by omega)
    obtain ⟨FZ, hFZ⟩ : ∃ FZ, FZ = fsZ := ⟨_, rfl⟩
    obtain ⟨AZ, hAZ⟩ : ∃ AZ, AZ = acZ := ⟨_, rfl⟩
    obtain ⟨DZ, hDZ⟩ : ∃ DZ, DZ = dbZ := ⟨_, rfl⟩
    rw [← hFZ, ← hAZ, ← hDZ]
    obtain ⟨Z, hZ⟩ : ∃ Z, Z = bstr zs := ⟨_, rfl⟩
    unfold stz
    rw [← hZ] at hs ⊢
    refine ACt.intro Tryd.func5 rfl (by kernel_rfl) (by simp [Tryd.ntmps5]) (fun cx => ?_)
    simp only [argE, Tryd.ntmps5, Tryd.results5]
    first | (have FRx := FR; clear FRx) | (have FR : Sm (¬ ((1 : Nat) = 0)) := Sm.mk Nat.one_ne_zero)
    repeat' first
      | (refine Sm.mk ?_; try simp -dsimp only [ZK, rvc, drawF, headN, pureH, stp, dvc, calleeOf, gcall, pev, eff, newB, okd, og, ogs, ogo, ogp, slv, bltv, opd, litv, strip, one, both, putE, St.put, look, gdOf, gdv, picka, pickv, pickw, binv, bini, bins, binb, binp, binq, isSlT, bina, shp, eqCells, unv, convv, nilv, faddv, addp, idxav, idxp, load1, load1m, loadn, loadnm, loadv, hget, hset, hrep, hdel, slicev, bnd, shift1, lenv, capv, IntKind.bits, extractv, fieldv, indexv, min2v, max2v, mkiv, cellsA, fillA, buildv, stC, oneC, rowMB, intsA, plN, appE, appZ, appC, appNZ, appNC, VwL, srcC, srcZ, srcM, isBoolT, isPtrT, isSliceT, uOk, Value.oneCell', Nat.reducePow, Int.reducePow, Nat.reduceAdd, Nat.reduceMul, Nat.reduceSub, Nat.reduceLT, Nat.reduceLeDiff, Nat.reduceEqDiff, Nat.reduceBEq, Nat.reduceDiv, Nat.reduceMod, ↓reduceIte, reduceCtorEq, Int.reduceToNat, Int.reduceLT, Int.reduceLE, TFTyM, SeqQ, BlkQ, LoopQ, BodyQ, hs, k0, FR.out])
      | (first | refine CallV.fn (cA) (Sm.out ?_) | refine ExF.mk (cA) (Sm.out ?_) | refine ExG.mk (fun _ => cA) (Sm.out ?_) | refine ExG.mkJ (fun _ => cA) (Sm.out ?_) | refine ExG.mkI (Ob.out ?_) (fun _ => cA) (Sm.out ?_))
      | (refine WP.seq fun K hK => ?_)
      | (refine WP.region (rvc_sound _ _ (Sm.out ?_)))
      | (refine WP.drawK rfl mixed (by decide +kernel) (Sm.out ?_))
      | (refine Ob.mk ?_; focus (first | assumption | omega | decide | trivial | (intro hob; simp only [hob, ZF]; done) | (intros; (repeat' refine And.intro ?_ ?_) <;> first | assumption | omega | trivial | decide) | (intros; simp only [ZE] at *; (repeat' refine And.intro ?_ ?_) <;> first | assumption | omega | trivial)))
      | (refine And.intro (Ob.out ?_) ?_)
      | (refine WP.block ?_)
      | (refine WP.cond rfl (fun hc => ?_) (fun hc => ?_) <;> (try simp only [ZC, reduceCtorEq, ZD] at hc) <;> (try (exact absurd hc (by decide))) <;> (try (exfalso; omega)))
      | ((first | refine WP.skip ?_ | refine WP.exit ?_); simp only [SeqQ, BlkQ, LoopQ, BodyQ, ↓reduceIte, Nat.reduceEqDiff, reduceCtorEq, look, true_and])
      | (refine WP.ret (Sm.out ?_))
      | (first | refine ExG.no (Sm.out ?_) | refine Or.inl (ExG.no (Sm.out ?_)) | refine Or.inl (And.intro (fun hg => absurd hg (by decide)) (ExG.no (Sm.out ?_))))
      | (refine Rt.mk ?_; refine And.intro ?_ ?_ <;> (intro hg; first | exact absurd hg (by decide) | refine Sm.out ?_))
      | (refine Nu.mk ?_; first | (fail_if_success (have := nb1)); intro nb1 | (fail_if_success (have := nb2)); intro nb2 | (fail_if_success (have := nb3)); intro nb3 | (fail_if_success (have := nb4)); intro nb4 | intro nbz)
      | (refine Fr.mk ?_; intro hfr; (first | (have hFRb : _ ≤ _ ∧ _ ≤ _ := And.intro hfr.1 hfr.2.1) | (have hFRb : _ ≤ _ := hfr.1) | skip); replace FR := Sm.mk (And.intro hfr FR.out); clear hfr; refine Sm.out ?_)
      | (refine Two.mk ?_ ?_)
      | (refine Cs.mk ?_; intro hcs; first | exact False.elim hcs | (exfalso; omega) | (refine Sm.out ?_))
      | go_step
      | omega
      | (simp only [maxLen_eq]; omega)
    (refine OutQ.drop _ _ (perm3 (by simp only [hget, hdel, ↓reduceIte, if_true, if_false, FR.out, FR.out]; first | done | rfl) (by simp only [hget, hdel, ↓reduceIte, if_true, if_false, FR.out, FR.out]; first | done | rfl) (by simp only [hget, hdel, ↓reduceIte, if_true, if_false, FR.out, FR.out]; first | done | rfl)) (by simp only [resv, ZK, look, loadv, loadn, loadnm, load1, load1m, hget, ↓reduceIte, Nat.reduceEqDiff, Nat.reduceAdd, Nat.reduceMul, Nat.reduceLeDiff, Nat.reduceLT, reduceCtorEq, TFTyM, FR.out, FR.out]) ⟨(by simp only [resv, resA, ZK, look, loadv, loadn, loadnm, load1, load1m, hget, ↓reduceIte, Nat.reduceEqDiff, Nat.reduceAdd, Nat.reduceMul, Nat.reduceLeDiff, Nat.reduceLT, reduceCtorEq, TFTyM, FR.out, FR.out]; first | done | rfl), rfl⟩)
  have k0 : decide ((zs.length : Int) > 1000) = false := decide_eq_false (by omega)
  have c1 := quo_ct zs hb (by omega) n0 n1 n4
  have c2 := rgood_ct zs hb (by omega)
  have zN : (⟨#[]⟩ : ByteArray) = bstr [] := rfl
  by_cases hg : gdB zs = true
  case neg =>
    have e : quoA zs = ([], 5) := by unfold quoA; rw [if_neg hg]
    rw [e] at c1
    have hg' : gdB zs = false := by simpa using hg
    rw [hg'] at c2
    obtain ⟨FZ, hFZ⟩ : ∃ FZ, FZ = fsZ := ⟨_, rfl⟩
    obtain ⟨AZ, hAZ⟩ : ∃ AZ, AZ = acZ := ⟨_, rfl⟩
    obtain ⟨DZ, hDZ⟩ : ∃ DZ, DZ = dbZ := ⟨_, rfl⟩
    rw [← hFZ, ← hAZ, ← hDZ] at c1 ⊢
    unfold stz at c1 c2 ⊢
    obtain ⟨Z, hZ⟩ : ∃ Z, Z = bstr zs := ⟨_, rfl⟩
    rw [← hZ] at hs c1 c2 ⊢
    obtain ⟨Y, hY⟩ : ∃ Y, Y = bstr [] := ⟨_, rfl⟩
    rw [← hY] at c1 zN
    refine ACt.intro Tryd.func5 rfl (by kernel_rfl) (by simp [Tryd.ntmps5]) (fun cx => ?_)
    simp only [argE, Tryd.ntmps5, Tryd.results5]
    first | (have FRx := FR; clear FRx) | (have FR : Sm (¬ ((1 : Nat) = 0)) := Sm.mk Nat.one_ne_zero)
    repeat' first
      | (refine Sm.mk ?_; try simp -dsimp only [ZK, rvc, drawF, headN, pureH, stp, dvc, calleeOf, gcall, pev, eff, newB, okd, og, ogs, ogo, ogp, slv, bltv, opd, litv, strip, one, both, putE, St.put, look, gdOf, gdv, picka, pickv, pickw, binv, bini, bins, binb, binp, binq, isSlT, bina, shp, eqCells, unv, convv, nilv, faddv, addp, idxav, idxp, load1, load1m, loadn, loadnm, loadv, hget, hset, hrep, hdel, slicev, bnd, shift1, lenv, capv, IntKind.bits, extractv, fieldv, indexv, min2v, max2v, mkiv, cellsA, fillA, buildv, stC, oneC, rowMB, intsA, plN, appE, appZ, appC, appNZ, appNC, VwL, srcC, srcZ, srcM, isBoolT, isPtrT, isSliceT, uOk, Value.oneCell', Nat.reducePow, Int.reducePow, Nat.reduceAdd, Nat.reduceMul, Nat.reduceSub, Nat.reduceLT, Nat.reduceLeDiff, Nat.reduceEqDiff, Nat.reduceBEq, Nat.reduceDiv, Nat.reduceMod, ↓reduceIte, reduceCtorEq, Int.reduceToNat, Int.reduceLT, Int.reduceLE, TFTyM, SeqQ, BlkQ, LoopQ, BodyQ, hs, k0, y1, zN, FR.out])
      | (first | refine CallV.fn (cA) (Sm.out ?_) | refine ExF.mk (cA) (Sm.out ?_) | refine ExG.mk (fun _ => cA) (Sm.out ?_) | refine ExG.mkJ (fun _ => cA) (Sm.out ?_) | refine ExG.mkI (Ob.out ?_) (fun _ => cA) (Sm.out ?_))
      | (refine CallV.updM (c1) (pmz _) (Sm.out ?_))
      | (first | refine CallV.fn (c2) (Sm.out ?_) | refine ExF.mk (c2) (Sm.out ?_) | refine ExG.mk (fun _ => c2) (Sm.out ?_) | refine ExG.mkJ (fun _ => c2) (Sm.out ?_) | refine ExG.mkI (Ob.out ?_) (fun _ => c2) (Sm.out ?_))
      | (refine WP.seq fun K hK => ?_)
      | (refine WP.region (rvc_sound _ _ (Sm.out ?_)))
      | (refine WP.drawK rfl mixed (by decide +kernel) (Sm.out ?_))
      | (refine Ob.mk ?_; focus (first | assumption | omega | decide | trivial | (intro hob; simp only [hob, ZF]; done) | (intros; (repeat' refine And.intro ?_ ?_) <;> first | assumption | omega | trivial | decide) | (intros; simp only [ZE] at *; (repeat' refine And.intro ?_ ?_) <;> first | assumption | omega | trivial)))
      | (refine And.intro (Ob.out ?_) ?_)
      | (refine WP.block ?_)
      | (refine WP.cond rfl (fun hc => ?_) (fun hc => ?_) <;> (try simp only [ZC, reduceCtorEq, ZD] at hc) <;> (try (exact absurd hc (by decide))) <;> (try (exfalso; omega)))
      | ((first | refine WP.skip ?_ | refine WP.exit ?_); simp only [SeqQ, BlkQ, LoopQ, BodyQ, ↓reduceIte, Nat.reduceEqDiff, reduceCtorEq, look, true_and])
      | (refine WP.ret (Sm.out ?_))
      | (first | refine ExG.no (Sm.out ?_) | refine Or.inl (ExG.no (Sm.out ?_)) | refine Or.inl (And.intro (fun hg => absurd hg (by decide)) (ExG.no (Sm.out ?_))))
      | (refine Rt.mk ?_; refine And.intro ?_ ?_ <;> (intro hg; first | exact absurd hg (by decide) | refine Sm.out ?_))
      | (refine Nu.mk ?_; first | (fail_if_success (have := nb1)); intro nb1 | (fail_if_success (have := nb2)); intro nb2 | (fail_if_success (have := nb3)); intro nb3 | (fail_if_success (have := nb4)); intro nb4 | intro nbz)
      | (refine Fr.mk ?_; intro hfr; (first | (have hFRb : _ ≤ _ ∧ _ ≤ _ := And.intro hfr.1 hfr.2.1) | (have hFRb : _ ≤ _ := hfr.1) | skip); replace FR := Sm.mk (And.intro hfr FR.out); clear hfr; refine Sm.out ?_)
      | (refine Two.mk ?_ ?_)
      | (refine Cs.mk ?_; intro hcs; first | exact False.elim hcs | (exfalso; omega) | (refine Sm.out ?_))
      | go_step
      | omega
      | (simp only [maxLen_eq]; omega)
    (refine OutQ.drop _ _ (perm3 (by simp only [hget, hdel, ↓reduceIte, if_true, if_false, FR.out, FR.out]; first | done | rfl) (by simp only [hget, hdel, ↓reduceIte, if_true, if_false, FR.out, FR.out]; first | done | rfl) (by simp only [hget, hdel, ↓reduceIte, if_true, if_false, FR.out, FR.out]; first | done | rfl)) (by simp only [resv, ZK, look, loadv, loadn, loadnm, load1, load1m, hget, ↓reduceIte, Nat.reduceEqDiff, Nat.reduceAdd, Nat.reduceMul, Nat.reduceLeDiff, Nat.reduceLT, reduceCtorEq, TFTyM, FR.out, FR.out]) ⟨(by simp only [resv, resA, ZK, look, loadv, loadn, loadnm, load1, load1m, hget, ↓reduceIte, Nat.reduceEqDiff, Nat.reduceAdd, Nat.reduceMul, Nat.reduceLeDiff, Nat.reduceLT, reduceCtorEq, TFTyM, FR.out, FR.out]; first | done | rfl), rfl⟩)
  rw [hg] at c2
  have c3 := ACt.fzRow (runes_ct zs hb (by omega))
  obtain ⟨n, hn⟩ : ∃ n, n = (rn zs).length := ⟨_, rfl⟩
  by_cases h12 : 120 < n
  · have e : quoA zs = ([], 9) := by unfold quoA; rw [if_pos hg, if_pos (by rw [← hn]; exact h12)]
    rw [e] at c1
    have kN : decide ((n : Int) > 120) = true := decide_eq_true (by omega)
    obtain ⟨L, hL⟩ : ∃ L, L = rn zs := ⟨_, rfl⟩
    rw [← hL] at c3 hn
    have hLn : L.length = n := hn.symm
    obtain ⟨FZ, hFZ⟩ : ∃ FZ, FZ = fsZ := ⟨_, rfl⟩
    obtain ⟨AZ, hAZ⟩ : ∃ AZ, AZ = acZ := ⟨_, rfl⟩
    obtain ⟨DZ, hDZ⟩ : ∃ DZ, DZ = dbZ := ⟨_, rfl⟩
    rw [← hFZ, ← hAZ, ← hDZ] at c1 ⊢
    unfold stz at c1 c2 c3 ⊢
    obtain ⟨Z, hZ⟩ : ∃ Z, Z = bstr zs := ⟨_, rfl⟩
    rw [← hZ] at hs c1 c2 c3 ⊢
    obtain ⟨Y, hY⟩ : ∃ Y, Y = bstr [] := ⟨_, rfl⟩
    rw [← hY] at c1 zN
    refine ACt.intro Tryd.func5 rfl (by kernel_rfl) (by simp [Tryd.ntmps5]) (fun cx => ?_)
    simp only [argE, Tryd.ntmps5, Tryd.results5]
    first | (have FRx := FR; clear FRx) | (have FR : Sm (¬ ((1 : Nat) = 0)) := Sm.mk Nat.one_ne_zero)
    repeat' first
      | (refine Sm.mk ?_; try simp -dsimp only [ZK, rvc, drawF, headN, pureH, stp, dvc, calleeOf, gcall, pev, eff, newB, okd, og, ogs, ogo, ogp, slv, bltv, opd, litv, strip, one, both, putE, St.put, look, gdOf, gdv, picka, pickv, pickw, binv, bini, bins, binb, binp, binq, isSlT, bina, shp, eqCells, unv, convv, nilv, faddv, addp, idxav, idxp, load1, load1m, loadn, loadnm, loadv, hget, hset, hrep, hdel, slicev, bnd, shift1, lenv, capv, IntKind.bits, extractv, fieldv, indexv, min2v, max2v, mkiv, cellsA, fillA, buildv, stC, oneC, rowMB, intsA, plN, appE, appZ, appC, appNZ, appNC, VwL, srcC, srcZ, srcM, isBoolT, isPtrT, isSliceT, uOk, Value.oneCell', Nat.reducePow, Int.reducePow, Nat.reduceAdd, Nat.reduceMul, Nat.reduceSub, Nat.reduceLT, Nat.reduceLeDiff, Nat.reduceEqDiff, Nat.reduceBEq, Nat.reduceDiv, Nat.reduceMod, ↓reduceIte, reduceCtorEq, Int.reduceToNat, Int.reduceLT, Int.reduceLE, TFTyM, SeqQ, BlkQ, LoopQ, BodyQ, hs, k0, y1, zN, hLn, kN, FR.out])
      | (first | refine CallV.fn (cA) (Sm.out ?_) | refine ExF.mk (cA) (Sm.out ?_) | refine ExG.mk (fun _ => cA) (Sm.out ?_) | refine ExG.mkJ (fun _ => cA) (Sm.out ?_) | refine ExG.mkI (Ob.out ?_) (fun _ => cA) (Sm.out ?_))
      | (refine CallV.updM (c1) (pmz _) (Sm.out ?_))
      | (first | refine CallV.fn (c2) (Sm.out ?_) | refine ExF.mk (c2) (Sm.out ?_) | refine ExG.mk (fun _ => c2) (Sm.out ?_) | refine ExG.mkJ (fun _ => c2) (Sm.out ?_) | refine ExG.mkI (Ob.out ?_) (fun _ => c2) (Sm.out ?_))
      | (first | refine CallV.fn (c3) (Sm.out ?_) | refine ExF.mk (c3) (Sm.out ?_) | refine ExG.mk (fun _ => c3) (Sm.out ?_) | refine ExG.mkJ (fun _ => c3) (Sm.out ?_) | refine ExG.mkI (Ob.out ?_) (fun _ => c3) (Sm.out ?_))
      | (refine WP.seq fun K hK => ?_)
      | (refine WP.region (rvc_sound _ _ (Sm.out ?_)))
      | (refine WP.drawK rfl mixed (by decide +kernel) (Sm.out ?_))
      | (refine Ob.mk ?_; focus (first | assumption | omega | decide | trivial | (intro hob; simp only [hob, ZF]; done) | (intros; (repeat' refine And.intro ?_ ?_) <;> first | assumption | omega | trivial | decide) | (intros; simp only [ZE] at *; (repeat' refine And.intro ?_ ?_) <;> first | assumption | omega | trivial)))
      | (refine And.intro (Ob.out ?_) ?_)
      | (refine WP.block ?_)
      | (refine WP.cond rfl (fun hc => ?_) (fun hc => ?_) <;> (try simp only [ZC, reduceCtorEq, ZD] at hc) <;> (try (exact absurd hc (by decide))) <;> (try (exfalso; omega)))
      | ((first | refine WP.skip ?_ | refine WP.exit ?_); simp only [SeqQ, BlkQ, LoopQ, BodyQ, ↓reduceIte, Nat.reduceEqDiff, reduceCtorEq, look, true_and])
      | (refine WP.ret (Sm.out ?_))
      | (first | refine ExG.no (Sm.out ?_) | refine Or.inl (ExG.no (Sm.out ?_)) | refine Or.inl (And.intro (fun hg => absurd hg (by decide)) (ExG.no (Sm.out ?_))))
      | (refine Rt.mk ?_; refine And.intro ?_ ?_ <;> (intro hg; first | exact absurd hg (by decide) | refine Sm.out ?_))
      | (refine Nu.mk ?_; first | (fail_if_success (have := nb1)); intro nb1 | (fail_if_success (have := nb2)); intro nb2 | (fail_if_success (have := nb3)); intro nb3 | (fail_if_success (have := nb4)); intro nb4 | intro nbz)
      | (refine Fr.mk ?_; intro hfr; (first | (have hFRb : _ ≤ _ ∧ _ ≤ _ := And.intro hfr.1 hfr.2.1) | (have hFRb : _ ≤ _ := hfr.1) | skip); replace FR := Sm.mk (And.intro hfr FR.out); clear hfr; refine Sm.out ?_)
      | (refine Two.mk ?_ ?_)
      | (refine Cs.mk ?_; intro hcs; first | exact False.elim hcs | (exfalso; omega) | (refine Sm.out ?_))
      | go_step
      | omega
      | (simp only [maxLen_eq]; omega)
    (refine OutQ.drop _ _ (perm3 (by simp only [hget, hdel, ↓reduceIte, if_true, if_false, FR.out, FR.out]; first | done | rfl) (by simp only [hget, hdel, ↓reduceIte, if_true, if_false, FR.out, FR.out]; first | done | rfl) (by simp only [hget, hdel, ↓reduceIte, if_true, if_false, FR.out, FR.out]; first | done | rfl)) (by simp only [resv, ZK, look, loadv, loadn, loadnm, load1, load1m, hget, ↓reduceIte, Nat.reduceEqDiff, Nat.reduceAdd, Nat.reduceMul, Nat.reduceLeDiff, Nat.reduceLT, reduceCtorEq, TFTyM, FR.out, FR.out]) ⟨(by simp only [resv, resA, ZK, look, loadv, loadn, loadnm, load1, load1m, hget, ↓reduceIte, Nat.reduceEqDiff, Nat.reduceAdd, Nat.reduceMul, Nat.reduceLeDiff, Nat.reduceLT, reduceCtorEq, TFTyM, FR.out, FR.out]; first | done | rfl), rfl⟩)
  have kN : decide ((n : Int) > 120) = false := decide_eq_false (by omega)
  have hq : quoA zs = ([34] ++ (rn zs).flatMap qrep ++ [34], 0) := by unfold quoA; rw [if_pos hg, if_neg (by rw [← hn]; exact h12)]
  rw [hq] at c1
  obtain ⟨hbq, huq⟩ := unq_quo hb hg (by rw [← hn]; exact h12) _ rfl
  have hrl := rep_len (L := rn zs)
  have c4 := rquo_ct zs hb (by omega) hg
  have hql : ([34] ++ (rn zs).flatMap qrep ++ [34]).length ≤ 5000 := by
    simp only [List.length_append, List.length_cons, List.length_nil]; omega
  have c5 := unq_ct _ hbq hql n0 n1
  rw [huq] at c5
  obtain ⟨Q, hQ⟩ : ∃ Q, Q = [34] ++ (rn zs).flatMap qrep ++ [34] := ⟨_, rfl⟩
  rw [← hQ] at c1 c4 c5
  obtain ⟨L, hL⟩ : ∃ L, L = rn zs := ⟨_, rfl⟩
  rw [← hL] at c3 hn
  have hLn : L.length = n := hn.symm
  obtain ⟨FZ, hFZ⟩ : ∃ FZ, FZ = fsZ := ⟨_, rfl⟩
  obtain ⟨AZ, hAZ⟩ : ∃ AZ, AZ = acZ := ⟨_, rfl⟩
  obtain ⟨DZ, hDZ⟩ : ∃ DZ, DZ = dbZ := ⟨_, rfl⟩
  rw [← hFZ, ← hAZ] at c5
  rw [← hFZ, ← hAZ, ← hDZ] at c1 ⊢
  have c5 := liftP [(4, .zs .u8 DZ 64 n4)] (F := [(0, .zs .u8 FZ 256 n0), (1, .zs .u8 AZ 32 n1), (4, .zs .u8 DZ 64 n4)]) (List.Perm.refl _) c5
  unfold stz at c1 c2 c3 c4 c5 ⊢
  obtain ⟨Z, hZ⟩ : ∃ Z, Z = bstr zs := ⟨_, rfl⟩
  rw [← hZ] at hs c1 c2 c3 c4 c5 ⊢
  obtain ⟨Y, hY⟩ : ∃ Y, Y = bstr Q := ⟨_, rfl⟩
  rw [← hY] at c1 c4 c5
  clear hql hbq huq hq hQ
  refine ACt.intro Tryd.func5 rfl (by kernel_rfl) (by simp [Tryd.ntmps5]) (fun cx => ?_)
  simp only [argE, Tryd.ntmps5, Tryd.results5]
  first | (have FRx := FR; clear FRx) | (have FR : Sm (¬ ((1 : Nat) = 0)) := Sm.mk Nat.one_ne_zero)
  repeat' first
    | (refine Sm.mk ?_; try simp -dsimp only [ZK, rvc, drawF, headN, pureH, stp, dvc, calleeOf, gcall, pev, eff, newB, okd, og, ogs, ogo, ogp, slv, bltv, opd, litv, strip, one, both, putE, St.put, look, gdOf, gdv, picka, pickv, pickw, binv, bini, bins, binb, binp, binq, isSlT, bina, shp, eqCells, unv, convv, nilv, faddv, addp, idxav, idxp, load1, load1m, loadn, loadnm, loadv, hget, hset, hrep, hdel, slicev, bnd, shift1, lenv, capv, IntKind.bits, extractv, fieldv, indexv, min2v, max2v, mkiv, cellsA, fillA, buildv, stC, oneC, rowMB, intsA, plN, appE, appZ, appC, appNZ, appNC, VwL, srcC, srcZ, srcM, isBoolT, isPtrT, isSliceT, uOk, Value.oneCell', Nat.reducePow, Int.reducePow, Nat.reduceAdd, Nat.reduceMul, Nat.reduceSub, Nat.reduceLT, Nat.reduceLeDiff, Nat.reduceEqDiff, Nat.reduceBEq, Nat.reduceDiv, Nat.reduceMod, ↓reduceIte, reduceCtorEq, Int.reduceToNat, Int.reduceLT, Int.reduceLE, TFTyM, SeqQ, BlkQ, LoopQ, BodyQ, hs, k0, y1, hLn, kN, FR.out])
    | (first | refine CallV.fn (cA) (Sm.out ?_) | refine ExF.mk (cA) (Sm.out ?_) | refine ExG.mk (fun _ => cA) (Sm.out ?_) | refine ExG.mkJ (fun _ => cA) (Sm.out ?_) | refine ExG.mkI (Ob.out ?_) (fun _ => cA) (Sm.out ?_))
    | (refine CallV.updM (c1) (pmz _) (Sm.out ?_))
    | (first | refine CallV.fn (c2) (Sm.out ?_) | refine ExF.mk (c2) (Sm.out ?_) | refine ExG.mk (fun _ => c2) (Sm.out ?_) | refine ExG.mkJ (fun _ => c2) (Sm.out ?_) | refine ExG.mkI (Ob.out ?_) (fun _ => c2) (Sm.out ?_))
    | (first | refine CallV.fn (c3) (Sm.out ?_) | refine ExF.mk (c3) (Sm.out ?_) | refine ExG.mk (fun _ => c3) (Sm.out ?_) | refine ExG.mkJ (fun _ => c3) (Sm.out ?_) | refine ExG.mkI (Ob.out ?_) (fun _ => c3) (Sm.out ?_))
    | (refine CallV.updM (c5) (pmz _) (Sm.out ?_))
    | (first | refine CallV.fn (c4) (Sm.out ?_) | refine ExF.mk (c4) (Sm.out ?_) | refine ExG.mk (fun _ => c4) (Sm.out ?_) | refine ExG.mkJ (fun _ => c4) (Sm.out ?_) | refine ExG.mkI (Ob.out ?_) (fun _ => c4) (Sm.out ?_))
    | (refine WP.seq fun K hK => ?_)
    | (refine WP.region (rvc_sound _ _ (Sm.out ?_)))
    | (refine WP.drawK rfl mixed (by decide +kernel) (Sm.out ?_))
    | (refine Ob.mk ?_; focus (first | assumption | omega | decide | trivial | (intro hob; simp only [hob, ZF]; done) | (intros; (repeat' refine And.intro ?_ ?_) <;> first | assumption | omega | trivial | decide) | (intros; simp only [ZE] at *; (repeat' refine And.intro ?_ ?_) <;> first | assumption | omega | trivial)))
    | (refine And.intro (Ob.out ?_) ?_)
    | (refine WP.block ?_)
    | (refine WP.cond rfl (fun hc => ?_) (fun hc => ?_) <;> (try simp only [ZC, reduceCtorEq, ZD] at hc) <;> (try (exact absurd hc (by decide))) <;> (try (exfalso; omega)))
    | ((first | refine WP.skip ?_ | refine WP.exit ?_); simp only [SeqQ, BlkQ, LoopQ, BodyQ, ↓reduceIte, Nat.reduceEqDiff, reduceCtorEq, look, true_and])
    | (refine WP.ret (Sm.out ?_))
    | (first | refine ExG.no (Sm.out ?_) | refine Or.inl (ExG.no (Sm.out ?_)) | refine Or.inl (And.intro (fun hg => absurd hg (by decide)) (ExG.no (Sm.out ?_))))
    | (refine Rt.mk ?_; refine And.intro ?_ ?_ <;> (intro hg; first | exact absurd hg (by decide) | refine Sm.out ?_))
    | (refine Nu.mk ?_; first | (fail_if_success (have := nb1)); intro nb1 | (fail_if_success (have := nb2)); intro nb2 | (fail_if_success (have := nb3)); intro nb3 | (fail_if_success (have := nb4)); intro nb4 | intro nbz)
    | (refine Fr.mk ?_; intro hfr; (first | (have hFRb : _ ≤ _ ∧ _ ≤ _ := And.intro hfr.1 hfr.2.1) | (have hFRb : _ ≤ _ := hfr.1) | skip); replace FR := Sm.mk (And.intro hfr FR.out); clear hfr; refine Sm.out ?_)
    | (refine Two.mk ?_ ?_)
    | (refine Cs.mk ?_; intro hcs; first | exact False.elim hcs | (exfalso; omega) | (refine Sm.out ?_))
    | go_step
    | omega
    | (simp only [maxLen_eq]; omega)
  (refine OutQ.drop _ _ (perm3 (by simp only [hget, hdel, ↓reduceIte, if_true, if_false, FR.out, FR.out]; first | done | rfl) (by simp only [hget, hdel, ↓reduceIte, if_true, if_false, FR.out, FR.out]; first | done | rfl) (by simp only [hget, hdel, ↓reduceIte, if_true, if_false, FR.out, FR.out]; first | done | rfl)) (by simp only [resv, ZK, look, loadv, loadn, loadnm, load1, load1m, hget, ↓reduceIte, Nat.reduceEqDiff, Nat.reduceAdd, Nat.reduceMul, Nat.reduceLeDiff, Nat.reduceLT, reduceCtorEq, TFTyM, FR.out, FR.out]) ⟨(by simp only [resv, resA, ZK, look, loadv, loadn, loadnm, load1, load1m, hget, ↓reduceIte, Nat.reduceEqDiff, Nat.reduceAdd, Nat.reduceMul, Nat.reduceLeDiff, Nat.reduceLT, reduceCtorEq, TFTyM, FR.out, FR.out]; first | done | rfl), rfl⟩)
theorem quotes_law (s : ByteArray) (n0 n1 n4 : Nat) : ACt Tryd.prog 5 [.lit (.string s)] [(0, .zs .u8 fsZ 256 n0), (1, .zs .u8 acZ 32 n1), (4, .zs .u8 dbZ 64 n4)] (fun r F' => r = bv true ∧ F' = [(0, .zs .u8 fsZ 256 n0), (1, .zs .u8 acZ 32 n1), (4, .zs .u8 dbZ 64 n4)]) := by
  obtain ⟨e, hb⟩ := s_bstr s
  rw [e]
  exact quos_ct _ hb n0 n1 n4
end Go.Proofs.YtjdjpgjjnajjhaaDoor
