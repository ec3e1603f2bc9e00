/-
  The walks and the laws that the statement leans on, part 13.
-/
import Derived.Test.YtjdjpgjjnajjhaaDoorZ12
namespace Go.Proofs.YtjdjpgjjnajjhaaDoor
open Go
set_option linter.unusedVariables false
set_option linter.unusedSimpArgs false
theorem TFTyC : ((((type_of% tyc2) ∧ ((type_of% zmb2) ∧ (type_of% tyc3))) ∧ (((type_of% zmb3) ∧ (type_of% tyc4)) ∧ ((type_of% zmb4) ∧ (type_of% tyc9)))) ∧ ((((type_of% zmb9) ∧ (type_of% tyc21)) ∧ ((type_of% zmb21) ∧ (type_of% Tryd.underlying2))) ∧ (((type_of% Tryd.underlying3) ∧ (type_of% Tryd.underlying4)) ∧ ((type_of% Tryd.underlying9) ∧ (type_of% Tryd.underlying21))))) :=
  ⟨⟨⟨tyc2, ⟨zmb2, tyc3⟩⟩, ⟨⟨zmb3, tyc4⟩, ⟨zmb4, tyc9⟩⟩⟩, ⟨⟨⟨zmb9, tyc21⟩, ⟨zmb21, Tryd.underlying2⟩⟩, ⟨⟨Tryd.underlying3, Tryd.underlying4⟩, ⟨Tryd.underlying9, Tryd.underlying21⟩⟩⟩⟩
/-- a rune's escape; nothing: it stands for itself -/
def escS (r : Int) : List Int :=
  if r = 34 ∨ r = 92 then [92, r] else if r = 10 then [92, 110] else if r = 9 then [92, 116] else if r < 32 ∨ r = 127 then [92, 117, 123] ++ (hexD r.toNat ++ [125]) else []
/-- is it escaped? -/
def escB (r : Int) : Prop := r = 34 ∨ r = 92 ∨ r = 10 ∨ r = 9 ∨ r < 32 ∨ r = 127
theorem escS_no {r : Int} (h : ¬ escB r) : escS r = [] := by
  unfold escB at h
  unfold escS
  rw [if_neg (by omega), if_neg (by omega), if_neg (by omega), if_neg (by omega)]
theorem hexD_by : ∀ n : Nat, n < 256 → ∀ x ∈ hexD n, 48 ≤ x ∧ x ≤ 102 := by
  intro n hn x hx
  have h : ∀ m : Nat, m < 16 → 48 ≤ hxd m ∧ hxd m ≤ 102 := by intro m hm; unfold hxd; split <;> omega
  unfold hexD at hx
  split at hx
  · simp only [List.mem_cons, List.not_mem_nil, or_false] at hx
    rw [hx]; exact h _ (by omega)
  · simp only [List.mem_cons, List.not_mem_nil, or_false] at hx
    rcases hx with e | e
    · rw [e]; exact h _ (by omega)
    · rw [e]; exact h _ (by omega)
theorem hexD_len (n : Nat) : 1 ≤ (hexD n).length ∧ (hexD n).length ≤ 2 := by unfold hexD; split <;> simp
theorem escS_mem {r : Int} (hr : 0 ≤ r) : ∀ x ∈ escS r, 0 ≤ x ∧ x < 128 := by
  intro x hx
  unfold escS at hx
  split at hx
  · simp only [List.mem_cons, List.not_mem_nil, or_false] at hx; omega
  · split at hx
    · simp only [List.mem_cons, List.not_mem_nil, or_false] at hx; omega
    · split at hx
      · simp only [List.mem_cons, List.not_mem_nil, or_false] at hx; omega
      · split at hx
        · simp only [List.mem_append, List.mem_cons, List.not_mem_nil, or_false] at hx
          rcases hx with h | h | h
          · omega
          · have := hexD_by r.toNat (by omega) x h; omega
          · omega
        · cases hx
theorem by_mem {zs : List Int} (h : ∀ x ∈ zs, 0 ≤ x ∧ x ≤ 255) : By zs := fun i hi => by
  rw [List.getD_eq_getElem?_getD, List.getElem?_eq_getElem hi, Option.getD_some]
  exact h _ (List.getElem_mem hi)
theorem escS_by {r : Int} (hr : 0 ≤ r) : By (escS r) := by_mem fun x hx => by have := escS_mem hr x hx; omega
theorem escS_len (r : Int) : (escS r).length ≤ 6 := by
  have h1 := hexD_len r.toNat
  unfold escS
  (repeat' split) <;> simp only [List.length_append, List.length_cons, List.length_nil] <;> omega
theorem escG_ct (r : Int) (hr : Gr r) (n4 : Nat) : ACt Tryd.prog 25 [iv .i32 r] [(4, .zs .u8 dbZ 64 n4)] (fun a F' => a = stz (escS r) ∧ F' = [(4, .zs .u8 dbZ 64 n4)]) := by
  obtain ⟨h0, h1, h2⟩ := hr
  have e1 : Utf8.encode 34 = bstr [34] := by decide +kernel
  have e1b : Utf8.encode 92 = bstr [92] := by decide +kernel
  have e2 : (⟨#[92]⟩ : ByteArray) = bstr [92] := rfl
  have z1 : (⟨#[92, 117, 123]⟩ : ByteArray) = bstr [92, 117, 123] := rfl
  have z2 : (⟨#[125]⟩ : ByteArray) = bstr [125] := rfl
  by_cases c34 : r = 34
  · subst c34
    have e : escS 34 = [92, 34] := rfl
    rw [e]
    obtain ⟨D, hD⟩ : ∃ D, D = dbZ := ⟨_, rfl⟩
    rw [← hD]
    refine ACt.intro Tryd.func25 rfl (by kernel_rfl) (by simp [Tryd.ntmps25]) (fun cx => ?_)
    simp only [argE, Tryd.ntmps25, Tryd.results25]
    first | (have FRx := FR; clear FRx) | (have FR : Sm (¬ ((1 : Nat) = 0)) := Sm.mk Nat.one_ne_zero)
    repeat' first
      | (refine Sm.mk ?_; try simp -dsimp only [ZK, rvc, drawF, headN, pureH, stp, dvc, calleeOf, gcall, pev, eff, newB, okd, og, ogs, ogo, ogp, slv, bltv, opd, litv, strip, one, both, putE, St.put, look, gdOf, gdv, picka, pickv, pickw, binv, bini, bins, binb, binp, binq, isSlT, bina, shp, eqCells, unv, convv, nilv, faddv, addp, idxav, idxp, load1, load1m, loadn, loadnm, loadv, hget, hset, hrep, hdel, slicev, bnd, shift1, lenv, capv, IntKind.bits, extractv, fieldv, indexv, min2v, max2v, mkiv, cellsA, fillA, buildv, stC, oneC, rowMB, intsA, plN, appE, appZ, appC, appNZ, appNC, VwL, srcC, srcZ, srcM, isBoolT, isPtrT, isSliceT, uOk, Value.oneCell', Nat.reducePow, Int.reducePow, Nat.reduceAdd, Nat.reduceMul, Nat.reduceSub, Nat.reduceLT, Nat.reduceLeDiff, Nat.reduceEqDiff, Nat.reduceBEq, Nat.reduceDiv, Nat.reduceMod, ↓reduceIte, reduceCtorEq, Int.reduceToNat, Int.reduceLT, Int.reduceLE, TFTyC, SeqQ, BlkQ, LoopQ, BodyQ, e1, e2, bstr_app, bstr_size, FR.out])
      | (refine WP.seq fun K hK => ?_)
      | (refine WP.region (rvc_sound _ _ (Sm.out ?_)))
      | (refine WP.drawK rfl mixed (by decide +kernel) (Sm.out ?_))
      | (refine Ob.mk ?_; focus (first | assumption | omega | decide | trivial | (intro hob; simp only [hob, ZF]; done) | (intros; (repeat' refine And.intro ?_ ?_) <;> first | assumption | omega | trivial | decide) | (intros; simp only [ZE] at *; (repeat' refine And.intro ?_ ?_) <;> first | assumption | omega | trivial)))
      | (refine And.intro (Ob.out ?_) ?_)
      | (refine WP.block ?_)
      | (refine WP.cond rfl (fun hc => ?_) (fun hc => ?_) <;> (try simp only [ZC, reduceCtorEq, ZD] at hc) <;> (try (exact absurd hc (by decide))) <;> (try (exfalso; omega)))
      | ((first | refine WP.skip ?_ | refine WP.exit ?_); simp only [SeqQ, BlkQ, LoopQ, BodyQ, ↓reduceIte, Nat.reduceEqDiff, reduceCtorEq, look, true_and])
      | (refine WP.ret (Sm.out ?_))
      | (first | refine ExG.no (Sm.out ?_) | refine Or.inl (ExG.no (Sm.out ?_)) | refine Or.inl (And.intro (fun hg => absurd hg (by decide)) (ExG.no (Sm.out ?_))))
      | (refine Rt.mk ?_; refine And.intro ?_ ?_ <;> (intro hg; first | exact absurd hg (by decide) | refine Sm.out ?_))
      | (refine Nu.mk ?_; first | (fail_if_success (have := nb1)); intro nb1 | (fail_if_success (have := nb2)); intro nb2 | (fail_if_success (have := nb3)); intro nb3 | (fail_if_success (have := nb4)); intro nb4 | intro nbz)
      | (refine Fr.mk ?_; intro hfr; (first | (have hFRb : _ ≤ _ ∧ _ ≤ _ := And.intro hfr.1 hfr.2.1) | (have hFRb : _ ≤ _ := hfr.1) | skip); replace FR := Sm.mk (And.intro hfr FR.out); clear hfr; refine Sm.out ?_)
      | (refine Two.mk ?_ ?_)
      | (refine Cs.mk ?_; intro hcs; first | exact False.elim hcs | (exfalso; omega) | (refine Sm.out ?_))
      | go_step
      | omega
      | (simp only [maxLen_eq]; omega)
    (refine OutQ.upd (by simp only [resv, ZK, look, loadv, loadn, loadnm, load1, load1m, hget, ↓reduceIte, Nat.reduceEqDiff, Nat.reduceAdd, Nat.reduceMul, Nat.reduceLeDiff, Nat.reduceLT, reduceCtorEq, TFTyC, FR.out]) (by simp only [resv, resA, ZK, look, loadv, loadn, loadnm, load1, load1m, hget, ↓reduceIte, Nat.reduceEqDiff, Nat.reduceAdd, Nat.reduceMul, Nat.reduceLeDiff, Nat.reduceLT, reduceCtorEq, TFTyC, FR.out]; first | done | rfl) (by simp only [hget, ↓reduceIte, if_true, if_false, FR.out]; first | done | rfl) ?_ <;> first | exact rfl | (simp only [ZK, look, loadv, loadn, loadnm, load1, load1m, hget, ↓reduceIte, Nat.reduceEqDiff, Nat.reduceAdd, Nat.reduceMul, Nat.reduceLeDiff, Nat.reduceLT, reduceCtorEq, TFTyC, FR.out]; done) | skip)
  by_cases c92 : r = 92
  · subst c92
    have e : escS 92 = [92, 92] := rfl
    rw [e]
    obtain ⟨D, hD⟩ : ∃ D, D = dbZ := ⟨_, rfl⟩
    rw [← hD]
    refine ACt.intro Tryd.func25 rfl (by kernel_rfl) (by simp [Tryd.ntmps25]) (fun cx => ?_)
    simp only [argE, Tryd.ntmps25, Tryd.results25]
    first | (have FRx := FR; clear FRx) | (have FR : Sm (¬ ((1 : Nat) = 0)) := Sm.mk Nat.one_ne_zero)
    repeat' first
      | (refine Sm.mk ?_; try simp -dsimp only [ZK, rvc, drawF, headN, pureH, stp, dvc, calleeOf, gcall, pev, eff, newB, okd, og, ogs, ogo, ogp, slv, bltv, opd, litv, strip, one, both, putE, St.put, look, gdOf, gdv, picka, pickv, pickw, binv, bini, bins, binb, binp, binq, isSlT, bina, shp, eqCells, unv, convv, nilv, faddv, addp, idxav, idxp, load1, load1m, loadn, loadnm, loadv, hget, hset, hrep, hdel, slicev, bnd, shift1, lenv, capv, IntKind.bits, extractv, fieldv, indexv, min2v, max2v, mkiv, cellsA, fillA, buildv, stC, oneC, rowMB, intsA, plN, appE, appZ, appC, appNZ, appNC, VwL, srcC, srcZ, srcM, isBoolT, isPtrT, isSliceT, uOk, Value.oneCell', Nat.reducePow, Int.reducePow, Nat.reduceAdd, Nat.reduceMul, Nat.reduceSub, Nat.reduceLT, Nat.reduceLeDiff, Nat.reduceEqDiff, Nat.reduceBEq, Nat.reduceDiv, Nat.reduceMod, ↓reduceIte, reduceCtorEq, Int.reduceToNat, Int.reduceLT, Int.reduceLE, TFTyC, SeqQ, BlkQ, LoopQ, BodyQ, e1b, e2, bstr_app, bstr_size, FR.out])
      | (refine WP.seq fun K hK => ?_)
      | (refine WP.region (rvc_sound _ _ (Sm.out ?_)))
      | (refine WP.drawK rfl mixed (by decide +kernel) (Sm.out ?_))
      | (refine Ob.mk ?_; focus (first | assumption | omega | decide | trivial | (intro hob; simp only [hob, ZF]; done) | (intros; (repeat' refine And.intro ?_ ?_) <;> first | assumption | omega | trivial | decide) | (intros; simp only [ZE] at *; (repeat' refine And.intro ?_ ?_) <;> first | assumption | omega | trivial)))
      | (refine And.intro (Ob.out ?_) ?_)
      | (refine WP.block ?_)
      | (refine WP.cond rfl (fun hc => ?_) (fun hc => ?_) <;> (try simp only [ZC, reduceCtorEq, ZD] at hc) <;> (try (exact absurd hc (by decide))) <;> (try (exfalso; omega)))
      | ((first | refine WP.skip ?_ | refine WP.exit ?_); simp only [SeqQ, BlkQ, LoopQ, BodyQ, ↓reduceIte, Nat.reduceEqDiff, reduceCtorEq, look, true_and])
      | (refine WP.ret (Sm.out ?_))
      | (first | refine ExG.no (Sm.out ?_) | refine Or.inl (ExG.no (Sm.out ?_)) | refine Or.inl (And.intro (fun hg => absurd hg (by decide)) (ExG.no (Sm.out ?_))))
      | (refine Rt.mk ?_; refine And.intro ?_ ?_ <;> (intro hg; first | exact absurd hg (by decide) | refine Sm.out ?_))
      | (refine Nu.mk ?_; first | (fail_if_success (have := nb1)); intro nb1 | (fail_if_success (have := nb2)); intro nb2 | (fail_if_success (have := nb3)); intro nb3 | (fail_if_success (have := nb4)); intro nb4 | intro nbz)
      | (refine Fr.mk ?_; intro hfr; (first | (have hFRb : _ ≤ _ ∧ _ ≤ _ := And.intro hfr.1 hfr.2.1) | (have hFRb : _ ≤ _ := hfr.1) | skip); replace FR := Sm.mk (And.intro hfr FR.out); clear hfr; refine Sm.out ?_)
      | (refine Two.mk ?_ ?_)
      | (refine Cs.mk ?_; intro hcs; first | exact False.elim hcs | (exfalso; omega) | (refine Sm.out ?_))
      | go_step
      | omega
      | (simp only [maxLen_eq]; omega)
    (refine OutQ.upd (by simp only [resv, ZK, look, loadv, loadn, loadnm, load1, load1m, hget, ↓reduceIte, Nat.reduceEqDiff, Nat.reduceAdd, Nat.reduceMul, Nat.reduceLeDiff, Nat.reduceLT, reduceCtorEq, TFTyC, FR.out]) (by simp only [resv, resA, ZK, look, loadv, loadn, loadnm, load1, load1m, hget, ↓reduceIte, Nat.reduceEqDiff, Nat.reduceAdd, Nat.reduceMul, Nat.reduceLeDiff, Nat.reduceLT, reduceCtorEq, TFTyC, FR.out]; first | done | rfl) (by simp only [hget, ↓reduceIte, if_true, if_false, FR.out]; first | done | rfl) ?_ <;> first | exact rfl | (simp only [ZK, look, loadv, loadn, loadnm, load1, load1m, hget, ↓reduceIte, Nat.reduceEqDiff, Nat.reduceAdd, Nat.reduceMul, Nat.reduceLeDiff, Nat.reduceLT, reduceCtorEq, TFTyC, FR.out]; done) | skip)
  by_cases c10 : r = 10
  · subst c10
    have e : stz (escS 10) = .lit (.string ⟨#[92, 110]⟩) := rfl
    rw [e]
    obtain ⟨D, hD⟩ : ∃ D, D = dbZ := ⟨_, rfl⟩
    rw [← hD]
    refine ACt.intro Tryd.func25 rfl (by kernel_rfl) (by simp [Tryd.ntmps25]) (fun cx => ?_)
    simp only [argE, Tryd.ntmps25, Tryd.results25]
    first | (have FRx := FR; clear FRx) | (have FR : Sm (¬ ((1 : Nat) = 0)) := Sm.mk Nat.one_ne_zero)
    repeat' first
      | (refine Sm.mk ?_; try simp -dsimp only [ZK, rvc, drawF, headN, pureH, stp, dvc, calleeOf, gcall, pev, eff, newB, okd, og, ogs, ogo, ogp, slv, bltv, opd, litv, strip, one, both, putE, St.put, look, gdOf, gdv, picka, pickv, pickw, binv, bini, bins, binb, binp, binq, isSlT, bina, shp, eqCells, unv, convv, nilv, faddv, addp, idxav, idxp, load1, load1m, loadn, loadnm, loadv, hget, hset, hrep, hdel, slicev, bnd, shift1, lenv, capv, IntKind.bits, extractv, fieldv, indexv, min2v, max2v, mkiv, cellsA, fillA, buildv, stC, oneC, rowMB, intsA, plN, appE, appZ, appC, appNZ, appNC, VwL, srcC, srcZ, srcM, isBoolT, isPtrT, isSliceT, uOk, Value.oneCell', Nat.reducePow, Int.reducePow, Nat.reduceAdd, Nat.reduceMul, Nat.reduceSub, Nat.reduceLT, Nat.reduceLeDiff, Nat.reduceEqDiff, Nat.reduceBEq, Nat.reduceDiv, Nat.reduceMod, ↓reduceIte, reduceCtorEq, Int.reduceToNat, Int.reduceLT, Int.reduceLE, TFTyC, SeqQ, BlkQ, LoopQ, BodyQ, FR.out])
      | (refine WP.seq fun K hK => ?_)
      | (refine WP.region (rvc_sound _ _ (Sm.out ?_)))
      | (refine WP.drawK rfl mixed (by decide +kernel) (Sm.out ?_))
      | (refine Ob.mk ?_; focus (first | assumption | omega | decide | trivial | (intro hob; simp only [hob, ZF]; done) | (intros; (repeat' refine And.intro ?_ ?_) <;> first | assumption | omega | trivial | decide) | (intros; simp only [ZE] at *; (repeat' refine And.intro ?_ ?_) <;> first | assumption | omega | trivial)))
      | (refine And.intro (Ob.out ?_) ?_)
      | (refine WP.block ?_)
      | (refine WP.cond rfl (fun hc => ?_) (fun hc => ?_) <;> (try simp only [ZC, reduceCtorEq, ZD] at hc) <;> (try (exact absurd hc (by decide))) <;> (try (exfalso; omega)))
      | ((first | refine WP.skip ?_ | refine WP.exit ?_); simp only [SeqQ, BlkQ, LoopQ, BodyQ, ↓reduceIte, Nat.reduceEqDiff, reduceCtorEq, look, true_and])
      | (refine WP.ret (Sm.out ?_))
      | (first | refine ExG.no (Sm.out ?_) | refine Or.inl (ExG.no (Sm.out ?_)) | refine Or.inl (And.intro (fun hg => absurd hg (by decide)) (ExG.no (Sm.out ?_))))
      | (refine Rt.mk ?_; refine And.intro ?_ ?_ <;> (intro hg; first | exact absurd hg (by decide) | refine Sm.out ?_))
      | (refine Nu.mk ?_; first | (fail_if_success (have := nb1)); intro nb1 | (fail_if_success (have := nb2)); intro nb2 | (fail_if_success (have := nb3)); intro nb3 | (fail_if_success (have := nb4)); intro nb4 | intro nbz)
      | (refine Fr.mk ?_; intro hfr; (first | (have hFRb : _ ≤ _ ∧ _ ≤ _ := And.intro hfr.1 hfr.2.1) | (have hFRb : _ ≤ _ := hfr.1) | skip); replace FR := Sm.mk (And.intro hfr FR.out); clear hfr; refine Sm.out ?_)
      | (refine Two.mk ?_ ?_)
      | (refine Cs.mk ?_; intro hcs; first | exact False.elim hcs | (exfalso; omega) | (refine Sm.out ?_))
      | go_step
      | omega
      | (simp only [maxLen_eq]; omega)
    (refine OutQ.upd (by simp only [resv, ZK, look, loadv, loadn, loadnm, load1, load1m, hget, ↓reduceIte, Nat.reduceEqDiff, Nat.reduceAdd, Nat.reduceMul, Nat.reduceLeDiff, Nat.reduceLT, reduceCtorEq, TFTyC, FR.out]) (by simp only [resv, resA, ZK, look, loadv, loadn, loadnm, load1, load1m, hget, ↓reduceIte, Nat.reduceEqDiff, Nat.reduceAdd, Nat.reduceMul, Nat.reduceLeDiff, Nat.reduceLT, reduceCtorEq, TFTyC, FR.out]; first | done | rfl) (by simp only [hget, ↓reduceIte, if_true, if_false, FR.out]; first | done | rfl) ?_ <;> first | exact rfl | (simp only [ZK, look, loadv, loadn, loadnm, load1, load1m, hget, ↓reduceIte, Nat.reduceEqDiff, Nat.reduceAdd, Nat.reduceMul, Nat.reduceLeDiff, Nat.reduceLT, reduceCtorEq, TFTyC, FR.out]; done) | skip)
  by_cases c9 : r = 9
  · subst c9
    have e : stz (escS 9) = .lit (.string ⟨#[92, 116]⟩) := rfl
    rw [e]
    obtain ⟨D, hD⟩ : ∃ D, D = dbZ := ⟨_, rfl⟩
    rw [← hD]
    refine ACt.intro Tryd.func25 rfl (by kernel_rfl) (by simp [Tryd.ntmps25]) (fun cx => ?_)
    simp only [argE, Tryd.ntmps25, Tryd.results25]
    first | (have FRx := FR; clear FRx) | (have FR : Sm (¬ ((1 : Nat) = 0)) := Sm.mk Nat.one_ne_zero)
    repeat' first
      | (refine Sm.mk ?_; try simp -dsimp only [ZK, rvc, drawF, headN, pureH, stp, dvc, calleeOf, gcall, pev, eff, newB, okd, og, ogs, ogo, ogp, slv, bltv, opd, litv, strip, one, both, putE, St.put, look, gdOf, gdv, picka, pickv, pickw, binv, bini, bins, binb, binp, binq, isSlT, bina, shp, eqCells, unv, convv, nilv, faddv, addp, idxav, idxp, load1, load1m, loadn, loadnm, loadv, hget, hset, hrep, hdel, slicev, bnd, shift1, lenv, capv, IntKind.bits, extractv, fieldv, indexv, min2v, max2v, mkiv, cellsA, fillA, buildv, stC, oneC, rowMB, intsA, plN, appE, appZ, appC, appNZ, appNC, VwL, srcC, srcZ, srcM, isBoolT, isPtrT, isSliceT, uOk, Value.oneCell', Nat.reducePow, Int.reducePow, Nat.reduceAdd, Nat.reduceMul, Nat.reduceSub, Nat.reduceLT, Nat.reduceLeDiff, Nat.reduceEqDiff, Nat.reduceBEq, Nat.reduceDiv, Nat.reduceMod, ↓reduceIte, reduceCtorEq, Int.reduceToNat, Int.reduceLT, Int.reduceLE, TFTyC, SeqQ, BlkQ, LoopQ, BodyQ, FR.out])
      | (refine WP.seq fun K hK => ?_)
      | (refine WP.region (rvc_sound _ _ (Sm.out ?_)))
      | (refine WP.drawK rfl mixed (by decide +kernel) (Sm.out ?_))
      | (refine Ob.mk ?_; focus (first | assumption | omega | decide | trivial | (intro hob; simp only [hob, ZF]; done) | (intros; (repeat' refine And.intro ?_ ?_) <;> first | assumption | omega | trivial | decide) | (intros; simp only [ZE] at *; (repeat' refine And.intro ?_ ?_) <;> first | assumption | omega | trivial)))
      | (refine And.intro (Ob.out ?_) ?_)
      | (refine WP.block ?_)
      | (refine WP.cond rfl (fun hc => ?_) (fun hc => ?_) <;> (try simp only [ZC, reduceCtorEq, ZD] at hc) <;> (try (exact absurd hc (by decide))) <;> (try (exfalso; omega)))
      | ((first | refine WP.skip ?_ | refine WP.exit ?_); simp only [SeqQ, BlkQ, LoopQ, BodyQ, ↓reduceIte, Nat.reduceEqDiff, reduceCtorEq, look, true_and])
      | (refine WP.ret (Sm.out ?_))
      | (first | refine ExG.no (Sm.out ?_) | refine Or.inl (ExG.no (Sm.out ?_)) | refine Or.inl (And.intro (fun hg => absurd hg (by decide)) (ExG.no (Sm.out ?_))))
      | (refine Rt.mk ?_; refine And.intro ?_ ?_ <;> (intro hg; first | exact absurd hg (by decide) | refine Sm.out ?_))
      | (refine Nu.mk ?_; first | (fail_if_success (have := nb1)); intro nb1 | (fail_if_success (have := nb2)); intro nb2 | (fail_if_success (have := nb3)); intro nb3 | (fail_if_success (have := nb4)); intro nb4 | intro nbz)
      | (refine Fr.mk ?_; intro hfr; (first | (have hFRb : _ ≤ _ ∧ _ ≤ _ := And.intro hfr.1 hfr.2.1) | (have hFRb : _ ≤ _ := hfr.1) | skip); replace FR := Sm.mk (And.intro hfr FR.out); clear hfr; refine Sm.out ?_)
      | (refine Two.mk ?_ ?_)
      | (refine Cs.mk ?_; intro hcs; first | exact False.elim hcs | (exfalso; omega) | (refine Sm.out ?_))
      | go_step
      | omega
      | (simp only [maxLen_eq]; omega)
    (refine OutQ.upd (by simp only [resv, ZK, look, loadv, loadn, loadnm, load1, load1m, hget, ↓reduceIte, Nat.reduceEqDiff, Nat.reduceAdd, Nat.reduceMul, Nat.reduceLeDiff, Nat.reduceLT, reduceCtorEq, TFTyC, FR.out]) (by simp only [resv, resA, ZK, look, loadv, loadn, loadnm, load1, load1m, hget, ↓reduceIte, Nat.reduceEqDiff, Nat.reduceAdd, Nat.reduceMul, Nat.reduceLeDiff, Nat.reduceLT, reduceCtorEq, TFTyC, FR.out]; first | done | rfl) (by simp only [hget, ↓reduceIte, if_true, if_false, FR.out]; first | done | rfl) ?_ <;> first | exact rfl | (simp only [ZK, look, loadv, loadn, loadnm, load1, load1m, hget, ↓reduceIte, Nat.reduceEqDiff, Nat.reduceAdd, Nat.reduceMul, Nat.reduceLeDiff, Nat.reduceLT, reduceCtorEq, TFTyC, FR.out]; done) | skip)
  have k1 : (r == 34) = false := beq_eq_false_iff_ne.2 c34
  have k2 : (r == 92) = false := beq_eq_false_iff_ne.2 c92
  have k3 : (r == 10) = false := beq_eq_false_iff_ne.2 c10
  have k4 : (r == 9) = false := beq_eq_false_iff_ne.2 c9
  by_cases c : r < 32 ∨ r = 127
  · have e : escS r = [92, 117, 123] ++ (hexD r.toNat ++ [125]) := by
      unfold escS
      rw [if_neg (by omega), if_neg c10, if_neg c9, if_pos c]
    have cF := fint_ct r.toNat (by omega) n4
    rw [show ((r.toNat : Nat) : Int) = r by omega] at cF
    rw [e]
    have hl := hexD_len r.toNat
    obtain ⟨X, hX⟩ : ∃ X, X = hexD r.toNat := ⟨_, rfl⟩
    rw [← hX] at cF hl ⊢
    have ea := bstr_app [92, 117, 123] X
    have eb := bstr_app ([92, 117, 123] ++ X) [125]
    rw [List.append_assoc] at eb
    have s1 := bstr_size [92, 117, 123]
    have s2 := bstr_size X
    have s3 := bstr_size [125]
    have s4 := bstr_size ([92, 117, 123] ++ X)
    rw [List.length_append] at s4
    simp only [List.length_cons, List.length_nil, Nat.zero_add, Nat.reduceAdd] at s1 s3 s4
    obtain ⟨D, hD⟩ : ∃ D, D = dbZ := ⟨_, rfl⟩
    rw [← hD] at cF ⊢
    have w : IntKind.i64.wrap r = r := wrap_i64 (by omega) (by omega)
    obtain ⟨l, hl'⟩ : ∃ l, l = X.length := ⟨_, rfl⟩
    rw [← hl'] at hl s2 s4
    have b1 : 3 + l ≤ 9223372036854775807 := by omega
    have b2 : 3 + l + 1 ≤ 9223372036854775807 := by omega
    unfold stz at cF ⊢
    obtain ⟨A1, hA1⟩ : ∃ A, A = bstr [92, 117, 123] := ⟨_, rfl⟩
    obtain ⟨A2, hA2⟩ : ∃ A, A = bstr X := ⟨_, rfl⟩
    obtain ⟨A3, hA3⟩ : ∃ A, A = bstr [125] := ⟨_, rfl⟩
    obtain ⟨A4, hA4⟩ : ∃ A, A = bstr ([92, 117, 123] ++ X) := ⟨_, rfl⟩
    obtain ⟨A5, hA5⟩ : ∃ A, A = bstr ([92, 117, 123] ++ (X ++ [125])) := ⟨_, rfl⟩
    rw [← hA1] at z1 ea s1
    rw [← hA2] at ea s2 cF
    rw [← hA3] at z2 eb s3
    rw [← hA4] at ea eb s4
    rw [← hA5] at eb ⊢
    by_cases c3 : r < 32
    · have k5 : decide (r < 32) = true := decide_eq_true c3
      refine ACt.intro Tryd.func25 rfl (by kernel_rfl) (by simp [Tryd.ntmps25]) (fun cx => ?_)
      simp only [argE, Tryd.ntmps25, Tryd.results25]
      first | (have FRx := FR; clear FRx) | (have FR : Sm (¬ ((1 : Nat) = 0)) := Sm.mk Nat.one_ne_zero)
      repeat' first
        | (refine Sm.mk ?_; try simp -dsimp only [ZK, rvc, drawF, headN, pureH, stp, dvc, calleeOf, gcall, pev, eff, newB, okd, og, ogs, ogo, ogp, slv, bltv, opd, litv, strip, one, both, putE, St.put, look, gdOf, gdv, picka, pickv, pickw, binv, bini, bins, binb, binp, binq, isSlT, bina, shp, eqCells, unv, convv, nilv, faddv, addp, idxav, idxp, load1, load1m, loadn, loadnm, loadv, hget, hset, hrep, hdel, slicev, bnd, shift1, lenv, capv, IntKind.bits, extractv, fieldv, indexv, min2v, max2v, mkiv, cellsA, fillA, buildv, stC, oneC, rowMB, intsA, plN, appE, appZ, appC, appNZ, appNC, VwL, srcC, srcZ, srcM, isBoolT, isPtrT, isSliceT, uOk, Value.oneCell', Nat.reducePow, Int.reducePow, Nat.reduceAdd, Nat.reduceMul, Nat.reduceSub, Nat.reduceLT, Nat.reduceLeDiff, Nat.reduceEqDiff, Nat.reduceBEq, Nat.reduceDiv, Nat.reduceMod, ↓reduceIte, reduceCtorEq, Int.reduceToNat, Int.reduceLT, Int.reduceLE, TFTyC, SeqQ, BlkQ, LoopQ, BodyQ, k1, k2, k3, k4, k5, w, z1, z2, s1, s2, s3, s4, ea, eb, b1, b2, FR.out])
        | (refine CallV.updM (cF) (perm1 (by simp only [hget, hdel, ↓reduceIte, FR.out, k1, k2, k3, k4, k5, w, z1, z2, s1, s2, s3, s4, ea, eb, b1, b2]; first | done | rfl)) (Sm.out ?_))
        | ((first | refine ExF.up ?_ (cF) (Sm.out ?_) | refine ExG.up ?_ (fun _ => cF) (Sm.out ?_) | refine ExG.upJ ?_ (fun _ => cF) (Sm.out ?_) | refine ExG.upI ?_ (fun _ => cF) (Ob.out ?_) (Sm.out ?_)); focus (exact ⟨_, (perm1 (by simp only [hget, hdel, ↓reduceIte, FR.out, k1, k2, k3, k4, k5, w, z1, z2, s1, s2, s3, s4, ea, eb, b1, b2]; first | done | rfl))⟩))
        | (refine WP.seq fun K hK => ?_)
        | (refine WP.region (rvc_sound _ _ (Sm.out ?_)))
        | (refine WP.drawK rfl mixed (by decide +kernel) (Sm.out ?_))
        | (refine Ob.mk ?_; focus (first | assumption | omega | decide | trivial | (intro hob; simp only [hob, ZF]; done) | (intros; (repeat' refine And.intro ?_ ?_) <;> first | assumption | omega | trivial | decide) | (intros; simp only [ZE] at *; (repeat' refine And.intro ?_ ?_) <;> first | assumption | omega | trivial)))
        | (refine And.intro (Ob.out ?_) ?_)
        | (refine WP.block ?_)
        | (refine WP.cond rfl (fun hc => ?_) (fun hc => ?_) <;> (try simp only [ZC, reduceCtorEq, ZD] at hc) <;> (try (exact absurd hc (by decide))) <;> (try (exfalso; omega)))
        | ((first | refine WP.skip ?_ | refine WP.exit ?_); simp only [SeqQ, BlkQ, LoopQ, BodyQ, ↓reduceIte, Nat.reduceEqDiff, reduceCtorEq, look, true_and])
        | (refine WP.ret (Sm.out ?_))
        | (first | refine ExG.no (Sm.out ?_) | refine Or.inl (ExG.no (Sm.out ?_)) | refine Or.inl (And.intro (fun hg => absurd hg (by decide)) (ExG.no (Sm.out ?_))))
        | (refine Rt.mk ?_; refine And.intro ?_ ?_ <;> (intro hg; first | exact absurd hg (by decide) | refine Sm.out ?_))
        | (refine Nu.mk ?_; first | (fail_if_success (have := nb1)); intro nb1 | (fail_if_success (have := nb2)); intro nb2 | (fail_if_success (have := nb3)); intro nb3 | (fail_if_success (have := nb4)); intro nb4 | intro nbz)
        | (refine Fr.mk ?_; intro hfr; (first | (have hFRb : _ ≤ _ ∧ _ ≤ _ := And.intro hfr.1 hfr.2.1) | (have hFRb : _ ≤ _ := hfr.1) | skip); replace FR := Sm.mk (And.intro hfr FR.out); clear hfr; refine Sm.out ?_)
        | (refine Two.mk ?_ ?_)
        | (refine Cs.mk ?_; intro hcs; first | exact False.elim hcs | (exfalso; omega) | (refine Sm.out ?_))
        | go_step
        | omega
        | (simp only [maxLen_eq]; omega)
      (refine OutQ.upd (by simp only [resv, ZK, look, loadv, loadn, loadnm, load1, load1m, hget, ↓reduceIte, Nat.reduceEqDiff, Nat.reduceAdd, Nat.reduceMul, Nat.reduceLeDiff, Nat.reduceLT, reduceCtorEq, TFTyC, FR.out, ea, eb]) (by simp only [resv, resA, ZK, look, loadv, loadn, loadnm, load1, load1m, hget, ↓reduceIte, Nat.reduceEqDiff, Nat.reduceAdd, Nat.reduceMul, Nat.reduceLeDiff, Nat.reduceLT, reduceCtorEq, TFTyC, FR.out, ea, eb]; first | done | rfl) (by simp only [hget, ↓reduceIte, if_true, if_false, FR.out, ea, eb]; first | done | rfl) ?_ <;> first | exact rfl | (simp only [ZK, look, loadv, loadn, loadnm, load1, load1m, hget, ↓reduceIte, Nat.reduceEqDiff, Nat.reduceAdd, Nat.reduceMul, Nat.reduceLeDiff, Nat.reduceLT, reduceCtorEq, TFTyC, FR.out, ea, eb]; done) | skip)
    · have k5 : decide (r < 32) = false := decide_eq_false c3
      have k6 : (r == 127) = true := beq_iff_eq.2 (by omega)
      refine ACt.intro Tryd.func25 rfl (by kernel_rfl) (by simp [Tryd.ntmps25]) (fun cx => ?_)
      simp only [argE, Tryd.ntmps25, Tryd.results25]
      first | (have FRx := FR; clear FRx) | (have FR : Sm (¬ ((1 : Nat) = 0)) := Sm.mk Nat.one_ne_zero)
      repeat' first
        | (refine Sm.mk ?_; try simp -dsimp only [ZK, rvc, drawF, headN, pureH, stp, dvc, calleeOf, gcall, pev, eff, newB, okd, og, ogs, ogo, ogp, slv, bltv, opd, litv, strip, one, both, putE, St.put, look, gdOf, gdv, picka, pickv, pickw, binv, bini, bins, binb, binp, binq, isSlT, bina, shp, eqCells, unv, convv, nilv, faddv, addp, idxav, idxp, load1, load1m, loadn, loadnm, loadv, hget, hset, hrep, hdel, slicev, bnd, shift1, lenv, capv, IntKind.bits, extractv, fieldv, indexv, min2v, max2v, mkiv, cellsA, fillA, buildv, stC, oneC, rowMB, intsA, plN, appE, appZ, appC, appNZ, appNC, VwL, srcC, srcZ, srcM, isBoolT, isPtrT, isSliceT, uOk, Value.oneCell', Nat.reducePow, Int.reducePow, Nat.reduceAdd, Nat.reduceMul, Nat.reduceSub, Nat.reduceLT, Nat.reduceLeDiff, Nat.reduceEqDiff, Nat.reduceBEq, Nat.reduceDiv, Nat.reduceMod, ↓reduceIte, reduceCtorEq, Int.reduceToNat, Int.reduceLT, Int.reduceLE, TFTyC, SeqQ, BlkQ, LoopQ, BodyQ, k1, k2, k3, k4, k5, k6, w, z1, z2, s1, s2, s3, s4, ea, eb, b1, b2, FR.out])
        | (refine CallV.updM (cF) (perm1 (by simp only [hget, hdel, ↓reduceIte, FR.out, k1, k2, k3, k4, k5, k6, w, z1, z2, s1, s2, s3, s4, ea, eb, b1, b2]; first | done | rfl)) (Sm.out ?_))
        | ((first | refine ExF.up ?_ (cF) (Sm.out ?_) | refine ExG.up ?_ (fun _ => cF) (Sm.out ?_) | refine ExG.upJ ?_ (fun _ => cF) (Sm.out ?_) | refine ExG.upI ?_ (fun _ => cF) (Ob.out ?_) (Sm.out ?_)); focus (exact ⟨_, (perm1 (by simp only [hget, hdel, ↓reduceIte, FR.out, k1, k2, k3, k4, k5, k6, w, z1, z2, s1, s2, s3, s4, ea, eb, b1, b2]; first | done | rfl))⟩))
        | (refine WP.seq fun K hK => ?_)
        | (refine WP.region (rvc_sound _ _ (Sm.out ?_)))
        | (refine WP.drawK rfl mixed (by decide +kernel) (Sm.out ?_))
        | (refine Ob.mk ?_; focus (first | assumption | omega | decide | trivial | (intro hob; simp only [hob, ZF]; done) | (intros; (repeat' refine And.intro ?_ ?_) <;> first | assumption | omega | trivial | decide) | (intros; simp only [ZE] at *; (repeat' refine And.intro ?_ ?_) <;> first | assumption | omega | trivial)))
        | (refine And.intro (Ob.out ?_) ?_)
        | (refine WP.block ?_)
        | (refine WP.cond rfl (fun hc => ?_) (fun hc => ?_) <;> (try simp only [ZC, reduceCtorEq, ZD] at hc) <;> (try (exact absurd hc (by decide))) <;> (try (exfalso; omega)))
        | ((first | refine WP.skip ?_ | refine WP.exit ?_); simp only [SeqQ, BlkQ, LoopQ, BodyQ, ↓reduceIte, Nat.reduceEqDiff, reduceCtorEq, look, true_and])
        | (refine WP.ret (Sm.out ?_))
        | (first | refine ExG.no (Sm.out ?_) | refine Or.inl (ExG.no (Sm.out ?_)) | refine Or.inl (And.intro (fun hg => absurd hg (by decide)) (ExG.no (Sm.out ?_))))
        | (refine Rt.mk ?_; refine And.intro ?_ ?_ <;> (intro hg; first | exact absurd hg (by decide) | refine Sm.out ?_))
        | (refine Nu.mk ?_; first | (fail_if_success (have := nb1)); intro nb1 | (fail_if_success (have := nb2)); intro nb2 | (fail_if_success (have := nb3)); intro nb3 | (fail_if_success (have := nb4)); intro nb4 | intro nbz)
        | (refine Fr.mk ?_; intro hfr; (first | (have hFRb : _ ≤ _ ∧ _ ≤ _ := And.intro hfr.1 hfr.2.1) | (have hFRb : _ ≤ _ := hfr.1) | skip); replace FR := Sm.mk (And.intro hfr FR.out); clear hfr; refine Sm.out ?_)
        | (refine Two.mk ?_ ?_)
        | (refine Cs.mk ?_; intro hcs; first | exact False.elim hcs | (exfalso; omega) | (refine Sm.out ?_))
        | go_step
        | omega
        | (simp only [maxLen_eq]; omega)
      (refine OutQ.upd (by simp only [resv, ZK, look, loadv, loadn, loadnm, load1, load1m, hget, ↓reduceIte, Nat.reduceEqDiff, Nat.reduceAdd, Nat.reduceMul, Nat.reduceLeDiff, Nat.reduceLT, reduceCtorEq, TFTyC, FR.out, ea, eb]) (by simp only [resv, resA, ZK, look, loadv, loadn, loadnm, load1, load1m, hget, ↓reduceIte, Nat.reduceEqDiff, Nat.reduceAdd, Nat.reduceMul, Nat.reduceLeDiff, Nat.reduceLT, reduceCtorEq, TFTyC, FR.out, ea, eb]; first | done | rfl) (by simp only [hget, ↓reduceIte, if_true, if_false, FR.out, ea, eb]; first | done | rfl) ?_ <;> first | exact rfl | (simp only [ZK, look, loadv, loadn, loadnm, load1, load1m, hget, ↓reduceIte, Nat.reduceEqDiff, Nat.reduceAdd, Nat.reduceMul, Nat.reduceLeDiff, Nat.reduceLT, reduceCtorEq, TFTyC, FR.out, ea, eb]; done) | skip)
  · have e : stz (escS r) = .lit (.string ⟨#[]⟩) := by rw [escS_no (by unfold escB; omega)]; rfl
    rw [e]
    have k5 : decide (r < 32) = false := decide_eq_false (by omega)
    have k6 : (r == 127) = false := beq_eq_false_iff_ne.2 (by omega)
    obtain ⟨D, hD⟩ : ∃ D, D = dbZ := ⟨_, rfl⟩
    rw [← hD]
    refine ACt.intro Tryd.func25 rfl (by kernel_rfl) (by simp [Tryd.ntmps25]) (fun cx => ?_)
    simp only [argE, Tryd.ntmps25, Tryd.results25]
    first | (have FRx := FR; clear FRx) | (have FR : Sm (¬ ((1 : Nat) = 0)) := Sm.mk Nat.one_ne_zero)
    repeat' first
      | (refine Sm.mk ?_; try simp -dsimp only [ZK, rvc, drawF, headN, pureH, stp, dvc, calleeOf, gcall, pev, eff, newB, okd, og, ogs, ogo, ogp, slv, bltv, opd, litv, strip, one, both, putE, St.put, look, gdOf, gdv, picka, pickv, pickw, binv, bini, bins, binb, binp, binq, isSlT, bina, shp, eqCells, unv, convv, nilv, faddv, addp, idxav, idxp, load1, load1m, loadn, loadnm, loadv, hget, hset, hrep, hdel, slicev, bnd, shift1, lenv, capv, IntKind.bits, extractv, fieldv, indexv, min2v, max2v, mkiv, cellsA, fillA, buildv, stC, oneC, rowMB, intsA, plN, appE, appZ, appC, appNZ, appNC, VwL, srcC, srcZ, srcM, isBoolT, isPtrT, isSliceT, uOk, Value.oneCell', Nat.reducePow, Int.reducePow, Nat.reduceAdd, Nat.reduceMul, Nat.reduceSub, Nat.reduceLT, Nat.reduceLeDiff, Nat.reduceEqDiff, Nat.reduceBEq, Nat.reduceDiv, Nat.reduceMod, ↓reduceIte, reduceCtorEq, Int.reduceToNat, Int.reduceLT, Int.reduceLE, TFTyC, SeqQ, BlkQ, LoopQ, BodyQ, k1, k2, k3, k4, k5, k6, FR.out])
      | (refine WP.seq fun K hK => ?_)
      | (refine WP.region (rvc_sound _ _ (Sm.out ?_)))
      | (refine WP.drawK rfl mixed (by decide +kernel) (Sm.out ?_))
      | (refine Ob.mk ?_; focus (first | assumption | omega | decide | trivial | (intro hob; simp only [hob, ZF]; done) | (intros; (repeat' refine And.intro ?_ ?_) <;> first | assumption | omega | trivial | decide) | (intros; simp only [ZE] at *; (repeat' refine And.intro ?_ ?_) <;> first | assumption | omega | trivial)))
      | (refine And.intro (Ob.out ?_) ?_)
      | (refine WP.block ?_)
      | (refine WP.cond rfl (fun hc => ?_) (fun hc => ?_) <;> (try simp only [ZC, reduceCtorEq, ZD] at hc) <;> (try (exact absurd hc (by decide))) <;> (try (exfalso; omega)))
      | ((first | refine WP.skip ?_ | refine WP.exit ?_); simp only [SeqQ, BlkQ, LoopQ, BodyQ, ↓reduceIte, Nat.reduceEqDiff, reduceCtorEq, look, true_and])
      | (refine WP.ret (Sm.out ?_))
      | (first | refine ExG.no (Sm.out ?_) | refine Or.inl (ExG.no (Sm.out ?_)) | refine Or.inl (And.intro (fun hg => absurd hg (by decide)) (ExG.no (Sm.out ?_))))
      | (refine Rt.mk ?_; refine And.intro ?_ ?_ <;> (intro hg; first | exact absurd hg (by decide) | refine Sm.out ?_))
      | (refine Nu.mk ?_; first | (fail_if_success (have := nb1)); intro nb1 | (fail_if_success (have := nb2)); intro nb2 | (fail_if_success (have := nb3)); intro nb3 | (fail_if_success (have := nb4)); intro nb4 | intro nbz)
      | (refine Fr.mk ?_; intro hfr; (first | (have hFRb : _ ≤ _ ∧ _ ≤ _ := And.intro hfr.1 hfr.2.1) | (have hFRb : _ ≤ _ := hfr.1) | skip); replace FR := Sm.mk (And.intro hfr FR.out); clear hfr; refine Sm.out ?_)
      | (refine Two.mk ?_ ?_)
      | (refine Cs.mk ?_; intro hcs; first | exact False.elim hcs | (exfalso; omega) | (refine Sm.out ?_))
      | go_step
      | omega
      | (simp only [maxLen_eq]; omega)
    (refine OutQ.upd (by simp only [resv, ZK, look, loadv, loadn, loadnm, load1, load1m, hget, ↓reduceIte, Nat.reduceEqDiff, Nat.reduceAdd, Nat.reduceMul, Nat.reduceLeDiff, Nat.reduceLT, reduceCtorEq, TFTyC, FR.out]) (by simp only [resv, resA, ZK, look, loadv, loadn, loadnm, load1, load1m, hget, ↓reduceIte, Nat.reduceEqDiff, Nat.reduceAdd, Nat.reduceMul, Nat.reduceLeDiff, Nat.reduceLT, reduceCtorEq, TFTyC, FR.out]; first | done | rfl) (by simp only [hget, ↓reduceIte, if_true, if_false, FR.out]; first | done | rfl) ?_ <;> first | exact rfl | (simp only [ZK, look, loadv, loadn, loadnm, load1, load1m, hget, ↓reduceIte, Nat.reduceEqDiff, Nat.reduceAdd, Nat.reduceMul, Nat.reduceLeDiff, Nat.reduceLT, reduceCtorEq, TFTyC, FR.out]; done) | skip)
end Go.Proofs.YtjdjpgjjnajjhaaDoor
namespace Go.Proofs.YtjdjpgjjnajjhaaDoor
open Go
set_option linter.unusedVariables false
set_option linter.unusedSimpArgs false
theorem TFTyF : (((((type_of% tyc4) ∧ (type_of% zmb4)) ∧ ((type_of% tyc5) ∧ (type_of% zmb5))) ∧ (((type_of% tyc9) ∧ (type_of% zmb9)) ∧ ((type_of% tyc21) ∧ ((type_of% zmb21) ∧ (type_of% tyc35))))) ∧ ((((type_of% elt35) ∧ (type_of% mkz35)) ∧ ((type_of% apT35) ∧ ((type_of% elk35) ∧ (type_of% zmb35)))) ∧ (((type_of% Tryd.underlying4) ∧ (type_of% Tryd.underlying5)) ∧ ((type_of% Tryd.underlying9) ∧ ((type_of% Tryd.underlying21) ∧ (type_of% Tryd.underlying35)))))) :=
  ⟨⟨⟨⟨tyc4, zmb4⟩, ⟨tyc5, zmb5⟩⟩, ⟨⟨tyc9, zmb9⟩, ⟨tyc21, ⟨zmb21, tyc35⟩⟩⟩⟩, ⟨⟨⟨elt35, mkz35⟩, ⟨apT35, ⟨elk35, zmb35⟩⟩⟩, ⟨⟨Tryd.underlying4, Tryd.underlying5⟩, ⟨Tryd.underlying9, ⟨Tryd.underlying21, Tryd.underlying35⟩⟩⟩⟩⟩
theorem rby1 (r : Int) (h : 0 ≤ r ∧ r < 128) : ACt Tryd.prog 31 [iv .i32 r] [] (Fn (stz [r])) := by
  have k1 : decide (r < 128) = true := decide_eq_true h.2
  have w : IntKind.u8.wrap r = r := wrap_u8 (by omega) (by omega)
  refine ACt.intro Tryd.func31 rfl (by kernel_rfl) (by simp [Tryd.ntmps31]) (fun cx => ?_)
  simp only [argE, Tryd.ntmps31, Tryd.results31]
  first | (have FRx := FR; clear FRx) | (have FR : Sm (¬ ((1 : Nat) = 0)) := Sm.mk Nat.one_ne_zero)
  repeat' first
    | (refine Sm.mk ?_; try simp -dsimp only [ZK, rvc, drawF, headN, pureH, stp, dvc, calleeOf, gcall, pev, eff, newB, okd, og, ogs, ogo, ogp, slv, bltv, opd, litv, strip, one, both, putE, St.put, look, gdOf, gdv, picka, pickv, pickw, binv, bini, bins, binb, binp, binq, isSlT, bina, shp, eqCells, unv, convv, nilv, faddv, addp, idxav, idxp, load1, load1m, loadn, loadnm, loadv, hget, hset, hrep, hdel, slicev, bnd, shift1, lenv, capv, IntKind.bits, extractv, fieldv, indexv, min2v, max2v, mkiv, cellsA, fillA, buildv, stC, oneC, rowMB, intsA, plN, appE, appZ, appC, appNZ, appNC, VwL, srcC, srcZ, srcM, isBoolT, isPtrT, isSliceT, uOk, Value.oneCell', Nat.reducePow, Int.reducePow, Nat.reduceAdd, Nat.reduceMul, Nat.reduceSub, Nat.reduceLT, Nat.reduceLeDiff, Nat.reduceEqDiff, Nat.reduceBEq, Nat.reduceDiv, Nat.reduceMod, ↓reduceIte, reduceCtorEq, Int.reduceToNat, Int.reduceLT, Int.reduceLE, TFTyF, SeqQ, BlkQ, LoopQ, BodyQ, k1, w, FR.out])
    | (refine WP.seq fun K hK => ?_)
    | (refine WP.region (rvc_sound _ _ (Sm.out ?_)))
    | (refine WP.drawK rfl mixed (by decide +kernel) (Sm.out ?_))
    | (refine Ob.mk ?_; focus (first | assumption | omega | decide | trivial | (intro hob; simp only [hob, ZF]; done) | (intros; (repeat' refine And.intro ?_ ?_) <;> first | assumption | omega | trivial | decide) | (intros; simp only [ZE] at *; (repeat' refine And.intro ?_ ?_) <;> first | assumption | omega | trivial)))
    | (refine And.intro (Ob.out ?_) ?_)
    | (refine WP.block ?_)
    | (refine WP.cond rfl (fun hc => ?_) (fun hc => ?_) <;> (try simp only [ZC, reduceCtorEq, ZD] at hc) <;> (try (exact absurd hc (by decide))) <;> (try (exfalso; omega)))
    | ((first | refine WP.skip ?_ | refine WP.exit ?_); simp only [SeqQ, BlkQ, LoopQ, BodyQ, ↓reduceIte, Nat.reduceEqDiff, reduceCtorEq, look, true_and])
    | (refine WP.ret (Sm.out ?_))
    | (first | refine ExG.no (Sm.out ?_) | refine Or.inl (ExG.no (Sm.out ?_)) | refine Or.inl (And.intro (fun hg => absurd hg (by decide)) (ExG.no (Sm.out ?_))))
    | (refine Rt.mk ?_; refine And.intro ?_ ?_ <;> (intro hg; first | exact absurd hg (by decide) | refine Sm.out ?_))
    | (refine Nu.mk ?_; first | (fail_if_success (have := nb1)); intro nb1 | (fail_if_success (have := nb2)); intro nb2 | (fail_if_success (have := nb3)); intro nb3 | (fail_if_success (have := nb4)); intro nb4 | intro nbz)
    | (refine Fr.mk ?_; intro hfr; (first | (have hFRb : _ ≤ _ ∧ _ ≤ _ := And.intro hfr.1 hfr.2.1) | (have hFRb : _ ≤ _ := hfr.1) | skip); replace FR := Sm.mk (And.intro hfr FR.out); clear hfr; refine Sm.out ?_)
    | (refine Two.mk ?_ ?_)
    | (refine Cs.mk ?_; intro hcs; first | exact False.elim hcs | (exfalso; omega) | (refine Sm.out ?_))
    | go_step
    | omega
    | (simp only [maxLen_eq]; omega)
  (refine OutQ.all ?_ ?_; (focus (simp only [resv, ZK, look, loadv, loadn, loadnm, load1, load1m, hget, ↓reduceIte, Nat.reduceEqDiff, Nat.reduceAdd, Nat.reduceMul, Nat.reduceLeDiff, Nat.reduceLT, reduceCtorEq, TFTyF, w])); (try simp only [resv, resA, Fn, ZK, look, loadv, loadn, loadnm, load1, load1m, hget, ↓reduceIte, Nat.reduceEqDiff, Nat.reduceAdd, Nat.reduceMul, Nat.reduceLeDiff, Nat.reduceLT, reduceCtorEq, TFTyF, w]); (try simp [resA, Fn, look, w]))
theorem tdvN (x k : Int) (h : 0 ≤ x) : Int.tdiv x k = x / k := Int.tdiv_eq_ediv_of_nonneg h
theorem tmdN (x k : Int) (h : 0 ≤ x) : Int.tmod x k = x % k := Int.tmod_eq_emod_of_nonneg h
theorem rby2 (r a b : Int) (h : 128 ≤ r ∧ r < 2048) (ha : a = r / 64) (hb : b = r % 64) : ACt Tryd.prog 31 [iv .i32 r] [] (Fn (stz [192 + a, 128 + b])) := by
  have k1 : decide (r < 128) = false := decide_eq_false (by omega)
  have k2 : decide (r < 2048) = true := decide_eq_true (by omega)
  have q1 : Int.tdiv r 64 = a := by rw [ha]; exact tdvN _ _ (by omega)
  have q2 : Int.tmod r 64 = b := by rw [hb]; exact tmdN _ _ (by omega)
  have v1 : IntKind.i32.wrap a = a := wrap_i32 (by omega) (by omega)
  have v2 : IntKind.i32.wrap b = b := wrap_i32 (by omega) (by omega)
  have w1 : IntKind.i32.wrap (192 + a) = 192 + a := wrap_i32 (by omega) (by omega)
  have w2 : IntKind.i32.wrap (128 + b) = 128 + b := wrap_i32 (by omega) (by omega)
  have u1 : IntKind.u8.wrap (192 + a) = 192 + a := wrap_u8 (by omega) (by omega)
  have u2 : IntKind.u8.wrap (128 + b) = 128 + b := wrap_u8 (by omega) (by omega)
  refine ACt.intro Tryd.func31 rfl (by kernel_rfl) (by simp [Tryd.ntmps31]) (fun cx => ?_)
  simp only [argE, Tryd.ntmps31, Tryd.results31]
  first | (have FRx := FR; clear FRx) | (have FR : Sm (¬ ((1 : Nat) = 0)) := Sm.mk Nat.one_ne_zero)
  repeat' first
    | (refine Sm.mk ?_; try simp -dsimp only [ZK, rvc, drawF, headN, pureH, stp, dvc, calleeOf, gcall, pev, eff, newB, okd, og, ogs, ogo, ogp, slv, bltv, opd, litv, strip, one, both, putE, St.put, look, gdOf, gdv, picka, pickv, pickw, binv, bini, bins, binb, binp, binq, isSlT, bina, shp, eqCells, unv, convv, nilv, faddv, addp, idxav, idxp, load1, load1m, loadn, loadnm, loadv, hget, hset, hrep, hdel, slicev, bnd, shift1, lenv, capv, IntKind.bits, extractv, fieldv, indexv, min2v, max2v, mkiv, cellsA, fillA, buildv, stC, oneC, rowMB, intsA, plN, appE, appZ, appC, appNZ, appNC, VwL, srcC, srcZ, srcM, isBoolT, isPtrT, isSliceT, uOk, Value.oneCell', Nat.reducePow, Int.reducePow, Nat.reduceAdd, Nat.reduceMul, Nat.reduceSub, Nat.reduceLT, Nat.reduceLeDiff, Nat.reduceEqDiff, Nat.reduceBEq, Nat.reduceDiv, Nat.reduceMod, ↓reduceIte, reduceCtorEq, Int.reduceToNat, Int.reduceLT, Int.reduceLE, TFTyF, SeqQ, BlkQ, LoopQ, BodyQ, k1, k2, q1, q2, v1, v2, w1, w2, u1, u2, FR.out])
    | (refine WP.seq fun K hK => ?_)
    | (refine WP.region (rvc_sound _ _ (Sm.out ?_)))
    | (refine WP.drawK rfl mixed (by decide +kernel) (Sm.out ?_))
    | (refine Ob.mk ?_; focus (first | assumption | omega | decide | trivial | (intro hob; simp only [hob, ZF]; done) | (intros; (repeat' refine And.intro ?_ ?_) <;> first | assumption | omega | trivial | decide) | (intros; simp only [ZE] at *; (repeat' refine And.intro ?_ ?_) <;> first | assumption | omega | trivial)))
    | (refine And.intro (Ob.out ?_) ?_)
    | (refine WP.block ?_)
    | (refine WP.cond rfl (fun hc => ?_) (fun hc => ?_) <;> (try simp only [ZC, reduceCtorEq, ZD] at hc) <;> (try (exact absurd hc (by decide))) <;> (try (exfalso; omega)))
    | ((first | refine WP.skip ?_ | refine WP.exit ?_); simp only [SeqQ, BlkQ, LoopQ, BodyQ, ↓reduceIte, Nat.reduceEqDiff, reduceCtorEq, look, true_and])
    | (refine WP.ret (Sm.out ?_))
    | (first | refine ExG.no (Sm.out ?_) | refine Or.inl (ExG.no (Sm.out ?_)) | refine Or.inl (And.intro (fun hg => absurd hg (by decide)) (ExG.no (Sm.out ?_))))
    | (refine Rt.mk ?_; refine And.intro ?_ ?_ <;> (intro hg; first | exact absurd hg (by decide) | refine Sm.out ?_))
    | (refine Nu.mk ?_; first | (fail_if_success (have := nb1)); intro nb1 | (fail_if_success (have := nb2)); intro nb2 | (fail_if_success (have := nb3)); intro nb3 | (fail_if_success (have := nb4)); intro nb4 | intro nbz)
    | (refine Fr.mk ?_; intro hfr; (first | (have hFRb : _ ≤ _ ∧ _ ≤ _ := And.intro hfr.1 hfr.2.1) | (have hFRb : _ ≤ _ := hfr.1) | skip); replace FR := Sm.mk (And.intro hfr FR.out); clear hfr; refine Sm.out ?_)
    | (refine Two.mk ?_ ?_)
    | (refine Cs.mk ?_; intro hcs; first | exact False.elim hcs | (exfalso; omega) | (refine Sm.out ?_))
    | go_step
    | omega
    | (simp only [maxLen_eq]; omega)
  (refine OutQ.all ?_ ?_; (focus (simp only [resv, ZK, look, loadv, loadn, loadnm, load1, load1m, hget, ↓reduceIte, Nat.reduceEqDiff, Nat.reduceAdd, Nat.reduceMul, Nat.reduceLeDiff, Nat.reduceLT, reduceCtorEq, TFTyF, u1, u2])); (try simp only [resv, resA, Fn, ZK, look, loadv, loadn, loadnm, load1, load1m, hget, ↓reduceIte, Nat.reduceEqDiff, Nat.reduceAdd, Nat.reduceMul, Nat.reduceLeDiff, Nat.reduceLT, reduceCtorEq, TFTyF, u1, u2]); (try simp [resA, Fn, look, u1, u2]))
theorem rby3 (r a c b d : Int) (h : 2048 ≤ r ∧ r < 65536) (ha : a = r / 4096) (hc : c = r / 64) (hd : d = c % 64) (hb : b = r % 64) : ACt Tryd.prog 31 [iv .i32 r] [] (Fn (stz [224 + a, 128 + d, 128 + b])) := by
  have k1 : decide (r < 128) = false := decide_eq_false (by omega)
  have k2 : decide (r < 2048) = false := decide_eq_false (by omega)
  have k3 : decide (r < 65536) = true := decide_eq_true (by omega)
  have q0 : Int.tdiv r 4096 = a := by rw [ha]; exact tdvN _ _ (by omega)
  have q1 : Int.tdiv r 64 = c := by rw [hc]; exact tdvN _ _ (by omega)
  have q2 : Int.tmod r 64 = b := by rw [hb]; exact tmdN _ _ (by omega)
  have q3 : Int.tmod c 64 = d := by rw [hd]; exact tmdN _ _ (by omega)
  have v1 : IntKind.i32.wrap a = a := wrap_i32 (by omega) (by omega)
  have v2 : IntKind.i32.wrap b = b := wrap_i32 (by omega) (by omega)
  have v3 : IntKind.i32.wrap c = c := wrap_i32 (by omega) (by omega)
  have v4 : IntKind.i32.wrap d = d := wrap_i32 (by omega) (by omega)
  have w1 : IntKind.i32.wrap (224 + a) = 224 + a := wrap_i32 (by omega) (by omega)
  have w2 : IntKind.i32.wrap (128 + b) = 128 + b := wrap_i32 (by omega) (by omega)
  have w3 : IntKind.i32.wrap (128 + d) = 128 + d := wrap_i32 (by omega) (by omega)
  have u1 : IntKind.u8.wrap (224 + a) = 224 + a := wrap_u8 (by omega) (by omega)
  have u2 : IntKind.u8.wrap (128 + b) = 128 + b := wrap_u8 (by omega) (by omega)
  have u3 : IntKind.u8.wrap (128 + d) = 128 + d := wrap_u8 (by omega) (by omega)
  refine ACt.intro Tryd.func31 rfl (by kernel_rfl) (by simp [Tryd.ntmps31]) (fun cx => ?_)
  simp only [argE, Tryd.ntmps31, Tryd.results31]
  first | (have FRx := FR; clear FRx) | (have FR : Sm (¬ ((1 : Nat) = 0)) := Sm.mk Nat.one_ne_zero)
  repeat' first
    | (refine Sm.mk ?_; try simp -dsimp only [ZK, rvc, drawF, headN, pureH, stp, dvc, calleeOf, gcall, pev, eff, newB, okd, og, ogs, ogo, ogp, slv, bltv, opd, litv, strip, one, both, putE, St.put, look, gdOf, gdv, picka, pickv, pickw, binv, bini, bins, binb, binp, binq, isSlT, bina, shp, eqCells, unv, convv, nilv, faddv, addp, idxav, idxp, load1, load1m, loadn, loadnm, loadv, hget, hset, hrep, hdel, slicev, bnd, shift1, lenv, capv, IntKind.bits, extractv, fieldv, indexv, min2v, max2v, mkiv, cellsA, fillA, buildv, stC, oneC, rowMB, intsA, plN, appE, appZ, appC, appNZ, appNC, VwL, srcC, srcZ, srcM, isBoolT, isPtrT, isSliceT, uOk, Value.oneCell', Nat.reducePow, Int.reducePow, Nat.reduceAdd, Nat.reduceMul, Nat.reduceSub, Nat.reduceLT, Nat.reduceLeDiff, Nat.reduceEqDiff, Nat.reduceBEq, Nat.reduceDiv, Nat.reduceMod, ↓reduceIte, reduceCtorEq, Int.reduceToNat, Int.reduceLT, Int.reduceLE, TFTyF, SeqQ, BlkQ, LoopQ, BodyQ, k1, k2, k3, q0, q1, q2, q3, v1, v2, v3, v4, w1, w2, w3, u1, u2, u3, FR.out])
    | (refine WP.seq fun K hK => ?_)
    | (refine WP.region (rvc_sound _ _ (Sm.out ?_)))
    | (refine WP.drawK rfl mixed (by decide +kernel) (Sm.out ?_))
    | (refine Ob.mk ?_; focus (first | assumption | omega | decide | trivial | (intro hob; simp only [hob, ZF]; done) | (intros; (repeat' refine And.intro ?_ ?_) <;> first | assumption | omega | trivial | decide) | (intros; simp only [ZE] at *; (repeat' refine And.intro ?_ ?_) <;> first | assumption | omega | trivial)))
    | (refine And.intro (Ob.out ?_) ?_)
    | (refine WP.block ?_)
    | (refine WP.cond rfl (fun hc => ?_) (fun hc => ?_) <;> (try simp only [ZC, reduceCtorEq, ZD] at hc) <;> (try (exact absurd hc (by decide))) <;> (try (exfalso; omega)))
    | ((first | refine WP.skip ?_ | refine WP.exit ?_); simp only [SeqQ, BlkQ, LoopQ, BodyQ, ↓reduceIte, Nat.reduceEqDiff, reduceCtorEq, look, true_and])
    | (refine WP.ret (Sm.out ?_))
    | (first | refine ExG.no (Sm.out ?_) | refine Or.inl (ExG.no (Sm.out ?_)) | refine Or.inl (And.intro (fun hg => absurd hg (by decide)) (ExG.no (Sm.out ?_))))
    | (refine Rt.mk ?_; refine And.intro ?_ ?_ <;> (intro hg; first | exact absurd hg (by decide) | refine Sm.out ?_))
    | (refine Nu.mk ?_; first | (fail_if_success (have := nb1)); intro nb1 | (fail_if_success (have := nb2)); intro nb2 | (fail_if_success (have := nb3)); intro nb3 | (fail_if_success (have := nb4)); intro nb4 | intro nbz)
    | (refine Fr.mk ?_; intro hfr; (first | (have hFRb : _ ≤ _ ∧ _ ≤ _ := And.intro hfr.1 hfr.2.1) | (have hFRb : _ ≤ _ := hfr.1) | skip); replace FR := Sm.mk (And.intro hfr FR.out); clear hfr; refine Sm.out ?_)
    | (refine Two.mk ?_ ?_)
    | (refine Cs.mk ?_; intro hcs; first | exact False.elim hcs | (exfalso; omega) | (refine Sm.out ?_))
    | go_step
    | omega
    | (simp only [maxLen_eq]; omega)
  (refine OutQ.all ?_ ?_; (focus (simp only [resv, ZK, look, loadv, loadn, loadnm, load1, load1m, hget, ↓reduceIte, Nat.reduceEqDiff, Nat.reduceAdd, Nat.reduceMul, Nat.reduceLeDiff, Nat.reduceLT, reduceCtorEq, TFTyF, u1, u2, u3])); (try simp only [resv, resA, Fn, ZK, look, loadv, loadn, loadnm, load1, load1m, hget, ↓reduceIte, Nat.reduceEqDiff, Nat.reduceAdd, Nat.reduceMul, Nat.reduceLeDiff, Nat.reduceLT, reduceCtorEq, TFTyF, u1, u2, u3]); (try simp [resA, Fn, look, u1, u2, u3]))
theorem rby4 (r a c b d e f : Int) (h : 65536 ≤ r ∧ r ≤ 1114111) (ha : a = r / 262144) (hc : c = r / 4096) (hd : d = c % 64) (he : e = r / 64) (hf : f = e % 64) (hb : b = r % 64) : ACt Tryd.prog 31 [iv .i32 r] [] (Fn (stz [240 + a, 128 + d, 128 + f, 128 + b])) := by
  have k1 : decide (r < 128) = false := decide_eq_false (by omega)
  have k2 : decide (r < 2048) = false := decide_eq_false (by omega)
  have k3 : decide (r < 65536) = false := decide_eq_false (by omega)
  have q0 : Int.tdiv r 262144 = a := by rw [ha]; exact tdvN _ _ (by omega)
  have q1 : Int.tdiv r 4096 = c := by rw [hc]; exact tdvN _ _ (by omega)
  have q4 : Int.tdiv r 64 = e := by rw [he]; exact tdvN _ _ (by omega)
  have q2 : Int.tmod r 64 = b := by rw [hb]; exact tmdN _ _ (by omega)
  have q3 : Int.tmod c 64 = d := by rw [hd]; exact tmdN _ _ (by omega)
  have q5 : Int.tmod e 64 = f := by rw [hf]; exact tmdN _ _ (by omega)
  have v1 : IntKind.i32.wrap a = a := wrap_i32 (by omega) (by omega)
  have v2 : IntKind.i32.wrap b = b := wrap_i32 (by omega) (by omega)
  have v3 : IntKind.i32.wrap c = c := wrap_i32 (by omega) (by omega)
  have v4 : IntKind.i32.wrap d = d := wrap_i32 (by omega) (by omega)
  have v5 : IntKind.i32.wrap e = e := wrap_i32 (by omega) (by omega)
  have v6 : IntKind.i32.wrap f = f := wrap_i32 (by omega) (by omega)
  have w1 : IntKind.i32.wrap (240 + a) = 240 + a := wrap_i32 (by omega) (by omega)
  have w2 : IntKind.i32.wrap (128 + b) = 128 + b := wrap_i32 (by omega) (by omega)
  have w3 : IntKind.i32.wrap (128 + d) = 128 + d := wrap_i32 (by omega) (by omega)
  have w4 : IntKind.i32.wrap (128 + f) = 128 + f := wrap_i32 (by omega) (by omega)
  have u1 : IntKind.u8.wrap (240 + a) = 240 + a := wrap_u8 (by omega) (by omega)
  have u2 : IntKind.u8.wrap (128 + b) = 128 + b := wrap_u8 (by omega) (by omega)
  have u3 : IntKind.u8.wrap (128 + d) = 128 + d := wrap_u8 (by omega) (by omega)
  have u4 : IntKind.u8.wrap (128 + f) = 128 + f := wrap_u8 (by omega) (by omega)
  refine ACt.intro Tryd.func31 rfl (by kernel_rfl) (by simp [Tryd.ntmps31]) (fun cx => ?_)
  simp only [argE, Tryd.ntmps31, Tryd.results31]
  first | (have FRx := FR; clear FRx) | (have FR : Sm (¬ ((1 : Nat) = 0)) := Sm.mk Nat.one_ne_zero)
  repeat' first
    | (refine Sm.mk ?_; try simp -dsimp only [ZK, rvc, drawF, headN, pureH, stp, dvc, calleeOf, gcall, pev, eff, newB, okd, og, ogs, ogo, ogp, slv, bltv, opd, litv, strip, one, both, putE, St.put, look, gdOf, gdv, picka, pickv, pickw, binv, bini, bins, binb, binp, binq, isSlT, bina, shp, eqCells, unv, convv, nilv, faddv, addp, idxav, idxp, load1, load1m, loadn, loadnm, loadv, hget, hset, hrep, hdel, slicev, bnd, shift1, lenv, capv, IntKind.bits, extractv, fieldv, indexv, min2v, max2v, mkiv, cellsA, fillA, buildv, stC, oneC, rowMB, intsA, plN, appE, appZ, appC, appNZ, appNC, VwL, srcC, srcZ, srcM, isBoolT, isPtrT, isSliceT, uOk, Value.oneCell', Nat.reducePow, Int.reducePow, Nat.reduceAdd, Nat.reduceMul, Nat.reduceSub, Nat.reduceLT, Nat.reduceLeDiff, Nat.reduceEqDiff, Nat.reduceBEq, Nat.reduceDiv, Nat.reduceMod, ↓reduceIte, reduceCtorEq, Int.reduceToNat, Int.reduceLT, Int.reduceLE, TFTyF, SeqQ, BlkQ, LoopQ, BodyQ, k1, k2, k3, q0, q1, q2, q3, q4, q5, v1, v2, v3, v4, v5, v6, w1, w2, w3, w4, u1, u2, u3, u4, FR.out])
    | (refine WP.seq fun K hK => ?_)
    | (refine WP.region (rvc_sound _ _ (Sm.out ?_)))
    | (refine WP.drawK rfl mixed (by decide +kernel) (Sm.out ?_))
    | (refine Ob.mk ?_; focus (first | assumption | omega | decide | trivial | (intro hob; simp only [hob, ZF]; done) | (intros; (repeat' refine And.intro ?_ ?_) <;> first | assumption | omega | trivial | decide) | (intros; simp only [ZE] at *; (repeat' refine And.intro ?_ ?_) <;> first | assumption | omega | trivial)))
    | (refine And.intro (Ob.out ?_) ?_)
    | (refine WP.block ?_)
    | (refine WP.cond rfl (fun hc => ?_) (fun hc => ?_) <;> (try simp only [ZC, reduceCtorEq, ZD] at hc) <;> (try (exact absurd hc (by decide))) <;> (try (exfalso; omega)))
    | ((first | refine WP.skip ?_ | refine WP.exit ?_); simp only [SeqQ, BlkQ, LoopQ, BodyQ, ↓reduceIte, Nat.reduceEqDiff, reduceCtorEq, look, true_and])
    | (refine WP.ret (Sm.out ?_))
    | (first | refine ExG.no (Sm.out ?_) | refine Or.inl (ExG.no (Sm.out ?_)) | refine Or.inl (And.intro (fun hg => absurd hg (by decide)) (ExG.no (Sm.out ?_))))
    | (refine Rt.mk ?_; refine And.intro ?_ ?_ <;> (intro hg; first | exact absurd hg (by decide) | refine Sm.out ?_))
    | (refine Nu.mk ?_; first | (fail_if_success (have := nb1)); intro nb1 | (fail_if_success (have := nb2)); intro nb2 | (fail_if_success (have := nb3)); intro nb3 | (fail_if_success (have := nb4)); intro nb4 | intro nbz)
    | (refine Fr.mk ?_; intro hfr; (first | (have hFRb : _ ≤ _ ∧ _ ≤ _ := And.intro hfr.1 hfr.2.1) | (have hFRb : _ ≤ _ := hfr.1) | skip); replace FR := Sm.mk (And.intro hfr FR.out); clear hfr; refine Sm.out ?_)
    | (refine Two.mk ?_ ?_)
    | (refine Cs.mk ?_; intro hcs; first | exact False.elim hcs | (exfalso; omega) | (refine Sm.out ?_))
    | go_step
    | omega
    | (simp only [maxLen_eq]; omega)
  (refine OutQ.all ?_ ?_; (focus (simp only [resv, ZK, look, loadv, loadn, loadnm, load1, load1m, hget, ↓reduceIte, Nat.reduceEqDiff, Nat.reduceAdd, Nat.reduceMul, Nat.reduceLeDiff, Nat.reduceLT, reduceCtorEq, TFTyF, u1, u2, u3, u4])); (try simp only [resv, resA, Fn, ZK, look, loadv, loadn, loadnm, load1, load1m, hget, ↓reduceIte, Nat.reduceEqDiff, Nat.reduceAdd, Nat.reduceMul, Nat.reduceLeDiff, Nat.reduceLT, reduceCtorEq, TFTyF, u1, u2, u3, u4]); (try simp [resA, Fn, look, u1, u2, u3, u4]))
theorem rbytes_ct (r : Int) (hr : Gr r) : ACt Tryd.prog 31 [iv .i32 r] [] (Fn (stz (enc8 r))) := by
  obtain ⟨h0, h1, h2⟩ := hr
  unfold enc8
  split
  · exact rby1 r ⟨h0, by omega⟩
  · split
    · exact rby2 r _ _ ⟨by omega, by omega⟩ rfl rfl
    · split
      · exact rby3 r _ _ _ _ ⟨by omega, by omega⟩ rfl rfl rfl rfl
      · exact rby4 r _ _ _ _ _ _ ⟨by omega, by omega⟩ rfl rfl rfl rfl rfl rfl
end Go.Proofs.YtjdjpgjjnajjhaaDoor
namespace Go.Proofs.YtjdjpgjjnajjhaaDoor
open Go
set_option linter.unusedVariables false
set_option linter.unusedSimpArgs false
theorem TFTyG : (((((type_of% tyc0) ∧ ((type_of% tyc3) ∧ (type_of% zmb3))) ∧ ((type_of% tyc4) ∧ ((type_of% zmb4) ∧ (type_of% tyc9)))) ∧ (((type_of% zmb9) ∧ ((type_of% tyc21) ∧ (type_of% zmb21))) ∧ (((type_of% tyc32) ∧ (type_of% zmb32)) ∧ ((type_of% tyc38) ∧ (type_of% foff38_0))))) ∧ ((((type_of% fpart38_0) ∧ ((type_of% foff38_1) ∧ (type_of% fpart38_1))) ∧ (((type_of% zmb38) ∧ (type_of% bldT38)) ∧ ((type_of% tyc41) ∧ (type_of% Tryd.underlying0)))) ∧ (((type_of% Tryd.underlying3) ∧ ((type_of% Tryd.underlying4) ∧ (type_of% Tryd.underlying9))) ∧ (((type_of% Tryd.underlying21) ∧ (type_of% Tryd.underlying32)) ∧ ((type_of% Tryd.underlying38) ∧ (type_of% Tryd.underlying41)))))) :=
  ⟨⟨⟨⟨tyc0, ⟨tyc3, zmb3⟩⟩, ⟨tyc4, ⟨zmb4, tyc9⟩⟩⟩, ⟨⟨zmb9, ⟨tyc21, zmb21⟩⟩, ⟨⟨tyc32, zmb32⟩, ⟨tyc38, foff38_0⟩⟩⟩⟩, ⟨⟨⟨fpart38_0, ⟨foff38_1, fpart38_1⟩⟩, ⟨⟨zmb38, bldT38⟩, ⟨tyc41, Tryd.underlying0⟩⟩⟩, ⟨⟨Tryd.underlying3, ⟨Tryd.underlying4, Tryd.underlying9⟩⟩, ⟨⟨Tryd.underlying21, Tryd.underlying32⟩, ⟨Tryd.underlying38, Tryd.underlying41⟩⟩⟩⟩⟩
/-- a call that looks at some blocks only, over all -/
theorem liftP {f : FuncId} {args : List AV} {F G : Hp} {x : AV} (R : Hp) (hp : F.Perm (G ++ R)) (h : ACt Tryd.prog f args G (fun r F' => r = x ∧ F' = G)) : ACt Tryd.prog f args F (fun r F' => r = x ∧ F' = F) :=
  ACt.frm (R := R) h hp fun r F' hr _ => by
    obtain ⟨e1, e2⟩ := hr
    subst e1 e2
    exact ⟨F, [], by rw [List.append_nil]; exact hp.symm, rfl, rfl⟩
/-- what a rune is quoted as -/
def qrep (r : Int) : List Int := if escS r = [] then enc8 r else escS r
theorem qrep_by {r : Int} (hr : Gr r) : By (qrep r) := by
  unfold qrep
  split
  · exact enc8_by hr
  · exact escS_by hr.1
theorem qrep_len (r : Int) : (qrep r).length ≤ 6 := by
  have h1 := escS_len r
  have h2 := enc8_len r
  unfold qrep
  split <;> omega
/-- what Quote answers -/
noncomputable def quoA (zs : List Int) : List Int × Int := if gdB zs = true then (if 120 < (rn zs).length then ([], 9) else ([34] ++ (rn zs).flatMap qrep ++ [34], 0)) else ([], 5)
structure QuoG where
  i : Nat
  o : List Int
  q : BQ
theorem pm31 (a b c d : Nat × MB) (l : Hp) : List.Perm ([a, b, c, d] ++ l) ([d] ++ ([a, b, c] ++ l)) := by
  show List.Perm ([a, b, c] ++ d :: l) (d :: ([a, b, c] ++ l))
  exact List.perm_middle
theorem pr4 (a b c d : Nat × MB) : List.Perm [d, a, b, c] ([a, b, c, d] ++ []) := by
  show List.Perm ([d] ++ [a, b, c]) ([a, b, c] ++ [d])
  exact List.perm_append_comm
set_option maxHeartbeats 8000000 in
set_option maxRecDepth 20000 in
theorem quo_ct (zs : List Int) (hb : By zs) (hl : zs.length ≤ 5000) (n0 n1 n4 : Nat) : ACt Tryd.prog 18 [stz zs] [(0, .zs .u8 fsZ 256 n0), (1, .zs .u8 acZ 32 n1), (4, .zs .u8 dbZ 64 n4)] (fun r F' => r = .tup [stz (quoA zs).1, iv .i64 (quoA zs).2] ∧ F' = [(0, .zs .u8 fsZ 256 n0), (1, .zs .u8 acZ 32 n1), (4, .zs .u8 dbZ 64 n4)]) := by
  have cG := goodT_ct zs hb hl n0 n1
  have cN := cnt_ct zs hb (by omega)
  have cE := fun r hr => escG_ct r hr n4
  obtain ⟨FZ, hFZ⟩ : ∃ FZ, FZ = fsZ := ⟨_, rfl⟩
  obtain ⟨AZ, hAZ⟩ : ∃ AZ, AZ = acZ := ⟨_, rfl⟩
  obtain ⟨DZ, hDZ⟩ : ∃ DZ, DZ = dbZ := ⟨_, rfl⟩
  rw [← hFZ, ← hAZ] at cG ⊢
  rw [← hDZ] at cE ⊢
  clear hFZ hAZ hDZ
  have cG := liftP [(4, .zs .u8 DZ 64 n4)] (F := [(0, .zs .u8 FZ 256 n0), (1, .zs .u8 AZ 32 n1), (4, .zs .u8 DZ 64 n4)]) (List.Perm.refl _) cG
  by_cases h2 : gdB zs = true
  case neg =>
    have h2' : gdB zs = false := by simpa using h2
    rw [h2'] at cG
    have e : quoA zs = ([], 5) := by unfold quoA; rw [if_neg h2]
    rw [e]
    refine ACt.intro Tryd.func18 rfl (by kernel_rfl) (by simp [Tryd.ntmps18]) (fun cx => ?_)
    simp only [argE, Tryd.ntmps18, Tryd.results18]
    first | (have FRx := FR; clear FRx) | (have FR : Sm (¬ ((1 : Nat) = 0)) := Sm.mk Nat.one_ne_zero)
    repeat' first
      | (refine Sm.mk ?_; try simp -dsimp only [ZK, rvc, drawF, headN, pureH, stp, dvc, calleeOf, gcall, pev, eff, newB, okd, og, ogs, ogo, ogp, slv, bltv, opd, litv, strip, one, both, putE, St.put, look, gdOf, gdv, picka, pickv, pickw, binv, bini, bins, binb, binp, binq, isSlT, bina, shp, eqCells, unv, convv, nilv, faddv, addp, idxav, idxp, load1, load1m, loadn, loadnm, loadv, hget, hset, hrep, hdel, slicev, bnd, shift1, lenv, capv, IntKind.bits, extractv, fieldv, indexv, min2v, max2v, mkiv, cellsA, fillA, buildv, stC, oneC, rowMB, intsA, plN, appE, appZ, appC, appNZ, appNC, VwL, srcC, srcZ, srcM, isBoolT, isPtrT, isSliceT, uOk, Value.oneCell', Nat.reducePow, Int.reducePow, Nat.reduceAdd, Nat.reduceMul, Nat.reduceSub, Nat.reduceLT, Nat.reduceLeDiff, Nat.reduceEqDiff, Nat.reduceBEq, Nat.reduceDiv, Nat.reduceMod, ↓reduceIte, reduceCtorEq, Int.reduceToNat, Int.reduceLT, Int.reduceLE, TFTyG, SeqQ, BlkQ, LoopQ, BodyQ, FR.out])
      | (refine CallV.updM (cG) (pmz _) (Sm.out ?_))
      | (refine WP.seq fun K hK => ?_)
      | (refine WP.region (rvc_sound _ _ (Sm.out ?_)))
      | (refine WP.drawK rfl mixed (by decide +kernel) (Sm.out ?_))
      | (refine Ob.mk ?_; focus (first | assumption | omega | decide | trivial | (intro hob; simp only [hob, ZF]; done) | (intros; (repeat' refine And.intro ?_ ?_) <;> first | assumption | omega | trivial | decide) | (intros; simp only [ZE] at *; (repeat' refine And.intro ?_ ?_) <;> first | assumption | omega | trivial)))
      | (refine And.intro (Ob.out ?_) ?_)
      | (refine WP.block ?_)
      | (refine WP.cond rfl (fun hc => ?_) (fun hc => ?_) <;> (try simp only [ZC, reduceCtorEq, ZD] at hc) <;> (try (exact absurd hc (by decide))) <;> (try (exfalso; omega)))
      | ((first | refine WP.skip ?_ | refine WP.exit ?_); simp only [SeqQ, BlkQ, LoopQ, BodyQ, ↓reduceIte, Nat.reduceEqDiff, reduceCtorEq, look, true_and])
      | (refine WP.ret (Sm.out ?_))
      | (first | refine ExG.no (Sm.out ?_) | refine Or.inl (ExG.no (Sm.out ?_)) | refine Or.inl (And.intro (fun hg => absurd hg (by decide)) (ExG.no (Sm.out ?_))))
      | (refine Rt.mk ?_; refine And.intro ?_ ?_ <;> (intro hg; first | exact absurd hg (by decide) | refine Sm.out ?_))
      | (refine Nu.mk ?_; first | (fail_if_success (have := nb1)); intro nb1 | (fail_if_success (have := nb2)); intro nb2 | (fail_if_success (have := nb3)); intro nb3 | (fail_if_success (have := nb4)); intro nb4 | intro nbz)
      | (refine Fr.mk ?_; intro hfr; (first | (have hFRb : _ ≤ _ ∧ _ ≤ _ := And.intro hfr.1 hfr.2.1) | (have hFRb : _ ≤ _ := hfr.1) | skip); replace FR := Sm.mk (And.intro hfr FR.out); clear hfr; refine Sm.out ?_)
      | (refine Two.mk ?_ ?_)
      | (refine Cs.mk ?_; intro hcs; first | exact False.elim hcs | (exfalso; omega) | (refine Sm.out ?_))
      | go_step
      | omega
      | (simp only [maxLen_eq]; omega)
    (refine OutQ.drop _ _ (perm3 (by simp only [hget, hdel, ↓reduceIte, if_true, if_false, FR.out]; first | done | rfl) (by simp only [hget, hdel, ↓reduceIte, if_true, if_false, FR.out]; first | done | rfl) (by simp only [hget, hdel, ↓reduceIte, if_true, if_false, FR.out]; first | done | rfl)) (by simp only [resv, ZK, look, loadv, loadn, loadnm, load1, load1m, hget, ↓reduceIte, Nat.reduceEqDiff, Nat.reduceAdd, Nat.reduceMul, Nat.reduceLeDiff, Nat.reduceLT, reduceCtorEq, TFTyG, FR.out]) ⟨(by simp only [resv, resA, ZK, look, loadv, loadn, loadnm, load1, load1m, hget, ↓reduceIte, Nat.reduceEqDiff, Nat.reduceAdd, Nat.reduceMul, Nat.reduceLeDiff, Nat.reduceLT, reduceCtorEq, TFTyG, FR.out]; first | done | rfl), rfl⟩)
  rw [h2] at cG
  obtain ⟨N, hN⟩ : ∃ N, N = (rn zs).length := ⟨_, rfl⟩
  rw [← hN] at cN
  by_cases h12 : 120 < N
  · have e : quoA zs = ([], 9) := by unfold quoA; rw [if_pos h2, if_pos (by rw [← hN]; exact h12)]
    rw [e]
    have kN : decide ((N : Int) > 120) = true := decide_eq_true (by omega)
    refine ACt.intro Tryd.func18 rfl (by kernel_rfl) (by simp [Tryd.ntmps18]) (fun cx => ?_)
    simp only [argE, Tryd.ntmps18, Tryd.results18]
    first | (have FRx := FR; clear FRx) | (have FR : Sm (¬ ((1 : Nat) = 0)) := Sm.mk Nat.one_ne_zero)
    repeat' first
      | (refine Sm.mk ?_; try simp -dsimp only [ZK, rvc, drawF, headN, pureH, stp, dvc, calleeOf, gcall, pev, eff, newB, okd, og, ogs, ogo, ogp, slv, bltv, opd, litv, strip, one, both, putE, St.put, look, gdOf, gdv, picka, pickv, pickw, binv, bini, bins, binb, binp, binq, isSlT, bina, shp, eqCells, unv, convv, nilv, faddv, addp, idxav, idxp, load1, load1m, loadn, loadnm, loadv, hget, hset, hrep, hdel, slicev, bnd, shift1, lenv, capv, IntKind.bits, extractv, fieldv, indexv, min2v, max2v, mkiv, cellsA, fillA, buildv, stC, oneC, rowMB, intsA, plN, appE, appZ, appC, appNZ, appNC, VwL, srcC, srcZ, srcM, isBoolT, isPtrT, isSliceT, uOk, Value.oneCell', Nat.reducePow, Int.reducePow, Nat.reduceAdd, Nat.reduceMul, Nat.reduceSub, Nat.reduceLT, Nat.reduceLeDiff, Nat.reduceEqDiff, Nat.reduceBEq, Nat.reduceDiv, Nat.reduceMod, ↓reduceIte, reduceCtorEq, Int.reduceToNat, Int.reduceLT, Int.reduceLE, TFTyG, SeqQ, BlkQ, LoopQ, BodyQ, kN, FR.out])
      | (refine CallV.updM (cG) (pmz _) (Sm.out ?_))
      | (first | refine CallV.fn (cN) (Sm.out ?_) | refine ExF.mk (cN) (Sm.out ?_) | refine ExG.mk (fun _ => cN) (Sm.out ?_) | refine ExG.mkJ (fun _ => cN) (Sm.out ?_) | refine ExG.mkI (Ob.out ?_) (fun _ => cN) (Sm.out ?_))
      | (refine WP.seq fun K hK => ?_)
      | (refine WP.region (rvc_sound _ _ (Sm.out ?_)))
      | (refine WP.drawK rfl mixed (by decide +kernel) (Sm.out ?_))
      | (refine Ob.mk ?_; focus (first | assumption | omega | decide | trivial | (intro hob; simp only [hob, ZF]; done) | (intros; (repeat' refine And.intro ?_ ?_) <;> first | assumption | omega | trivial | decide) | (intros; simp only [ZE] at *; (repeat' refine And.intro ?_ ?_) <;> first | assumption | omega | trivial)))
      | (refine And.intro (Ob.out ?_) ?_)
      | (refine WP.block ?_)
      | (refine WP.cond rfl (fun hc => ?_) (fun hc => ?_) <;> (try simp only [ZC, reduceCtorEq, ZD] at hc) <;> (try (exact absurd hc (by decide))) <;> (try (exfalso; omega)))
      | ((first | refine WP.skip ?_ | refine WP.exit ?_); simp only [SeqQ, BlkQ, LoopQ, BodyQ, ↓reduceIte, Nat.reduceEqDiff, reduceCtorEq, look, true_and])
      | (refine WP.ret (Sm.out ?_))
      | (first | refine ExG.no (Sm.out ?_) | refine Or.inl (ExG.no (Sm.out ?_)) | refine Or.inl (And.intro (fun hg => absurd hg (by decide)) (ExG.no (Sm.out ?_))))
      | (refine Rt.mk ?_; refine And.intro ?_ ?_ <;> (intro hg; first | exact absurd hg (by decide) | refine Sm.out ?_))
      | (refine Nu.mk ?_; first | (fail_if_success (have := nb1)); intro nb1 | (fail_if_success (have := nb2)); intro nb2 | (fail_if_success (have := nb3)); intro nb3 | (fail_if_success (have := nb4)); intro nb4 | intro nbz)
      | (refine Fr.mk ?_; intro hfr; (first | (have hFRb : _ ≤ _ ∧ _ ≤ _ := And.intro hfr.1 hfr.2.1) | (have hFRb : _ ≤ _ := hfr.1) | skip); replace FR := Sm.mk (And.intro hfr FR.out); clear hfr; refine Sm.out ?_)
      | (refine Two.mk ?_ ?_)
      | (refine Cs.mk ?_; intro hcs; first | exact False.elim hcs | (exfalso; omega) | (refine Sm.out ?_))
      | go_step
      | omega
      | (simp only [maxLen_eq]; omega)
    (refine OutQ.drop _ _ (perm3 (by simp only [hget, hdel, ↓reduceIte, if_true, if_false, FR.out]; first | done | rfl) (by simp only [hget, hdel, ↓reduceIte, if_true, if_false, FR.out]; first | done | rfl) (by simp only [hget, hdel, ↓reduceIte, if_true, if_false, FR.out]; first | done | rfl)) (by simp only [resv, ZK, look, loadv, loadn, loadnm, load1, load1m, hget, ↓reduceIte, Nat.reduceEqDiff, Nat.reduceAdd, Nat.reduceMul, Nat.reduceLeDiff, Nat.reduceLT, reduceCtorEq, TFTyG, FR.out]) ⟨(by simp only [resv, resA, ZK, look, loadv, loadn, loadnm, load1, load1m, hget, ↓reduceIte, Nat.reduceEqDiff, Nat.reduceAdd, Nat.reduceMul, Nat.reduceLeDiff, Nat.reduceLT, reduceCtorEq, TFTyG, FR.out]; first | done | rfl), rfl⟩)
  have hA : quoA zs = ([34] ++ (rn zs).flatMap qrep ++ [34], 0) := by unfold quoA; rw [if_pos h2, if_neg (by rw [← hN]; exact h12)]
  have kN : decide ((N : Int) > 120) = false := decide_eq_false (by omega)
  obtain ⟨M, hM⟩ : ∃ M, M = [34] ++ (rn zs).flatMap qrep := ⟨_, rfl⟩
  rw [hA, ← hM]
  rw [← rF_zero] at hM
  have hg0 : Gd zs 0 := gdB_iff.1 h2
  have hs := bstr_size zs
  have hdec := fun i (h : i < zs.length) (hg : Gd zs i) => dec_good hb h hg
  have g34 : Gr 34 := by unfold Gr; omega
  unfold stz at cG cN
  obtain ⟨B, hB⟩ : ∃ B, B = bstr zs := ⟨_, rfl⟩
  rw [← hB] at hs cG cN
  simp only [← hB] at hdec
  have hst : stz zs = .lit (.string B) := by rw [hB]
  rw [hst]
  have cV0 : ∀ b, ACt Tryd.prog 24 [pt b 0, iv .i32 34] [(0, .zs .u8 FZ 256 n0), (1, .zs .u8 AZ 32 n1), (4, .zs .u8 DZ 64 n4), (b, bd0)] (fun r F' => ∃ g : BS b [34], r = .tup [iv .i64 1, nif] ∧ F' = [(0, .zs .u8 FZ 256 n0), (1, .zs .u8 AZ 32 n1), (4, .zs .u8 DZ 64 n4)] ++ bH b [34] g.1) :=
    fun b => liftB [(0, .zs .u8 FZ 256 n0), (1, .zs .u8 AZ 32 n1), (4, .zs .u8 DZ 64 n4)] (wr_b (b := b) (zs := []) (q := ⟨0, 0⟩) (fun h => absurd rfl h) (by simp) 34 (by omega))
  refine ACt.intro Tryd.func18 rfl (by kernel_rfl) (by simp [Tryd.ntmps18]) (fun cx => ?_)
  simp only [argE, Tryd.ntmps18, Tryd.results18]
  first | (have FRx := FR; clear FRx) | (have FR : Sm (¬ ((1 : Nat) = 0)) := Sm.mk Nat.one_ne_zero)
  repeat' first
    | (refine Sm.mk ?_; try simp -dsimp only [ZK, rvc, drawF, headN, pureH, stp, dvc, calleeOf, gcall, pev, eff, newB, okd, og, ogs, ogo, ogp, slv, bltv, opd, litv, strip, one, both, putE, St.put, look, gdOf, gdv, picka, pickv, pickw, binv, bini, bins, binb, binp, binq, isSlT, bina, shp, eqCells, unv, convv, nilv, faddv, addp, idxav, idxp, load1, load1m, loadn, loadnm, loadv, hget, hset, hrep, hdel, slicev, bnd, shift1, lenv, capv, IntKind.bits, extractv, fieldv, indexv, min2v, max2v, mkiv, cellsA, fillA, buildv, stC, oneC, rowMB, intsA, plN, appE, appZ, appC, appNZ, appNC, VwL, srcC, srcZ, srcM, isBoolT, isPtrT, isSliceT, uOk, Value.oneCell', Nat.reducePow, Int.reducePow, Nat.reduceAdd, Nat.reduceMul, Nat.reduceSub, Nat.reduceLT, Nat.reduceLeDiff, Nat.reduceEqDiff, Nat.reduceBEq, Nat.reduceDiv, Nat.reduceMod, ↓reduceIte, reduceCtorEq, Int.reduceToNat, Int.reduceLT, Int.reduceLE, TFTyG, SeqQ, BlkQ, LoopQ, BodyQ, kN, List.nil_append, List.cons_append, FR.out])
    | (refine CallV.updM (cG) (pmz _) (Sm.out ?_))
    | (first | refine CallV.fn (cN) (Sm.out ?_) | refine ExF.mk (cN) (Sm.out ?_) | refine ExG.mk (fun _ => cN) (Sm.out ?_) | refine ExG.mkJ (fun _ => cN) (Sm.out ?_) | refine ExG.mkI (Ob.out ?_) (fun _ => cN) (Sm.out ?_))
    | (refine CallV.exM (cV0 _) (pr4 _ _ _ _) (fun g => Sm.out ?_))
    | (refine WP.seq fun K hK => ?_)
    | (refine WP.region (rvc_sound _ _ (Sm.out ?_)))
    | (refine WP.drawK rfl mixed (by decide +kernel) (Sm.out ?_))
    | (refine Ob.mk ?_; focus (first | assumption | omega | decide | trivial | (intro hob; simp only [hob, ZF]; done) | (intros; (repeat' refine And.intro ?_ ?_) <;> first | assumption | omega | trivial | decide) | (intros; simp only [ZE] at *; (repeat' refine And.intro ?_ ?_) <;> first | assumption | omega | trivial)))
    | (refine And.intro (Ob.out ?_) ?_)
    | (refine WP.block ?_)
    | (refine WP.cond rfl (fun hc => ?_) (fun hc => ?_) <;> (try simp only [ZC, reduceCtorEq, ZD] at hc) <;> (try (exact absurd hc (by decide))) <;> (try (exfalso; omega)))
    | ((first | refine WP.skip ?_ | refine WP.exit ?_); simp only [SeqQ, BlkQ, LoopQ, BodyQ, ↓reduceIte, Nat.reduceEqDiff, reduceCtorEq, look, true_and])
    | (refine WP.ret (Sm.out ?_))
    | (first | refine ExG.no (Sm.out ?_) | refine Or.inl (ExG.no (Sm.out ?_)) | refine Or.inl (And.intro (fun hg => absurd hg (by decide)) (ExG.no (Sm.out ?_))))
    | (refine Rt.mk ?_; refine And.intro ?_ ?_ <;> (intro hg; first | exact absurd hg (by decide) | refine Sm.out ?_))
    | (refine Nu.mk ?_; first | (fail_if_success (have := nb1)); intro nb1 | (fail_if_success (have := nb2)); intro nb2 | (fail_if_success (have := nb3)); intro nb3 | (fail_if_success (have := nb4)); intro nb4 | intro nbz)
    | (refine Fr.mk ?_; intro hfr; (first | (have hFRb : _ ≤ _ ∧ _ ≤ _ := And.intro hfr.1 hfr.2.1) | (have hFRb : _ ≤ _ := hfr.1) | skip); replace FR := Sm.mk (And.intro hfr FR.out); clear hfr; refine Sm.out ?_)
    | (refine Two.mk ?_ ?_)
    | (refine Cs.mk ?_; intro hcs; first | exact False.elim hcs | (exfalso; omega) | (refine Sm.out ?_))
    | go_step
    | omega
    | (simp only [maxLen_eq]; omega)
  have hnn : (nb2 ≠ 0 ∧ 0 ≠ nb2) ∧ (nb2 ≠ 1 ∧ 1 ≠ nb2) ∧ (nb2 ≠ 4 ∧ 4 ≠ nb2) ∧ (nb1 ≠ 0 ∧ 0 ≠ nb1) ∧ (nb1 ≠ 1 ∧ 1 ≠ nb1) ∧ (nb1 ≠ 4 ∧ 4 ≠ nb1) := by simp [FR.out]
  refine WP.loop (Γ := QuoG) (fun t => ⟨[(18, pt nb2 0), (4, pt nb1 0)], [(nb2, .obj (.stringIter B t.i)), (0, .zs .u8 FZ 256 n0), (1, .zs .u8 AZ 32 n1), (4, .zs .u8 DZ 64 n4)] ++ bH nb1 t.o t.q⟩)
    (fun t => t.i ≤ zs.length ∧ t.o.length ≤ 1 + 6 * t.i ∧ t.o ≠ [] ∧ By t.o ∧ bOk nb1 t.o t.q ∧ Gd zs t.i ∧ M = t.o ++ (rF zs t.i).flatMap qrep) (fun t => zs.length - t.i) ⟨0, [34], g.1⟩
    ⟨Nat.zero_le _, by simp, by simp, (show By [34] by unfold By; decide +kernel), g.2, hg0, hM⟩ (Sub.of_env [] (pmz _) (by simp [look])) ?_
  intro ⟨i, o, q⟩ ⟨hi, hol, hon, hob, hq, hgi, hMi⟩
  simp only at hi hol hon hob hq hgi hMi ⊢
  have FR : Sm (¬ ((1 : Nat) = 0)) := Sm.mk Nat.one_ne_zero
  by_cases hlt : i < zs.length
  · obtain ⟨r, hd, hr⟩ := hdec i hlt hgi
    obtain ⟨hGr, hgn⟩ := gd_el hb hlt hgi
    have hw := elR_w zs i
    have hin := (elR_in hb hlt).1
    rw [rF_step hlt, List.flatMap_cons, ← List.append_assoc] at hMi
    rw [hr] at hGr hMi
    obtain ⟨w, hw'⟩ : ∃ w, w = (elR zs i).2 := ⟨_, rfl⟩
    rw [← hw'] at hd hgn hw hin hMi
    have hqb := qrep_by hGr
    have hql := qrep_len (r : Int)
    have cE' := liftP ([(nb2, .obj (.stringIter B (i + w))), (0, .zs .u8 FZ 256 n0), (1, .zs .u8 AZ 32 n1)] ++ bH nb1 o q) (F := [(nb2, .obj (.stringIter B (i + w))), (0, .zs .u8 FZ 256 n0), (1, .zs .u8 AZ 32 n1), (4, .zs .u8 DZ 64 n4)] ++ bH nb1 o q) (pm31 _ _ _ _ _) (cE (r : Int) hGr)
    by_cases he : escS (r : Int) = []
    · have eq : qrep (r : Int) = enc8 r := by unfold qrep; rw [if_pos he]
      rw [eq] at hMi hqb
      have cV := liftB [(nb2, .obj (.stringIter B (i + w))), (0, .zs .u8 FZ 256 n0), (1, .zs .u8 AZ 32 n1), (4, .zs .u8 DZ 64 n4)] (wrG_b hq (by omega) (r : Int) hGr)
      have hel := enc8_len (r : Int)
      rw [he] at cE'
      obtain ⟨E, hE⟩ : ∃ E, E = enc8 (r : Int) := ⟨_, rfl⟩
      rw [← hE] at cV hMi hqb hel
      obtain ⟨lE, hlE⟩ : ∃ l, l = E.length := ⟨_, rfl⟩
      rw [← hlE] at cV hel
      have y3 : ∀ x : List UInt8, (x != x) = false := fun x => by simp
      unfold stz at cE'
      rw [show bstr [] = (⟨#[]⟩ : ByteArray) from rfl] at cE'
      first | (have FRx := FR; clear FRx) | (have FR : Sm (¬ ((1 : Nat) = 0)) := Sm.mk Nat.one_ne_zero)
      repeat' first
        | (refine Sm.mk ?_; try simp -dsimp only [ZK, rvc, drawF, headN, pureH, stp, dvc, calleeOf, gcall, pev, eff, newB, okd, og, ogs, ogo, ogp, slv, bltv, opd, litv, strip, one, both, putE, St.put, look, gdOf, gdv, picka, pickv, pickw, binv, bini, bins, binb, binp, binq, isSlT, bina, shp, eqCells, unv, convv, nilv, faddv, addp, idxav, idxp, load1, load1m, loadn, loadnm, loadv, hget, hset, hrep, hdel, slicev, bnd, shift1, lenv, capv, IntKind.bits, extractv, fieldv, indexv, min2v, max2v, mkiv, cellsA, fillA, buildv, stC, oneC, rowMB, intsA, plN, appE, appZ, appC, appNZ, appNC, VwL, srcC, srcZ, srcM, isBoolT, isPtrT, isSliceT, uOk, Value.oneCell', Nat.reducePow, Int.reducePow, Nat.reduceAdd, Nat.reduceMul, Nat.reduceSub, Nat.reduceLT, Nat.reduceLeDiff, Nat.reduceEqDiff, Nat.reduceBEq, Nat.reduceDiv, Nat.reduceMod, ↓reduceIte, reduceCtorEq, Int.reduceToNat, Int.reduceLT, Int.reduceLE, TFTyG, SeqQ, BlkQ, LoopQ, BodyQ, hd, hs, hnn, y3, List.append_nil, List.cons_append, List.nil_append, FR.out])
        | (refine CallV.updM (cE') (pmz _) (Sm.out ?_))
        | (refine CallV.exM (cV) (pmz _) (fun h => Sm.out ?_))
        | (refine WP.seq fun K hK => ?_)
        | (refine WP.region (rvc_sound _ _ (Sm.out ?_)))
        | (refine WP.drawK rfl mixed (by decide +kernel) (Sm.out ?_))
        | (refine Ob.mk ?_; focus (first | assumption | omega | decide | trivial | (intro hob; simp only [hob, ZF]; done) | (intros; (repeat' refine And.intro ?_ ?_) <;> first | assumption | omega | trivial | decide) | (intros; simp only [ZE] at *; (repeat' refine And.intro ?_ ?_) <;> first | assumption | omega | trivial)))
        | (refine And.intro (Ob.out ?_) ?_)
        | (refine WP.block ?_)
        | (refine WP.cond rfl (fun hc => ?_) (fun hc => ?_) <;> (try simp only [ZC, reduceCtorEq, ZD] at hc) <;> (try (exact absurd hc (by decide))) <;> (try (exfalso; omega)))
        | ((first | refine WP.skip ?_ | refine WP.exit ?_); simp only [SeqQ, BlkQ, LoopQ, BodyQ, ↓reduceIte, Nat.reduceEqDiff, reduceCtorEq, look, true_and])
        | (refine WP.ret (Sm.out ?_))
        | (first | refine ExG.no (Sm.out ?_) | refine Or.inl (ExG.no (Sm.out ?_)) | refine Or.inl (And.intro (fun hg => absurd hg (by decide)) (ExG.no (Sm.out ?_))))
        | (refine Rt.mk ?_; refine And.intro ?_ ?_ <;> (intro hg; first | exact absurd hg (by decide) | refine Sm.out ?_))
        | (refine Nu.mk ?_; first | (fail_if_success (have := nb1)); intro nb1 | (fail_if_success (have := nb2)); intro nb2 | (fail_if_success (have := nb3)); intro nb3 | (fail_if_success (have := nb4)); intro nb4 | intro nbz)
        | (refine Fr.mk ?_; intro hfr; (first | (have hFRb : _ ≤ _ ∧ _ ≤ _ := And.intro hfr.1 hfr.2.1) | (have hFRb : _ ≤ _ := hfr.1) | skip); replace FR := Sm.mk (And.intro hfr FR.out); clear hfr; refine Sm.out ?_)
        | (refine Two.mk ?_ ?_)
        | (refine Cs.mk ?_; intro hcs; first | exact False.elim hcs | (exfalso; omega) | (refine Sm.out ?_))
        | go_step
        | omega
        | (simp only [maxLen_eq]; omega)
      exact ⟨⟨i + w, o ++ E, h.1⟩, ⟨by simp only; omega, by simp only [List.length_append]; omega, by simp [hon], hob.app hqb, h.2, hgn, hMi⟩, by simp only; omega, Sub.of_env [] (pmz _) (by simp [look])⟩
    · have eq : qrep (r : Int) = escS r := by unfold qrep; rw [if_neg he]
      rw [eq] at hMi hqb hql
      have hne := str_eq (escS (r : Int)) [] hqb (fun i hi => absurd hi (Nat.not_lt_zero _))
      rw [decide_eq_false he, show bstr [] = (⟨#[]⟩ : ByteArray) from rfl] at hne
      have hpos : 0 < (escS (r : Int)).length := List.length_pos_iff.2 he
      obtain ⟨E, hE⟩ : ∃ E, E = escS (r : Int) := ⟨_, rfl⟩
      rw [← hE] at cE' hMi hqb hql hne hpos
      have cV := liftB [(nb2, .obj (.stringIter B (i + w))), (0, .zs .u8 FZ 256 n0), (1, .zs .u8 AZ 32 n1), (4, .zs .u8 DZ 64 n4)] (ws_b hq (by omega) E hqb hpos (by omega))
      obtain ⟨lE, hlE⟩ : ∃ l, l = E.length := ⟨_, rfl⟩
      rw [← hlE] at cV hpos hql
      unfold stz at cE' cV
      obtain ⟨S, hS⟩ : ∃ S, S = bstr E := ⟨_, rfl⟩
      rw [← hS] at cE' cV hne
      have hne2 : (S.toList != (⟨#[]⟩ : ByteArray).toList) = true := by simp only [bne, hne]; rfl
      first | (have FRx := FR; clear FRx) | (have FR : Sm (¬ ((1 : Nat) = 0)) := Sm.mk Nat.one_ne_zero)
      repeat' first
        | (refine Sm.mk ?_; try simp -dsimp only [ZK, rvc, drawF, headN, pureH, stp, dvc, calleeOf, gcall, pev, eff, newB, okd, og, ogs, ogo, ogp, slv, bltv, opd, litv, strip, one, both, putE, St.put, look, gdOf, gdv, picka, pickv, pickw, binv, bini, bins, binb, binp, binq, isSlT, bina, shp, eqCells, unv, convv, nilv, faddv, addp, idxav, idxp, load1, load1m, loadn, loadnm, loadv, hget, hset, hrep, hdel, slicev, bnd, shift1, lenv, capv, IntKind.bits, extractv, fieldv, indexv, min2v, max2v, mkiv, cellsA, fillA, buildv, stC, oneC, rowMB, intsA, plN, appE, appZ, appC, appNZ, appNC, VwL, srcC, srcZ, srcM, isBoolT, isPtrT, isSliceT, uOk, Value.oneCell', Nat.reducePow, Int.reducePow, Nat.reduceAdd, Nat.reduceMul, Nat.reduceSub, Nat.reduceLT, Nat.reduceLeDiff, Nat.reduceEqDiff, Nat.reduceBEq, Nat.reduceDiv, Nat.reduceMod, ↓reduceIte, reduceCtorEq, Int.reduceToNat, Int.reduceLT, Int.reduceLE, TFTyG, SeqQ, BlkQ, LoopQ, BodyQ, hd, hs, hnn, hne, hne2, List.append_nil, List.cons_append, List.nil_append, FR.out])
        | (refine CallV.updM (cE') (pmz _) (Sm.out ?_))
        | (refine CallV.exM (cV) (pmz _) (fun h => Sm.out ?_))
        | (refine WP.seq fun K hK => ?_)
        | (refine WP.region (rvc_sound _ _ (Sm.out ?_)))
        | (refine WP.drawK rfl mixed (by decide +kernel) (Sm.out ?_))
        | (refine Ob.mk ?_; focus (first | assumption | omega | decide | trivial | (intro hob; simp only [hob, ZF]; done) | (intros; (repeat' refine And.intro ?_ ?_) <;> first | assumption | omega | trivial | decide) | (intros; simp only [ZE] at *; (repeat' refine And.intro ?_ ?_) <;> first | assumption | omega | trivial)))
        | (refine And.intro (Ob.out ?_) ?_)
        | (refine WP.block ?_)
        | (refine WP.cond rfl (fun hc => ?_) (fun hc => ?_) <;> (try simp only [ZC, reduceCtorEq, ZD] at hc) <;> (try (exact absurd hc (by decide))) <;> (try (exfalso; omega)))
        | ((first | refine WP.skip ?_ | refine WP.exit ?_); simp only [SeqQ, BlkQ, LoopQ, BodyQ, ↓reduceIte, Nat.reduceEqDiff, reduceCtorEq, look, true_and])
        | (refine WP.ret (Sm.out ?_))
        | (first | refine ExG.no (Sm.out ?_) | refine Or.inl (ExG.no (Sm.out ?_)) | refine Or.inl (And.intro (fun hg => absurd hg (by decide)) (ExG.no (Sm.out ?_))))
        | (refine Rt.mk ?_; refine And.intro ?_ ?_ <;> (intro hg; first | exact absurd hg (by decide) | refine Sm.out ?_))
        | (refine Nu.mk ?_; first | (fail_if_success (have := nb1)); intro nb1 | (fail_if_success (have := nb2)); intro nb2 | (fail_if_success (have := nb3)); intro nb3 | (fail_if_success (have := nb4)); intro nb4 | intro nbz)
        | (refine Fr.mk ?_; intro hfr; (first | (have hFRb : _ ≤ _ ∧ _ ≤ _ := And.intro hfr.1 hfr.2.1) | (have hFRb : _ ≤ _ := hfr.1) | skip); replace FR := Sm.mk (And.intro hfr FR.out); clear hfr; refine Sm.out ?_)
        | (refine Two.mk ?_ ?_)
        | (refine Cs.mk ?_; intro hcs; first | exact False.elim hcs | (exfalso; omega) | (refine Sm.out ?_))
        | go_step
        | omega
        | (simp only [maxLen_eq]; omega)
      exact ⟨⟨i + w, o ++ E, h.1⟩, ⟨by simp only; omega, by simp only [List.length_append]; omega, by simp [hon], hob.app hqb, h.2, hgn, hMi⟩, by simp only; omega, Sub.of_env [] (pmz _) (by simp [look])⟩
  · obtain rfl : i = zs.length := by omega
    rw [rF_end (Nat.le_refl _)] at hMi
    have eM : M = o := by rw [hMi]; simp
    have cV := liftB [(nb2, .obj (.stringIter B zs.length)), (0, .zs .u8 FZ 256 n0), (1, .zs .u8 AZ 32 n1), (4, .zs .u8 DZ 64 n4)] (wr_b hq (by omega) 34 (by omega))
    have cS := fun (q' : BQ) (hq' : bOk nb1 (o ++ [34]) q') => liftF [(nb2, .obj (.stringIter B zs.length)), (0, .zs .u8 FZ 256 n0), (1, .zs .u8 AZ 32 n1), (4, .zs .u8 DZ 64 n4)] (str_b hq' (by simp) (by simp only [List.length_append, List.length_cons, List.length_nil]; omega))
    simp only [List.append_nil] at cS
    unfold stz at cS
    obtain ⟨Z, hZ⟩ : ∃ Z, Z = bstr (o ++ [34]) := ⟨_, rfl⟩
    rw [← hZ] at cS
    have hZM : stz (M ++ [34]) = .lit (.string Z) := by rw [eM, hZ]
    first | (have FRx := FR; clear FRx) | (have FR : Sm (¬ ((1 : Nat) = 0)) := Sm.mk Nat.one_ne_zero)
    repeat' first
      | (refine Sm.mk ?_; try simp -dsimp only [ZK, rvc, drawF, headN, pureH, stp, dvc, calleeOf, gcall, pev, eff, newB, okd, og, ogs, ogo, ogp, slv, bltv, opd, litv, strip, one, both, putE, St.put, look, gdOf, gdv, picka, pickv, pickw, binv, bini, bins, binb, binp, binq, isSlT, bina, shp, eqCells, unv, convv, nilv, faddv, addp, idxav, idxp, load1, load1m, loadn, loadnm, loadv, hget, hset, hrep, hdel, slicev, bnd, shift1, lenv, capv, IntKind.bits, extractv, fieldv, indexv, min2v, max2v, mkiv, cellsA, fillA, buildv, stC, oneC, rowMB, intsA, plN, appE, appZ, appC, appNZ, appNC, VwL, srcC, srcZ, srcM, isBoolT, isPtrT, isSliceT, uOk, Value.oneCell', Nat.reducePow, Int.reducePow, Nat.reduceAdd, Nat.reduceMul, Nat.reduceSub, Nat.reduceLT, Nat.reduceLeDiff, Nat.reduceEqDiff, Nat.reduceBEq, Nat.reduceDiv, Nat.reduceMod, ↓reduceIte, reduceCtorEq, Int.reduceToNat, Int.reduceLT, Int.reduceLE, TFTyG, SeqQ, BlkQ, LoopQ, BodyQ, hs, hnn, List.append_nil, List.cons_append, List.nil_append, FR.out])
      | (refine CallV.exM (cV) (pmz _) (fun h => Sm.out ?_))
      | (refine CallV.updM (cS _ h.2) (pmz _) (Sm.out ?_))
      | (refine WP.seq fun K hK => ?_)
      | (refine WP.region (rvc_sound _ _ (Sm.out ?_)))
      | (refine WP.drawK rfl mixed (by decide +kernel) (Sm.out ?_))
      | (refine Ob.mk ?_; focus (first | assumption | omega | decide | trivial | (intro hob; simp only [hob, ZF]; done) | (intros; (repeat' refine And.intro ?_ ?_) <;> first | assumption | omega | trivial | decide) | (intros; simp only [ZE] at *; (repeat' refine And.intro ?_ ?_) <;> first | assumption | omega | trivial)))
      | (refine And.intro (Ob.out ?_) ?_)
      | (refine WP.block ?_)
      | (refine WP.cond rfl (fun hc => ?_) (fun hc => ?_) <;> (try simp only [ZC, reduceCtorEq, ZD] at hc) <;> (try (exact absurd hc (by decide))) <;> (try (exfalso; omega)))
      | ((first | refine WP.skip ?_ | refine WP.exit ?_); simp only [SeqQ, BlkQ, LoopQ, BodyQ, ↓reduceIte, Nat.reduceEqDiff, reduceCtorEq, look, true_and])
      | (refine WP.ret (Sm.out ?_))
      | (first | refine ExG.no (Sm.out ?_) | refine Or.inl (ExG.no (Sm.out ?_)) | refine Or.inl (And.intro (fun hg => absurd hg (by decide)) (ExG.no (Sm.out ?_))))
      | (refine Rt.mk ?_; refine And.intro ?_ ?_ <;> (intro hg; first | exact absurd hg (by decide) | refine Sm.out ?_))
      | (refine Nu.mk ?_; first | (fail_if_success (have := nb1)); intro nb1 | (fail_if_success (have := nb2)); intro nb2 | (fail_if_success (have := nb3)); intro nb3 | (fail_if_success (have := nb4)); intro nb4 | intro nbz)
      | (refine Fr.mk ?_; intro hfr; (first | (have hFRb : _ ≤ _ ∧ _ ≤ _ := And.intro hfr.1 hfr.2.1) | (have hFRb : _ ≤ _ := hfr.1) | skip); replace FR := Sm.mk (And.intro hfr FR.out); clear hfr; refine Sm.out ?_)
      | (refine Two.mk ?_ ?_)
      | (refine Cs.mk ?_; intro hcs; first | exact False.elim hcs | (exfalso; omega) | (refine Sm.out ?_))
      | go_step
      | omega
      | (simp only [maxLen_eq]; omega)
    (refine OutQ.drop _ _ (perm3 (by simp only [hget, hdel, ↓reduceIte, if_true, if_false, FR.out, hnn, hZM]; first | done | rfl) (by simp only [hget, hdel, ↓reduceIte, if_true, if_false, FR.out, hnn, hZM]; first | done | rfl) (by simp only [hget, hdel, ↓reduceIte, if_true, if_false, FR.out, hnn, hZM]; first | done | rfl)) (by simp only [resv, ZK, look, loadv, loadn, loadnm, load1, load1m, hget, ↓reduceIte, Nat.reduceEqDiff, Nat.reduceAdd, Nat.reduceMul, Nat.reduceLeDiff, Nat.reduceLT, reduceCtorEq, TFTyG, FR.out, hnn, hZM]) ⟨(by simp only [resv, resA, ZK, look, loadv, loadn, loadnm, load1, load1m, hget, ↓reduceIte, Nat.reduceEqDiff, Nat.reduceAdd, Nat.reduceMul, Nat.reduceLeDiff, Nat.reduceLT, reduceCtorEq, TFTyG, FR.out, hnn, hZM]; first | done | rfl), rfl⟩)
end Go.Proofs.YtjdjpgjjnajjhaaDoor
