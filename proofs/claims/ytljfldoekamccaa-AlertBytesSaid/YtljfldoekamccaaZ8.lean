/-
  The walks and the laws that the statement leans on, part 8.
-/
import Derived.Test.YtljfldoekamccaaZ7
namespace Go.Proofs.Ytljfldoekamccaa
open Go Wi
set_option linter.unusedVariables false
set_option linter.unusedSimpArgs false
theorem TFAmA : ((((((type_of% tyc0) ∧ (type_of% tyc2)) ∧ ((type_of% zmb2) ∧ (type_of% tyc3))) ∧ (((type_of% zmb3) ∧ (type_of% tyc4)) ∧ ((type_of% zmb4) ∧ ((type_of% tyc5) ∧ (type_of% zmb5))))) ∧ ((((type_of% tyc22) ∧ (type_of% zmb22)) ∧ ((type_of% tyc32) ∧ (type_of% foff32_0))) ∧ (((type_of% fpart32_0) ∧ (type_of% foff32_1)) ∧ ((type_of% fpart32_1) ∧ ((type_of% foff32_2) ∧ (type_of% fpart32_2)))))) ∧ (((((type_of% foff32_3) ∧ (type_of% fpart32_3)) ∧ ((type_of% fe32) ∧ (type_of% zmb32))) ∧ (((type_of% bldT32) ∧ (type_of% tyc38)) ∧ ((type_of% elt38) ∧ ((type_of% mkz38) ∧ (type_of% apT38))))) ∧ ((((type_of% elk38) ∧ (type_of% zmb38)) ∧ ((type_of% Try.underlying0) ∧ ((type_of% Try.underlying2) ∧ (type_of% Try.underlying3)))) ∧ (((type_of% Try.underlying4) ∧ (type_of% Try.underlying5)) ∧ ((type_of% Try.underlying22) ∧ ((type_of% Try.underlying32) ∧ (type_of% Try.underlying38))))))) :=
  ⟨⟨⟨⟨⟨tyc0, tyc2⟩, ⟨zmb2, tyc3⟩⟩, ⟨⟨zmb3, tyc4⟩, ⟨zmb4, ⟨tyc5, zmb5⟩⟩⟩⟩, ⟨⟨⟨tyc22, zmb22⟩, ⟨tyc32, foff32_0⟩⟩, ⟨⟨fpart32_0, foff32_1⟩, ⟨fpart32_1, ⟨foff32_2, fpart32_2⟩⟩⟩⟩⟩, ⟨⟨⟨⟨foff32_3, fpart32_3⟩, ⟨fe32, zmb32⟩⟩, ⟨⟨bldT32, tyc38⟩, ⟨elt38, ⟨mkz38, apT38⟩⟩⟩⟩, ⟨⟨⟨elk38, zmb38⟩, ⟨Try.underlying0, ⟨Try.underlying2, Try.underlying3⟩⟩⟩, ⟨⟨Try.underlying4, Try.underlying5⟩, ⟨Try.underlying22, ⟨Try.underlying32, Try.underlying38⟩⟩⟩⟩⟩⟩
/-- an alert's bytes -/
def alL (p s c e : Int) : List Int :=
  if rightP p s c e then
    if p = 0 then putL 0 0
    else if p = 1 then putL 0 1 ++ putL 0 s.toNat
    else if p = 2 then putL 0 2 ++ putL 0 s.toNat ++ putL 0 e.toNat
    else putL 0 3 ++ putL 0 s.toNat ++ putL 0 e.toNat ++ putL 0 c.toNat
  else putL 0 0
theorem right_zero : rightP 0 0 0 0 = true := by decide
theorem alL_bad {p s c e : Int} (h : rightP p s c e = false) : alL p s c e = alL 0 0 0 0 := by
  unfold alL; rw [if_neg (by rw [h]; decide), right_zero]; rfl
theorem right_cases {p s c e : Int} (h : rightP p s c e = true) : (p = 0 ∧ s = 0 ∧ c = 0 ∧ e = 0) ∨ (∃ s' : Nat, p = 1 ∧ s = (s' : Int) ∧ s' ≤ 253402300799 ∧ c = 0 ∧ e = 0) ∨
    (∃ s' e' : Nat, p = 2 ∧ s = (s' : Int) ∧ s' ≤ 253402300799 ∧ c = 0 ∧ e = (e' : Int) ∧ e' ≤ 4611686018427387904) ∨
    (∃ s' e' c' : Nat, p = 3 ∧ s = (s' : Int) ∧ s' ≤ 253402300799 ∧ c = (c' : Int) ∧ c' ≤ 253402300799 ∧ e = (e' : Int) ∧ e' ≤ 4611686018427387904) := by
  have h := (rightP_iff p s c e).1 h
  obtain ⟨h1, h2, h3, h4, h5, h6, h7, h8, h9, h10, h11⟩ := h
  have : p = 0 ∨ p = 1 ∨ p = 2 ∨ p = 3 := by omega
  rcases this with rfl | rfl | rfl | rfl
  · exact .inl ⟨rfl, h7 rfl, h8 (by omega), h9 (by omega)⟩
  · exact .inr (.inl ⟨s.toNat, rfl, by omega, by omega, h8 (by omega), h9 (by omega)⟩)
  · have := h10 (by omega)
    exact .inr (.inr (.inl ⟨s.toNat, e.toNat, rfl, by omega, by omega, h8 (by omega), by omega, by omega⟩))
  · have := h10 (by omega)
    exact .inr (.inr (.inr ⟨s.toNat, e.toNat, c.toNat, rfl, by omega, by omega, by omega, by omega, by omega, by omega⟩))
set_option maxRecDepth 8000 in
set_option maxHeartbeats 2000000 in
theorem Put_ct (b cap : Nat) (zs : List Int) (p s c e : Int) (hz : zs.length ≤ 1000) (h1 : zs.length ≤ cap) (h2 : cap ≤ 9223372036854775807) :
    ACt Try.prog 15 [ms b 0 zs.length cap, alA p s c e] [(b, .zs .u8 zs cap 5)] (Row .u8 5 (zs ++ alL p s c e)) := by
  refine ACt.intro Try.func15 rfl (by kernel_rfl) (by simp [Try.ntmps15]) (fun cx => ?_)
  simp only [argE, Try.ntmps15, Try.results15]
  have cR := right_ct p s c e
  have u0 : IntKind.u64.wrap 0 = ((0 : Nat) : Int) := by decide
  have u1 : IntKind.u64.wrap 1 = ((1 : Nat) : Int) := by decide
  have u2 : IntKind.u64.wrap 2 = ((2 : Nat) : Int) := by decide
  have u3 : IntKind.u64.wrap 3 = ((3 : Nat) : Int) := by decide
  have e01 : decide ((0 : Int) ≥ 1) = false := by decide
  have e02 : decide ((0 : Int) ≥ 2) = false := by decide
  have e03 : ((0 : Int) == 3) = false := by decide
  have e11 : decide ((1 : Int) ≥ 1) = true := by decide
  have e12 : decide ((1 : Int) ≥ 2) = false := by decide
  have e13 : ((1 : Int) == 3) = false := by decide
  have e21 : decide ((2 : Int) ≥ 1) = true := by decide
  have e22 : decide ((2 : Int) ≥ 2) = true := by decide
  have e23 : ((2 : Int) == 3) = false := by decide
  have e31 : decide ((3 : Int) ≥ 1) = true := by decide
  have e32 : decide ((3 : Int) ≥ 2) = true := by decide
  have e33 : ((3 : Int) == 3) = true := by decide
  have cN := fun (b cap : Nat) (zs : List Int) (n : Nat) (hz : zs.length ≤ 2000) (h1 : zs.length ≤ cap) (h2 : cap ≤ 9223372036854775807) (hn : n < 18446744073709551616) => num_ct b cap zs n (by omega) h1 h2 hn
  cases hr : rightP p s c e with
  | false =>
    rw [hr] at cR
    rw [alL_bad hr]
    obtain ⟨T, hT⟩ : ∃ T, T = zs ++ putL 0 0 := ⟨_, rfl⟩
    have hT2 : zs ++ alL 0 0 0 0 = T := hT.symm
    have c1 := cN b cap zs 0 (by omega) h1 h2 (by omega)
    rw [← hT] at c1
    rw [hT2]
    first | (have FRx := FR; clear FRx) | (have FR : ¬ ((1 : Nat) = 0) := Nat.one_ne_zero)
    repeat' first
      | (refine Sm.mk ?_; try simp -dsimp only [ZK, rvc, drawF, headN, pureH, stp, dvc, calleeOf, gcall, pev, eff, newB, okd, og, ogs, ogo, ogp, slv, bltv, opd, litv, strip, one, both, putE, St.put, look, gdOf, gdv, picka, pickv, pickw, binv, bini, bins, binb, binp, bina, shp, eqCells, unv, convv, nilv, faddv, addp, idxav, idxp, load1, load1m, loadn, loadnm, loadv, hget, hset, hrep, hdel, slicev, bnd, shift1, lenv, IntKind.bits, extractv, fieldv, indexv, min2v, max2v, mkiv, cellsA, fillA, buildv, stC, oneC, rowMB, intsA, plN, appE, appZ, appC, appNZ, appNC, VwL, srcC, srcZ, srcM, isBoolT, isPtrT, isSliceT, uOk, Value.oneCell', Nat.reducePow, Int.reducePow, Nat.reduceAdd, Nat.reduceMul, Nat.reduceSub, Nat.reduceLT, Nat.reduceLeDiff, Nat.reduceEqDiff, Nat.reduceBEq, Nat.reduceDiv, Nat.reduceMod, ↓reduceIte, reduceCtorEq, Int.reduceToNat, Int.reduceLT, Int.reduceLE, TFAmA, SeqQ, BlkQ, LoopQ, BodyQ, u0, e01, e02, e03, FR])
      | (first | refine CallV.fn (cR) (Sm.out ?_) | refine ExF.mk (cR) (Sm.out ?_) | refine ExG.mk (fun _ => cR) (Sm.out ?_) | refine ExG.mkJ (fun _ => cR) (Sm.out ?_) | refine ExG.mkI (Ob.out ?_) (fun _ => cR) (Sm.out ?_))
      | (refine CallV.row (by simp only [hget, ↓reduceIte, FR, u0, e01, e02, e03]; first | done | rfl) (c1) (Sm.out ?_))
      | (refine CallV.mkrow (c1) (Sm.out ?_))
      | (refine CallV.upd (by simp only [hget, ↓reduceIte, FR, u0, e01, e02, e03]; first | done | rfl) (c1) (Sm.out ?_))
      | (refine CallV.mkobj (c1) (Sm.out ?_))
      | (first | refine CallV.fn (c1) (Sm.out ?_) | refine ExF.mk (c1) (Sm.out ?_) | refine ExG.mk (fun _ => c1) (Sm.out ?_) | refine ExG.mkJ (fun _ => c1) (Sm.out ?_) | refine ExG.mkI (Ob.out ?_) (fun _ => c1) (Sm.out ?_))
      | (refine WP.seq fun K hK => ?_)
      | (refine WP.region (rvc_sound _ _ (Sm.out ?_)))
      | (refine WP.drawK rfl mixed (by decide +kernel) (Sm.out ?_))
      | (refine Ob.mk ?_; focus (first | assumption | omega | decide | trivial | (intro hob; simp only [hob, ZF]; done) | (intros; (repeat' refine And.intro ?_ ?_) <;> first | assumption | omega | trivial | decide) | (intros; simp only [ZE] at *; (repeat' refine And.intro ?_ ?_) <;> first | assumption | omega | trivial)))
      | (refine And.intro (Ob.out ?_) ?_)
      | (refine WP.block ?_)
      | (refine WP.cond rfl (fun hc => ?_) (fun hc => ?_) <;> (try simp only [ZC, reduceCtorEq, ZD] at hc) <;> (try (exact absurd hc (by decide))) <;> (try (exfalso; omega)))
      | ((first | refine WP.skip ?_ | refine WP.exit ?_); simp only [SeqQ, BlkQ, LoopQ, BodyQ, ↓reduceIte, Nat.reduceEqDiff, reduceCtorEq, look, true_and])
      | (refine WP.ret (Sm.out ?_))
      | (first | refine ExG.no (Sm.out ?_) | refine Or.inl (ExG.no (Sm.out ?_)) | refine Or.inl (And.intro (fun hg => absurd hg (by decide)) (ExG.no (Sm.out ?_))))
      | (refine Rt.mk ?_; refine And.intro ?_ ?_ <;> (intro hg; first | exact absurd hg (by decide) | refine Sm.out ?_))
      | (refine Nu.mk ?_; first | (fail_if_success (have := nb1)); intro nb1 | (fail_if_success (have := nb2)); intro nb2 | (fail_if_success (have := nb3)); intro nb3 | (fail_if_success (have := nb4)); intro nb4 | (fail_if_success (have := nb5)); intro nb5 | (fail_if_success (have := nb6)); intro nb6 | (fail_if_success (have := nb7)); intro nb7 | intro nbz)
      | (refine Fr.mk ?_; intro hfr; replace FR := And.intro hfr FR; clear hfr; refine Sm.out ?_)
      | (refine Two.mk ?_ ?_)
      | (refine Cs.mk ?_; intro hcs; first | exact False.elim hcs | (exfalso; omega) | (refine Sm.out ?_))
      | go_step
      | omega
      | (simp only [maxLen_eq]; omega)
      | (refine Or.inr (Rt.mk ?_); refine And.intro ?_ ?_ <;> (intro hg; first | exact absurd hg (by decide) | refine Sm.out ?_))
    (refine OutQ.row (by simp only [resv, ZK, look, loadv, loadn, loadnm, load1, load1m, hget, ↓reduceIte, Nat.reduceEqDiff, Nat.reduceAdd, Nat.reduceMul, Nat.reduceLeDiff, Nat.reduceLT, reduceCtorEq, TFAmA, FR]) (by simp only [resv, resA, ZK, look, loadv, loadn, loadnm, load1, load1m, hget, ↓reduceIte, Nat.reduceEqDiff, Nat.reduceAdd, Nat.reduceMul, Nat.reduceLeDiff, Nat.reduceLT, reduceCtorEq, TFAmA, FR]; first | done | rfl) (by simp only [hget, ↓reduceIte, if_true, if_false, FR]; first | done | rfl) ?_ ?_ ?_ ?_ <;> first | omega | (simp only [maxLen_eq]; omega) | skip)
    all_goals rfl
  | true =>
    rw [hr] at cR
    rcases right_cases hr with ⟨rfl, rfl, rfl, rfl⟩ | ⟨s, rfl, rfl, hs, rfl, rfl⟩ | ⟨s, e, rfl, rfl, hs, rfl, rfl, he⟩ | ⟨s, e, c, rfl, rfl, hs, rfl, hc, rfl, he⟩
    · obtain ⟨T, hT⟩ : ∃ T, T = zs ++ putL 0 0 := ⟨_, rfl⟩
      have hT2 : zs ++ alL 0 0 0 0 = T := hT.symm
      have c1 := cN b cap zs 0 (by omega) h1 h2 (by omega)
      rw [← hT] at c1
      rw [hT2]
      first | (have FRx := FR; clear FRx) | (have FR : ¬ ((1 : Nat) = 0) := Nat.one_ne_zero)
      repeat' first
        | (refine Sm.mk ?_; try simp -dsimp only [ZK, rvc, drawF, headN, pureH, stp, dvc, calleeOf, gcall, pev, eff, newB, okd, og, ogs, ogo, ogp, slv, bltv, opd, litv, strip, one, both, putE, St.put, look, gdOf, gdv, picka, pickv, pickw, binv, bini, bins, binb, binp, bina, shp, eqCells, unv, convv, nilv, faddv, addp, idxav, idxp, load1, load1m, loadn, loadnm, loadv, hget, hset, hrep, hdel, slicev, bnd, shift1, lenv, IntKind.bits, extractv, fieldv, indexv, min2v, max2v, mkiv, cellsA, fillA, buildv, stC, oneC, rowMB, intsA, plN, appE, appZ, appC, appNZ, appNC, VwL, srcC, srcZ, srcM, isBoolT, isPtrT, isSliceT, uOk, Value.oneCell', Nat.reducePow, Int.reducePow, Nat.reduceAdd, Nat.reduceMul, Nat.reduceSub, Nat.reduceLT, Nat.reduceLeDiff, Nat.reduceEqDiff, Nat.reduceBEq, Nat.reduceDiv, Nat.reduceMod, ↓reduceIte, reduceCtorEq, Int.reduceToNat, Int.reduceLT, Int.reduceLE, TFAmA, SeqQ, BlkQ, LoopQ, BodyQ, u0, e01, e02, e03, FR])
        | (first | refine CallV.fn (cR) (Sm.out ?_) | refine ExF.mk (cR) (Sm.out ?_) | refine ExG.mk (fun _ => cR) (Sm.out ?_) | refine ExG.mkJ (fun _ => cR) (Sm.out ?_) | refine ExG.mkI (Ob.out ?_) (fun _ => cR) (Sm.out ?_))
        | (refine CallV.row (by simp only [hget, ↓reduceIte, FR, u0, e01, e02, e03]; first | done | rfl) (c1) (Sm.out ?_))
        | (refine CallV.mkrow (c1) (Sm.out ?_))
        | (refine CallV.upd (by simp only [hget, ↓reduceIte, FR, u0, e01, e02, e03]; first | done | rfl) (c1) (Sm.out ?_))
        | (refine CallV.mkobj (c1) (Sm.out ?_))
        | (first | refine CallV.fn (c1) (Sm.out ?_) | refine ExF.mk (c1) (Sm.out ?_) | refine ExG.mk (fun _ => c1) (Sm.out ?_) | refine ExG.mkJ (fun _ => c1) (Sm.out ?_) | refine ExG.mkI (Ob.out ?_) (fun _ => c1) (Sm.out ?_))
        | (refine WP.seq fun K hK => ?_)
        | (refine WP.region (rvc_sound _ _ (Sm.out ?_)))
        | (refine WP.drawK rfl mixed (by decide +kernel) (Sm.out ?_))
        | (refine Ob.mk ?_; focus (first | assumption | omega | decide | trivial | (intro hob; simp only [hob, ZF]; done) | (intros; (repeat' refine And.intro ?_ ?_) <;> first | assumption | omega | trivial | decide) | (intros; simp only [ZE] at *; (repeat' refine And.intro ?_ ?_) <;> first | assumption | omega | trivial)))
        | (refine And.intro (Ob.out ?_) ?_)
        | (refine WP.block ?_)
        | (refine WP.cond rfl (fun hc => ?_) (fun hc => ?_) <;> (try simp only [ZC, reduceCtorEq, ZD] at hc) <;> (try (exact absurd hc (by decide))) <;> (try (exfalso; omega)))
        | ((first | refine WP.skip ?_ | refine WP.exit ?_); simp only [SeqQ, BlkQ, LoopQ, BodyQ, ↓reduceIte, Nat.reduceEqDiff, reduceCtorEq, look, true_and])
        | (refine WP.ret (Sm.out ?_))
        | (first | refine ExG.no (Sm.out ?_) | refine Or.inl (ExG.no (Sm.out ?_)) | refine Or.inl (And.intro (fun hg => absurd hg (by decide)) (ExG.no (Sm.out ?_))))
        | (refine Rt.mk ?_; refine And.intro ?_ ?_ <;> (intro hg; first | exact absurd hg (by decide) | refine Sm.out ?_))
        | (refine Nu.mk ?_; first | (fail_if_success (have := nb1)); intro nb1 | (fail_if_success (have := nb2)); intro nb2 | (fail_if_success (have := nb3)); intro nb3 | (fail_if_success (have := nb4)); intro nb4 | (fail_if_success (have := nb5)); intro nb5 | (fail_if_success (have := nb6)); intro nb6 | (fail_if_success (have := nb7)); intro nb7 | intro nbz)
        | (refine Fr.mk ?_; intro hfr; replace FR := And.intro hfr FR; clear hfr; refine Sm.out ?_)
        | (refine Two.mk ?_ ?_)
        | (refine Cs.mk ?_; intro hcs; first | exact False.elim hcs | (exfalso; omega) | (refine Sm.out ?_))
        | go_step
        | omega
        | (simp only [maxLen_eq]; omega)
        | (refine Or.inr (Rt.mk ?_); refine And.intro ?_ ?_ <;> (intro hg; first | exact absurd hg (by decide) | refine Sm.out ?_))
      (refine OutQ.row (by simp only [resv, ZK, look, loadv, loadn, loadnm, load1, load1m, hget, ↓reduceIte, Nat.reduceEqDiff, Nat.reduceAdd, Nat.reduceMul, Nat.reduceLeDiff, Nat.reduceLT, reduceCtorEq, TFAmA, FR]) (by simp only [resv, resA, ZK, look, loadv, loadn, loadnm, load1, load1m, hget, ↓reduceIte, Nat.reduceEqDiff, Nat.reduceAdd, Nat.reduceMul, Nat.reduceLeDiff, Nat.reduceLT, reduceCtorEq, TFAmA, FR]; first | done | rfl) (by simp only [hget, ↓reduceIte, if_true, if_false, FR]; first | done | rfl) ?_ ?_ ?_ ?_ <;> first | omega | (simp only [maxLen_eq]; omega) | skip)
      all_goals rfl
    · have us : IntKind.u64.wrap (s : Int) = (s : Int) := wrap_u64 (by omega) (by omega)
      have c1 := cN b cap zs 1 (by omega) h1 h2 (by omega)
      have l1 := putL_len 0 1 (by omega)
      have c2 := fun b' cap' h h' => cN b' cap' (zs ++ putL 0 1) s (by rw [List.length_append]; omega) h h' (by omega)
      have hT : zs ++ alL 1 s 0 0 = zs ++ putL 0 1 ++ putL 0 s := by unfold alL; rw [hr]; simp
      rw [hT]
      obtain ⟨D1, hD1⟩ : ∃ D1, D1 = zs ++ putL 0 1 := ⟨_, rfl⟩
      rw [← hD1] at c1 c2 ⊢
      obtain ⟨D2, hD2⟩ : ∃ D2, D2 = D1 ++ putL 0 s := ⟨_, rfl⟩
      rw [← hD2] at c2 ⊢
      first | (have FRx := FR; clear FRx) | (have FR : ¬ ((1 : Nat) = 0) := Nat.one_ne_zero)
      repeat' first
        | (refine Sm.mk ?_; try simp -dsimp only [ZK, rvc, drawF, headN, pureH, stp, dvc, calleeOf, gcall, pev, eff, newB, okd, og, ogs, ogo, ogp, slv, bltv, opd, litv, strip, one, both, putE, St.put, look, gdOf, gdv, picka, pickv, pickw, binv, bini, bins, binb, binp, bina, shp, eqCells, unv, convv, nilv, faddv, addp, idxav, idxp, load1, load1m, loadn, loadnm, loadv, hget, hset, hrep, hdel, slicev, bnd, shift1, lenv, IntKind.bits, extractv, fieldv, indexv, min2v, max2v, mkiv, cellsA, fillA, buildv, stC, oneC, rowMB, intsA, plN, appE, appZ, appC, appNZ, appNC, VwL, srcC, srcZ, srcM, isBoolT, isPtrT, isSliceT, uOk, Value.oneCell', Nat.reducePow, Int.reducePow, Nat.reduceAdd, Nat.reduceMul, Nat.reduceSub, Nat.reduceLT, Nat.reduceLeDiff, Nat.reduceEqDiff, Nat.reduceBEq, Nat.reduceDiv, Nat.reduceMod, ↓reduceIte, reduceCtorEq, Int.reduceToNat, Int.reduceLT, Int.reduceLE, TFAmA, SeqQ, BlkQ, LoopQ, BodyQ, u1, us, e11, e12, e13, FR])
        | (first | refine CallV.fn (cR) (Sm.out ?_) | refine ExF.mk (cR) (Sm.out ?_) | refine ExG.mk (fun _ => cR) (Sm.out ?_) | refine ExG.mkJ (fun _ => cR) (Sm.out ?_) | refine ExG.mkI (Ob.out ?_) (fun _ => cR) (Sm.out ?_))
        | (refine CallV.row (by simp only [hget, ↓reduceIte, FR, u1, us, e11, e12, e13]; first | done | rfl) (c1) (Sm.out ?_))
        | (refine CallV.mkrow (c1) (Sm.out ?_))
        | (refine CallV.upd (by simp only [hget, ↓reduceIte, FR, u1, us, e11, e12, e13]; first | done | rfl) (c1) (Sm.out ?_))
        | (refine CallV.mkobj (c1) (Sm.out ?_))
        | (first | refine CallV.fn (c1) (Sm.out ?_) | refine ExF.mk (c1) (Sm.out ?_) | refine ExG.mk (fun _ => c1) (Sm.out ?_) | refine ExG.mkJ (fun _ => c1) (Sm.out ?_) | refine ExG.mkI (Ob.out ?_) (fun _ => c1) (Sm.out ?_))
        | (refine CallV.row (by simp only [hget, ↓reduceIte, FR, u1, us, e11, e12, e13]; first | done | rfl) (c2 nb2 nb3 (by omega) (by omega)) (Sm.out ?_))
        | (refine CallV.mkrow (c2 nb2 nb3 (by omega) (by omega)) (Sm.out ?_))
        | (refine CallV.upd (by simp only [hget, ↓reduceIte, FR, u1, us, e11, e12, e13]; first | done | rfl) (c2 nb2 nb3 (by omega) (by omega)) (Sm.out ?_))
        | (refine CallV.mkobj (c2 nb2 nb3 (by omega) (by omega)) (Sm.out ?_))
        | (first | refine CallV.fn (c2 nb2 nb3 (by omega) (by omega)) (Sm.out ?_) | refine ExF.mk (c2 nb2 nb3 (by omega) (by omega)) (Sm.out ?_) | refine ExG.mk (fun _ => c2 nb2 nb3 (by omega) (by omega)) (Sm.out ?_) | refine ExG.mkJ (fun _ => c2 nb2 nb3 (by omega) (by omega)) (Sm.out ?_) | refine ExG.mkI (Ob.out ?_) (fun _ => c2 nb2 nb3 (by omega) (by omega)) (Sm.out ?_))
        | (refine WP.seq fun K hK => ?_)
        | (refine WP.region (rvc_sound _ _ (Sm.out ?_)))
        | (refine WP.drawK rfl mixed (by decide +kernel) (Sm.out ?_))
        | (refine Ob.mk ?_; focus (first | assumption | omega | decide | trivial | (intro hob; simp only [hob, ZF]; done) | (intros; (repeat' refine And.intro ?_ ?_) <;> first | assumption | omega | trivial | decide) | (intros; simp only [ZE] at *; (repeat' refine And.intro ?_ ?_) <;> first | assumption | omega | trivial)))
        | (refine And.intro (Ob.out ?_) ?_)
        | (refine WP.block ?_)
        | (refine WP.cond rfl (fun hc => ?_) (fun hc => ?_) <;> (try simp only [ZC, reduceCtorEq, ZD] at hc) <;> (try (exact absurd hc (by decide))) <;> (try (exfalso; omega)))
        | ((first | refine WP.skip ?_ | refine WP.exit ?_); simp only [SeqQ, BlkQ, LoopQ, BodyQ, ↓reduceIte, Nat.reduceEqDiff, reduceCtorEq, look, true_and])
        | (refine WP.ret (Sm.out ?_))
        | (first | refine ExG.no (Sm.out ?_) | refine Or.inl (ExG.no (Sm.out ?_)) | refine Or.inl (And.intro (fun hg => absurd hg (by decide)) (ExG.no (Sm.out ?_))))
        | (refine Rt.mk ?_; refine And.intro ?_ ?_ <;> (intro hg; first | exact absurd hg (by decide) | refine Sm.out ?_))
        | (refine Nu.mk ?_; first | (fail_if_success (have := nb1)); intro nb1 | (fail_if_success (have := nb2)); intro nb2 | (fail_if_success (have := nb3)); intro nb3 | (fail_if_success (have := nb4)); intro nb4 | (fail_if_success (have := nb5)); intro nb5 | (fail_if_success (have := nb6)); intro nb6 | (fail_if_success (have := nb7)); intro nb7 | intro nbz)
        | (refine Fr.mk ?_; intro hfr; replace FR := And.intro hfr FR; clear hfr; refine Sm.out ?_)
        | (refine Two.mk ?_ ?_)
        | (refine Cs.mk ?_; intro hcs; first | exact False.elim hcs | (exfalso; omega) | (refine Sm.out ?_))
        | go_step
        | omega
        | (simp only [maxLen_eq]; omega)
        | (refine Or.inr (Rt.mk ?_); refine And.intro ?_ ?_ <;> (intro hg; first | exact absurd hg (by decide) | refine Sm.out ?_))
      (refine OutQ.row (by simp only [resv, ZK, look, loadv, loadn, loadnm, load1, load1m, hget, ↓reduceIte, Nat.reduceEqDiff, Nat.reduceAdd, Nat.reduceMul, Nat.reduceLeDiff, Nat.reduceLT, reduceCtorEq, TFAmA, FR]) (by simp only [resv, resA, ZK, look, loadv, loadn, loadnm, load1, load1m, hget, ↓reduceIte, Nat.reduceEqDiff, Nat.reduceAdd, Nat.reduceMul, Nat.reduceLeDiff, Nat.reduceLT, reduceCtorEq, TFAmA, FR]; first | done | rfl) (by simp only [hget, ↓reduceIte, if_true, if_false, FR]; first | done | rfl) ?_ ?_ ?_ ?_ <;> first | omega | (simp only [maxLen_eq]; omega) | skip)
      all_goals rfl
    · have us : IntKind.u64.wrap (s : Int) = (s : Int) := wrap_u64 (by omega) (by omega)
      have c1 := cN b cap zs 2 (by omega) h1 h2 (by omega)
      have l1 := putL_len 0 2 (by omega)
      have l2 := putL_len 0 s (by omega)
      have c2 := fun b' cap' h h' => cN b' cap' (zs ++ putL 0 2) s (by rw [List.length_append]; omega) h h' (by omega)
      have c3 := fun b' cap' h h' => cN b' cap' (zs ++ putL 0 2 ++ putL 0 s) e (by rw [List.length_append, List.length_append]; omega) h h' (by omega)
      have hT : zs ++ alL 2 s 0 e = zs ++ putL 0 2 ++ putL 0 s ++ putL 0 e := by unfold alL; rw [hr]; simp
      rw [hT]
      obtain ⟨D1, hD1⟩ : ∃ D1, D1 = zs ++ putL 0 2 := ⟨_, rfl⟩
      rw [← hD1] at c1 c2 c3 ⊢
      obtain ⟨D2, hD2⟩ : ∃ D2, D2 = D1 ++ putL 0 s := ⟨_, rfl⟩
      rw [← hD2] at c2 c3 ⊢
      obtain ⟨D3, hD3⟩ : ∃ D3, D3 = D2 ++ putL 0 e := ⟨_, rfl⟩
      rw [← hD3] at c3 ⊢
      first | (have FRx := FR; clear FRx) | (have FR : ¬ ((1 : Nat) = 0) := Nat.one_ne_zero)
      repeat' first
        | (refine Sm.mk ?_; try simp -dsimp only [ZK, rvc, drawF, headN, pureH, stp, dvc, calleeOf, gcall, pev, eff, newB, okd, og, ogs, ogo, ogp, slv, bltv, opd, litv, strip, one, both, putE, St.put, look, gdOf, gdv, picka, pickv, pickw, binv, bini, bins, binb, binp, bina, shp, eqCells, unv, convv, nilv, faddv, addp, idxav, idxp, load1, load1m, loadn, loadnm, loadv, hget, hset, hrep, hdel, slicev, bnd, shift1, lenv, IntKind.bits, extractv, fieldv, indexv, min2v, max2v, mkiv, cellsA, fillA, buildv, stC, oneC, rowMB, intsA, plN, appE, appZ, appC, appNZ, appNC, VwL, srcC, srcZ, srcM, isBoolT, isPtrT, isSliceT, uOk, Value.oneCell', Nat.reducePow, Int.reducePow, Nat.reduceAdd, Nat.reduceMul, Nat.reduceSub, Nat.reduceLT, Nat.reduceLeDiff, Nat.reduceEqDiff, Nat.reduceBEq, Nat.reduceDiv, Nat.reduceMod, ↓reduceIte, reduceCtorEq, Int.reduceToNat, Int.reduceLT, Int.reduceLE, TFAmA, SeqQ, BlkQ, LoopQ, BodyQ, u2, us, e21, e22, e23, FR])
        | (first | refine CallV.fn (cR) (Sm.out ?_) | refine ExF.mk (cR) (Sm.out ?_) | refine ExG.mk (fun _ => cR) (Sm.out ?_) | refine ExG.mkJ (fun _ => cR) (Sm.out ?_) | refine ExG.mkI (Ob.out ?_) (fun _ => cR) (Sm.out ?_))
        | (refine CallV.row (by simp only [hget, ↓reduceIte, FR, u2, us, e21, e22, e23]; first | done | rfl) (c1) (Sm.out ?_))
        | (refine CallV.mkrow (c1) (Sm.out ?_))
        | (refine CallV.upd (by simp only [hget, ↓reduceIte, FR, u2, us, e21, e22, e23]; first | done | rfl) (c1) (Sm.out ?_))
        | (refine CallV.mkobj (c1) (Sm.out ?_))
        | (first | refine CallV.fn (c1) (Sm.out ?_) | refine ExF.mk (c1) (Sm.out ?_) | refine ExG.mk (fun _ => c1) (Sm.out ?_) | refine ExG.mkJ (fun _ => c1) (Sm.out ?_) | refine ExG.mkI (Ob.out ?_) (fun _ => c1) (Sm.out ?_))
        | (refine CallV.row (by simp only [hget, ↓reduceIte, FR, u2, us, e21, e22, e23]; first | done | rfl) (c2 nb2 nb3 (by omega) (by omega)) (Sm.out ?_))
        | (refine CallV.mkrow (c2 nb2 nb3 (by omega) (by omega)) (Sm.out ?_))
        | (refine CallV.upd (by simp only [hget, ↓reduceIte, FR, u2, us, e21, e22, e23]; first | done | rfl) (c2 nb2 nb3 (by omega) (by omega)) (Sm.out ?_))
        | (refine CallV.mkobj (c2 nb2 nb3 (by omega) (by omega)) (Sm.out ?_))
        | (first | refine CallV.fn (c2 nb2 nb3 (by omega) (by omega)) (Sm.out ?_) | refine ExF.mk (c2 nb2 nb3 (by omega) (by omega)) (Sm.out ?_) | refine ExG.mk (fun _ => c2 nb2 nb3 (by omega) (by omega)) (Sm.out ?_) | refine ExG.mkJ (fun _ => c2 nb2 nb3 (by omega) (by omega)) (Sm.out ?_) | refine ExG.mkI (Ob.out ?_) (fun _ => c2 nb2 nb3 (by omega) (by omega)) (Sm.out ?_))
        | (refine CallV.row (by simp only [hget, ↓reduceIte, FR, u2, us, e21, e22, e23]; first | done | rfl) (c3 nb4 nb5 (by omega) (by omega)) (Sm.out ?_))
        | (refine CallV.mkrow (c3 nb4 nb5 (by omega) (by omega)) (Sm.out ?_))
        | (refine CallV.upd (by simp only [hget, ↓reduceIte, FR, u2, us, e21, e22, e23]; first | done | rfl) (c3 nb4 nb5 (by omega) (by omega)) (Sm.out ?_))
        | (refine CallV.mkobj (c3 nb4 nb5 (by omega) (by omega)) (Sm.out ?_))
        | (first | refine CallV.fn (c3 nb4 nb5 (by omega) (by omega)) (Sm.out ?_) | refine ExF.mk (c3 nb4 nb5 (by omega) (by omega)) (Sm.out ?_) | refine ExG.mk (fun _ => c3 nb4 nb5 (by omega) (by omega)) (Sm.out ?_) | refine ExG.mkJ (fun _ => c3 nb4 nb5 (by omega) (by omega)) (Sm.out ?_) | refine ExG.mkI (Ob.out ?_) (fun _ => c3 nb4 nb5 (by omega) (by omega)) (Sm.out ?_))
        | (refine WP.seq fun K hK => ?_)
        | (refine WP.region (rvc_sound _ _ (Sm.out ?_)))
        | (refine WP.drawK rfl mixed (by decide +kernel) (Sm.out ?_))
        | (refine Ob.mk ?_; focus (first | assumption | omega | decide | trivial | (intro hob; simp only [hob, ZF]; done) | (intros; (repeat' refine And.intro ?_ ?_) <;> first | assumption | omega | trivial | decide) | (intros; simp only [ZE] at *; (repeat' refine And.intro ?_ ?_) <;> first | assumption | omega | trivial)))
        | (refine And.intro (Ob.out ?_) ?_)
        | (refine WP.block ?_)
        | (refine WP.cond rfl (fun hc => ?_) (fun hc => ?_) <;> (try simp only [ZC, reduceCtorEq, ZD] at hc) <;> (try (exact absurd hc (by decide))) <;> (try (exfalso; omega)))
        | ((first | refine WP.skip ?_ | refine WP.exit ?_); simp only [SeqQ, BlkQ, LoopQ, BodyQ, ↓reduceIte, Nat.reduceEqDiff, reduceCtorEq, look, true_and])
        | (refine WP.ret (Sm.out ?_))
        | (first | refine ExG.no (Sm.out ?_) | refine Or.inl (ExG.no (Sm.out ?_)) | refine Or.inl (And.intro (fun hg => absurd hg (by decide)) (ExG.no (Sm.out ?_))))
        | (refine Rt.mk ?_; refine And.intro ?_ ?_ <;> (intro hg; first | exact absurd hg (by decide) | refine Sm.out ?_))
        | (refine Nu.mk ?_; first | (fail_if_success (have := nb1)); intro nb1 | (fail_if_success (have := nb2)); intro nb2 | (fail_if_success (have := nb3)); intro nb3 | (fail_if_success (have := nb4)); intro nb4 | (fail_if_success (have := nb5)); intro nb5 | (fail_if_success (have := nb6)); intro nb6 | (fail_if_success (have := nb7)); intro nb7 | intro nbz)
        | (refine Fr.mk ?_; intro hfr; replace FR := And.intro hfr FR; clear hfr; refine Sm.out ?_)
        | (refine Two.mk ?_ ?_)
        | (refine Cs.mk ?_; intro hcs; first | exact False.elim hcs | (exfalso; omega) | (refine Sm.out ?_))
        | go_step
        | omega
        | (simp only [maxLen_eq]; omega)
        | (refine Or.inr (Rt.mk ?_); refine And.intro ?_ ?_ <;> (intro hg; first | exact absurd hg (by decide) | refine Sm.out ?_))
      (refine OutQ.row (by simp only [resv, ZK, look, loadv, loadn, loadnm, load1, load1m, hget, ↓reduceIte, Nat.reduceEqDiff, Nat.reduceAdd, Nat.reduceMul, Nat.reduceLeDiff, Nat.reduceLT, reduceCtorEq, TFAmA, FR]) (by simp only [resv, resA, ZK, look, loadv, loadn, loadnm, load1, load1m, hget, ↓reduceIte, Nat.reduceEqDiff, Nat.reduceAdd, Nat.reduceMul, Nat.reduceLeDiff, Nat.reduceLT, reduceCtorEq, TFAmA, FR]; first | done | rfl) (by simp only [hget, ↓reduceIte, if_true, if_false, FR]; first | done | rfl) ?_ ?_ ?_ ?_ <;> first | omega | (simp only [maxLen_eq]; omega) | skip)
      all_goals rfl
    · have us : IntKind.u64.wrap (s : Int) = (s : Int) := wrap_u64 (by omega) (by omega)
      have uc : IntKind.u64.wrap (c : Int) = (c : Int) := wrap_u64 (by omega) (by omega)
      have c1 := cN b cap zs 3 (by omega) h1 h2 (by omega)
      have l1 := putL_len 0 3 (by omega)
      have l2 := putL_len 0 s (by omega)
      have l3 := putL_len 0 e (by omega)
      have c2 := fun b' cap' h h' => cN b' cap' (zs ++ putL 0 3) s (by rw [List.length_append]; omega) h h' (by omega)
      have c3 := fun b' cap' h h' => cN b' cap' (zs ++ putL 0 3 ++ putL 0 s) e (by rw [List.length_append, List.length_append]; omega) h h' (by omega)
      have c4 := fun b' cap' h h' => cN b' cap' (zs ++ putL 0 3 ++ putL 0 s ++ putL 0 e) c (by rw [List.length_append, List.length_append, List.length_append]; omega) h h' (by omega)
      have hT : zs ++ alL 3 s c e = zs ++ putL 0 3 ++ putL 0 s ++ putL 0 e ++ putL 0 c := by unfold alL; rw [hr]; simp
      rw [hT]
      obtain ⟨D1, hD1⟩ : ∃ D1, D1 = zs ++ putL 0 3 := ⟨_, rfl⟩
      rw [← hD1] at c1 c2 c3 c4 ⊢
      obtain ⟨D2, hD2⟩ : ∃ D2, D2 = D1 ++ putL 0 s := ⟨_, rfl⟩
      rw [← hD2] at c2 c3 c4 ⊢
      obtain ⟨D3, hD3⟩ : ∃ D3, D3 = D2 ++ putL 0 e := ⟨_, rfl⟩
      rw [← hD3] at c3 c4 ⊢
      obtain ⟨D4, hD4⟩ : ∃ D4, D4 = D3 ++ putL 0 c := ⟨_, rfl⟩
      rw [← hD4] at c4 ⊢
      first | (have FRx := FR; clear FRx) | (have FR : ¬ ((1 : Nat) = 0) := Nat.one_ne_zero)
      repeat' first
        | (refine Sm.mk ?_; try simp -dsimp only [ZK, rvc, drawF, headN, pureH, stp, dvc, calleeOf, gcall, pev, eff, newB, okd, og, ogs, ogo, ogp, slv, bltv, opd, litv, strip, one, both, putE, St.put, look, gdOf, gdv, picka, pickv, pickw, binv, bini, bins, binb, binp, bina, shp, eqCells, unv, convv, nilv, faddv, addp, idxav, idxp, load1, load1m, loadn, loadnm, loadv, hget, hset, hrep, hdel, slicev, bnd, shift1, lenv, IntKind.bits, extractv, fieldv, indexv, min2v, max2v, mkiv, cellsA, fillA, buildv, stC, oneC, rowMB, intsA, plN, appE, appZ, appC, appNZ, appNC, VwL, srcC, srcZ, srcM, isBoolT, isPtrT, isSliceT, uOk, Value.oneCell', Nat.reducePow, Int.reducePow, Nat.reduceAdd, Nat.reduceMul, Nat.reduceSub, Nat.reduceLT, Nat.reduceLeDiff, Nat.reduceEqDiff, Nat.reduceBEq, Nat.reduceDiv, Nat.reduceMod, ↓reduceIte, reduceCtorEq, Int.reduceToNat, Int.reduceLT, Int.reduceLE, TFAmA, SeqQ, BlkQ, LoopQ, BodyQ, u3, us, uc, e31, e32, e33, FR])
        | (first | refine CallV.fn (cR) (Sm.out ?_) | refine ExF.mk (cR) (Sm.out ?_) | refine ExG.mk (fun _ => cR) (Sm.out ?_) | refine ExG.mkJ (fun _ => cR) (Sm.out ?_) | refine ExG.mkI (Ob.out ?_) (fun _ => cR) (Sm.out ?_))
        | (refine CallV.row (by simp only [hget, ↓reduceIte, FR, u3, us, uc, e31, e32, e33]; first | done | rfl) (c1) (Sm.out ?_))
        | (refine CallV.mkrow (c1) (Sm.out ?_))
        | (refine CallV.upd (by simp only [hget, ↓reduceIte, FR, u3, us, uc, e31, e32, e33]; first | done | rfl) (c1) (Sm.out ?_))
        | (refine CallV.mkobj (c1) (Sm.out ?_))
        | (first | refine CallV.fn (c1) (Sm.out ?_) | refine ExF.mk (c1) (Sm.out ?_) | refine ExG.mk (fun _ => c1) (Sm.out ?_) | refine ExG.mkJ (fun _ => c1) (Sm.out ?_) | refine ExG.mkI (Ob.out ?_) (fun _ => c1) (Sm.out ?_))
        | (refine CallV.row (by simp only [hget, ↓reduceIte, FR, u3, us, uc, e31, e32, e33]; first | done | rfl) (c2 nb2 nb3 (by omega) (by omega)) (Sm.out ?_))
        | (refine CallV.mkrow (c2 nb2 nb3 (by omega) (by omega)) (Sm.out ?_))
        | (refine CallV.upd (by simp only [hget, ↓reduceIte, FR, u3, us, uc, e31, e32, e33]; first | done | rfl) (c2 nb2 nb3 (by omega) (by omega)) (Sm.out ?_))
        | (refine CallV.mkobj (c2 nb2 nb3 (by omega) (by omega)) (Sm.out ?_))
        | (first | refine CallV.fn (c2 nb2 nb3 (by omega) (by omega)) (Sm.out ?_) | refine ExF.mk (c2 nb2 nb3 (by omega) (by omega)) (Sm.out ?_) | refine ExG.mk (fun _ => c2 nb2 nb3 (by omega) (by omega)) (Sm.out ?_) | refine ExG.mkJ (fun _ => c2 nb2 nb3 (by omega) (by omega)) (Sm.out ?_) | refine ExG.mkI (Ob.out ?_) (fun _ => c2 nb2 nb3 (by omega) (by omega)) (Sm.out ?_))
        | (refine CallV.row (by simp only [hget, ↓reduceIte, FR, u3, us, uc, e31, e32, e33]; first | done | rfl) (c3 nb4 nb5 (by omega) (by omega)) (Sm.out ?_))
        | (refine CallV.mkrow (c3 nb4 nb5 (by omega) (by omega)) (Sm.out ?_))
        | (refine CallV.upd (by simp only [hget, ↓reduceIte, FR, u3, us, uc, e31, e32, e33]; first | done | rfl) (c3 nb4 nb5 (by omega) (by omega)) (Sm.out ?_))
        | (refine CallV.mkobj (c3 nb4 nb5 (by omega) (by omega)) (Sm.out ?_))
        | (first | refine CallV.fn (c3 nb4 nb5 (by omega) (by omega)) (Sm.out ?_) | refine ExF.mk (c3 nb4 nb5 (by omega) (by omega)) (Sm.out ?_) | refine ExG.mk (fun _ => c3 nb4 nb5 (by omega) (by omega)) (Sm.out ?_) | refine ExG.mkJ (fun _ => c3 nb4 nb5 (by omega) (by omega)) (Sm.out ?_) | refine ExG.mkI (Ob.out ?_) (fun _ => c3 nb4 nb5 (by omega) (by omega)) (Sm.out ?_))
        | (refine CallV.row (by simp only [hget, ↓reduceIte, FR, u3, us, uc, e31, e32, e33]; first | done | rfl) (c4 nb6 nb7 (by omega) (by omega)) (Sm.out ?_))
        | (refine CallV.mkrow (c4 nb6 nb7 (by omega) (by omega)) (Sm.out ?_))
        | (refine CallV.upd (by simp only [hget, ↓reduceIte, FR, u3, us, uc, e31, e32, e33]; first | done | rfl) (c4 nb6 nb7 (by omega) (by omega)) (Sm.out ?_))
        | (refine CallV.mkobj (c4 nb6 nb7 (by omega) (by omega)) (Sm.out ?_))
        | (first | refine CallV.fn (c4 nb6 nb7 (by omega) (by omega)) (Sm.out ?_) | refine ExF.mk (c4 nb6 nb7 (by omega) (by omega)) (Sm.out ?_) | refine ExG.mk (fun _ => c4 nb6 nb7 (by omega) (by omega)) (Sm.out ?_) | refine ExG.mkJ (fun _ => c4 nb6 nb7 (by omega) (by omega)) (Sm.out ?_) | refine ExG.mkI (Ob.out ?_) (fun _ => c4 nb6 nb7 (by omega) (by omega)) (Sm.out ?_))
        | (refine WP.seq fun K hK => ?_)
        | (refine WP.region (rvc_sound _ _ (Sm.out ?_)))
        | (refine WP.drawK rfl mixed (by decide +kernel) (Sm.out ?_))
        | (refine Ob.mk ?_; focus (first | assumption | omega | decide | trivial | (intro hob; simp only [hob, ZF]; done) | (intros; (repeat' refine And.intro ?_ ?_) <;> first | assumption | omega | trivial | decide) | (intros; simp only [ZE] at *; (repeat' refine And.intro ?_ ?_) <;> first | assumption | omega | trivial)))
        | (refine And.intro (Ob.out ?_) ?_)
        | (refine WP.block ?_)
        | (refine WP.cond rfl (fun hc => ?_) (fun hc => ?_) <;> (try simp only [ZC, reduceCtorEq, ZD] at hc) <;> (try (exact absurd hc (by decide))) <;> (try (exfalso; omega)))
        | ((first | refine WP.skip ?_ | refine WP.exit ?_); simp only [SeqQ, BlkQ, LoopQ, BodyQ, ↓reduceIte, Nat.reduceEqDiff, reduceCtorEq, look, true_and])
        | (refine WP.ret (Sm.out ?_))
        | (first | refine ExG.no (Sm.out ?_) | refine Or.inl (ExG.no (Sm.out ?_)) | refine Or.inl (And.intro (fun hg => absurd hg (by decide)) (ExG.no (Sm.out ?_))))
        | (refine Rt.mk ?_; refine And.intro ?_ ?_ <;> (intro hg; first | exact absurd hg (by decide) | refine Sm.out ?_))
        | (refine Nu.mk ?_; first | (fail_if_success (have := nb1)); intro nb1 | (fail_if_success (have := nb2)); intro nb2 | (fail_if_success (have := nb3)); intro nb3 | (fail_if_success (have := nb4)); intro nb4 | (fail_if_success (have := nb5)); intro nb5 | (fail_if_success (have := nb6)); intro nb6 | (fail_if_success (have := nb7)); intro nb7 | intro nbz)
        | (refine Fr.mk ?_; intro hfr; replace FR := And.intro hfr FR; clear hfr; refine Sm.out ?_)
        | (refine Two.mk ?_ ?_)
        | (refine Cs.mk ?_; intro hcs; first | exact False.elim hcs | (exfalso; omega) | (refine Sm.out ?_))
        | go_step
        | omega
        | (simp only [maxLen_eq]; omega)
        | (refine Or.inr (Rt.mk ?_); refine And.intro ?_ ?_ <;> (intro hg; first | exact absurd hg (by decide) | refine Sm.out ?_))
      (refine OutQ.row (by simp only [resv, ZK, look, loadv, loadn, loadnm, load1, load1m, hget, ↓reduceIte, Nat.reduceEqDiff, Nat.reduceAdd, Nat.reduceMul, Nat.reduceLeDiff, Nat.reduceLT, reduceCtorEq, TFAmA, FR]) (by simp only [resv, resA, ZK, look, loadv, loadn, loadnm, load1, load1m, hget, ↓reduceIte, Nat.reduceEqDiff, Nat.reduceAdd, Nat.reduceMul, Nat.reduceLeDiff, Nat.reduceLT, reduceCtorEq, TFAmA, FR]; first | done | rfl) (by simp only [hget, ↓reduceIte, if_true, if_false, FR]; first | done | rfl) ?_ ?_ ?_ ?_ <;> first | omega | (simp only [maxLen_eq]; omega) | skip)
      all_goals rfl
end Go.Proofs.Ytljfldoekamccaa
namespace Go.Proofs.Ytljfldoekamccaa
open Go Wi
set_option linter.unusedVariables false
set_option linter.unusedSimpArgs false
theorem TFAmB : ((((((type_of% tyc0) ∧ ((type_of% tyc2) ∧ (type_of% zmb2))) ∧ ((type_of% tyc3) ∧ ((type_of% zmb3) ∧ (type_of% tyc4)))) ∧ (((type_of% zmb4) ∧ ((type_of% tyc5) ∧ (type_of% zmb5))) ∧ (((type_of% tyc22) ∧ (type_of% zmb22)) ∧ ((type_of% tyc32) ∧ (type_of% foff32_0))))) ∧ ((((type_of% fpart32_0) ∧ ((type_of% foff32_1) ∧ (type_of% fpart32_1))) ∧ (((type_of% foff32_2) ∧ (type_of% fpart32_2)) ∧ ((type_of% foff32_3) ∧ (type_of% fpart32_3)))) ∧ (((type_of% fe32) ∧ ((type_of% zmb32) ∧ (type_of% bldT32))) ∧ (((type_of% tyc38) ∧ (type_of% elt38)) ∧ ((type_of% mkz38) ∧ (type_of% apT38)))))) ∧ (((((type_of% elk38) ∧ ((type_of% zmb38) ∧ (type_of% tyc44))) ∧ ((type_of% mth44_35) ∧ ((type_of% mth44_36) ∧ (type_of% mth44_39)))) ∧ (((type_of% con44) ∧ ((type_of% zmb44) ∧ (type_of% tyc64))) ∧ (((type_of% foff64_0) ∧ (type_of% fpart64_0)) ∧ ((type_of% foff64_1) ∧ (type_of% fpart64_1))))) ∧ ((((type_of% zmb64) ∧ ((type_of% bldT64) ∧ (type_of% tyc81))) ∧ (((type_of% Try.underlying0) ∧ (type_of% Try.underlying2)) ∧ ((type_of% Try.underlying3) ∧ (type_of% Try.underlying4)))) ∧ (((type_of% Try.underlying5) ∧ ((type_of% Try.underlying22) ∧ (type_of% Try.underlying32))) ∧ (((type_of% Try.underlying38) ∧ (type_of% Try.underlying44)) ∧ ((type_of% Try.underlying64) ∧ (type_of% Try.underlying81))))))) :=
  ⟨⟨⟨⟨⟨tyc0, ⟨tyc2, zmb2⟩⟩, ⟨tyc3, ⟨zmb3, tyc4⟩⟩⟩, ⟨⟨zmb4, ⟨tyc5, zmb5⟩⟩, ⟨⟨tyc22, zmb22⟩, ⟨tyc32, foff32_0⟩⟩⟩⟩, ⟨⟨⟨fpart32_0, ⟨foff32_1, fpart32_1⟩⟩, ⟨⟨foff32_2, fpart32_2⟩, ⟨foff32_3, fpart32_3⟩⟩⟩, ⟨⟨fe32, ⟨zmb32, bldT32⟩⟩, ⟨⟨tyc38, elt38⟩, ⟨mkz38, apT38⟩⟩⟩⟩⟩, ⟨⟨⟨⟨elk38, ⟨zmb38, tyc44⟩⟩, ⟨mth44_35, ⟨mth44_36, mth44_39⟩⟩⟩, ⟨⟨con44, ⟨zmb44, tyc64⟩⟩, ⟨⟨foff64_0, fpart64_0⟩, ⟨foff64_1, fpart64_1⟩⟩⟩⟩, ⟨⟨⟨zmb64, ⟨bldT64, tyc81⟩⟩, ⟨⟨Try.underlying0, Try.underlying2⟩, ⟨Try.underlying3, Try.underlying4⟩⟩⟩, ⟨⟨Try.underlying5, ⟨Try.underlying22, Try.underlying32⟩⟩, ⟨⟨Try.underlying38, Try.underlying44⟩, ⟨Try.underlying64, Try.underlying81⟩⟩⟩⟩⟩⟩
theorem put00 : putL 0 0 = [0] := by decide +kernel
set_option maxRecDepth 8000 in
set_option maxHeartbeats 2000000 in
theorem refPut_ct (p s c e : Int) : ACt Try.prog 18 [alA p s c e] [] (Row .u8 5 (alL p s c e)) := by
  refine ACt.intro Try.func18 rfl (by kernel_rfl) (by simp [Try.ntmps18]) (fun cx => ?_)
  simp only [argE, Try.ntmps18, Try.results18]
  have cR := refRight_ct p s c e
  have u0 : IntKind.u64.wrap 0 = ((0 : Nat) : Int) := by decide
  have u1 : IntKind.u64.wrap 1 = ((1 : Nat) : Int) := by decide
  have u2 : IntKind.u64.wrap 2 = ((2 : Nat) : Int) := by decide
  have u3 : IntKind.u64.wrap 3 = ((3 : Nat) : Int) := by decide
  have e01 : decide ((0 : Int) > 0) = false := by decide
  have e02 : decide ((0 : Int) > 1) = false := by decide
  have e03 : decide ((0 : Int) > 2) = false := by decide
  have e11 : decide ((1 : Int) > 0) = true := by decide
  have e12 : decide ((1 : Int) > 1) = false := by decide
  have e13 : decide ((1 : Int) > 2) = false := by decide
  have e21 : decide ((2 : Int) > 0) = true := by decide
  have e22 : decide ((2 : Int) > 1) = true := by decide
  have e23 : decide ((2 : Int) > 2) = false := by decide
  have e31 : decide ((3 : Int) > 0) = true := by decide
  have e32 : decide ((3 : Int) > 1) = true := by decide
  have e33 : decide ((3 : Int) > 2) = true := by decide
  have tk : ∀ L : List Int, L.take L.length = L := fun L => List.take_length
  cases hr : rightP p s c e with
  | false =>
    rw [hr] at cR
    have hT : alL p s c e = [0] := by rw [alL_bad hr]; exact put00
    rw [hT]
    first | (have FRx := FR; clear FRx) | (have FR : ¬ ((1 : Nat) = 0) := Nat.one_ne_zero)
    repeat' first
      | (refine Sm.mk ?_; try simp -dsimp only [ZK, rvc, drawF, headN, pureH, stp, dvc, calleeOf, gcall, pev, eff, newB, okd, og, ogs, ogo, ogp, slv, bltv, opd, litv, strip, one, both, putE, St.put, look, gdOf, gdv, picka, pickv, pickw, binv, bini, bins, binb, binp, bina, shp, eqCells, unv, convv, nilv, faddv, addp, idxav, idxp, load1, load1m, loadn, loadnm, loadv, hget, hset, hrep, hdel, slicev, bnd, shift1, lenv, IntKind.bits, extractv, fieldv, indexv, min2v, max2v, mkiv, cellsA, fillA, buildv, stC, oneC, rowMB, intsA, plN, appE, appZ, appC, appNZ, appNC, VwL, srcC, srcZ, srcM, isBoolT, isPtrT, isSliceT, uOk, Value.oneCell', Nat.reducePow, Int.reducePow, Nat.reduceAdd, Nat.reduceMul, Nat.reduceSub, Nat.reduceLT, Nat.reduceLeDiff, Nat.reduceEqDiff, Nat.reduceBEq, Nat.reduceDiv, Nat.reduceMod, ↓reduceIte, reduceCtorEq, Int.reduceToNat, Int.reduceLT, Int.reduceLE, TFAmB, SeqQ, BlkQ, LoopQ, BodyQ, FR])
      | (first | refine CallV.fn (cR) (Sm.out ?_) | refine ExF.mk (cR) (Sm.out ?_) | refine ExG.mk (fun _ => cR) (Sm.out ?_) | refine ExG.mkJ (fun _ => cR) (Sm.out ?_) | refine ExG.mkI (Ob.out ?_) (fun _ => cR) (Sm.out ?_))
      | (refine WP.seq fun K hK => ?_)
      | (refine WP.region (rvc_sound _ _ (Sm.out ?_)))
      | (refine WP.drawK rfl mixed (by decide +kernel) (Sm.out ?_))
      | (refine Ob.mk ?_; focus (first | assumption | omega | decide | trivial | (intro hob; simp only [hob, ZF]; done) | (intros; (repeat' refine And.intro ?_ ?_) <;> first | assumption | omega | trivial | decide) | (intros; simp only [ZE] at *; (repeat' refine And.intro ?_ ?_) <;> first | assumption | omega | trivial)))
      | (refine And.intro (Ob.out ?_) ?_)
      | (refine WP.block ?_)
      | (refine WP.cond rfl (fun hc => ?_) (fun hc => ?_) <;> (try simp only [ZC, reduceCtorEq, ZD] at hc) <;> (try (exact absurd hc (by decide))) <;> (try (exfalso; omega)))
      | ((first | refine WP.skip ?_ | refine WP.exit ?_); simp only [SeqQ, BlkQ, LoopQ, BodyQ, ↓reduceIte, Nat.reduceEqDiff, reduceCtorEq, look, true_and])
      | (refine WP.ret (Sm.out ?_))
      | (first | refine ExG.no (Sm.out ?_) | refine Or.inl (ExG.no (Sm.out ?_)) | refine Or.inl (And.intro (fun hg => absurd hg (by decide)) (ExG.no (Sm.out ?_))))
      | (refine Rt.mk ?_; refine And.intro ?_ ?_ <;> (intro hg; first | exact absurd hg (by decide) | refine Sm.out ?_))
      | (refine Nu.mk ?_; first | (fail_if_success (have := nb1)); intro nb1 | (fail_if_success (have := nb2)); intro nb2 | (fail_if_success (have := nb3)); intro nb3 | (fail_if_success (have := nb4)); intro nb4 | (fail_if_success (have := nb5)); intro nb5 | (fail_if_success (have := nb6)); intro nb6 | (fail_if_success (have := nb7)); intro nb7 | (fail_if_success (have := nb8)); intro nb8 | (fail_if_success (have := nb9)); intro nb9 | (fail_if_success (have := nb10)); intro nb10 | (fail_if_success (have := nb11)); intro nb11 | (fail_if_success (have := nb12)); intro nb12 | (fail_if_success (have := nb13)); intro nb13 | (fail_if_success (have := nb14)); intro nb14 | (fail_if_success (have := nb15)); intro nb15 | (fail_if_success (have := nb16)); intro nb16 | (fail_if_success (have := nb17)); intro nb17 | (fail_if_success (have := nb18)); intro nb18 | (fail_if_success (have := nb19)); intro nb19 | (fail_if_success (have := nb20)); intro nb20 | (fail_if_success (have := nb21)); intro nb21 | (fail_if_success (have := nb22)); intro nb22 | (fail_if_success (have := nb23)); intro nb23 | (fail_if_success (have := nb24)); intro nb24 | intro nbz)
      | (refine Fr.mk ?_; intro hfr; replace FR := And.intro hfr FR; clear hfr; refine Sm.out ?_)
      | (refine Two.mk ?_ ?_)
      | (refine Cs.mk ?_; intro hcs; first | exact False.elim hcs | (exfalso; omega) | (refine Sm.out ?_))
      | go_step
      | omega
      | (simp only [maxLen_eq]; omega)
      | (refine Or.inr (Rt.mk ?_); refine And.intro ?_ ?_ <;> (intro hg; first | exact absurd hg (by decide) | refine Sm.out ?_))
    (refine OutQ.row (by simp only [resv, ZK, look, loadv, loadn, loadnm, load1, load1m, hget, ↓reduceIte, Nat.reduceEqDiff, Nat.reduceAdd, Nat.reduceMul, Nat.reduceLeDiff, Nat.reduceLT, reduceCtorEq, TFAmB, FR]) (by simp only [resv, resA, ZK, look, loadv, loadn, loadnm, load1, load1m, hget, ↓reduceIte, Nat.reduceEqDiff, Nat.reduceAdd, Nat.reduceMul, Nat.reduceLeDiff, Nat.reduceLT, reduceCtorEq, TFAmB, FR]; first | done | rfl) (by simp only [hget, ↓reduceIte, if_true, if_false, FR]; first | done | rfl) ?_ ?_ ?_ ?_ <;> first | omega | (simp only [maxLen_eq]; omega) | skip)
    all_goals rfl
  | true =>
    rw [hr] at cR
    rcases right_cases hr with ⟨rfl, rfl, rfl, rfl⟩ | ⟨s, rfl, rfl, hs, rfl, rfl⟩ | ⟨s, e, rfl, rfl, hs, rfl, rfl, he⟩ | ⟨s, e, c, rfl, rfl, hs, rfl, hc, rfl, he⟩
    · have c1 := refNum_ct 0 (by omega)
      obtain ⟨T, hT⟩ : ∃ T, T = putL 0 0 := ⟨_, rfl⟩
      have hT2 : alL 0 0 0 0 = T := hT.symm
      rw [hT2]
      rw [← hT] at c1
      first | (have FRx := FR; clear FRx) | (have FR : ¬ ((1 : Nat) = 0) := Nat.one_ne_zero)
      repeat' first
        | (refine Sm.mk ?_; try simp -dsimp only [ZK, rvc, drawF, headN, pureH, stp, dvc, calleeOf, gcall, pev, eff, newB, okd, og, ogs, ogo, ogp, slv, bltv, opd, litv, strip, one, both, putE, St.put, look, gdOf, gdv, picka, pickv, pickw, binv, bini, bins, binb, binp, bina, shp, eqCells, unv, convv, nilv, faddv, addp, idxav, idxp, load1, load1m, loadn, loadnm, loadv, hget, hset, hrep, hdel, slicev, bnd, shift1, lenv, IntKind.bits, extractv, fieldv, indexv, min2v, max2v, mkiv, cellsA, fillA, buildv, stC, oneC, rowMB, intsA, plN, appE, appZ, appC, appNZ, appNC, VwL, srcC, srcZ, srcM, isBoolT, isPtrT, isSliceT, uOk, Value.oneCell', Nat.reducePow, Int.reducePow, Nat.reduceAdd, Nat.reduceMul, Nat.reduceSub, Nat.reduceLT, Nat.reduceLeDiff, Nat.reduceEqDiff, Nat.reduceBEq, Nat.reduceDiv, Nat.reduceMod, ↓reduceIte, reduceCtorEq, Int.reduceToNat, Int.reduceLT, Int.reduceLE, TFAmB, SeqQ, BlkQ, LoopQ, BodyQ, u0, e01, e02, e03, FR])
        | (first | refine CallV.fn (cR) (Sm.out ?_) | refine ExF.mk (cR) (Sm.out ?_) | refine ExG.mk (fun _ => cR) (Sm.out ?_) | refine ExG.mkJ (fun _ => cR) (Sm.out ?_) | refine ExG.mkI (Ob.out ?_) (fun _ => cR) (Sm.out ?_))
        | (refine CallV.row (by simp only [hget, ↓reduceIte, FR, u0, e01, e02, e03]; first | done | rfl) (c1) (Sm.out ?_))
        | (refine CallV.mkrow (c1) (Sm.out ?_))
        | (refine CallV.upd (by simp only [hget, ↓reduceIte, FR, u0, e01, e02, e03]; first | done | rfl) (c1) (Sm.out ?_))
        | (refine CallV.mkobj (c1) (Sm.out ?_))
        | (first | refine CallV.fn (c1) (Sm.out ?_) | refine ExF.mk (c1) (Sm.out ?_) | refine ExG.mk (fun _ => c1) (Sm.out ?_) | refine ExG.mkJ (fun _ => c1) (Sm.out ?_) | refine ExG.mkI (Ob.out ?_) (fun _ => c1) (Sm.out ?_))
        | (refine WP.seq fun K hK => ?_)
        | (refine WP.region (rvc_sound _ _ (Sm.out ?_)))
        | (refine WP.drawK rfl mixed (by decide +kernel) (Sm.out ?_))
        | (refine Ob.mk ?_; focus (first | assumption | omega | decide | trivial | (intro hob; simp only [hob, ZF]; done) | (intros; (repeat' refine And.intro ?_ ?_) <;> first | assumption | omega | trivial | decide) | (intros; simp only [ZE] at *; (repeat' refine And.intro ?_ ?_) <;> first | assumption | omega | trivial)))
        | (refine And.intro (Ob.out ?_) ?_)
        | (refine WP.block ?_)
        | (refine WP.cond rfl (fun hc => ?_) (fun hc => ?_) <;> (try simp only [ZC, reduceCtorEq, ZD] at hc) <;> (try (exact absurd hc (by decide))) <;> (try (exfalso; omega)))
        | ((first | refine WP.skip ?_ | refine WP.exit ?_); simp only [SeqQ, BlkQ, LoopQ, BodyQ, ↓reduceIte, Nat.reduceEqDiff, reduceCtorEq, look, true_and])
        | (refine WP.ret (Sm.out ?_))
        | (first | refine ExG.no (Sm.out ?_) | refine Or.inl (ExG.no (Sm.out ?_)) | refine Or.inl (And.intro (fun hg => absurd hg (by decide)) (ExG.no (Sm.out ?_))))
        | (refine Rt.mk ?_; refine And.intro ?_ ?_ <;> (intro hg; first | exact absurd hg (by decide) | refine Sm.out ?_))
        | (refine Nu.mk ?_; first | (fail_if_success (have := nb1)); intro nb1 | (fail_if_success (have := nb2)); intro nb2 | (fail_if_success (have := nb3)); intro nb3 | (fail_if_success (have := nb4)); intro nb4 | (fail_if_success (have := nb5)); intro nb5 | (fail_if_success (have := nb6)); intro nb6 | (fail_if_success (have := nb7)); intro nb7 | (fail_if_success (have := nb8)); intro nb8 | (fail_if_success (have := nb9)); intro nb9 | (fail_if_success (have := nb10)); intro nb10 | (fail_if_success (have := nb11)); intro nb11 | (fail_if_success (have := nb12)); intro nb12 | (fail_if_success (have := nb13)); intro nb13 | (fail_if_success (have := nb14)); intro nb14 | (fail_if_success (have := nb15)); intro nb15 | (fail_if_success (have := nb16)); intro nb16 | (fail_if_success (have := nb17)); intro nb17 | (fail_if_success (have := nb18)); intro nb18 | (fail_if_success (have := nb19)); intro nb19 | (fail_if_success (have := nb20)); intro nb20 | (fail_if_success (have := nb21)); intro nb21 | (fail_if_success (have := nb22)); intro nb22 | (fail_if_success (have := nb23)); intro nb23 | (fail_if_success (have := nb24)); intro nb24 | intro nbz)
        | (refine Fr.mk ?_; intro hfr; replace FR := And.intro hfr FR; clear hfr; refine Sm.out ?_)
        | (refine Two.mk ?_ ?_)
        | (refine Cs.mk ?_; intro hcs; first | exact False.elim hcs | (exfalso; omega) | (refine Sm.out ?_))
        | go_step
        | omega
        | (simp only [maxLen_eq]; omega)
        | (refine Or.inr (Rt.mk ?_); refine And.intro ?_ ?_ <;> (intro hg; first | exact absurd hg (by decide) | refine Sm.out ?_))
      (refine OutQ.row (by simp only [resv, ZK, look, loadv, loadn, loadnm, load1, load1m, hget, ↓reduceIte, Nat.reduceEqDiff, Nat.reduceAdd, Nat.reduceMul, Nat.reduceLeDiff, Nat.reduceLT, reduceCtorEq, TFAmB, FR]) (by simp only [resv, resA, ZK, look, loadv, loadn, loadnm, load1, load1m, hget, ↓reduceIte, Nat.reduceEqDiff, Nat.reduceAdd, Nat.reduceMul, Nat.reduceLeDiff, Nat.reduceLT, reduceCtorEq, TFAmB, FR]; first | done | rfl) (by simp only [hget, ↓reduceIte, if_true, if_false, FR]; first | done | rfl) ?_ ?_ ?_ ?_ <;> first | omega | (simp only [maxLen_eq]; omega) | skip)
      all_goals rfl
    · have us : IntKind.u64.wrap (s : Int) = (s : Int) := wrap_u64 (by omega) (by omega)
      have c1 := refNum_ct 1 (by omega)
      have c2 := refNum_ct s (by omega)
      have l1 := putL_len 0 1 (by omega)
      have l2 := putL_len 0 s (by omega)
      have hT : alL 1 s 0 0 = putL 0 1 ++ putL 0 s := by unfold alL; rw [hr]; simp
      rw [hT]
      obtain ⟨D1, hD1⟩ : ∃ D1, D1 = putL 0 1 := ⟨_, rfl⟩
      obtain ⟨D2, hD2⟩ : ∃ D2, D2 = putL 0 s := ⟨_, rfl⟩
      rw [← hD1] at c1 l1
      rw [← hD2] at c2 l2
      rw [← hD1, ← hD2]
      obtain ⟨T, hT⟩ : ∃ T, D1 ++ D2 = T := ⟨_, rfl⟩
      have hTl : T.length = D1.length + D2.length := by rw [← hT, List.length_append]
      rw [hT]
      first | (have FRx := FR; clear FRx) | (have FR : ¬ ((1 : Nat) = 0) := Nat.one_ne_zero)
      repeat' first
        | (refine Sm.mk ?_; try simp -dsimp only [ZK, rvc, drawF, headN, pureH, stp, dvc, calleeOf, gcall, pev, eff, newB, okd, og, ogs, ogo, ogp, slv, bltv, opd, litv, strip, one, both, putE, St.put, look, gdOf, gdv, picka, pickv, pickw, binv, bini, bins, binb, binp, bina, shp, eqCells, unv, convv, nilv, faddv, addp, idxav, idxp, load1, load1m, loadn, loadnm, loadv, hget, hset, hrep, hdel, slicev, bnd, shift1, lenv, IntKind.bits, extractv, fieldv, indexv, min2v, max2v, mkiv, cellsA, fillA, buildv, stC, oneC, rowMB, intsA, plN, appE, appZ, appC, appNZ, appNC, VwL, srcC, srcZ, srcM, isBoolT, isPtrT, isSliceT, uOk, Value.oneCell', Nat.reducePow, Int.reducePow, Nat.reduceAdd, Nat.reduceMul, Nat.reduceSub, Nat.reduceLT, Nat.reduceLeDiff, Nat.reduceEqDiff, Nat.reduceBEq, Nat.reduceDiv, Nat.reduceMod, ↓reduceIte, reduceCtorEq, Int.reduceToNat, Int.reduceLT, Int.reduceLE, TFAmB, SeqQ, BlkQ, LoopQ, BodyQ, u1, us, e11, e12, e13, tk, hT, FR])
        | (first | refine CallV.fn (cR) (Sm.out ?_) | refine ExF.mk (cR) (Sm.out ?_) | refine ExG.mk (fun _ => cR) (Sm.out ?_) | refine ExG.mkJ (fun _ => cR) (Sm.out ?_) | refine ExG.mkI (Ob.out ?_) (fun _ => cR) (Sm.out ?_))
        | (refine CallV.row (by simp only [hget, ↓reduceIte, FR, u1, us, e11, e12, e13, tk, hT]; first | done | rfl) (c1) (Sm.out ?_))
        | (refine CallV.mkrow (c1) (Sm.out ?_))
        | (refine CallV.upd (by simp only [hget, ↓reduceIte, FR, u1, us, e11, e12, e13, tk, hT]; first | done | rfl) (c1) (Sm.out ?_))
        | (refine CallV.mkobj (c1) (Sm.out ?_))
        | (first | refine CallV.fn (c1) (Sm.out ?_) | refine ExF.mk (c1) (Sm.out ?_) | refine ExG.mk (fun _ => c1) (Sm.out ?_) | refine ExG.mkJ (fun _ => c1) (Sm.out ?_) | refine ExG.mkI (Ob.out ?_) (fun _ => c1) (Sm.out ?_))
        | (refine CallV.row (by simp only [hget, ↓reduceIte, FR, u1, us, e11, e12, e13, tk, hT]; first | done | rfl) (c2) (Sm.out ?_))
        | (refine CallV.mkrow (c2) (Sm.out ?_))
        | (refine CallV.upd (by simp only [hget, ↓reduceIte, FR, u1, us, e11, e12, e13, tk, hT]; first | done | rfl) (c2) (Sm.out ?_))
        | (refine CallV.mkobj (c2) (Sm.out ?_))
        | (first | refine CallV.fn (c2) (Sm.out ?_) | refine ExF.mk (c2) (Sm.out ?_) | refine ExG.mk (fun _ => c2) (Sm.out ?_) | refine ExG.mkJ (fun _ => c2) (Sm.out ?_) | refine ExG.mkI (Ob.out ?_) (fun _ => c2) (Sm.out ?_))
        | (refine WP.seq fun K hK => ?_)
        | (refine WP.region (rvc_sound _ _ (Sm.out ?_)))
        | (refine WP.drawK rfl mixed (by decide +kernel) (Sm.out ?_))
        | (refine Ob.mk ?_; focus (first | assumption | omega | decide | trivial | (intro hob; simp only [hob, ZF]; done) | (intros; (repeat' refine And.intro ?_ ?_) <;> first | assumption | omega | trivial | decide) | (intros; simp only [ZE] at *; (repeat' refine And.intro ?_ ?_) <;> first | assumption | omega | trivial)))
        | (refine And.intro (Ob.out ?_) ?_)
        | (refine WP.block ?_)
        | (refine WP.cond rfl (fun hc => ?_) (fun hc => ?_) <;> (try simp only [ZC, reduceCtorEq, ZD] at hc) <;> (try (exact absurd hc (by decide))) <;> (try (exfalso; omega)))
        | ((first | refine WP.skip ?_ | refine WP.exit ?_); simp only [SeqQ, BlkQ, LoopQ, BodyQ, ↓reduceIte, Nat.reduceEqDiff, reduceCtorEq, look, true_and])
        | (refine WP.ret (Sm.out ?_))
        | (first | refine ExG.no (Sm.out ?_) | refine Or.inl (ExG.no (Sm.out ?_)) | refine Or.inl (And.intro (fun hg => absurd hg (by decide)) (ExG.no (Sm.out ?_))))
        | (refine Rt.mk ?_; refine And.intro ?_ ?_ <;> (intro hg; first | exact absurd hg (by decide) | refine Sm.out ?_))
        | (refine Nu.mk ?_; first | (fail_if_success (have := nb1)); intro nb1 | (fail_if_success (have := nb2)); intro nb2 | (fail_if_success (have := nb3)); intro nb3 | (fail_if_success (have := nb4)); intro nb4 | (fail_if_success (have := nb5)); intro nb5 | (fail_if_success (have := nb6)); intro nb6 | (fail_if_success (have := nb7)); intro nb7 | (fail_if_success (have := nb8)); intro nb8 | (fail_if_success (have := nb9)); intro nb9 | (fail_if_success (have := nb10)); intro nb10 | (fail_if_success (have := nb11)); intro nb11 | (fail_if_success (have := nb12)); intro nb12 | (fail_if_success (have := nb13)); intro nb13 | (fail_if_success (have := nb14)); intro nb14 | (fail_if_success (have := nb15)); intro nb15 | (fail_if_success (have := nb16)); intro nb16 | (fail_if_success (have := nb17)); intro nb17 | (fail_if_success (have := nb18)); intro nb18 | (fail_if_success (have := nb19)); intro nb19 | (fail_if_success (have := nb20)); intro nb20 | (fail_if_success (have := nb21)); intro nb21 | (fail_if_success (have := nb22)); intro nb22 | (fail_if_success (have := nb23)); intro nb23 | (fail_if_success (have := nb24)); intro nb24 | intro nbz)
        | (refine Fr.mk ?_; intro hfr; replace FR := And.intro hfr FR; clear hfr; refine Sm.out ?_)
        | (refine Two.mk ?_ ?_)
        | (refine Cs.mk ?_; intro hcs; first | exact False.elim hcs | (exfalso; omega) | (refine Sm.out ?_))
        | go_step
        | omega
        | (simp only [maxLen_eq]; omega)
        | (refine Or.inr (Rt.mk ?_); refine And.intro ?_ ?_ <;> (intro hg; first | exact absurd hg (by decide) | refine Sm.out ?_))
      all_goals (refine OutQ.row (by simp only [resv, ZK, look, loadv, loadn, loadnm, load1, load1m, hget, ↓reduceIte, Nat.reduceEqDiff, Nat.reduceAdd, Nat.reduceMul, Nat.reduceLeDiff, Nat.reduceLT, reduceCtorEq, TFAmB, FR]) (by simp only [resv, resA, ZK, look, loadv, loadn, loadnm, load1, load1m, hget, ↓reduceIte, Nat.reduceEqDiff, Nat.reduceAdd, Nat.reduceMul, Nat.reduceLeDiff, Nat.reduceLT, reduceCtorEq, TFAmB, FR]; first | done | rfl) (by simp only [hget, ↓reduceIte, if_true, if_false, FR]; first | done | rfl) ?_ ?_ ?_ ?_ <;> first | omega | (simp only [maxLen_eq]; omega) | skip)
      all_goals rfl
    · have us : IntKind.u64.wrap (s : Int) = (s : Int) := wrap_u64 (by omega) (by omega)
      have c1 := refNum_ct 2 (by omega)
      have c2 := refNum_ct s (by omega)
      have c3 := refNum_ct e (by omega)
      have l1 := putL_len 0 2 (by omega)
      have l2 := putL_len 0 s (by omega)
      have l3 := putL_len 0 e (by omega)
      have hT : alL 2 s 0 e = putL 0 2 ++ putL 0 s ++ putL 0 e := by unfold alL; rw [hr]; simp
      rw [hT]
      obtain ⟨D1, hD1⟩ : ∃ D1, D1 = putL 0 2 := ⟨_, rfl⟩
      obtain ⟨D2, hD2⟩ : ∃ D2, D2 = putL 0 s := ⟨_, rfl⟩
      obtain ⟨D3, hD3⟩ : ∃ D3, D3 = putL 0 e := ⟨_, rfl⟩
      rw [← hD1] at c1 l1
      rw [← hD2] at c2 l2
      rw [← hD3] at c3 l3
      rw [← hD1, ← hD2, ← hD3]
      obtain ⟨T, hT⟩ : ∃ T, D1 ++ D2 = T := ⟨_, rfl⟩
      have hTl : T.length = D1.length + D2.length := by rw [← hT, List.length_append]
      obtain ⟨T2, hT2⟩ : ∃ T2, T ++ D3 = T2 := ⟨_, rfl⟩
      have hTl2 : T2.length = T.length + D3.length := by rw [← hT2, List.length_append]
      rw [hT, hT2]
      first | (have FRx := FR; clear FRx) | (have FR : ¬ ((1 : Nat) = 0) := Nat.one_ne_zero)
      repeat' first
        | (refine Sm.mk ?_; try simp -dsimp only [ZK, rvc, drawF, headN, pureH, stp, dvc, calleeOf, gcall, pev, eff, newB, okd, og, ogs, ogo, ogp, slv, bltv, opd, litv, strip, one, both, putE, St.put, look, gdOf, gdv, picka, pickv, pickw, binv, bini, bins, binb, binp, bina, shp, eqCells, unv, convv, nilv, faddv, addp, idxav, idxp, load1, load1m, loadn, loadnm, loadv, hget, hset, hrep, hdel, slicev, bnd, shift1, lenv, IntKind.bits, extractv, fieldv, indexv, min2v, max2v, mkiv, cellsA, fillA, buildv, stC, oneC, rowMB, intsA, plN, appE, appZ, appC, appNZ, appNC, VwL, srcC, srcZ, srcM, isBoolT, isPtrT, isSliceT, uOk, Value.oneCell', Nat.reducePow, Int.reducePow, Nat.reduceAdd, Nat.reduceMul, Nat.reduceSub, Nat.reduceLT, Nat.reduceLeDiff, Nat.reduceEqDiff, Nat.reduceBEq, Nat.reduceDiv, Nat.reduceMod, ↓reduceIte, reduceCtorEq, Int.reduceToNat, Int.reduceLT, Int.reduceLE, TFAmB, SeqQ, BlkQ, LoopQ, BodyQ, u2, us, e21, e22, e23, tk, hT, hT2, FR])
        | (first | refine CallV.fn (cR) (Sm.out ?_) | refine ExF.mk (cR) (Sm.out ?_) | refine ExG.mk (fun _ => cR) (Sm.out ?_) | refine ExG.mkJ (fun _ => cR) (Sm.out ?_) | refine ExG.mkI (Ob.out ?_) (fun _ => cR) (Sm.out ?_))
        | (refine CallV.row (by simp only [hget, ↓reduceIte, FR, u2, us, e21, e22, e23, tk, hT, hT2]; first | done | rfl) (c1) (Sm.out ?_))
        | (refine CallV.mkrow (c1) (Sm.out ?_))
        | (refine CallV.upd (by simp only [hget, ↓reduceIte, FR, u2, us, e21, e22, e23, tk, hT, hT2]; first | done | rfl) (c1) (Sm.out ?_))
        | (refine CallV.mkobj (c1) (Sm.out ?_))
        | (first | refine CallV.fn (c1) (Sm.out ?_) | refine ExF.mk (c1) (Sm.out ?_) | refine ExG.mk (fun _ => c1) (Sm.out ?_) | refine ExG.mkJ (fun _ => c1) (Sm.out ?_) | refine ExG.mkI (Ob.out ?_) (fun _ => c1) (Sm.out ?_))
        | (refine CallV.row (by simp only [hget, ↓reduceIte, FR, u2, us, e21, e22, e23, tk, hT, hT2]; first | done | rfl) (c2) (Sm.out ?_))
        | (refine CallV.mkrow (c2) (Sm.out ?_))
        | (refine CallV.upd (by simp only [hget, ↓reduceIte, FR, u2, us, e21, e22, e23, tk, hT, hT2]; first | done | rfl) (c2) (Sm.out ?_))
        | (refine CallV.mkobj (c2) (Sm.out ?_))
        | (first | refine CallV.fn (c2) (Sm.out ?_) | refine ExF.mk (c2) (Sm.out ?_) | refine ExG.mk (fun _ => c2) (Sm.out ?_) | refine ExG.mkJ (fun _ => c2) (Sm.out ?_) | refine ExG.mkI (Ob.out ?_) (fun _ => c2) (Sm.out ?_))
        | (refine CallV.row (by simp only [hget, ↓reduceIte, FR, u2, us, e21, e22, e23, tk, hT, hT2]; first | done | rfl) (c3) (Sm.out ?_))
        | (refine CallV.mkrow (c3) (Sm.out ?_))
        | (refine CallV.upd (by simp only [hget, ↓reduceIte, FR, u2, us, e21, e22, e23, tk, hT, hT2]; first | done | rfl) (c3) (Sm.out ?_))
        | (refine CallV.mkobj (c3) (Sm.out ?_))
        | (first | refine CallV.fn (c3) (Sm.out ?_) | refine ExF.mk (c3) (Sm.out ?_) | refine ExG.mk (fun _ => c3) (Sm.out ?_) | refine ExG.mkJ (fun _ => c3) (Sm.out ?_) | refine ExG.mkI (Ob.out ?_) (fun _ => c3) (Sm.out ?_))
        | (refine WP.seq fun K hK => ?_)
        | (refine WP.region (rvc_sound _ _ (Sm.out ?_)))
        | (refine WP.drawK rfl mixed (by decide +kernel) (Sm.out ?_))
        | (refine Ob.mk ?_; focus (first | assumption | omega | decide | trivial | (intro hob; simp only [hob, ZF]; done) | (intros; (repeat' refine And.intro ?_ ?_) <;> first | assumption | omega | trivial | decide) | (intros; simp only [ZE] at *; (repeat' refine And.intro ?_ ?_) <;> first | assumption | omega | trivial)))
        | (refine And.intro (Ob.out ?_) ?_)
        | (refine WP.block ?_)
        | (refine WP.cond rfl (fun hc => ?_) (fun hc => ?_) <;> (try simp only [ZC, reduceCtorEq, ZD] at hc) <;> (try (exact absurd hc (by decide))) <;> (try (exfalso; omega)))
        | ((first | refine WP.skip ?_ | refine WP.exit ?_); simp only [SeqQ, BlkQ, LoopQ, BodyQ, ↓reduceIte, Nat.reduceEqDiff, reduceCtorEq, look, true_and])
        | (refine WP.ret (Sm.out ?_))
        | (first | refine ExG.no (Sm.out ?_) | refine Or.inl (ExG.no (Sm.out ?_)) | refine Or.inl (And.intro (fun hg => absurd hg (by decide)) (ExG.no (Sm.out ?_))))
        | (refine Rt.mk ?_; refine And.intro ?_ ?_ <;> (intro hg; first | exact absurd hg (by decide) | refine Sm.out ?_))
        | (refine Nu.mk ?_; first | (fail_if_success (have := nb1)); intro nb1 | (fail_if_success (have := nb2)); intro nb2 | (fail_if_success (have := nb3)); intro nb3 | (fail_if_success (have := nb4)); intro nb4 | (fail_if_success (have := nb5)); intro nb5 | (fail_if_success (have := nb6)); intro nb6 | (fail_if_success (have := nb7)); intro nb7 | (fail_if_success (have := nb8)); intro nb8 | (fail_if_success (have := nb9)); intro nb9 | (fail_if_success (have := nb10)); intro nb10 | (fail_if_success (have := nb11)); intro nb11 | (fail_if_success (have := nb12)); intro nb12 | (fail_if_success (have := nb13)); intro nb13 | (fail_if_success (have := nb14)); intro nb14 | (fail_if_success (have := nb15)); intro nb15 | (fail_if_success (have := nb16)); intro nb16 | (fail_if_success (have := nb17)); intro nb17 | (fail_if_success (have := nb18)); intro nb18 | (fail_if_success (have := nb19)); intro nb19 | (fail_if_success (have := nb20)); intro nb20 | (fail_if_success (have := nb21)); intro nb21 | (fail_if_success (have := nb22)); intro nb22 | (fail_if_success (have := nb23)); intro nb23 | (fail_if_success (have := nb24)); intro nb24 | intro nbz)
        | (refine Fr.mk ?_; intro hfr; replace FR := And.intro hfr FR; clear hfr; refine Sm.out ?_)
        | (refine Two.mk ?_ ?_)
        | (refine Cs.mk ?_; intro hcs; first | exact False.elim hcs | (exfalso; omega) | (refine Sm.out ?_))
        | go_step
        | omega
        | (simp only [maxLen_eq]; omega)
        | (refine Or.inr (Rt.mk ?_); refine And.intro ?_ ?_ <;> (intro hg; first | exact absurd hg (by decide) | refine Sm.out ?_))
      all_goals (refine OutQ.row (by simp only [resv, ZK, look, loadv, loadn, loadnm, load1, load1m, hget, ↓reduceIte, Nat.reduceEqDiff, Nat.reduceAdd, Nat.reduceMul, Nat.reduceLeDiff, Nat.reduceLT, reduceCtorEq, TFAmB, FR]) (by simp only [resv, resA, ZK, look, loadv, loadn, loadnm, load1, load1m, hget, ↓reduceIte, Nat.reduceEqDiff, Nat.reduceAdd, Nat.reduceMul, Nat.reduceLeDiff, Nat.reduceLT, reduceCtorEq, TFAmB, FR]; first | done | rfl) (by simp only [hget, ↓reduceIte, if_true, if_false, FR]; first | done | rfl) ?_ ?_ ?_ ?_ <;> first | omega | (simp only [maxLen_eq]; omega) | skip)
      all_goals rfl
    · have us : IntKind.u64.wrap (s : Int) = (s : Int) := wrap_u64 (by omega) (by omega)
      have uc : IntKind.u64.wrap (c : Int) = (c : Int) := wrap_u64 (by omega) (by omega)
      have c1 := refNum_ct 3 (by omega)
      have c2 := refNum_ct s (by omega)
      have c3 := refNum_ct e (by omega)
      have c4 := refNum_ct c (by omega)
      have l1 := putL_len 0 3 (by omega)
      have l2 := putL_len 0 s (by omega)
      have l3 := putL_len 0 e (by omega)
      have l4 := putL_len 0 c (by omega)
      have hT : alL 3 s c e = putL 0 3 ++ putL 0 s ++ putL 0 e ++ putL 0 c := by unfold alL; rw [hr]; simp
      rw [hT]
      obtain ⟨D1, hD1⟩ : ∃ D1, D1 = putL 0 3 := ⟨_, rfl⟩
      obtain ⟨D2, hD2⟩ : ∃ D2, D2 = putL 0 s := ⟨_, rfl⟩
      obtain ⟨D3, hD3⟩ : ∃ D3, D3 = putL 0 e := ⟨_, rfl⟩
      obtain ⟨D4, hD4⟩ : ∃ D4, D4 = putL 0 c := ⟨_, rfl⟩
      rw [← hD1] at c1 l1
      rw [← hD2] at c2 l2
      rw [← hD3] at c3 l3
      rw [← hD4] at c4 l4
      rw [← hD1, ← hD2, ← hD3, ← hD4]
      obtain ⟨T, hT⟩ : ∃ T, D1 ++ D2 = T := ⟨_, rfl⟩
      have hTl : T.length = D1.length + D2.length := by rw [← hT, List.length_append]
      obtain ⟨T2, hT2⟩ : ∃ T2, T ++ D3 = T2 := ⟨_, rfl⟩
      have hTl2 : T2.length = T.length + D3.length := by rw [← hT2, List.length_append]
      obtain ⟨T3, hT3⟩ : ∃ T3, T2 ++ D4 = T3 := ⟨_, rfl⟩
      have hTl3 : T3.length = T2.length + D4.length := by rw [← hT3, List.length_append]
      rw [hT, hT2, hT3]
      first | (have FRx := FR; clear FRx) | (have FR : ¬ ((1 : Nat) = 0) := Nat.one_ne_zero)
      repeat' first
        | (refine Sm.mk ?_; try simp -dsimp only [ZK, rvc, drawF, headN, pureH, stp, dvc, calleeOf, gcall, pev, eff, newB, okd, og, ogs, ogo, ogp, slv, bltv, opd, litv, strip, one, both, putE, St.put, look, gdOf, gdv, picka, pickv, pickw, binv, bini, bins, binb, binp, bina, shp, eqCells, unv, convv, nilv, faddv, addp, idxav, idxp, load1, load1m, loadn, loadnm, loadv, hget, hset, hrep, hdel, slicev, bnd, shift1, lenv, IntKind.bits, extractv, fieldv, indexv, min2v, max2v, mkiv, cellsA, fillA, buildv, stC, oneC, rowMB, intsA, plN, appE, appZ, appC, appNZ, appNC, VwL, srcC, srcZ, srcM, isBoolT, isPtrT, isSliceT, uOk, Value.oneCell', Nat.reducePow, Int.reducePow, Nat.reduceAdd, Nat.reduceMul, Nat.reduceSub, Nat.reduceLT, Nat.reduceLeDiff, Nat.reduceEqDiff, Nat.reduceBEq, Nat.reduceDiv, Nat.reduceMod, ↓reduceIte, reduceCtorEq, Int.reduceToNat, Int.reduceLT, Int.reduceLE, TFAmB, SeqQ, BlkQ, LoopQ, BodyQ, u3, us, uc, e31, e32, e33, tk, hT, hT2, hT3, FR])
        | (first | refine CallV.fn (cR) (Sm.out ?_) | refine ExF.mk (cR) (Sm.out ?_) | refine ExG.mk (fun _ => cR) (Sm.out ?_) | refine ExG.mkJ (fun _ => cR) (Sm.out ?_) | refine ExG.mkI (Ob.out ?_) (fun _ => cR) (Sm.out ?_))
        | (refine CallV.row (by simp only [hget, ↓reduceIte, FR, u3, us, uc, e31, e32, e33, tk, hT, hT2, hT3]; first | done | rfl) (c1) (Sm.out ?_))
        | (refine CallV.mkrow (c1) (Sm.out ?_))
        | (refine CallV.upd (by simp only [hget, ↓reduceIte, FR, u3, us, uc, e31, e32, e33, tk, hT, hT2, hT3]; first | done | rfl) (c1) (Sm.out ?_))
        | (refine CallV.mkobj (c1) (Sm.out ?_))
        | (first | refine CallV.fn (c1) (Sm.out ?_) | refine ExF.mk (c1) (Sm.out ?_) | refine ExG.mk (fun _ => c1) (Sm.out ?_) | refine ExG.mkJ (fun _ => c1) (Sm.out ?_) | refine ExG.mkI (Ob.out ?_) (fun _ => c1) (Sm.out ?_))
        | (refine CallV.row (by simp only [hget, ↓reduceIte, FR, u3, us, uc, e31, e32, e33, tk, hT, hT2, hT3]; first | done | rfl) (c2) (Sm.out ?_))
        | (refine CallV.mkrow (c2) (Sm.out ?_))
        | (refine CallV.upd (by simp only [hget, ↓reduceIte, FR, u3, us, uc, e31, e32, e33, tk, hT, hT2, hT3]; first | done | rfl) (c2) (Sm.out ?_))
        | (refine CallV.mkobj (c2) (Sm.out ?_))
        | (first | refine CallV.fn (c2) (Sm.out ?_) | refine ExF.mk (c2) (Sm.out ?_) | refine ExG.mk (fun _ => c2) (Sm.out ?_) | refine ExG.mkJ (fun _ => c2) (Sm.out ?_) | refine ExG.mkI (Ob.out ?_) (fun _ => c2) (Sm.out ?_))
        | (refine CallV.row (by simp only [hget, ↓reduceIte, FR, u3, us, uc, e31, e32, e33, tk, hT, hT2, hT3]; first | done | rfl) (c3) (Sm.out ?_))
        | (refine CallV.mkrow (c3) (Sm.out ?_))
        | (refine CallV.upd (by simp only [hget, ↓reduceIte, FR, u3, us, uc, e31, e32, e33, tk, hT, hT2, hT3]; first | done | rfl) (c3) (Sm.out ?_))
        | (refine CallV.mkobj (c3) (Sm.out ?_))
        | (first | refine CallV.fn (c3) (Sm.out ?_) | refine ExF.mk (c3) (Sm.out ?_) | refine ExG.mk (fun _ => c3) (Sm.out ?_) | refine ExG.mkJ (fun _ => c3) (Sm.out ?_) | refine ExG.mkI (Ob.out ?_) (fun _ => c3) (Sm.out ?_))
        | (refine CallV.row (by simp only [hget, ↓reduceIte, FR, u3, us, uc, e31, e32, e33, tk, hT, hT2, hT3]; first | done | rfl) (c4) (Sm.out ?_))
        | (refine CallV.mkrow (c4) (Sm.out ?_))
        | (refine CallV.upd (by simp only [hget, ↓reduceIte, FR, u3, us, uc, e31, e32, e33, tk, hT, hT2, hT3]; first | done | rfl) (c4) (Sm.out ?_))
        | (refine CallV.mkobj (c4) (Sm.out ?_))
        | (first | refine CallV.fn (c4) (Sm.out ?_) | refine ExF.mk (c4) (Sm.out ?_) | refine ExG.mk (fun _ => c4) (Sm.out ?_) | refine ExG.mkJ (fun _ => c4) (Sm.out ?_) | refine ExG.mkI (Ob.out ?_) (fun _ => c4) (Sm.out ?_))
        | (refine WP.seq fun K hK => ?_)
        | (refine WP.region (rvc_sound _ _ (Sm.out ?_)))
        | (refine WP.drawK rfl mixed (by decide +kernel) (Sm.out ?_))
        | (refine Ob.mk ?_; focus (first | assumption | omega | decide | trivial | (intro hob; simp only [hob, ZF]; done) | (intros; (repeat' refine And.intro ?_ ?_) <;> first | assumption | omega | trivial | decide) | (intros; simp only [ZE] at *; (repeat' refine And.intro ?_ ?_) <;> first | assumption | omega | trivial)))
        | (refine And.intro (Ob.out ?_) ?_)
        | (refine WP.block ?_)
        | (refine WP.cond rfl (fun hc => ?_) (fun hc => ?_) <;> (try simp only [ZC, reduceCtorEq, ZD] at hc) <;> (try (exact absurd hc (by decide))) <;> (try (exfalso; omega)))
        | ((first | refine WP.skip ?_ | refine WP.exit ?_); simp only [SeqQ, BlkQ, LoopQ, BodyQ, ↓reduceIte, Nat.reduceEqDiff, reduceCtorEq, look, true_and])
        | (refine WP.ret (Sm.out ?_))
        | (first | refine ExG.no (Sm.out ?_) | refine Or.inl (ExG.no (Sm.out ?_)) | refine Or.inl (And.intro (fun hg => absurd hg (by decide)) (ExG.no (Sm.out ?_))))
        | (refine Rt.mk ?_; refine And.intro ?_ ?_ <;> (intro hg; first | exact absurd hg (by decide) | refine Sm.out ?_))
        | (refine Nu.mk ?_; first | (fail_if_success (have := nb1)); intro nb1 | (fail_if_success (have := nb2)); intro nb2 | (fail_if_success (have := nb3)); intro nb3 | (fail_if_success (have := nb4)); intro nb4 | (fail_if_success (have := nb5)); intro nb5 | (fail_if_success (have := nb6)); intro nb6 | (fail_if_success (have := nb7)); intro nb7 | (fail_if_success (have := nb8)); intro nb8 | (fail_if_success (have := nb9)); intro nb9 | (fail_if_success (have := nb10)); intro nb10 | (fail_if_success (have := nb11)); intro nb11 | (fail_if_success (have := nb12)); intro nb12 | (fail_if_success (have := nb13)); intro nb13 | (fail_if_success (have := nb14)); intro nb14 | (fail_if_success (have := nb15)); intro nb15 | (fail_if_success (have := nb16)); intro nb16 | (fail_if_success (have := nb17)); intro nb17 | (fail_if_success (have := nb18)); intro nb18 | (fail_if_success (have := nb19)); intro nb19 | (fail_if_success (have := nb20)); intro nb20 | (fail_if_success (have := nb21)); intro nb21 | (fail_if_success (have := nb22)); intro nb22 | (fail_if_success (have := nb23)); intro nb23 | (fail_if_success (have := nb24)); intro nb24 | intro nbz)
        | (refine Fr.mk ?_; intro hfr; replace FR := And.intro hfr FR; clear hfr; refine Sm.out ?_)
        | (refine Two.mk ?_ ?_)
        | (refine Cs.mk ?_; intro hcs; first | exact False.elim hcs | (exfalso; omega) | (refine Sm.out ?_))
        | go_step
        | omega
        | (simp only [maxLen_eq]; omega)
        | (refine Or.inr (Rt.mk ?_); refine And.intro ?_ ?_ <;> (intro hg; first | exact absurd hg (by decide) | refine Sm.out ?_))
      all_goals (refine OutQ.row (by simp only [resv, ZK, look, loadv, loadn, loadnm, load1, load1m, hget, ↓reduceIte, Nat.reduceEqDiff, Nat.reduceAdd, Nat.reduceMul, Nat.reduceLeDiff, Nat.reduceLT, reduceCtorEq, TFAmB, FR]) (by simp only [resv, resA, ZK, look, loadv, loadn, loadnm, load1, load1m, hget, ↓reduceIte, Nat.reduceEqDiff, Nat.reduceAdd, Nat.reduceMul, Nat.reduceLeDiff, Nat.reduceLT, reduceCtorEq, TFAmB, FR]; first | done | rfl) (by simp only [hget, ↓reduceIte, if_true, if_false, FR]; first | done | rfl) ?_ ?_ ?_ ?_ <;> first | omega | (simp only [maxLen_eq]; omega) | skip)
      all_goals rfl
end Go.Proofs.Ytljfldoekamccaa
