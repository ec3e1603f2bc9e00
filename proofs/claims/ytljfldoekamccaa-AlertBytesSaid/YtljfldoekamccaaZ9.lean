/-
  The walks and the laws that the statement leans on, part 9.
-/
import Derived.Test.YtljfldoekamccaaZ8
namespace Go.Proofs.Ytljfldoekamccaa
open Go Wi
set_option linter.unusedVariables false
set_option linter.unusedSimpArgs false
theorem TFAmC : ((((((type_of% tyc0) ∧ (type_of% tyc2)) ∧ ((type_of% zmb2) ∧ (type_of% tyc3))) ∧ (((type_of% zmb3) ∧ (type_of% tyc4)) ∧ ((type_of% zmb4) ∧ (type_of% tyc22)))) ∧ ((((type_of% zmb22) ∧ (type_of% tyc32)) ∧ ((type_of% foff32_0) ∧ (type_of% fpart32_0))) ∧ (((type_of% foff32_1) ∧ (type_of% fpart32_1)) ∧ ((type_of% foff32_2) ∧ ((type_of% fpart32_2) ∧ (type_of% foff32_3)))))) ∧ (((((type_of% fpart32_3) ∧ (type_of% fe32)) ∧ ((type_of% zmb32) ∧ (type_of% bldT32))) ∧ (((type_of% tyc44) ∧ (type_of% mth44_35)) ∧ ((type_of% mth44_36) ∧ (type_of% mth44_39)))) ∧ ((((type_of% con44) ∧ (type_of% zmb44)) ∧ ((type_of% Try.underlying0) ∧ (type_of% Try.underlying2))) ∧ (((type_of% Try.underlying3) ∧ (type_of% Try.underlying4)) ∧ ((type_of% Try.underlying22) ∧ ((type_of% Try.underlying32) ∧ (type_of% Try.underlying44))))))) :=
  ⟨⟨⟨⟨⟨tyc0, tyc2⟩, ⟨zmb2, tyc3⟩⟩, ⟨⟨zmb3, tyc4⟩, ⟨zmb4, tyc22⟩⟩⟩, ⟨⟨⟨zmb22, tyc32⟩, ⟨foff32_0, fpart32_0⟩⟩, ⟨⟨foff32_1, fpart32_1⟩, ⟨foff32_2, ⟨fpart32_2, foff32_3⟩⟩⟩⟩⟩, ⟨⟨⟨⟨fpart32_3, fe32⟩, ⟨zmb32, bldT32⟩⟩, ⟨⟨tyc44, mth44_35⟩, ⟨mth44_36, mth44_39⟩⟩⟩, ⟨⟨⟨con44, zmb44⟩, ⟨Try.underlying0, Try.underlying2⟩⟩, ⟨⟨Try.underlying3, Try.underlying4⟩, ⟨Try.underlying22, ⟨Try.underlying32, Try.underlying44⟩⟩⟩⟩⟩⟩
/-- a reader in whatever state -/
def stM : Option (List Int) → MB
  | none => rdN
  | some zs => rd zs false
def okS : Option (List Int) → Prop
  | none => True
  | some zs => By zs ∧ zs.length ≤ 10000
def nS : Option (List Int) → Nat × Option (List Int)
  | none => (0, none)
  | some zs => match nF zs with
    | none => (0, none)
    | some (n, r) => (n, some r)
theorem nS_ok {o : Option (List Int)} (h : okS o) : okS (nS o).2 ∧ (nS o).1 < 18446744073709551616 := by
  cases o with
  | none => exact ⟨trivial, by simp [nS]⟩
  | some zs =>
    cases hn : nF zs with
    | none => simp [nS, hn, okS]
    | some p =>
      obtain ⟨n, r⟩ := p
      have := nF_bd h.1 hn
      have := h.2
      simp only [nS, hn, okS]
      exact ⟨⟨(nF_bd h.1 hn).2.1, by omega⟩, by omega⟩
theorem numS (b : Nat) (o : Option (List Int)) (h : okS o) : ACt Try.prog 30 [pt b 0] [(b, stM o)] (fun r F' => r = iv .u64 ((nS o).1 : Int) ∧ F' = [(b, stM (nS o).2)]) := by
  cases o with
  | none => exact numN b
  | some zs =>
    have c := numX b zs h.1 h.2
    cases hn : nF zs with
    | none => rw [hn] at c; simp only [nS, hn]; exact c
    | some p => obtain ⟨n, r⟩ := p; rw [hn] at c; simp only [nS, hn]; exact c
theorem badS (b : Nat) (o : Option (List Int)) : ACt Try.prog 21 [pt b 0] [(b, stM o)] (fun r F' => r = bv o.isNone ∧ F' = [(b, stM o)]) := by
  cases o with
  | none => exact bad_e b true
  | some zs => exact badR b zs false
theorem spoilS (b : Nat) (o : Option (List Int)) (h : okS o) : ACt Try.prog 28 [pt b 0, iv .i64 (-1)] [(b, stM o)] (fun r F' => r = iv .i64 0 ∧ F' = [(b, rdN)]) := by
  cases o with
  | none => exact countN b (-1) (by omega) (by omega)
  | some zs =>
    have c := countX b zs (-1) h.1 h.2 (by omega) (by omega)
    have e : cF (-1) zs = none := by
      unfold cF
      split <;> simp
    rw [e] at c
    exact c
/-- a tick, or what is behind all -/
def tk (n : Nat) : Nat := if 253402300800 < n then 253402300800 else n
theorem tickS (b : Nat) (o : Option (List Int)) (h : okS o) : ACt Try.prog 29 [pt b 0] [(b, stM o)] (fun r F' => r = iv .i64 (tk (nS o).1 : Int) ∧ F' = [(b, stM (nS o).2)]) := by
  have c := numS b o h
  obtain ⟨n, hn⟩ : ∃ n, n = (nS o).1 := ⟨_, rfl⟩
  obtain ⟨M, hM⟩ : ∃ M, M = stM o := ⟨_, rfl⟩
  obtain ⟨M', hM'⟩ : ∃ M', M' = stM (nS o).2 := ⟨_, rfl⟩
  rw [← hn, ← hM, ← hM'] at c
  rw [← hn, ← hM, ← hM']
  refine ACt.intro Try.func29 rfl (by kernel_rfl) (by simp [Try.ntmps29]) (fun cx => ?_)
  simp only [argE, Try.ntmps29, Try.results29]
  by_cases hc : 253402300800 < n
  · have e1 : (253402300800 : Int) < (n : Int) := by omega
    have e2 : tk n = 253402300800 := by unfold tk; rw [if_pos hc]
    have e3 : IntKind.i64.wrap 253402300800 = 253402300800 := by decide
    rw [e2]
    first | (have FRx := FR; clear FRx) | (have FR : Sm (¬ ((1 : Nat) = 0)) := Sm.mk Nat.one_ne_zero)
    repeat' first
      | (refine Sm.mk ?_; try simp -dsimp only [ZK, rvc, drawF, headN, pureH, stp, dvc, calleeOf, gcall, pev, eff, newB, okd, og, ogs, ogo, ogp, slv, bltv, opd, litv, strip, one, both, putE, St.put, look, gdOf, gdv, picka, pickv, pickw, binv, bini, bins, binb, binp, bina, shp, eqCells, unv, convv, nilv, faddv, addp, idxav, idxp, load1, load1m, loadn, loadnm, loadv, hget, hset, hrep, hdel, slicev, bnd, shift1, lenv, IntKind.bits, extractv, fieldv, indexv, min2v, max2v, mkiv, cellsA, fillA, buildv, stC, oneC, rowMB, intsA, plN, appE, appZ, appC, appNZ, appNC, VwL, srcC, srcZ, srcM, isBoolT, isPtrT, isSliceT, uOk, Value.oneCell', Nat.reducePow, Int.reducePow, Nat.reduceAdd, Nat.reduceMul, Nat.reduceSub, Nat.reduceLT, Nat.reduceLeDiff, Nat.reduceEqDiff, Nat.reduceBEq, Nat.reduceDiv, Nat.reduceMod, ↓reduceIte, reduceCtorEq, Int.reduceToNat, Int.reduceLT, Int.reduceLE, TFAmC, SeqQ, BlkQ, LoopQ, BodyQ, e1, e3, FR.out])
      | (refine CallV.upd (by simp only [hget, ↓reduceIte, FR.out, e1, e3]; first | done | rfl) (c) (Sm.out ?_))
      | (refine WP.seq fun K hK => ?_)
      | (refine WP.region (rvc_sound _ _ (Sm.out ?_)))
      | (refine WP.drawK rfl mixed (by decide +kernel) (Sm.out ?_))
      | (refine Ob.mk ?_; focus (first | assumption | omega | decide | trivial | (intro hob; simp only [hob, ZF]; done) | (intros; (repeat' refine And.intro ?_ ?_) <;> first | assumption | omega | trivial | decide) | (intros; simp only [ZE] at *; (repeat' refine And.intro ?_ ?_) <;> first | assumption | omega | trivial)))
      | (refine And.intro (Ob.out ?_) ?_)
      | (refine WP.block ?_)
      | (refine WP.cond rfl (fun hc => ?_) (fun hc => ?_) <;> (try simp only [ZC, reduceCtorEq, ZD] at hc) <;> (try (exact absurd hc (by decide))) <;> (try (exfalso; omega)))
      | ((first | refine WP.skip ?_ | refine WP.exit ?_); simp only [SeqQ, BlkQ, LoopQ, BodyQ, ↓reduceIte, Nat.reduceEqDiff, reduceCtorEq, look, true_and])
      | (refine WP.ret (Sm.out ?_))
      | (first | refine ExG.no (Sm.out ?_) | refine Or.inl (ExG.no (Sm.out ?_)) | refine Or.inl (And.intro (fun hg => absurd hg (by decide)) (ExG.no (Sm.out ?_))))
      | (refine Rt.mk ?_; refine And.intro ?_ ?_ <;> (intro hg; first | exact absurd hg (by decide) | refine Sm.out ?_))
      | (refine Nu.mk ?_; first | (fail_if_success (have := nb1)); intro nb1 | (fail_if_success (have := nb2)); intro nb2 | (fail_if_success (have := nb3)); intro nb3 | intro nbz)
      | (refine Fr.mk ?_; intro hfr; (first | (have hFRb : _ ≤ _ ∧ _ ≤ _ := And.intro hfr.1 hfr.2.1) | skip); replace FR := Sm.mk (And.intro hfr FR.out); clear hfr; refine Sm.out ?_)
      | (refine Two.mk ?_ ?_)
      | (refine Cs.mk ?_; intro hcs; first | exact False.elim hcs | (exfalso; omega) | (refine Sm.out ?_))
      | go_step
      | omega
      | (simp only [maxLen_eq]; omega)
    (refine OutQ.upd (by simp only [resv, ZK, look, loadv, loadn, loadnm, load1, load1m, hget, ↓reduceIte, Nat.reduceEqDiff, Nat.reduceAdd, Nat.reduceMul, Nat.reduceLeDiff, Nat.reduceLT, reduceCtorEq, TFAmC, FR.out]) (by simp only [resv, resA, ZK, look, loadv, loadn, loadnm, load1, load1m, hget, ↓reduceIte, Nat.reduceEqDiff, Nat.reduceAdd, Nat.reduceMul, Nat.reduceLeDiff, Nat.reduceLT, reduceCtorEq, TFAmC, FR.out]; first | done | rfl) (by simp only [hget, ↓reduceIte, if_true, if_false, FR.out]; first | done | rfl) ?_ <;> first | exact rfl | (simp only [ZK, look, loadv, loadn, loadnm, load1, load1m, hget, ↓reduceIte, Nat.reduceEqDiff, Nat.reduceAdd, Nat.reduceMul, Nat.reduceLeDiff, Nat.reduceLT, reduceCtorEq, TFAmC, FR.out]; done) | skip)
  · have e1 : ¬ (253402300800 : Int) < (n : Int) := by omega
    have e2 : tk n = n := by unfold tk; rw [if_neg hc]
    have e3 : IntKind.i64.wrap (n : Int) = (n : Int) := wrap_i64 (by omega) (by omega)
    rw [e2]
    first | (have FRx := FR; clear FRx) | (have FR : Sm (¬ ((1 : Nat) = 0)) := Sm.mk Nat.one_ne_zero)
    repeat' first
      | (refine Sm.mk ?_; try simp -dsimp only [ZK, rvc, drawF, headN, pureH, stp, dvc, calleeOf, gcall, pev, eff, newB, okd, og, ogs, ogo, ogp, slv, bltv, opd, litv, strip, one, both, putE, St.put, look, gdOf, gdv, picka, pickv, pickw, binv, bini, bins, binb, binp, bina, shp, eqCells, unv, convv, nilv, faddv, addp, idxav, idxp, load1, load1m, loadn, loadnm, loadv, hget, hset, hrep, hdel, slicev, bnd, shift1, lenv, IntKind.bits, extractv, fieldv, indexv, min2v, max2v, mkiv, cellsA, fillA, buildv, stC, oneC, rowMB, intsA, plN, appE, appZ, appC, appNZ, appNC, VwL, srcC, srcZ, srcM, isBoolT, isPtrT, isSliceT, uOk, Value.oneCell', Nat.reducePow, Int.reducePow, Nat.reduceAdd, Nat.reduceMul, Nat.reduceSub, Nat.reduceLT, Nat.reduceLeDiff, Nat.reduceEqDiff, Nat.reduceBEq, Nat.reduceDiv, Nat.reduceMod, ↓reduceIte, reduceCtorEq, Int.reduceToNat, Int.reduceLT, Int.reduceLE, TFAmC, SeqQ, BlkQ, LoopQ, BodyQ, e1, e3, FR.out])
      | (refine CallV.upd (by simp only [hget, ↓reduceIte, FR.out, e1, e3]; first | done | rfl) (c) (Sm.out ?_))
      | (refine WP.seq fun K hK => ?_)
      | (refine WP.region (rvc_sound _ _ (Sm.out ?_)))
      | (refine WP.drawK rfl mixed (by decide +kernel) (Sm.out ?_))
      | (refine Ob.mk ?_; focus (first | assumption | omega | decide | trivial | (intro hob; simp only [hob, ZF]; done) | (intros; (repeat' refine And.intro ?_ ?_) <;> first | assumption | omega | trivial | decide) | (intros; simp only [ZE] at *; (repeat' refine And.intro ?_ ?_) <;> first | assumption | omega | trivial)))
      | (refine And.intro (Ob.out ?_) ?_)
      | (refine WP.block ?_)
      | (refine WP.cond rfl (fun hc => ?_) (fun hc => ?_) <;> (try simp only [ZC, reduceCtorEq, ZD] at hc) <;> (try (exact absurd hc (by decide))) <;> (try (exfalso; omega)))
      | ((first | refine WP.skip ?_ | refine WP.exit ?_); simp only [SeqQ, BlkQ, LoopQ, BodyQ, ↓reduceIte, Nat.reduceEqDiff, reduceCtorEq, look, true_and])
      | (refine WP.ret (Sm.out ?_))
      | (first | refine ExG.no (Sm.out ?_) | refine Or.inl (ExG.no (Sm.out ?_)) | refine Or.inl (And.intro (fun hg => absurd hg (by decide)) (ExG.no (Sm.out ?_))))
      | (refine Rt.mk ?_; refine And.intro ?_ ?_ <;> (intro hg; first | exact absurd hg (by decide) | refine Sm.out ?_))
      | (refine Nu.mk ?_; first | (fail_if_success (have := nb1)); intro nb1 | (fail_if_success (have := nb2)); intro nb2 | (fail_if_success (have := nb3)); intro nb3 | intro nbz)
      | (refine Fr.mk ?_; intro hfr; (first | (have hFRb : _ ≤ _ ∧ _ ≤ _ := And.intro hfr.1 hfr.2.1) | skip); replace FR := Sm.mk (And.intro hfr FR.out); clear hfr; refine Sm.out ?_)
      | (refine Two.mk ?_ ?_)
      | (refine Cs.mk ?_; intro hcs; first | exact False.elim hcs | (exfalso; omega) | (refine Sm.out ?_))
      | go_step
      | omega
      | (simp only [maxLen_eq]; omega)
    (refine OutQ.upd (by simp only [resv, ZK, look, loadv, loadn, loadnm, load1, load1m, hget, ↓reduceIte, Nat.reduceEqDiff, Nat.reduceAdd, Nat.reduceMul, Nat.reduceLeDiff, Nat.reduceLT, reduceCtorEq, TFAmC, FR.out]) (by simp only [resv, resA, ZK, look, loadv, loadn, loadnm, load1, load1m, hget, ↓reduceIte, Nat.reduceEqDiff, Nat.reduceAdd, Nat.reduceMul, Nat.reduceLeDiff, Nat.reduceLT, reduceCtorEq, TFAmC, FR.out]; first | done | rfl) (by simp only [hget, ↓reduceIte, if_true, if_false, FR.out]; first | done | rfl) ?_ <;> first | exact rfl | (simp only [ZK, look, loadv, loadn, loadnm, load1, load1m, hget, ↓reduceIte, Nat.reduceEqDiff, Nat.reduceAdd, Nat.reduceMul, Nat.reduceLeDiff, Nat.reduceLT, reduceCtorEq, TFAmC, FR.out]; done) | skip)
def fin (p s c e : Nat) (o : Option (List Int)) : AV × MB := if o.isSome && rightP p s c e then (alA p s c e, stM o) else (alA 0 0 0 0, rdN)
def gS (ph : Nat) (o : Option (List Int)) : AV × MB :=
  if ph = 0 then fin 0 0 0 0 o
  else if ph = 1 then fin 1 (tk (nS o).1) 0 0 (nS o).2
  else if ph = 2 then fin 2 (tk (nS o).1) 0 (nS (nS o).2).1 (nS (nS o).2).2
  else fin 3 (tk (nS o).1) (tk (nS (nS (nS o).2).2).1) (nS (nS o).2).1 (nS (nS (nS o).2).2).2
set_option maxRecDepth 8000 in
set_option maxHeartbeats 4000000 in
theorem Get_st (b : Nat) (st : MB) (ph : Nat) (o : Option (List Int)) (hph : ph ≤ 3) (h : okS o) (cC : ACt Try.prog 28 [pt b 0, iv .i64 3] [(b, st)] (fun r F' => r = iv .i64 (ph : Int) ∧ F' = [(b, stM o)])) :
    ACt Try.prog 17 [pt b 0] [(b, st)] (fun r F' => r = (gS ph o).1 ∧ F' = [(b, (gS ph o).2)]) := by
  have h1 := nS_ok h
  have h2 := nS_ok h1.1
  have h3 := nS_ok h2.1
  have c1 := tickS b o h
  have c2 := numS b (nS o).2 h1.1
  have c3 := tickS b (nS (nS o).2).2 h2.1
  obtain ⟨s, hs⟩ : ∃ s, s = tk (nS o).1 := ⟨_, rfl⟩
  obtain ⟨e, he⟩ : ∃ e, e = (nS (nS o).2).1 := ⟨_, rfl⟩
  obtain ⟨c, hc⟩ : ∃ c, c = tk (nS (nS (nS o).2).2).1 := ⟨_, rfl⟩
  unfold gS
  rw [← hs] at c1 ⊢
  rw [← he] at c2 ⊢
  rw [← hc] at c3 ⊢
  have b0 := badS b o
  have s0 := spoilS b o h
  have b1 := badS b (nS o).2
  have s1 := spoilS b (nS o).2 h1.1
  have b2 := badS b (nS (nS o).2).2
  have s2 := spoilS b (nS (nS o).2).2 h2.1
  have b3 := badS b (nS (nS (nS o).2).2).2
  have s3 := spoilS b (nS (nS (nS o).2).2).2 h3.1
  obtain ⟨o3, ho3⟩ : ∃ o3, o3 = (nS (nS (nS o).2).2).2 := ⟨_, rfl⟩
  rw [← ho3] at c3 b3 s3 ⊢
  obtain ⟨o2, ho2⟩ : ∃ o2, o2 = (nS (nS o).2).2 := ⟨_, rfl⟩
  rw [← ho2] at c2 c3 b2 s2 ⊢
  obtain ⟨o1, ho1⟩ : ∃ o1, o1 = (nS o).2 := ⟨_, rfl⟩
  rw [← ho1] at c1 c2 b1 s1 ⊢
  clear h1 h2 h3 hs he hc ho1 ho2 ho3
  have e01 : decide ((0 : Int) ≥ 1) = false := by decide
  have e02 : decide ((0 : Int) ≥ 2) = false := by decide
  have e03 : ((0 : Int) == 3) = false := by decide
  have e11 : decide ((1 : Int) ≥ 1) = true := by decide
  have e12 : decide ((1 : Int) ≥ 2) = false := by decide
  have e13 : ((1 : Int) == 3) = false := by decide
  have e21 : decide ((2 : Int) ≥ 1) = true := by decide
  have e22 : decide ((2 : Int) ≥ 2) = true := by decide
  have e23 : ((2 : Int) == 3) = false := by decide
  have e31 : decide ((3 : Int) ≥ 1) = true := by decide
  have e32 : decide ((3 : Int) ≥ 2) = true := by decide
  have e33 : ((3 : Int) == 3) = true := by decide
  refine ACt.intro Try.func17 rfl (by kernel_rfl) (by simp [Try.ntmps17]) (fun cx => ?_)
  simp only [argE, Try.ntmps17, Try.results17]
  match ph, hph with
  | 0, _ =>
    have cR := right_ct 0 0 0 0
    rw [right_zero] at cR
    rw [if_pos rfl]
    cases o with
    | none =>
      have b0 : ACt Try.prog 21 [pt b 0] [(b, stM none)] (fun r F' => r = bv true ∧ F' = [(b, stM none)]) := b0
      simp only [fin, Option.isSome_none, Bool.false_and, Bool.false_eq_true, if_false]
      first | (have FRx := FR; clear FRx) | (have FR : Sm (¬ ((1 : Nat) = 0)) := Sm.mk Nat.one_ne_zero)
      repeat' first
        | (refine Sm.mk ?_; try simp -dsimp only [ZK, rvc, drawF, headN, pureH, stp, dvc, calleeOf, gcall, pev, eff, newB, okd, og, ogs, ogo, ogp, slv, bltv, opd, litv, strip, one, both, putE, St.put, look, gdOf, gdv, picka, pickv, pickw, binv, bini, bins, binb, binp, bina, shp, eqCells, unv, convv, nilv, faddv, addp, idxav, idxp, load1, load1m, loadn, loadnm, loadv, hget, hset, hrep, hdel, slicev, bnd, shift1, lenv, IntKind.bits, extractv, fieldv, indexv, min2v, max2v, mkiv, cellsA, fillA, buildv, stC, oneC, rowMB, intsA, plN, appE, appZ, appC, appNZ, appNC, VwL, srcC, srcZ, srcM, isBoolT, isPtrT, isSliceT, uOk, Value.oneCell', Nat.reducePow, Int.reducePow, Nat.reduceAdd, Nat.reduceMul, Nat.reduceSub, Nat.reduceLT, Nat.reduceLeDiff, Nat.reduceEqDiff, Nat.reduceBEq, Nat.reduceDiv, Nat.reduceMod, ↓reduceIte, reduceCtorEq, Int.reduceToNat, Int.reduceLT, Int.reduceLE, TFAmC, SeqQ, BlkQ, LoopQ, BodyQ, e01, e02, e03, FR.out])
        | (refine CallV.upd (by simp only [hget, ↓reduceIte, FR.out, e01, e02, e03]; first | done | rfl) (cC) (Sm.out ?_))
        | (refine CallV.updN (perm1 (by simp only [hget, hdel, ↓reduceIte, FR.out, e01, e02, e03]; first | done | rfl)) (b0) (Sm.out ?_))
        | ((first | refine ExF.up ?_ (b0) (Sm.out ?_) | refine ExG.up ?_ (fun _ => b0) (Sm.out ?_) | refine ExG.upJ ?_ (fun _ => b0) (Sm.out ?_) | refine ExG.upI ?_ (fun _ => b0) (Ob.out ?_) (Sm.out ?_)); focus (exact ⟨_, (perm1 (by simp only [hget, hdel, ↓reduceIte, FR.out, e01, e02, e03]; first | done | rfl))⟩))
        | (first | refine CallV.fn (cR) (Sm.out ?_) | refine ExF.mk (cR) (Sm.out ?_) | refine ExG.mk (fun _ => cR) (Sm.out ?_) | refine ExG.mkJ (fun _ => cR) (Sm.out ?_) | refine ExG.mkI (Ob.out ?_) (fun _ => cR) (Sm.out ?_))
        | (refine CallV.updN (perm1 (by simp only [hget, hdel, ↓reduceIte, FR.out, e01, e02, e03]; first | done | rfl)) (s0) (Sm.out ?_))
        | (refine WP.seq fun K hK => ?_)
        | (refine WP.region (rvc_sound _ _ (Sm.out ?_)))
        | (refine WP.drawK rfl mixed (by decide +kernel) (Sm.out ?_))
        | (refine Ob.mk ?_; focus (first | assumption | omega | decide | trivial | (intro hob; simp only [hob, ZF]; done) | (intros; (repeat' refine And.intro ?_ ?_) <;> first | assumption | omega | trivial | decide) | (intros; simp only [ZE] at *; (repeat' refine And.intro ?_ ?_) <;> first | assumption | omega | trivial)))
        | (refine And.intro (Ob.out ?_) ?_)
        | (refine WP.block ?_)
        | (refine WP.cond rfl (fun hc => ?_) (fun hc => ?_) <;> (try simp only [ZC, reduceCtorEq, ZD] at hc) <;> (try (exact absurd hc (by decide))) <;> (try (exfalso; omega)))
        | ((first | refine WP.skip ?_ | refine WP.exit ?_); simp only [SeqQ, BlkQ, LoopQ, BodyQ, ↓reduceIte, Nat.reduceEqDiff, reduceCtorEq, look, true_and])
        | (refine WP.ret (Sm.out ?_))
        | (first | refine ExG.no (Sm.out ?_) | refine Or.inl (ExG.no (Sm.out ?_)) | refine Or.inl (And.intro (fun hg => absurd hg (by decide)) (ExG.no (Sm.out ?_))))
        | (refine Rt.mk ?_; refine And.intro ?_ ?_ <;> (intro hg; first | exact absurd hg (by decide) | refine Sm.out ?_))
        | (refine Nu.mk ?_; first | (fail_if_success (have := nb1)); intro nb1 | (fail_if_success (have := nb2)); intro nb2 | (fail_if_success (have := nb3)); intro nb3 | intro nbz)
        | (refine Fr.mk ?_; intro hfr; (first | (have hFRb : _ ≤ _ ∧ _ ≤ _ := And.intro hfr.1 hfr.2.1) | skip); replace FR := Sm.mk (And.intro hfr FR.out); clear hfr; refine Sm.out ?_)
        | (refine Two.mk ?_ ?_)
        | (refine Cs.mk ?_; intro hcs; first | exact False.elim hcs | (exfalso; omega) | (refine Sm.out ?_))
        | go_step
        | omega
        | (simp only [maxLen_eq]; omega)
      (refine OutQ.drop _ _ (perm1 (by simp only [hget, hdel, ↓reduceIte, if_true, if_false, FR.out]; first | done | rfl)) (by simp only [resv, ZK, look, loadv, loadn, loadnm, load1, load1m, hget, ↓reduceIte, Nat.reduceEqDiff, Nat.reduceAdd, Nat.reduceMul, Nat.reduceLeDiff, Nat.reduceLT, reduceCtorEq, TFAmC, FR.out]) ⟨(by simp only [resv, resA, ZK, look, loadv, loadn, loadnm, load1, load1m, hget, ↓reduceIte, Nat.reduceEqDiff, Nat.reduceAdd, Nat.reduceMul, Nat.reduceLeDiff, Nat.reduceLT, reduceCtorEq, TFAmC, FR.out]; first | done | rfl), rfl⟩)
    | some zs =>
      have b0 : ACt Try.prog 21 [pt b 0] [(b, stM (some zs))] (fun r F' => r = bv false ∧ F' = [(b, stM (some zs))]) := b0
      have hf : fin 0 0 0 0 (some zs) = (alA 0 0 0 0, stM (some zs)) := by unfold fin; rw [if_pos (by simp [right_zero])]; rfl
      rw [hf]
      first | (have FRx := FR; clear FRx) | (have FR : Sm (¬ ((1 : Nat) = 0)) := Sm.mk Nat.one_ne_zero)
      repeat' first
        | (refine Sm.mk ?_; try simp -dsimp only [ZK, rvc, drawF, headN, pureH, stp, dvc, calleeOf, gcall, pev, eff, newB, okd, og, ogs, ogo, ogp, slv, bltv, opd, litv, strip, one, both, putE, St.put, look, gdOf, gdv, picka, pickv, pickw, binv, bini, bins, binb, binp, bina, shp, eqCells, unv, convv, nilv, faddv, addp, idxav, idxp, load1, load1m, loadn, loadnm, loadv, hget, hset, hrep, hdel, slicev, bnd, shift1, lenv, IntKind.bits, extractv, fieldv, indexv, min2v, max2v, mkiv, cellsA, fillA, buildv, stC, oneC, rowMB, intsA, plN, appE, appZ, appC, appNZ, appNC, VwL, srcC, srcZ, srcM, isBoolT, isPtrT, isSliceT, uOk, Value.oneCell', Nat.reducePow, Int.reducePow, Nat.reduceAdd, Nat.reduceMul, Nat.reduceSub, Nat.reduceLT, Nat.reduceLeDiff, Nat.reduceEqDiff, Nat.reduceBEq, Nat.reduceDiv, Nat.reduceMod, ↓reduceIte, reduceCtorEq, Int.reduceToNat, Int.reduceLT, Int.reduceLE, TFAmC, SeqQ, BlkQ, LoopQ, BodyQ, e01, e02, e03, FR.out])
        | (refine CallV.upd (by simp only [hget, ↓reduceIte, FR.out, e01, e02, e03]; first | done | rfl) (cC) (Sm.out ?_))
        | (refine CallV.updN (perm1 (by simp only [hget, hdel, ↓reduceIte, FR.out, e01, e02, e03]; first | done | rfl)) (b0) (Sm.out ?_))
        | ((first | refine ExF.up ?_ (b0) (Sm.out ?_) | refine ExG.up ?_ (fun _ => b0) (Sm.out ?_) | refine ExG.upJ ?_ (fun _ => b0) (Sm.out ?_) | refine ExG.upI ?_ (fun _ => b0) (Ob.out ?_) (Sm.out ?_)); focus (exact ⟨_, (perm1 (by simp only [hget, hdel, ↓reduceIte, FR.out, e01, e02, e03]; first | done | rfl))⟩))
        | (first | refine CallV.fn (cR) (Sm.out ?_) | refine ExF.mk (cR) (Sm.out ?_) | refine ExG.mk (fun _ => cR) (Sm.out ?_) | refine ExG.mkJ (fun _ => cR) (Sm.out ?_) | refine ExG.mkI (Ob.out ?_) (fun _ => cR) (Sm.out ?_))
        | (refine CallV.updN (perm1 (by simp only [hget, hdel, ↓reduceIte, FR.out, e01, e02, e03]; first | done | rfl)) (s0) (Sm.out ?_))
        | (refine WP.seq fun K hK => ?_)
        | (refine WP.region (rvc_sound _ _ (Sm.out ?_)))
        | (refine WP.drawK rfl mixed (by decide +kernel) (Sm.out ?_))
        | (refine Ob.mk ?_; focus (first | assumption | omega | decide | trivial | (intro hob; simp only [hob, ZF]; done) | (intros; (repeat' refine And.intro ?_ ?_) <;> first | assumption | omega | trivial | decide) | (intros; simp only [ZE] at *; (repeat' refine And.intro ?_ ?_) <;> first | assumption | omega | trivial)))
        | (refine And.intro (Ob.out ?_) ?_)
        | (refine WP.block ?_)
        | (refine WP.cond rfl (fun hc => ?_) (fun hc => ?_) <;> (try simp only [ZC, reduceCtorEq, ZD] at hc) <;> (try (exact absurd hc (by decide))) <;> (try (exfalso; omega)))
        | ((first | refine WP.skip ?_ | refine WP.exit ?_); simp only [SeqQ, BlkQ, LoopQ, BodyQ, ↓reduceIte, Nat.reduceEqDiff, reduceCtorEq, look, true_and])
        | (refine WP.ret (Sm.out ?_))
        | (first | refine ExG.no (Sm.out ?_) | refine Or.inl (ExG.no (Sm.out ?_)) | refine Or.inl (And.intro (fun hg => absurd hg (by decide)) (ExG.no (Sm.out ?_))))
        | (refine Rt.mk ?_; refine And.intro ?_ ?_ <;> (intro hg; first | exact absurd hg (by decide) | refine Sm.out ?_))
        | (refine Nu.mk ?_; first | (fail_if_success (have := nb1)); intro nb1 | (fail_if_success (have := nb2)); intro nb2 | (fail_if_success (have := nb3)); intro nb3 | intro nbz)
        | (refine Fr.mk ?_; intro hfr; (first | (have hFRb : _ ≤ _ ∧ _ ≤ _ := And.intro hfr.1 hfr.2.1) | skip); replace FR := Sm.mk (And.intro hfr FR.out); clear hfr; refine Sm.out ?_)
        | (refine Two.mk ?_ ?_)
        | (refine Cs.mk ?_; intro hcs; first | exact False.elim hcs | (exfalso; omega) | (refine Sm.out ?_))
        | go_step
        | omega
        | (simp only [maxLen_eq]; omega)
      (refine OutQ.drop _ _ (perm1 (by simp only [hget, hdel, ↓reduceIte, if_true, if_false, FR.out]; first | done | rfl)) (by simp only [resv, ZK, look, loadv, loadn, loadnm, load1, load1m, hget, ↓reduceIte, Nat.reduceEqDiff, Nat.reduceAdd, Nat.reduceMul, Nat.reduceLeDiff, Nat.reduceLT, reduceCtorEq, TFAmC, FR.out]) ⟨(by simp only [resv, resA, ZK, look, loadv, loadn, loadnm, load1, load1m, hget, ↓reduceIte, Nat.reduceEqDiff, Nat.reduceAdd, Nat.reduceMul, Nat.reduceLeDiff, Nat.reduceLT, reduceCtorEq, TFAmC, FR.out]; first | done | rfl), rfl⟩)
  | 1, _ =>
    have cR := right_ct 1 s 0 0
    rw [if_neg (by decide), if_pos rfl]
    cases o1 with
    | none =>
      have b1 : ACt Try.prog 21 [pt b 0] [(b, stM none)] (fun r F' => r = bv true ∧ F' = [(b, stM none)]) := b1
      simp only [fin, Option.isSome_none, Bool.false_and, Bool.false_eq_true, if_false]
      first | (have FRx := FR; clear FRx) | (have FR : Sm (¬ ((1 : Nat) = 0)) := Sm.mk Nat.one_ne_zero)
      repeat' first
        | (refine Sm.mk ?_; try simp -dsimp only [ZK, rvc, drawF, headN, pureH, stp, dvc, calleeOf, gcall, pev, eff, newB, okd, og, ogs, ogo, ogp, slv, bltv, opd, litv, strip, one, both, putE, St.put, look, gdOf, gdv, picka, pickv, pickw, binv, bini, bins, binb, binp, bina, shp, eqCells, unv, convv, nilv, faddv, addp, idxav, idxp, load1, load1m, loadn, loadnm, loadv, hget, hset, hrep, hdel, slicev, bnd, shift1, lenv, IntKind.bits, extractv, fieldv, indexv, min2v, max2v, mkiv, cellsA, fillA, buildv, stC, oneC, rowMB, intsA, plN, appE, appZ, appC, appNZ, appNC, VwL, srcC, srcZ, srcM, isBoolT, isPtrT, isSliceT, uOk, Value.oneCell', Nat.reducePow, Int.reducePow, Nat.reduceAdd, Nat.reduceMul, Nat.reduceSub, Nat.reduceLT, Nat.reduceLeDiff, Nat.reduceEqDiff, Nat.reduceBEq, Nat.reduceDiv, Nat.reduceMod, ↓reduceIte, reduceCtorEq, Int.reduceToNat, Int.reduceLT, Int.reduceLE, TFAmC, SeqQ, BlkQ, LoopQ, BodyQ, e11, e12, e13, FR.out])
        | (refine CallV.upd (by simp only [hget, ↓reduceIte, FR.out, e11, e12, e13]; first | done | rfl) (cC) (Sm.out ?_))
        | (refine CallV.updN (perm1 (by simp only [hget, hdel, ↓reduceIte, FR.out, e11, e12, e13]; first | done | rfl)) (c1) (Sm.out ?_))
        | (refine CallV.updN (perm1 (by simp only [hget, hdel, ↓reduceIte, FR.out, e11, e12, e13]; first | done | rfl)) (b1) (Sm.out ?_))
        | ((first | refine ExF.up ?_ (b1) (Sm.out ?_) | refine ExG.up ?_ (fun _ => b1) (Sm.out ?_) | refine ExG.upJ ?_ (fun _ => b1) (Sm.out ?_) | refine ExG.upI ?_ (fun _ => b1) (Ob.out ?_) (Sm.out ?_)); focus (exact ⟨_, (perm1 (by simp only [hget, hdel, ↓reduceIte, FR.out, e11, e12, e13]; first | done | rfl))⟩))
        | (first | refine CallV.fn (cR) (Sm.out ?_) | refine ExF.mk (cR) (Sm.out ?_) | refine ExG.mk (fun _ => cR) (Sm.out ?_) | refine ExG.mkJ (fun _ => cR) (Sm.out ?_) | refine ExG.mkI (Ob.out ?_) (fun _ => cR) (Sm.out ?_))
        | (refine CallV.updN (perm1 (by simp only [hget, hdel, ↓reduceIte, FR.out, e11, e12, e13]; first | done | rfl)) (s1) (Sm.out ?_))
        | (refine WP.seq fun K hK => ?_)
        | (refine WP.region (rvc_sound _ _ (Sm.out ?_)))
        | (refine WP.drawK rfl mixed (by decide +kernel) (Sm.out ?_))
        | (refine Ob.mk ?_; focus (first | assumption | omega | decide | trivial | (intro hob; simp only [hob, ZF]; done) | (intros; (repeat' refine And.intro ?_ ?_) <;> first | assumption | omega | trivial | decide) | (intros; simp only [ZE] at *; (repeat' refine And.intro ?_ ?_) <;> first | assumption | omega | trivial)))
        | (refine And.intro (Ob.out ?_) ?_)
        | (refine WP.block ?_)
        | (refine WP.cond rfl (fun hc => ?_) (fun hc => ?_) <;> (try simp only [ZC, reduceCtorEq, ZD] at hc) <;> (try (exact absurd hc (by decide))) <;> (try (exfalso; omega)))
        | ((first | refine WP.skip ?_ | refine WP.exit ?_); simp only [SeqQ, BlkQ, LoopQ, BodyQ, ↓reduceIte, Nat.reduceEqDiff, reduceCtorEq, look, true_and])
        | (refine WP.ret (Sm.out ?_))
        | (first | refine ExG.no (Sm.out ?_) | refine Or.inl (ExG.no (Sm.out ?_)) | refine Or.inl (And.intro (fun hg => absurd hg (by decide)) (ExG.no (Sm.out ?_))))
        | (refine Rt.mk ?_; refine And.intro ?_ ?_ <;> (intro hg; first | exact absurd hg (by decide) | refine Sm.out ?_))
        | (refine Nu.mk ?_; first | (fail_if_success (have := nb1)); intro nb1 | (fail_if_success (have := nb2)); intro nb2 | (fail_if_success (have := nb3)); intro nb3 | intro nbz)
        | (refine Fr.mk ?_; intro hfr; (first | (have hFRb : _ ≤ _ ∧ _ ≤ _ := And.intro hfr.1 hfr.2.1) | skip); replace FR := Sm.mk (And.intro hfr FR.out); clear hfr; refine Sm.out ?_)
        | (refine Two.mk ?_ ?_)
        | (refine Cs.mk ?_; intro hcs; first | exact False.elim hcs | (exfalso; omega) | (refine Sm.out ?_))
        | go_step
        | omega
        | (simp only [maxLen_eq]; omega)
      (refine OutQ.drop _ _ (perm1 (by simp only [hget, hdel, ↓reduceIte, if_true, if_false, FR.out]; first | done | rfl)) (by simp only [resv, ZK, look, loadv, loadn, loadnm, load1, load1m, hget, ↓reduceIte, Nat.reduceEqDiff, Nat.reduceAdd, Nat.reduceMul, Nat.reduceLeDiff, Nat.reduceLT, reduceCtorEq, TFAmC, FR.out]) ⟨(by simp only [resv, resA, ZK, look, loadv, loadn, loadnm, load1, load1m, hget, ↓reduceIte, Nat.reduceEqDiff, Nat.reduceAdd, Nat.reduceMul, Nat.reduceLeDiff, Nat.reduceLT, reduceCtorEq, TFAmC, FR.out]; first | done | rfl), rfl⟩)
    | some zs =>
      have b1 : ACt Try.prog 21 [pt b 0] [(b, stM (some zs))] (fun r F' => r = bv false ∧ F' = [(b, stM (some zs))]) := b1
      have y0 : ((0 : Nat) : Int) = 0 := rfl
      have y1 : ((1 : Nat) : Int) = 1 := rfl
      cases hr : rightP 1 s 0 0 with
      | true =>
        rw [hr] at cR
        have hf : fin 1 s 0 0 (some zs) = (alA 1 s 0 0, stM (some zs)) := by unfold fin; rw [if_pos (by simp [hr])]; rfl
        rw [hf]
        first | (have FRx := FR; clear FRx) | (have FR : Sm (¬ ((1 : Nat) = 0)) := Sm.mk Nat.one_ne_zero)
        repeat' first
          | (refine Sm.mk ?_; try simp -dsimp only [ZK, rvc, drawF, headN, pureH, stp, dvc, calleeOf, gcall, pev, eff, newB, okd, og, ogs, ogo, ogp, slv, bltv, opd, litv, strip, one, both, putE, St.put, look, gdOf, gdv, picka, pickv, pickw, binv, bini, bins, binb, binp, bina, shp, eqCells, unv, convv, nilv, faddv, addp, idxav, idxp, load1, load1m, loadn, loadnm, loadv, hget, hset, hrep, hdel, slicev, bnd, shift1, lenv, IntKind.bits, extractv, fieldv, indexv, min2v, max2v, mkiv, cellsA, fillA, buildv, stC, oneC, rowMB, intsA, plN, appE, appZ, appC, appNZ, appNC, VwL, srcC, srcZ, srcM, isBoolT, isPtrT, isSliceT, uOk, Value.oneCell', Nat.reducePow, Int.reducePow, Nat.reduceAdd, Nat.reduceMul, Nat.reduceSub, Nat.reduceLT, Nat.reduceLeDiff, Nat.reduceEqDiff, Nat.reduceBEq, Nat.reduceDiv, Nat.reduceMod, ↓reduceIte, reduceCtorEq, Int.reduceToNat, Int.reduceLT, Int.reduceLE, TFAmC, SeqQ, BlkQ, LoopQ, BodyQ, e11, e12, e13, FR.out])
          | (refine CallV.upd (by simp only [hget, ↓reduceIte, FR.out, e11, e12, e13]; first | done | rfl) (cC) (Sm.out ?_))
          | (refine CallV.updN (perm1 (by simp only [hget, hdel, ↓reduceIte, FR.out, e11, e12, e13]; first | done | rfl)) (c1) (Sm.out ?_))
          | (refine CallV.updN (perm1 (by simp only [hget, hdel, ↓reduceIte, FR.out, e11, e12, e13]; first | done | rfl)) (b1) (Sm.out ?_))
          | ((first | refine ExF.up ?_ (b1) (Sm.out ?_) | refine ExG.up ?_ (fun _ => b1) (Sm.out ?_) | refine ExG.upJ ?_ (fun _ => b1) (Sm.out ?_) | refine ExG.upI ?_ (fun _ => b1) (Ob.out ?_) (Sm.out ?_)); focus (exact ⟨_, (perm1 (by simp only [hget, hdel, ↓reduceIte, FR.out, e11, e12, e13]; first | done | rfl))⟩))
          | (first | refine CallV.fn (cR) (Sm.out ?_) | refine ExF.mk (cR) (Sm.out ?_) | refine ExG.mk (fun _ => cR) (Sm.out ?_) | refine ExG.mkJ (fun _ => cR) (Sm.out ?_) | refine ExG.mkI (Ob.out ?_) (fun _ => cR) (Sm.out ?_))
          | (refine CallV.updN (perm1 (by simp only [hget, hdel, ↓reduceIte, FR.out, e11, e12, e13]; first | done | rfl)) (s1) (Sm.out ?_))
          | (refine WP.seq fun K hK => ?_)
          | (refine WP.region (rvc_sound _ _ (Sm.out ?_)))
          | (refine WP.drawK rfl mixed (by decide +kernel) (Sm.out ?_))
          | (refine Ob.mk ?_; focus (first | assumption | omega | decide | trivial | (intro hob; simp only [hob, ZF]; done) | (intros; (repeat' refine And.intro ?_ ?_) <;> first | assumption | omega | trivial | decide) | (intros; simp only [ZE] at *; (repeat' refine And.intro ?_ ?_) <;> first | assumption | omega | trivial)))
          | (refine And.intro (Ob.out ?_) ?_)
          | (refine WP.block ?_)
          | (refine WP.cond rfl (fun hc => ?_) (fun hc => ?_) <;> (try simp only [ZC, reduceCtorEq, ZD] at hc) <;> (try (exact absurd hc (by decide))) <;> (try (exfalso; omega)))
          | ((first | refine WP.skip ?_ | refine WP.exit ?_); simp only [SeqQ, BlkQ, LoopQ, BodyQ, ↓reduceIte, Nat.reduceEqDiff, reduceCtorEq, look, true_and])
          | (refine WP.ret (Sm.out ?_))
          | (first | refine ExG.no (Sm.out ?_) | refine Or.inl (ExG.no (Sm.out ?_)) | refine Or.inl (And.intro (fun hg => absurd hg (by decide)) (ExG.no (Sm.out ?_))))
          | (refine Rt.mk ?_; refine And.intro ?_ ?_ <;> (intro hg; first | exact absurd hg (by decide) | refine Sm.out ?_))
          | (refine Nu.mk ?_; first | (fail_if_success (have := nb1)); intro nb1 | (fail_if_success (have := nb2)); intro nb2 | (fail_if_success (have := nb3)); intro nb3 | intro nbz)
          | (refine Fr.mk ?_; intro hfr; (first | (have hFRb : _ ≤ _ ∧ _ ≤ _ := And.intro hfr.1 hfr.2.1) | skip); replace FR := Sm.mk (And.intro hfr FR.out); clear hfr; refine Sm.out ?_)
          | (refine Two.mk ?_ ?_)
          | (refine Cs.mk ?_; intro hcs; first | exact False.elim hcs | (exfalso; omega) | (refine Sm.out ?_))
          | go_step
          | omega
          | (simp only [maxLen_eq]; omega)
        (refine OutQ.drop _ _ (perm1 (by simp only [hget, hdel, ↓reduceIte, if_true, if_false, FR.out]; first | done | rfl)) (by simp only [resv, ZK, look, loadv, loadn, loadnm, load1, load1m, hget, ↓reduceIte, Nat.reduceEqDiff, Nat.reduceAdd, Nat.reduceMul, Nat.reduceLeDiff, Nat.reduceLT, reduceCtorEq, TFAmC, FR.out]) ⟨(by simp only [resv, resA, ZK, look, loadv, loadn, loadnm, load1, load1m, hget, ↓reduceIte, Nat.reduceEqDiff, Nat.reduceAdd, Nat.reduceMul, Nat.reduceLeDiff, Nat.reduceLT, reduceCtorEq, TFAmC, FR.out]; first | done | rfl), rfl⟩)
      | false =>
        rw [hr] at cR
        have hf : fin 1 s 0 0 (some zs) = (alA 0 0 0 0, rdN) := by unfold fin; rw [if_neg (by simp [hr])]
        rw [hf]
        first | (have FRx := FR; clear FRx) | (have FR : Sm (¬ ((1 : Nat) = 0)) := Sm.mk Nat.one_ne_zero)
        repeat' first
          | (refine Sm.mk ?_; try simp -dsimp only [ZK, rvc, drawF, headN, pureH, stp, dvc, calleeOf, gcall, pev, eff, newB, okd, og, ogs, ogo, ogp, slv, bltv, opd, litv, strip, one, both, putE, St.put, look, gdOf, gdv, picka, pickv, pickw, binv, bini, bins, binb, binp, bina, shp, eqCells, unv, convv, nilv, faddv, addp, idxav, idxp, load1, load1m, loadn, loadnm, loadv, hget, hset, hrep, hdel, slicev, bnd, shift1, lenv, IntKind.bits, extractv, fieldv, indexv, min2v, max2v, mkiv, cellsA, fillA, buildv, stC, oneC, rowMB, intsA, plN, appE, appZ, appC, appNZ, appNC, VwL, srcC, srcZ, srcM, isBoolT, isPtrT, isSliceT, uOk, Value.oneCell', Nat.reducePow, Int.reducePow, Nat.reduceAdd, Nat.reduceMul, Nat.reduceSub, Nat.reduceLT, Nat.reduceLeDiff, Nat.reduceEqDiff, Nat.reduceBEq, Nat.reduceDiv, Nat.reduceMod, ↓reduceIte, reduceCtorEq, Int.reduceToNat, Int.reduceLT, Int.reduceLE, TFAmC, SeqQ, BlkQ, LoopQ, BodyQ, e11, e12, e13, FR.out])
          | (refine CallV.upd (by simp only [hget, ↓reduceIte, FR.out, e11, e12, e13]; first | done | rfl) (cC) (Sm.out ?_))
          | (refine CallV.updN (perm1 (by simp only [hget, hdel, ↓reduceIte, FR.out, e11, e12, e13]; first | done | rfl)) (c1) (Sm.out ?_))
          | (refine CallV.updN (perm1 (by simp only [hget, hdel, ↓reduceIte, FR.out, e11, e12, e13]; first | done | rfl)) (b1) (Sm.out ?_))
          | ((first | refine ExF.up ?_ (b1) (Sm.out ?_) | refine ExG.up ?_ (fun _ => b1) (Sm.out ?_) | refine ExG.upJ ?_ (fun _ => b1) (Sm.out ?_) | refine ExG.upI ?_ (fun _ => b1) (Ob.out ?_) (Sm.out ?_)); focus (exact ⟨_, (perm1 (by simp only [hget, hdel, ↓reduceIte, FR.out, e11, e12, e13]; first | done | rfl))⟩))
          | (first | refine CallV.fn (cR) (Sm.out ?_) | refine ExF.mk (cR) (Sm.out ?_) | refine ExG.mk (fun _ => cR) (Sm.out ?_) | refine ExG.mkJ (fun _ => cR) (Sm.out ?_) | refine ExG.mkI (Ob.out ?_) (fun _ => cR) (Sm.out ?_))
          | (refine CallV.updN (perm1 (by simp only [hget, hdel, ↓reduceIte, FR.out, e11, e12, e13]; first | done | rfl)) (s1) (Sm.out ?_))
          | (refine WP.seq fun K hK => ?_)
          | (refine WP.region (rvc_sound _ _ (Sm.out ?_)))
          | (refine WP.drawK rfl mixed (by decide +kernel) (Sm.out ?_))
          | (refine Ob.mk ?_; focus (first | assumption | omega | decide | trivial | (intro hob; simp only [hob, ZF]; done) | (intros; (repeat' refine And.intro ?_ ?_) <;> first | assumption | omega | trivial | decide) | (intros; simp only [ZE] at *; (repeat' refine And.intro ?_ ?_) <;> first | assumption | omega | trivial)))
          | (refine And.intro (Ob.out ?_) ?_)
          | (refine WP.block ?_)
          | (refine WP.cond rfl (fun hc => ?_) (fun hc => ?_) <;> (try simp only [ZC, reduceCtorEq, ZD] at hc) <;> (try (exact absurd hc (by decide))) <;> (try (exfalso; omega)))
          | ((first | refine WP.skip ?_ | refine WP.exit ?_); simp only [SeqQ, BlkQ, LoopQ, BodyQ, ↓reduceIte, Nat.reduceEqDiff, reduceCtorEq, look, true_and])
          | (refine WP.ret (Sm.out ?_))
          | (first | refine ExG.no (Sm.out ?_) | refine Or.inl (ExG.no (Sm.out ?_)) | refine Or.inl (And.intro (fun hg => absurd hg (by decide)) (ExG.no (Sm.out ?_))))
          | (refine Rt.mk ?_; refine And.intro ?_ ?_ <;> (intro hg; first | exact absurd hg (by decide) | refine Sm.out ?_))
          | (refine Nu.mk ?_; first | (fail_if_success (have := nb1)); intro nb1 | (fail_if_success (have := nb2)); intro nb2 | (fail_if_success (have := nb3)); intro nb3 | intro nbz)
          | (refine Fr.mk ?_; intro hfr; (first | (have hFRb : _ ≤ _ ∧ _ ≤ _ := And.intro hfr.1 hfr.2.1) | skip); replace FR := Sm.mk (And.intro hfr FR.out); clear hfr; refine Sm.out ?_)
          | (refine Two.mk ?_ ?_)
          | (refine Cs.mk ?_; intro hcs; first | exact False.elim hcs | (exfalso; omega) | (refine Sm.out ?_))
          | go_step
          | omega
          | (simp only [maxLen_eq]; omega)
        (refine OutQ.drop _ _ (perm1 (by simp only [hget, hdel, ↓reduceIte, if_true, if_false, FR.out]; first | done | rfl)) (by simp only [resv, ZK, look, loadv, loadn, loadnm, load1, load1m, hget, ↓reduceIte, Nat.reduceEqDiff, Nat.reduceAdd, Nat.reduceMul, Nat.reduceLeDiff, Nat.reduceLT, reduceCtorEq, TFAmC, FR.out]) ⟨(by simp only [resv, resA, ZK, look, loadv, loadn, loadnm, load1, load1m, hget, ↓reduceIte, Nat.reduceEqDiff, Nat.reduceAdd, Nat.reduceMul, Nat.reduceLeDiff, Nat.reduceLT, reduceCtorEq, TFAmC, FR.out]; first | done | rfl), rfl⟩)
  | 2, _ =>
    have cR := right_ct 2 s 0 e
    rw [if_neg (by decide), if_neg (by decide), if_pos rfl]
    cases o2 with
    | none =>
      have b2 : ACt Try.prog 21 [pt b 0] [(b, stM none)] (fun r F' => r = bv true ∧ F' = [(b, stM none)]) := b2
      simp only [fin, Option.isSome_none, Bool.false_and, Bool.false_eq_true, if_false]
      first | (have FRx := FR; clear FRx) | (have FR : Sm (¬ ((1 : Nat) = 0)) := Sm.mk Nat.one_ne_zero)
      repeat' first
        | (refine Sm.mk ?_; try simp -dsimp only [ZK, rvc, drawF, headN, pureH, stp, dvc, calleeOf, gcall, pev, eff, newB, okd, og, ogs, ogo, ogp, slv, bltv, opd, litv, strip, one, both, putE, St.put, look, gdOf, gdv, picka, pickv, pickw, binv, bini, bins, binb, binp, bina, shp, eqCells, unv, convv, nilv, faddv, addp, idxav, idxp, load1, load1m, loadn, loadnm, loadv, hget, hset, hrep, hdel, slicev, bnd, shift1, lenv, IntKind.bits, extractv, fieldv, indexv, min2v, max2v, mkiv, cellsA, fillA, buildv, stC, oneC, rowMB, intsA, plN, appE, appZ, appC, appNZ, appNC, VwL, srcC, srcZ, srcM, isBoolT, isPtrT, isSliceT, uOk, Value.oneCell', Nat.reducePow, Int.reducePow, Nat.reduceAdd, Nat.reduceMul, Nat.reduceSub, Nat.reduceLT, Nat.reduceLeDiff, Nat.reduceEqDiff, Nat.reduceBEq, Nat.reduceDiv, Nat.reduceMod, ↓reduceIte, reduceCtorEq, Int.reduceToNat, Int.reduceLT, Int.reduceLE, TFAmC, SeqQ, BlkQ, LoopQ, BodyQ, e21, e22, e23, FR.out])
        | (refine CallV.upd (by simp only [hget, ↓reduceIte, FR.out, e21, e22, e23]; first | done | rfl) (cC) (Sm.out ?_))
        | (refine CallV.updN (perm1 (by simp only [hget, hdel, ↓reduceIte, FR.out, e21, e22, e23]; first | done | rfl)) (c1) (Sm.out ?_))
        | (refine CallV.updN (perm1 (by simp only [hget, hdel, ↓reduceIte, FR.out, e21, e22, e23]; first | done | rfl)) (c2) (Sm.out ?_))
        | (refine CallV.updN (perm1 (by simp only [hget, hdel, ↓reduceIte, FR.out, e21, e22, e23]; first | done | rfl)) (b2) (Sm.out ?_))
        | ((first | refine ExF.up ?_ (b2) (Sm.out ?_) | refine ExG.up ?_ (fun _ => b2) (Sm.out ?_) | refine ExG.upJ ?_ (fun _ => b2) (Sm.out ?_) | refine ExG.upI ?_ (fun _ => b2) (Ob.out ?_) (Sm.out ?_)); focus (exact ⟨_, (perm1 (by simp only [hget, hdel, ↓reduceIte, FR.out, e21, e22, e23]; first | done | rfl))⟩))
        | (first | refine CallV.fn (cR) (Sm.out ?_) | refine ExF.mk (cR) (Sm.out ?_) | refine ExG.mk (fun _ => cR) (Sm.out ?_) | refine ExG.mkJ (fun _ => cR) (Sm.out ?_) | refine ExG.mkI (Ob.out ?_) (fun _ => cR) (Sm.out ?_))
        | (refine CallV.updN (perm1 (by simp only [hget, hdel, ↓reduceIte, FR.out, e21, e22, e23]; first | done | rfl)) (s2) (Sm.out ?_))
        | (refine WP.seq fun K hK => ?_)
        | (refine WP.region (rvc_sound _ _ (Sm.out ?_)))
        | (refine WP.drawK rfl mixed (by decide +kernel) (Sm.out ?_))
        | (refine Ob.mk ?_; focus (first | assumption | omega | decide | trivial | (intro hob; simp only [hob, ZF]; done) | (intros; (repeat' refine And.intro ?_ ?_) <;> first | assumption | omega | trivial | decide) | (intros; simp only [ZE] at *; (repeat' refine And.intro ?_ ?_) <;> first | assumption | omega | trivial)))
        | (refine And.intro (Ob.out ?_) ?_)
        | (refine WP.block ?_)
        | (refine WP.cond rfl (fun hc => ?_) (fun hc => ?_) <;> (try simp only [ZC, reduceCtorEq, ZD] at hc) <;> (try (exact absurd hc (by decide))) <;> (try (exfalso; omega)))
        | ((first | refine WP.skip ?_ | refine WP.exit ?_); simp only [SeqQ, BlkQ, LoopQ, BodyQ, ↓reduceIte, Nat.reduceEqDiff, reduceCtorEq, look, true_and])
        | (refine WP.ret (Sm.out ?_))
        | (first | refine ExG.no (Sm.out ?_) | refine Or.inl (ExG.no (Sm.out ?_)) | refine Or.inl (And.intro (fun hg => absurd hg (by decide)) (ExG.no (Sm.out ?_))))
        | (refine Rt.mk ?_; refine And.intro ?_ ?_ <;> (intro hg; first | exact absurd hg (by decide) | refine Sm.out ?_))
        | (refine Nu.mk ?_; first | (fail_if_success (have := nb1)); intro nb1 | (fail_if_success (have := nb2)); intro nb2 | (fail_if_success (have := nb3)); intro nb3 | intro nbz)
        | (refine Fr.mk ?_; intro hfr; (first | (have hFRb : _ ≤ _ ∧ _ ≤ _ := And.intro hfr.1 hfr.2.1) | skip); replace FR := Sm.mk (And.intro hfr FR.out); clear hfr; refine Sm.out ?_)
        | (refine Two.mk ?_ ?_)
        | (refine Cs.mk ?_; intro hcs; first | exact False.elim hcs | (exfalso; omega) | (refine Sm.out ?_))
        | go_step
        | omega
        | (simp only [maxLen_eq]; omega)
      (refine OutQ.drop _ _ (perm1 (by simp only [hget, hdel, ↓reduceIte, if_true, if_false, FR.out]; first | done | rfl)) (by simp only [resv, ZK, look, loadv, loadn, loadnm, load1, load1m, hget, ↓reduceIte, Nat.reduceEqDiff, Nat.reduceAdd, Nat.reduceMul, Nat.reduceLeDiff, Nat.reduceLT, reduceCtorEq, TFAmC, FR.out]) ⟨(by simp only [resv, resA, ZK, look, loadv, loadn, loadnm, load1, load1m, hget, ↓reduceIte, Nat.reduceEqDiff, Nat.reduceAdd, Nat.reduceMul, Nat.reduceLeDiff, Nat.reduceLT, reduceCtorEq, TFAmC, FR.out]; first | done | rfl), rfl⟩)
    | some zs =>
      have b2 : ACt Try.prog 21 [pt b 0] [(b, stM (some zs))] (fun r F' => r = bv false ∧ F' = [(b, stM (some zs))]) := b2
      cases hr : rightP 2 s 0 e with
      | true =>
        rw [hr] at cR
        have hf : fin 2 s 0 e (some zs) = (alA 2 s 0 e, stM (some zs)) := by unfold fin; rw [if_pos (by simp [hr])]; rfl
        rw [hf]
        first | (have FRx := FR; clear FRx) | (have FR : Sm (¬ ((1 : Nat) = 0)) := Sm.mk Nat.one_ne_zero)
        repeat' first
          | (refine Sm.mk ?_; try simp -dsimp only [ZK, rvc, drawF, headN, pureH, stp, dvc, calleeOf, gcall, pev, eff, newB, okd, og, ogs, ogo, ogp, slv, bltv, opd, litv, strip, one, both, putE, St.put, look, gdOf, gdv, picka, pickv, pickw, binv, bini, bins, binb, binp, bina, shp, eqCells, unv, convv, nilv, faddv, addp, idxav, idxp, load1, load1m, loadn, loadnm, loadv, hget, hset, hrep, hdel, slicev, bnd, shift1, lenv, IntKind.bits, extractv, fieldv, indexv, min2v, max2v, mkiv, cellsA, fillA, buildv, stC, oneC, rowMB, intsA, plN, appE, appZ, appC, appNZ, appNC, VwL, srcC, srcZ, srcM, isBoolT, isPtrT, isSliceT, uOk, Value.oneCell', Nat.reducePow, Int.reducePow, Nat.reduceAdd, Nat.reduceMul, Nat.reduceSub, Nat.reduceLT, Nat.reduceLeDiff, Nat.reduceEqDiff, Nat.reduceBEq, Nat.reduceDiv, Nat.reduceMod, ↓reduceIte, reduceCtorEq, Int.reduceToNat, Int.reduceLT, Int.reduceLE, TFAmC, SeqQ, BlkQ, LoopQ, BodyQ, e21, e22, e23, FR.out])
          | (refine CallV.upd (by simp only [hget, ↓reduceIte, FR.out, e21, e22, e23]; first | done | rfl) (cC) (Sm.out ?_))
          | (refine CallV.updN (perm1 (by simp only [hget, hdel, ↓reduceIte, FR.out, e21, e22, e23]; first | done | rfl)) (c1) (Sm.out ?_))
          | (refine CallV.updN (perm1 (by simp only [hget, hdel, ↓reduceIte, FR.out, e21, e22, e23]; first | done | rfl)) (c2) (Sm.out ?_))
          | (refine CallV.updN (perm1 (by simp only [hget, hdel, ↓reduceIte, FR.out, e21, e22, e23]; first | done | rfl)) (b2) (Sm.out ?_))
          | ((first | refine ExF.up ?_ (b2) (Sm.out ?_) | refine ExG.up ?_ (fun _ => b2) (Sm.out ?_) | refine ExG.upJ ?_ (fun _ => b2) (Sm.out ?_) | refine ExG.upI ?_ (fun _ => b2) (Ob.out ?_) (Sm.out ?_)); focus (exact ⟨_, (perm1 (by simp only [hget, hdel, ↓reduceIte, FR.out, e21, e22, e23]; first | done | rfl))⟩))
          | (first | refine CallV.fn (cR) (Sm.out ?_) | refine ExF.mk (cR) (Sm.out ?_) | refine ExG.mk (fun _ => cR) (Sm.out ?_) | refine ExG.mkJ (fun _ => cR) (Sm.out ?_) | refine ExG.mkI (Ob.out ?_) (fun _ => cR) (Sm.out ?_))
          | (refine CallV.updN (perm1 (by simp only [hget, hdel, ↓reduceIte, FR.out, e21, e22, e23]; first | done | rfl)) (s2) (Sm.out ?_))
          | (refine WP.seq fun K hK => ?_)
          | (refine WP.region (rvc_sound _ _ (Sm.out ?_)))
          | (refine WP.drawK rfl mixed (by decide +kernel) (Sm.out ?_))
          | (refine Ob.mk ?_; focus (first | assumption | omega | decide | trivial | (intro hob; simp only [hob, ZF]; done) | (intros; (repeat' refine And.intro ?_ ?_) <;> first | assumption | omega | trivial | decide) | (intros; simp only [ZE] at *; (repeat' refine And.intro ?_ ?_) <;> first | assumption | omega | trivial)))
          | (refine And.intro (Ob.out ?_) ?_)
          | (refine WP.block ?_)
          | (refine WP.cond rfl (fun hc => ?_) (fun hc => ?_) <;> (try simp only [ZC, reduceCtorEq, ZD] at hc) <;> (try (exact absurd hc (by decide))) <;> (try (exfalso; omega)))
          | ((first | refine WP.skip ?_ | refine WP.exit ?_); simp only [SeqQ, BlkQ, LoopQ, BodyQ, ↓reduceIte, Nat.reduceEqDiff, reduceCtorEq, look, true_and])
          | (refine WP.ret (Sm.out ?_))
          | (first | refine ExG.no (Sm.out ?_) | refine Or.inl (ExG.no (Sm.out ?_)) | refine Or.inl (And.intro (fun hg => absurd hg (by decide)) (ExG.no (Sm.out ?_))))
          | (refine Rt.mk ?_; refine And.intro ?_ ?_ <;> (intro hg; first | exact absurd hg (by decide) | refine Sm.out ?_))
          | (refine Nu.mk ?_; first | (fail_if_success (have := nb1)); intro nb1 | (fail_if_success (have := nb2)); intro nb2 | (fail_if_success (have := nb3)); intro nb3 | intro nbz)
          | (refine Fr.mk ?_; intro hfr; (first | (have hFRb : _ ≤ _ ∧ _ ≤ _ := And.intro hfr.1 hfr.2.1) | skip); replace FR := Sm.mk (And.intro hfr FR.out); clear hfr; refine Sm.out ?_)
          | (refine Two.mk ?_ ?_)
          | (refine Cs.mk ?_; intro hcs; first | exact False.elim hcs | (exfalso; omega) | (refine Sm.out ?_))
          | go_step
          | omega
          | (simp only [maxLen_eq]; omega)
        (refine OutQ.drop _ _ (perm1 (by simp only [hget, hdel, ↓reduceIte, if_true, if_false, FR.out]; first | done | rfl)) (by simp only [resv, ZK, look, loadv, loadn, loadnm, load1, load1m, hget, ↓reduceIte, Nat.reduceEqDiff, Nat.reduceAdd, Nat.reduceMul, Nat.reduceLeDiff, Nat.reduceLT, reduceCtorEq, TFAmC, FR.out]) ⟨(by simp only [resv, resA, ZK, look, loadv, loadn, loadnm, load1, load1m, hget, ↓reduceIte, Nat.reduceEqDiff, Nat.reduceAdd, Nat.reduceMul, Nat.reduceLeDiff, Nat.reduceLT, reduceCtorEq, TFAmC, FR.out]; first | done | rfl), rfl⟩)
      | false =>
        rw [hr] at cR
        have hf : fin 2 s 0 e (some zs) = (alA 0 0 0 0, rdN) := by unfold fin; rw [if_neg (by simp [hr])]
        rw [hf]
        first | (have FRx := FR; clear FRx) | (have FR : Sm (¬ ((1 : Nat) = 0)) := Sm.mk Nat.one_ne_zero)
        repeat' first
          | (refine Sm.mk ?_; try simp -dsimp only [ZK, rvc, drawF, headN, pureH, stp, dvc, calleeOf, gcall, pev, eff, newB, okd, og, ogs, ogo, ogp, slv, bltv, opd, litv, strip, one, both, putE, St.put, look, gdOf, gdv, picka, pickv, pickw, binv, bini, bins, binb, binp, bina, shp, eqCells, unv, convv, nilv, faddv, addp, idxav, idxp, load1, load1m, loadn, loadnm, loadv, hget, hset, hrep, hdel, slicev, bnd, shift1, lenv, IntKind.bits, extractv, fieldv, indexv, min2v, max2v, mkiv, cellsA, fillA, buildv, stC, oneC, rowMB, intsA, plN, appE, appZ, appC, appNZ, appNC, VwL, srcC, srcZ, srcM, isBoolT, isPtrT, isSliceT, uOk, Value.oneCell', Nat.reducePow, Int.reducePow, Nat.reduceAdd, Nat.reduceMul, Nat.reduceSub, Nat.reduceLT, Nat.reduceLeDiff, Nat.reduceEqDiff, Nat.reduceBEq, Nat.reduceDiv, Nat.reduceMod, ↓reduceIte, reduceCtorEq, Int.reduceToNat, Int.reduceLT, Int.reduceLE, TFAmC, SeqQ, BlkQ, LoopQ, BodyQ, e21, e22, e23, FR.out])
          | (refine CallV.upd (by simp only [hget, ↓reduceIte, FR.out, e21, e22, e23]; first | done | rfl) (cC) (Sm.out ?_))
          | (refine CallV.updN (perm1 (by simp only [hget, hdel, ↓reduceIte, FR.out, e21, e22, e23]; first | done | rfl)) (c1) (Sm.out ?_))
          | (refine CallV.updN (perm1 (by simp only [hget, hdel, ↓reduceIte, FR.out, e21, e22, e23]; first | done | rfl)) (c2) (Sm.out ?_))
          | (refine CallV.updN (perm1 (by simp only [hget, hdel, ↓reduceIte, FR.out, e21, e22, e23]; first | done | rfl)) (b2) (Sm.out ?_))
          | ((first | refine ExF.up ?_ (b2) (Sm.out ?_) | refine ExG.up ?_ (fun _ => b2) (Sm.out ?_) | refine ExG.upJ ?_ (fun _ => b2) (Sm.out ?_) | refine ExG.upI ?_ (fun _ => b2) (Ob.out ?_) (Sm.out ?_)); focus (exact ⟨_, (perm1 (by simp only [hget, hdel, ↓reduceIte, FR.out, e21, e22, e23]; first | done | rfl))⟩))
          | (first | refine CallV.fn (cR) (Sm.out ?_) | refine ExF.mk (cR) (Sm.out ?_) | refine ExG.mk (fun _ => cR) (Sm.out ?_) | refine ExG.mkJ (fun _ => cR) (Sm.out ?_) | refine ExG.mkI (Ob.out ?_) (fun _ => cR) (Sm.out ?_))
          | (refine CallV.updN (perm1 (by simp only [hget, hdel, ↓reduceIte, FR.out, e21, e22, e23]; first | done | rfl)) (s2) (Sm.out ?_))
          | (refine WP.seq fun K hK => ?_)
          | (refine WP.region (rvc_sound _ _ (Sm.out ?_)))
          | (refine WP.drawK rfl mixed (by decide +kernel) (Sm.out ?_))
          | (refine Ob.mk ?_; focus (first | assumption | omega | decide | trivial | (intro hob; simp only [hob, ZF]; done) | (intros; (repeat' refine And.intro ?_ ?_) <;> first | assumption | omega | trivial | decide) | (intros; simp only [ZE] at *; (repeat' refine And.intro ?_ ?_) <;> first | assumption | omega | trivial)))
          | (refine And.intro (Ob.out ?_) ?_)
          | (refine WP.block ?_)
          | (refine WP.cond rfl (fun hc => ?_) (fun hc => ?_) <;> (try simp only [ZC, reduceCtorEq, ZD] at hc) <;> (try (exact absurd hc (by decide))) <;> (try (exfalso; omega)))
          | ((first | refine WP.skip ?_ | refine WP.exit ?_); simp only [SeqQ, BlkQ, LoopQ, BodyQ, ↓reduceIte, Nat.reduceEqDiff, reduceCtorEq, look, true_and])
          | (refine WP.ret (Sm.out ?_))
          | (first | refine ExG.no (Sm.out ?_) | refine Or.inl (ExG.no (Sm.out ?_)) | refine Or.inl (And.intro (fun hg => absurd hg (by decide)) (ExG.no (Sm.out ?_))))
          | (refine Rt.mk ?_; refine And.intro ?_ ?_ <;> (intro hg; first | exact absurd hg (by decide) | refine Sm.out ?_))
          | (refine Nu.mk ?_; first | (fail_if_success (have := nb1)); intro nb1 | (fail_if_success (have := nb2)); intro nb2 | (fail_if_success (have := nb3)); intro nb3 | intro nbz)
          | (refine Fr.mk ?_; intro hfr; (first | (have hFRb : _ ≤ _ ∧ _ ≤ _ := And.intro hfr.1 hfr.2.1) | skip); replace FR := Sm.mk (And.intro hfr FR.out); clear hfr; refine Sm.out ?_)
          | (refine Two.mk ?_ ?_)
          | (refine Cs.mk ?_; intro hcs; first | exact False.elim hcs | (exfalso; omega) | (refine Sm.out ?_))
          | go_step
          | omega
          | (simp only [maxLen_eq]; omega)
        (refine OutQ.drop _ _ (perm1 (by simp only [hget, hdel, ↓reduceIte, if_true, if_false, FR.out]; first | done | rfl)) (by simp only [resv, ZK, look, loadv, loadn, loadnm, load1, load1m, hget, ↓reduceIte, Nat.reduceEqDiff, Nat.reduceAdd, Nat.reduceMul, Nat.reduceLeDiff, Nat.reduceLT, reduceCtorEq, TFAmC, FR.out]) ⟨(by simp only [resv, resA, ZK, look, loadv, loadn, loadnm, load1, load1m, hget, ↓reduceIte, Nat.reduceEqDiff, Nat.reduceAdd, Nat.reduceMul, Nat.reduceLeDiff, Nat.reduceLT, reduceCtorEq, TFAmC, FR.out]; first | done | rfl), rfl⟩)
  | 3, _ =>
    have cR := right_ct 3 s c e
    rw [if_neg (by decide), if_neg (by decide), if_neg (by decide)]
    cases o3 with
    | none =>
      have b3 : ACt Try.prog 21 [pt b 0] [(b, stM none)] (fun r F' => r = bv true ∧ F' = [(b, stM none)]) := b3
      simp only [fin, Option.isSome_none, Bool.false_and, Bool.false_eq_true, if_false]
      first | (have FRx := FR; clear FRx) | (have FR : Sm (¬ ((1 : Nat) = 0)) := Sm.mk Nat.one_ne_zero)
      repeat' first
        | (refine Sm.mk ?_; try simp -dsimp only [ZK, rvc, drawF, headN, pureH, stp, dvc, calleeOf, gcall, pev, eff, newB, okd, og, ogs, ogo, ogp, slv, bltv, opd, litv, strip, one, both, putE, St.put, look, gdOf, gdv, picka, pickv, pickw, binv, bini, bins, binb, binp, bina, shp, eqCells, unv, convv, nilv, faddv, addp, idxav, idxp, load1, load1m, loadn, loadnm, loadv, hget, hset, hrep, hdel, slicev, bnd, shift1, lenv, IntKind.bits, extractv, fieldv, indexv, min2v, max2v, mkiv, cellsA, fillA, buildv, stC, oneC, rowMB, intsA, plN, appE, appZ, appC, appNZ, appNC, VwL, srcC, srcZ, srcM, isBoolT, isPtrT, isSliceT, uOk, Value.oneCell', Nat.reducePow, Int.reducePow, Nat.reduceAdd, Nat.reduceMul, Nat.reduceSub, Nat.reduceLT, Nat.reduceLeDiff, Nat.reduceEqDiff, Nat.reduceBEq, Nat.reduceDiv, Nat.reduceMod, ↓reduceIte, reduceCtorEq, Int.reduceToNat, Int.reduceLT, Int.reduceLE, TFAmC, SeqQ, BlkQ, LoopQ, BodyQ, e31, e32, e33, FR.out])
        | (refine CallV.upd (by simp only [hget, ↓reduceIte, FR.out, e31, e32, e33]; first | done | rfl) (cC) (Sm.out ?_))
        | (refine CallV.updN (perm1 (by simp only [hget, hdel, ↓reduceIte, FR.out, e31, e32, e33]; first | done | rfl)) (c1) (Sm.out ?_))
        | (refine CallV.updN (perm1 (by simp only [hget, hdel, ↓reduceIte, FR.out, e31, e32, e33]; first | done | rfl)) (c2) (Sm.out ?_))
        | (refine CallV.updN (perm1 (by simp only [hget, hdel, ↓reduceIte, FR.out, e31, e32, e33]; first | done | rfl)) (c3) (Sm.out ?_))
        | (refine CallV.updN (perm1 (by simp only [hget, hdel, ↓reduceIte, FR.out, e31, e32, e33]; first | done | rfl)) (b3) (Sm.out ?_))
        | ((first | refine ExF.up ?_ (b3) (Sm.out ?_) | refine ExG.up ?_ (fun _ => b3) (Sm.out ?_) | refine ExG.upJ ?_ (fun _ => b3) (Sm.out ?_) | refine ExG.upI ?_ (fun _ => b3) (Ob.out ?_) (Sm.out ?_)); focus (exact ⟨_, (perm1 (by simp only [hget, hdel, ↓reduceIte, FR.out, e31, e32, e33]; first | done | rfl))⟩))
        | (first | refine CallV.fn (cR) (Sm.out ?_) | refine ExF.mk (cR) (Sm.out ?_) | refine ExG.mk (fun _ => cR) (Sm.out ?_) | refine ExG.mkJ (fun _ => cR) (Sm.out ?_) | refine ExG.mkI (Ob.out ?_) (fun _ => cR) (Sm.out ?_))
        | (refine CallV.updN (perm1 (by simp only [hget, hdel, ↓reduceIte, FR.out, e31, e32, e33]; first | done | rfl)) (s3) (Sm.out ?_))
        | (refine WP.seq fun K hK => ?_)
        | (refine WP.region (rvc_sound _ _ (Sm.out ?_)))
        | (refine WP.drawK rfl mixed (by decide +kernel) (Sm.out ?_))
        | (refine Ob.mk ?_; focus (first | assumption | omega | decide | trivial | (intro hob; simp only [hob, ZF]; done) | (intros; (repeat' refine And.intro ?_ ?_) <;> first | assumption | omega | trivial | decide) | (intros; simp only [ZE] at *; (repeat' refine And.intro ?_ ?_) <;> first | assumption | omega | trivial)))
        | (refine And.intro (Ob.out ?_) ?_)
        | (refine WP.block ?_)
        | (refine WP.cond rfl (fun hc => ?_) (fun hc => ?_) <;> (try simp only [ZC, reduceCtorEq, ZD] at hc) <;> (try (exact absurd hc (by decide))) <;> (try (exfalso; omega)))
        | ((first | refine WP.skip ?_ | refine WP.exit ?_); simp only [SeqQ, BlkQ, LoopQ, BodyQ, ↓reduceIte, Nat.reduceEqDiff, reduceCtorEq, look, true_and])
        | (refine WP.ret (Sm.out ?_))
        | (first | refine ExG.no (Sm.out ?_) | refine Or.inl (ExG.no (Sm.out ?_)) | refine Or.inl (And.intro (fun hg => absurd hg (by decide)) (ExG.no (Sm.out ?_))))
        | (refine Rt.mk ?_; refine And.intro ?_ ?_ <;> (intro hg; first | exact absurd hg (by decide) | refine Sm.out ?_))
        | (refine Nu.mk ?_; first | (fail_if_success (have := nb1)); intro nb1 | (fail_if_success (have := nb2)); intro nb2 | (fail_if_success (have := nb3)); intro nb3 | intro nbz)
        | (refine Fr.mk ?_; intro hfr; (first | (have hFRb : _ ≤ _ ∧ _ ≤ _ := And.intro hfr.1 hfr.2.1) | skip); replace FR := Sm.mk (And.intro hfr FR.out); clear hfr; refine Sm.out ?_)
        | (refine Two.mk ?_ ?_)
        | (refine Cs.mk ?_; intro hcs; first | exact False.elim hcs | (exfalso; omega) | (refine Sm.out ?_))
        | go_step
        | omega
        | (simp only [maxLen_eq]; omega)
      (refine OutQ.drop _ _ (perm1 (by simp only [hget, hdel, ↓reduceIte, if_true, if_false, FR.out]; first | done | rfl)) (by simp only [resv, ZK, look, loadv, loadn, loadnm, load1, load1m, hget, ↓reduceIte, Nat.reduceEqDiff, Nat.reduceAdd, Nat.reduceMul, Nat.reduceLeDiff, Nat.reduceLT, reduceCtorEq, TFAmC, FR.out]) ⟨(by simp only [resv, resA, ZK, look, loadv, loadn, loadnm, load1, load1m, hget, ↓reduceIte, Nat.reduceEqDiff, Nat.reduceAdd, Nat.reduceMul, Nat.reduceLeDiff, Nat.reduceLT, reduceCtorEq, TFAmC, FR.out]; first | done | rfl), rfl⟩)
    | some zs =>
      have b3 : ACt Try.prog 21 [pt b 0] [(b, stM (some zs))] (fun r F' => r = bv false ∧ F' = [(b, stM (some zs))]) := b3
      cases hr : rightP 3 s c e with
      | true =>
        rw [hr] at cR
        have hf : fin 3 s c e (some zs) = (alA 3 s c e, stM (some zs)) := by unfold fin; rw [if_pos (by simp [hr])]; rfl
        rw [hf]
        first | (have FRx := FR; clear FRx) | (have FR : Sm (¬ ((1 : Nat) = 0)) := Sm.mk Nat.one_ne_zero)
        repeat' first
          | (refine Sm.mk ?_; try simp -dsimp only [ZK, rvc, drawF, headN, pureH, stp, dvc, calleeOf, gcall, pev, eff, newB, okd, og, ogs, ogo, ogp, slv, bltv, opd, litv, strip, one, both, putE, St.put, look, gdOf, gdv, picka, pickv, pickw, binv, bini, bins, binb, binp, bina, shp, eqCells, unv, convv, nilv, faddv, addp, idxav, idxp, load1, load1m, loadn, loadnm, loadv, hget, hset, hrep, hdel, slicev, bnd, shift1, lenv, IntKind.bits, extractv, fieldv, indexv, min2v, max2v, mkiv, cellsA, fillA, buildv, stC, oneC, rowMB, intsA, plN, appE, appZ, appC, appNZ, appNC, VwL, srcC, srcZ, srcM, isBoolT, isPtrT, isSliceT, uOk, Value.oneCell', Nat.reducePow, Int.reducePow, Nat.reduceAdd, Nat.reduceMul, Nat.reduceSub, Nat.reduceLT, Nat.reduceLeDiff, Nat.reduceEqDiff, Nat.reduceBEq, Nat.reduceDiv, Nat.reduceMod, ↓reduceIte, reduceCtorEq, Int.reduceToNat, Int.reduceLT, Int.reduceLE, TFAmC, SeqQ, BlkQ, LoopQ, BodyQ, e31, e32, e33, FR.out])
          | (refine CallV.upd (by simp only [hget, ↓reduceIte, FR.out, e31, e32, e33]; first | done | rfl) (cC) (Sm.out ?_))
          | (refine CallV.updN (perm1 (by simp only [hget, hdel, ↓reduceIte, FR.out, e31, e32, e33]; first | done | rfl)) (c1) (Sm.out ?_))
          | (refine CallV.updN (perm1 (by simp only [hget, hdel, ↓reduceIte, FR.out, e31, e32, e33]; first | done | rfl)) (c2) (Sm.out ?_))
          | (refine CallV.updN (perm1 (by simp only [hget, hdel, ↓reduceIte, FR.out, e31, e32, e33]; first | done | rfl)) (c3) (Sm.out ?_))
          | (refine CallV.updN (perm1 (by simp only [hget, hdel, ↓reduceIte, FR.out, e31, e32, e33]; first | done | rfl)) (b3) (Sm.out ?_))
          | ((first | refine ExF.up ?_ (b3) (Sm.out ?_) | refine ExG.up ?_ (fun _ => b3) (Sm.out ?_) | refine ExG.upJ ?_ (fun _ => b3) (Sm.out ?_) | refine ExG.upI ?_ (fun _ => b3) (Ob.out ?_) (Sm.out ?_)); focus (exact ⟨_, (perm1 (by simp only [hget, hdel, ↓reduceIte, FR.out, e31, e32, e33]; first | done | rfl))⟩))
          | (first | refine CallV.fn (cR) (Sm.out ?_) | refine ExF.mk (cR) (Sm.out ?_) | refine ExG.mk (fun _ => cR) (Sm.out ?_) | refine ExG.mkJ (fun _ => cR) (Sm.out ?_) | refine ExG.mkI (Ob.out ?_) (fun _ => cR) (Sm.out ?_))
          | (refine CallV.updN (perm1 (by simp only [hget, hdel, ↓reduceIte, FR.out, e31, e32, e33]; first | done | rfl)) (s3) (Sm.out ?_))
          | (refine WP.seq fun K hK => ?_)
          | (refine WP.region (rvc_sound _ _ (Sm.out ?_)))
          | (refine WP.drawK rfl mixed (by decide +kernel) (Sm.out ?_))
          | (refine Ob.mk ?_; focus (first | assumption | omega | decide | trivial | (intro hob; simp only [hob, ZF]; done) | (intros; (repeat' refine And.intro ?_ ?_) <;> first | assumption | omega | trivial | decide) | (intros; simp only [ZE] at *; (repeat' refine And.intro ?_ ?_) <;> first | assumption | omega | trivial)))
          | (refine And.intro (Ob.out ?_) ?_)
          | (refine WP.block ?_)
          | (refine WP.cond rfl (fun hc => ?_) (fun hc => ?_) <;> (try simp only [ZC, reduceCtorEq, ZD] at hc) <;> (try (exact absurd hc (by decide))) <;> (try (exfalso; omega)))
          | ((first | refine WP.skip ?_ | refine WP.exit ?_); simp only [SeqQ, BlkQ, LoopQ, BodyQ, ↓reduceIte, Nat.reduceEqDiff, reduceCtorEq, look, true_and])
          | (refine WP.ret (Sm.out ?_))
          | (first | refine ExG.no (Sm.out ?_) | refine Or.inl (ExG.no (Sm.out ?_)) | refine Or.inl (And.intro (fun hg => absurd hg (by decide)) (ExG.no (Sm.out ?_))))
          | (refine Rt.mk ?_; refine And.intro ?_ ?_ <;> (intro hg; first | exact absurd hg (by decide) | refine Sm.out ?_))
          | (refine Nu.mk ?_; first | (fail_if_success (have := nb1)); intro nb1 | (fail_if_success (have := nb2)); intro nb2 | (fail_if_success (have := nb3)); intro nb3 | intro nbz)
          | (refine Fr.mk ?_; intro hfr; (first | (have hFRb : _ ≤ _ ∧ _ ≤ _ := And.intro hfr.1 hfr.2.1) | skip); replace FR := Sm.mk (And.intro hfr FR.out); clear hfr; refine Sm.out ?_)
          | (refine Two.mk ?_ ?_)
          | (refine Cs.mk ?_; intro hcs; first | exact False.elim hcs | (exfalso; omega) | (refine Sm.out ?_))
          | go_step
          | omega
          | (simp only [maxLen_eq]; omega)
        (refine OutQ.drop _ _ (perm1 (by simp only [hget, hdel, ↓reduceIte, if_true, if_false, FR.out]; first | done | rfl)) (by simp only [resv, ZK, look, loadv, loadn, loadnm, load1, load1m, hget, ↓reduceIte, Nat.reduceEqDiff, Nat.reduceAdd, Nat.reduceMul, Nat.reduceLeDiff, Nat.reduceLT, reduceCtorEq, TFAmC, FR.out]) ⟨(by simp only [resv, resA, ZK, look, loadv, loadn, loadnm, load1, load1m, hget, ↓reduceIte, Nat.reduceEqDiff, Nat.reduceAdd, Nat.reduceMul, Nat.reduceLeDiff, Nat.reduceLT, reduceCtorEq, TFAmC, FR.out]; first | done | rfl), rfl⟩)
      | false =>
        rw [hr] at cR
        have hf : fin 3 s c e (some zs) = (alA 0 0 0 0, rdN) := by unfold fin; rw [if_neg (by simp [hr])]
        rw [hf]
        first | (have FRx := FR; clear FRx) | (have FR : Sm (¬ ((1 : Nat) = 0)) := Sm.mk Nat.one_ne_zero)
        repeat' first
          | (refine Sm.mk ?_; try simp -dsimp only [ZK, rvc, drawF, headN, pureH, stp, dvc, calleeOf, gcall, pev, eff, newB, okd, og, ogs, ogo, ogp, slv, bltv, opd, litv, strip, one, both, putE, St.put, look, gdOf, gdv, picka, pickv, pickw, binv, bini, bins, binb, binp, bina, shp, eqCells, unv, convv, nilv, faddv, addp, idxav, idxp, load1, load1m, loadn, loadnm, loadv, hget, hset, hrep, hdel, slicev, bnd, shift1, lenv, IntKind.bits, extractv, fieldv, indexv, min2v, max2v, mkiv, cellsA, fillA, buildv, stC, oneC, rowMB, intsA, plN, appE, appZ, appC, appNZ, appNC, VwL, srcC, srcZ, srcM, isBoolT, isPtrT, isSliceT, uOk, Value.oneCell', Nat.reducePow, Int.reducePow, Nat.reduceAdd, Nat.reduceMul, Nat.reduceSub, Nat.reduceLT, Nat.reduceLeDiff, Nat.reduceEqDiff, Nat.reduceBEq, Nat.reduceDiv, Nat.reduceMod, ↓reduceIte, reduceCtorEq, Int.reduceToNat, Int.reduceLT, Int.reduceLE, TFAmC, SeqQ, BlkQ, LoopQ, BodyQ, e31, e32, e33, FR.out])
          | (refine CallV.upd (by simp only [hget, ↓reduceIte, FR.out, e31, e32, e33]; first | done | rfl) (cC) (Sm.out ?_))
          | (refine CallV.updN (perm1 (by simp only [hget, hdel, ↓reduceIte, FR.out, e31, e32, e33]; first | done | rfl)) (c1) (Sm.out ?_))
          | (refine CallV.updN (perm1 (by simp only [hget, hdel, ↓reduceIte, FR.out, e31, e32, e33]; first | done | rfl)) (c2) (Sm.out ?_))
          | (refine CallV.updN (perm1 (by simp only [hget, hdel, ↓reduceIte, FR.out, e31, e32, e33]; first | done | rfl)) (c3) (Sm.out ?_))
          | (refine CallV.updN (perm1 (by simp only [hget, hdel, ↓reduceIte, FR.out, e31, e32, e33]; first | done | rfl)) (b3) (Sm.out ?_))
          | ((first | refine ExF.up ?_ (b3) (Sm.out ?_) | refine ExG.up ?_ (fun _ => b3) (Sm.out ?_) | refine ExG.upJ ?_ (fun _ => b3) (Sm.out ?_) | refine ExG.upI ?_ (fun _ => b3) (Ob.out ?_) (Sm.out ?_)); focus (exact ⟨_, (perm1 (by simp only [hget, hdel, ↓reduceIte, FR.out, e31, e32, e33]; first | done | rfl))⟩))
          | (first | refine CallV.fn (cR) (Sm.out ?_) | refine ExF.mk (cR) (Sm.out ?_) | refine ExG.mk (fun _ => cR) (Sm.out ?_) | refine ExG.mkJ (fun _ => cR) (Sm.out ?_) | refine ExG.mkI (Ob.out ?_) (fun _ => cR) (Sm.out ?_))
          | (refine CallV.updN (perm1 (by simp only [hget, hdel, ↓reduceIte, FR.out, e31, e32, e33]; first | done | rfl)) (s3) (Sm.out ?_))
          | (refine WP.seq fun K hK => ?_)
          | (refine WP.region (rvc_sound _ _ (Sm.out ?_)))
          | (refine WP.drawK rfl mixed (by decide +kernel) (Sm.out ?_))
          | (refine Ob.mk ?_; focus (first | assumption | omega | decide | trivial | (intro hob; simp only [hob, ZF]; done) | (intros; (repeat' refine And.intro ?_ ?_) <;> first | assumption | omega | trivial | decide) | (intros; simp only [ZE] at *; (repeat' refine And.intro ?_ ?_) <;> first | assumption | omega | trivial)))
          | (refine And.intro (Ob.out ?_) ?_)
          | (refine WP.block ?_)
          | (refine WP.cond rfl (fun hc => ?_) (fun hc => ?_) <;> (try simp only [ZC, reduceCtorEq, ZD] at hc) <;> (try (exact absurd hc (by decide))) <;> (try (exfalso; omega)))
          | ((first | refine WP.skip ?_ | refine WP.exit ?_); simp only [SeqQ, BlkQ, LoopQ, BodyQ, ↓reduceIte, Nat.reduceEqDiff, reduceCtorEq, look, true_and])
          | (refine WP.ret (Sm.out ?_))
          | (first | refine ExG.no (Sm.out ?_) | refine Or.inl (ExG.no (Sm.out ?_)) | refine Or.inl (And.intro (fun hg => absurd hg (by decide)) (ExG.no (Sm.out ?_))))
          | (refine Rt.mk ?_; refine And.intro ?_ ?_ <;> (intro hg; first | exact absurd hg (by decide) | refine Sm.out ?_))
          | (refine Nu.mk ?_; first | (fail_if_success (have := nb1)); intro nb1 | (fail_if_success (have := nb2)); intro nb2 | (fail_if_success (have := nb3)); intro nb3 | intro nbz)
          | (refine Fr.mk ?_; intro hfr; (first | (have hFRb : _ ≤ _ ∧ _ ≤ _ := And.intro hfr.1 hfr.2.1) | skip); replace FR := Sm.mk (And.intro hfr FR.out); clear hfr; refine Sm.out ?_)
          | (refine Two.mk ?_ ?_)
          | (refine Cs.mk ?_; intro hcs; first | exact False.elim hcs | (exfalso; omega) | (refine Sm.out ?_))
          | go_step
          | omega
          | (simp only [maxLen_eq]; omega)
        (refine OutQ.drop _ _ (perm1 (by simp only [hget, hdel, ↓reduceIte, if_true, if_false, FR.out]; first | done | rfl)) (by simp only [resv, ZK, look, loadv, loadn, loadnm, load1, load1m, hget, ↓reduceIte, Nat.reduceEqDiff, Nat.reduceAdd, Nat.reduceMul, Nat.reduceLeDiff, Nat.reduceLT, reduceCtorEq, TFAmC, FR.out]) ⟨(by simp only [resv, resA, ZK, look, loadv, loadn, loadnm, load1, load1m, hget, ↓reduceIte, Nat.reduceEqDiff, Nat.reduceAdd, Nat.reduceMul, Nat.reduceLeDiff, Nat.reduceLT, reduceCtorEq, TFAmC, FR.out]; first | done | rfl), rfl⟩)
end Go.Proofs.Ytljfldoekamccaa
namespace Go.Proofs.Ytljfldoekamccaa.Wi
open Go
set_option linter.unusedVariables false
set_option linter.unusedSimpArgs false
theorem TFWiX : ((((((type_of% tyc0) ∧ ((type_of% tyc2) ∧ (type_of% zmb2))) ∧ ((type_of% tyc3) ∧ ((type_of% zmb3) ∧ (type_of% tyc4)))) ∧ (((type_of% zmb4) ∧ ((type_of% tyc5) ∧ (type_of% zmb5))) ∧ ((type_of% tyc9) ∧ ((type_of% zmb9) ∧ (type_of% tyc22))))) ∧ ((((type_of% zmb22) ∧ ((type_of% tyc38) ∧ (type_of% elt38))) ∧ ((type_of% mkz38) ∧ ((type_of% apT38) ∧ (type_of% elk38)))) ∧ (((type_of% zmb38) ∧ ((type_of% tyc84) ∧ (type_of% foff84_0))) ∧ ((type_of% fpart84_0) ∧ ((type_of% foff84_1) ∧ (type_of% fpart84_1)))))) ∧ (((((type_of% foff84_2) ∧ ((type_of% fpart84_2) ∧ (type_of% foff84_3))) ∧ ((type_of% fpart84_3) ∧ ((type_of% fe84) ∧ (type_of% zmb84)))) ∧ (((type_of% bldT84) ∧ ((type_of% tyc88) ∧ (type_of% foff88_0))) ∧ ((type_of% fpart88_0) ∧ ((type_of% foff88_1) ∧ (type_of% fpart88_1))))) ∧ ((((type_of% fe88) ∧ ((type_of% zmb88) ∧ (type_of% bldT88))) ∧ ((type_of% Try.underlying0) ∧ ((type_of% Try.underlying2) ∧ (type_of% Try.underlying3)))) ∧ (((type_of% Try.underlying4) ∧ ((type_of% Try.underlying5) ∧ (type_of% Try.underlying9))) ∧ (((type_of% Try.underlying22) ∧ (type_of% Try.underlying38)) ∧ ((type_of% Try.underlying84) ∧ (type_of% Try.underlying88))))))) :=
  ⟨⟨⟨⟨⟨tyc0, ⟨tyc2, zmb2⟩⟩, ⟨tyc3, ⟨zmb3, tyc4⟩⟩⟩, ⟨⟨zmb4, ⟨tyc5, zmb5⟩⟩, ⟨tyc9, ⟨zmb9, tyc22⟩⟩⟩⟩, ⟨⟨⟨zmb22, ⟨tyc38, elt38⟩⟩, ⟨mkz38, ⟨apT38, elk38⟩⟩⟩, ⟨⟨zmb38, ⟨tyc84, foff84_0⟩⟩, ⟨fpart84_0, ⟨foff84_1, fpart84_1⟩⟩⟩⟩⟩, ⟨⟨⟨⟨foff84_2, ⟨fpart84_2, foff84_3⟩⟩, ⟨fpart84_3, ⟨fe84, zmb84⟩⟩⟩, ⟨⟨bldT84, ⟨tyc88, foff88_0⟩⟩, ⟨fpart88_0, ⟨foff88_1, fpart88_1⟩⟩⟩⟩, ⟨⟨⟨fe88, ⟨zmb88, bldT88⟩⟩, ⟨Try.underlying0, ⟨Try.underlying2, Try.underlying3⟩⟩⟩, ⟨⟨Try.underlying4, ⟨Try.underlying5, Try.underlying9⟩⟩, ⟨⟨Try.underlying22, Try.underlying38⟩, ⟨Try.underlying84, Try.underlying88⟩⟩⟩⟩⟩⟩
/-- a reading that fails -/
abbrev gt3 (g : Int × Int × ByteArray × Bool × Int) : AV := .tup [.agg [iv .u64 g.1, iv .i64 g.2.1, .lit (.string g.2.2.1), bv g.2.2.2.1], iv .i64 g.2.2.2.2, bv false]
def Bad3 (r : AV) (F' : Hp) : Prop := ∃ g, r = gt3 g ∧ F' = []
theorem bad3_of {f : FuncId} {args : List AV} {n i y : Int} {st : ByteArray} {fl : Bool} (h : ACt Try.prog f args [] (Fn (.tup [.agg [iv .u64 n, iv .i64 i, .lit (.string st), bv fl], iv .i64 y, bv false]))) : ACt Try.prog f args [] Bad3 :=
  h.mono fun r F' ⟨e1, e2⟩ => ⟨(n, i, st, fl, y), e1, e2⟩
/-- what the document reads -/
def rdF (kind most : Int) (zs : List Int) : Option (AV × List Int) :=
  if kind = 3 then (fF zs).map fun p => (.agg [nu 0, iv .i64 0, eS, bv p.1], p.2)
  else if kind = 1 then (iF zs).map fun p => (.agg [nu 0, iv .i64 p.1, eS, bv false], p.2)
  else if kind = 0 then (nF zs).map fun p => (.agg [nu p.1, iv .i64 0, eS, bv false], p.2)
  else if kind = 4 then (cF most zs).map fun p => (.agg [nu p.1, iv .i64 0, eS, bv false], p.2)
  else (tF most zs).map fun p => (.agg [nu 0, iv .i64 0, .lit (.string (bstr p.1)), bv false], p.2)
theorem refG_end (Z : List Int) (kind most : Int) : ACt Try.prog 37 [.slz .u8 Z, iv .i64 (Z.length : Int), .agg [iv .i64 kind, iv .i64 most]] [] Bad3 := by
  refine bad3_of (n := 0) (i := 0) (st := ⟨#[]⟩) (fl := false) (y := 0) ?_
  refine ACt.intro Try.func37 rfl (by kernel_rfl) (by simp [Try.ntmps37]) (fun cx => ?_)
  simp only [argE, Try.ntmps37, Try.results37]
  have d : decide ((Z.length : Int) ≥ (Z.length : Int)) = true := by simp
  first | (have FRx := FR; clear FRx) | (have FR : ¬ ((1 : Nat) = 0) := Nat.one_ne_zero)
  repeat' first
    | (refine Sm.mk ?_; try simp -dsimp only [ZK, rvc, drawF, headN, pureH, stp, dvc, calleeOf, gcall, pev, eff, newB, okd, og, ogs, ogo, ogp, slv, bltv, opd, litv, strip, one, both, putE, St.put, look, gdOf, gdv, picka, pickv, pickw, binv, bini, bins, binb, binp, bina, shp, eqCells, unv, convv, nilv, faddv, addp, idxav, idxp, load1, load1m, loadn, loadnm, loadv, hget, hset, hrep, hdel, slicev, bnd, shift1, lenv, IntKind.bits, extractv, fieldv, indexv, min2v, max2v, mkiv, cellsA, fillA, buildv, stC, oneC, rowMB, intsA, plN, appE, appZ, appC, appNZ, appNC, VwL, srcC, srcZ, srcM, isBoolT, isPtrT, isSliceT, uOk, Value.oneCell', Nat.reducePow, Int.reducePow, Nat.reduceAdd, Nat.reduceMul, Nat.reduceSub, Nat.reduceLT, Nat.reduceLeDiff, Nat.reduceEqDiff, Nat.reduceBEq, Nat.reduceDiv, Nat.reduceMod, ↓reduceIte, reduceCtorEq, Int.reduceToNat, Int.reduceLT, Int.reduceLE, drawSF, hdel, TFWiX, SeqQ, BlkQ, LoopQ, BodyQ, d, FR])
    | (refine WP.seq fun K hK => ?_)
    | (refine WP.region (rvc_sound _ _ (Sm.out ?_)))
    | (refine WP.drawS (is := 13) (k := 16) mixed (by decide +kernel) (by decide +kernel) (Sm.out ?_))
    | (refine WP.drawK rfl mixed (by decide +kernel) (Sm.out ?_))
    | (refine Ob.mk ?_; focus (first | assumption | omega | decide | trivial | (intro hob; simp only [hob, ZF]; done) | (intros; (repeat' refine And.intro ?_ ?_) <;> first | assumption | omega | trivial | decide) | (intros; simp only [ZE] at *; (repeat' refine And.intro ?_ ?_) <;> first | assumption | omega | trivial)))
    | (refine And.intro (Ob.out ?_) ?_)
    | (refine WP.block ?_)
    | (refine WP.cond rfl (fun hc => ?_) (fun hc => ?_) <;> (try simp only [ZC, reduceCtorEq, ZD] at hc) <;> (try (exact absurd hc (by decide))) <;> (try (exfalso; omega)))
    | ((first | refine WP.skip ?_ | refine WP.exit ?_); simp only [SeqQ, BlkQ, LoopQ, BodyQ, ↓reduceIte, Nat.reduceEqDiff, reduceCtorEq, look, true_and])
    | (refine WP.ret (Sm.out ?_))
    | (first | refine ExG.no (Sm.out ?_) | refine Or.inl (ExG.no (Sm.out ?_)) | refine Or.inl (And.intro (fun hg => absurd hg (by decide)) (ExG.no (Sm.out ?_))))
    | (refine Rt.mk ?_; refine And.intro ?_ ?_ <;> (intro hg; first | exact absurd hg (by decide) | refine Sm.out ?_))
    | (refine Nu.mk ?_; first | (fail_if_success (have := nb1)); intro nb1 | (fail_if_success (have := nb2)); intro nb2 | (fail_if_success (have := nb3)); intro nb3 | intro nbz)
    | (refine Fr.mk ?_; intro hfr; replace FR := And.intro hfr FR; clear hfr; refine Sm.out ?_)
    | (refine Two.mk ?_ ?_)
    | (refine Cs.mk ?_; intro hcs; first | exact False.elim hcs | (exfalso; omega) | (refine Sm.out ?_))
    | (refine OutQ.all ?_ ?_; (focus (simp only [resv, ZK, look, loadv, loadn, loadnm, load1, load1m, hget, ↓reduceIte, Nat.reduceEqDiff, Nat.reduceAdd, Nat.reduceMul, Nat.reduceLeDiff, Nat.reduceLT, reduceCtorEq, TFWiX, d, FR])); (try simp only [resv, resA, Fn, ZK, look, loadv, loadn, loadnm, load1, load1m, hget, ↓reduceIte, Nat.reduceEqDiff, Nat.reduceAdd, Nat.reduceMul, Nat.reduceLeDiff, Nat.reduceLT, reduceCtorEq, TFWiX, d, FR]); (try simp [resA, Fn, look, d, FR]); done)
    | go_step
    | omega
    | (simp only [maxLen_eq]; omega)
theorem drop_facts {Z t : List Int} {at_ m : Nat} (h : Z.drop at_ = (m : Int) :: t) : at_ < Z.length ∧ t = Z.drop (at_ + 1) ∧ t.length = Z.length - at_ - 1 ∧ Z.getD at_ 0 = (m : Int) ∧ ∀ i, Z.getD (at_ + 1 + i) 0 = t.getD i 0 := by
  have hl : (Z.drop at_).length = t.length + 1 := by rw [h]; rfl
  simp only [List.length_drop] at hl
  have ht : t = Z.drop (at_ + 1) := by
    rw [← List.drop_drop, h]; rfl
  refine ⟨by omega, ht, by omega, ?_, fun i => ?_⟩
  · have : (Z.drop at_).getD 0 0 = (m : Int) := by rw [h]; rfl
    simpa [List.getD] using this
  · rw [ht]; simp [List.getD]
theorem refG_flag (Z t : List Int) (at_ m : Nat) (most : Int) (h : Z.drop at_ = (m : Int) :: t) (hz : Z.length ≤ 2000) (hm : m < 2) :
    ACt Try.prog 37 [.slz .u8 Z, iv .i64 (at_ : Int), .agg [iv .i64 3, iv .i64 most]] [] (Fn (.tup [.agg [nu 0, iv .i64 0, eS, bv ((m : Int) == 1)], iv .i64 ((at_ + 1 : Nat) : Int), bv true])) := by
  obtain ⟨h1, h2, h3, h4, h5⟩ := drop_facts h
  refine ACt.intro Try.func37 rfl (by kernel_rfl) (by simp [Try.ntmps37]) (fun cx => ?_)
  simp only [argE, Try.ntmps37, Try.results37]
  have d : decide ((at_ : Int) ≥ (Z.length : Int)) = false := by simp; omega
  have z : ((3 : Int) == 3) = true := rfl
  have w : IntKind.i64.wrap ((at_ : Int) + 1) = ((at_ + 1 : Nat) : Int) := by rw [wrap_i64 (by omega) (by omega)]; omega
  have d2 : decide ((m : Int) < 2) = true := by simp; omega
  obtain ⟨e, he⟩ : ∃ e, e = ((m : Int) == 1) := ⟨_, rfl⟩
  have he' : ((m : Int) == 1) = e := he.symm
  rw [he']
  first | (have FRx := FR; clear FRx) | (have FR : ¬ ((1 : Nat) = 0) := Nat.one_ne_zero)
  repeat' first
    | (refine Sm.mk ?_; try simp -dsimp only [ZK, rvc, drawF, headN, pureH, stp, dvc, calleeOf, gcall, pev, eff, newB, okd, og, ogs, ogo, ogp, slv, bltv, opd, litv, strip, one, both, putE, St.put, look, gdOf, gdv, picka, pickv, pickw, binv, bini, bins, binb, binp, bina, shp, eqCells, unv, convv, nilv, faddv, addp, idxav, idxp, load1, load1m, loadn, loadnm, loadv, hget, hset, hrep, hdel, slicev, bnd, shift1, lenv, IntKind.bits, extractv, fieldv, indexv, min2v, max2v, mkiv, cellsA, fillA, buildv, stC, oneC, rowMB, intsA, plN, appE, appZ, appC, appNZ, appNC, VwL, srcC, srcZ, srcM, isBoolT, isPtrT, isSliceT, uOk, Value.oneCell', Nat.reducePow, Int.reducePow, Nat.reduceAdd, Nat.reduceMul, Nat.reduceSub, Nat.reduceLT, Nat.reduceLeDiff, Nat.reduceEqDiff, Nat.reduceBEq, Nat.reduceDiv, Nat.reduceMod, ↓reduceIte, reduceCtorEq, Int.reduceToNat, Int.reduceLT, Int.reduceLE, drawSF, hdel, TFWiX, SeqQ, BlkQ, LoopQ, BodyQ, d, z, w, d2, h4, he', FR])
    | (refine WP.seq fun K hK => ?_)
    | (refine WP.region (rvc_sound _ _ (Sm.out ?_)))
    | (refine WP.drawS (is := 13) (k := 16) mixed (by decide +kernel) (by decide +kernel) (Sm.out ?_))
    | (refine WP.drawK rfl mixed (by decide +kernel) (Sm.out ?_))
    | (refine Ob.mk ?_; focus (first | assumption | omega | decide | trivial | (intro hob; simp only [hob, ZF]; done) | (intros; (repeat' refine And.intro ?_ ?_) <;> first | assumption | omega | trivial | decide) | (intros; simp only [ZE] at *; (repeat' refine And.intro ?_ ?_) <;> first | assumption | omega | trivial)))
    | (refine And.intro (Ob.out ?_) ?_)
    | (refine WP.block ?_)
    | (refine WP.cond rfl (fun hc => ?_) (fun hc => ?_) <;> (try simp only [ZC, reduceCtorEq, ZD] at hc) <;> (try (exact absurd hc (by decide))) <;> (try (exfalso; omega)))
    | ((first | refine WP.skip ?_ | refine WP.exit ?_); simp only [SeqQ, BlkQ, LoopQ, BodyQ, ↓reduceIte, Nat.reduceEqDiff, reduceCtorEq, look, true_and])
    | (refine WP.ret (Sm.out ?_))
    | (first | refine ExG.no (Sm.out ?_) | refine Or.inl (ExG.no (Sm.out ?_)) | refine Or.inl (And.intro (fun hg => absurd hg (by decide)) (ExG.no (Sm.out ?_))))
    | (refine Rt.mk ?_; refine And.intro ?_ ?_ <;> (intro hg; first | exact absurd hg (by decide) | refine Sm.out ?_))
    | (refine Nu.mk ?_; first | (fail_if_success (have := nb1)); intro nb1 | (fail_if_success (have := nb2)); intro nb2 | (fail_if_success (have := nb3)); intro nb3 | intro nbz)
    | (refine Fr.mk ?_; intro hfr; replace FR := And.intro hfr FR; clear hfr; refine Sm.out ?_)
    | (refine Two.mk ?_ ?_)
    | (refine Cs.mk ?_; intro hcs; first | exact False.elim hcs | (exfalso; omega) | (refine Sm.out ?_))
    | (refine OutQ.all ?_ ?_; (focus (simp only [resv, ZK, look, loadv, loadn, loadnm, load1, load1m, hget, ↓reduceIte, Nat.reduceEqDiff, Nat.reduceAdd, Nat.reduceMul, Nat.reduceLeDiff, Nat.reduceLT, reduceCtorEq, TFWiX, d, z, w, d2, h4, he', FR])); (try simp only [resv, resA, Fn, ZK, look, loadv, loadn, loadnm, load1, load1m, hget, ↓reduceIte, Nat.reduceEqDiff, Nat.reduceAdd, Nat.reduceMul, Nat.reduceLeDiff, Nat.reduceLT, reduceCtorEq, TFWiX, d, z, w, d2, h4, he', FR]); (try simp [resA, Fn, look, d, z, w, d2, h4, he', FR]); done)
    | go_step
    | omega
    | (simp only [maxLen_eq]; omega)
theorem refG_flagB (Z t : List Int) (at_ m : Nat) (most : Int) (h : Z.drop at_ = (m : Int) :: t) (hz : Z.length ≤ 2000) (hm : 2 ≤ m) :
    ACt Try.prog 37 [.slz .u8 Z, iv .i64 (at_ : Int), .agg [iv .i64 3, iv .i64 most]] [] Bad3 := by
  obtain ⟨h1, h2, h3, h4, h5⟩ := drop_facts h
  refine bad3_of (n := 0) (i := 0) (st := ⟨#[]⟩) (fl := ((m : Int) == 1)) (y := ((at_ + 1 : Nat) : Int)) ?_
  refine ACt.intro Try.func37 rfl (by kernel_rfl) (by simp [Try.ntmps37]) (fun cx => ?_)
  simp only [argE, Try.ntmps37, Try.results37]
  have d : decide ((at_ : Int) ≥ (Z.length : Int)) = false := by simp; omega
  have z : ((3 : Int) == 3) = true := rfl
  have w : IntKind.i64.wrap ((at_ : Int) + 1) = ((at_ + 1 : Nat) : Int) := by rw [wrap_i64 (by omega) (by omega)]; omega
  have d2 : decide ((m : Int) < 2) = false := by simp; omega
  obtain ⟨e, he⟩ : ∃ e, e = ((m : Int) == 1) := ⟨_, rfl⟩
  have he' : ((m : Int) == 1) = e := he.symm
  rw [he']
  first | (have FRx := FR; clear FRx) | (have FR : ¬ ((1 : Nat) = 0) := Nat.one_ne_zero)
  repeat' first
    | (refine Sm.mk ?_; try simp -dsimp only [ZK, rvc, drawF, headN, pureH, stp, dvc, calleeOf, gcall, pev, eff, newB, okd, og, ogs, ogo, ogp, slv, bltv, opd, litv, strip, one, both, putE, St.put, look, gdOf, gdv, picka, pickv, pickw, binv, bini, bins, binb, binp, bina, shp, eqCells, unv, convv, nilv, faddv, addp, idxav, idxp, load1, load1m, loadn, loadnm, loadv, hget, hset, hrep, hdel, slicev, bnd, shift1, lenv, IntKind.bits, extractv, fieldv, indexv, min2v, max2v, mkiv, cellsA, fillA, buildv, stC, oneC, rowMB, intsA, plN, appE, appZ, appC, appNZ, appNC, VwL, srcC, srcZ, srcM, isBoolT, isPtrT, isSliceT, uOk, Value.oneCell', Nat.reducePow, Int.reducePow, Nat.reduceAdd, Nat.reduceMul, Nat.reduceSub, Nat.reduceLT, Nat.reduceLeDiff, Nat.reduceEqDiff, Nat.reduceBEq, Nat.reduceDiv, Nat.reduceMod, ↓reduceIte, reduceCtorEq, Int.reduceToNat, Int.reduceLT, Int.reduceLE, drawSF, hdel, TFWiX, SeqQ, BlkQ, LoopQ, BodyQ, d, z, w, d2, h4, he', FR])
    | (refine WP.seq fun K hK => ?_)
    | (refine WP.region (rvc_sound _ _ (Sm.out ?_)))
    | (refine WP.drawS (is := 13) (k := 16) mixed (by decide +kernel) (by decide +kernel) (Sm.out ?_))
    | (refine WP.drawK rfl mixed (by decide +kernel) (Sm.out ?_))
    | (refine Ob.mk ?_; focus (first | assumption | omega | decide | trivial | (intro hob; simp only [hob, ZF]; done) | (intros; (repeat' refine And.intro ?_ ?_) <;> first | assumption | omega | trivial | decide) | (intros; simp only [ZE] at *; (repeat' refine And.intro ?_ ?_) <;> first | assumption | omega | trivial)))
    | (refine And.intro (Ob.out ?_) ?_)
    | (refine WP.block ?_)
    | (refine WP.cond rfl (fun hc => ?_) (fun hc => ?_) <;> (try simp only [ZC, reduceCtorEq, ZD] at hc) <;> (try (exact absurd hc (by decide))) <;> (try (exfalso; omega)))
    | ((first | refine WP.skip ?_ | refine WP.exit ?_); simp only [SeqQ, BlkQ, LoopQ, BodyQ, ↓reduceIte, Nat.reduceEqDiff, reduceCtorEq, look, true_and])
    | (refine WP.ret (Sm.out ?_))
    | (first | refine ExG.no (Sm.out ?_) | refine Or.inl (ExG.no (Sm.out ?_)) | refine Or.inl (And.intro (fun hg => absurd hg (by decide)) (ExG.no (Sm.out ?_))))
    | (refine Rt.mk ?_; refine And.intro ?_ ?_ <;> (intro hg; first | exact absurd hg (by decide) | refine Sm.out ?_))
    | (refine Nu.mk ?_; first | (fail_if_success (have := nb1)); intro nb1 | (fail_if_success (have := nb2)); intro nb2 | (fail_if_success (have := nb3)); intro nb3 | intro nbz)
    | (refine Fr.mk ?_; intro hfr; replace FR := And.intro hfr FR; clear hfr; refine Sm.out ?_)
    | (refine Two.mk ?_ ?_)
    | (refine Cs.mk ?_; intro hcs; first | exact False.elim hcs | (exfalso; omega) | (refine Sm.out ?_))
    | (refine OutQ.all ?_ ?_; (focus (simp only [resv, ZK, look, loadv, loadn, loadnm, load1, load1m, hget, ↓reduceIte, Nat.reduceEqDiff, Nat.reduceAdd, Nat.reduceMul, Nat.reduceLeDiff, Nat.reduceLT, reduceCtorEq, TFWiX, d, z, w, d2, h4, he', FR])); (try simp only [resv, resA, Fn, ZK, look, loadv, loadn, loadnm, load1, load1m, hget, ↓reduceIte, Nat.reduceEqDiff, Nat.reduceAdd, Nat.reduceMul, Nat.reduceLeDiff, Nat.reduceLT, reduceCtorEq, TFWiX, d, z, w, d2, h4, he', FR]); (try simp [resA, Fn, look, d, z, w, d2, h4, he', FR]); done)
    | go_step
    | omega
    | (simp only [maxLen_eq]; omega)
/-- the head's number, and whether a sign stands in it -/
def HeadK (kind : Int) (m K : Nat) (ng : Bool) : Prop := (kind ≠ 1 ∧ K = m ∧ ng = false) ∨ (kind = 1 ∧ m / 16 % 2 ≠ 1 ∧ K = m ∧ ng = false) ∨ (kind = 1 ∧ m / 16 % 2 = 1 ∧ K = m - 16 ∧ ng = true)
set_option maxHeartbeats 2000000 in
theorem refG_bad (Z t : List Int) (at_ m K : Nat) (ng : Bool) (kind most : Int) (h : Z.drop at_ = (m : Int) :: t) (hz : Z.length ≤ 2000) (h3 : kind ≠ 3) (hm : m < 256) (hH : HeadK kind m K ng)
    (hk : 8 < K ∨ t.length < K ∨ 0 < K ∧ t.getD 0 0 = 0) :
    ACt Try.prog 37 [.slz .u8 Z, iv .i64 (at_ : Int), .agg [iv .i64 kind, iv .i64 most]] [] Bad3 := by
  obtain ⟨h1, h2, h3', h4, h5⟩ := drop_facts h
  have h50 := h5 0
  rw [Nat.add_zero] at h50
  refine bad3_of (n := 0) (i := 0) (st := ⟨#[]⟩) (fl := false) (y := 0) ?_
  refine ACt.intro Try.func37 rfl (by kernel_rfl) (by simp [Try.ntmps37]) (fun cx => ?_)
  simp only [argE, Try.ntmps37, Try.results37]
  have d : decide ((at_ : Int) ≥ (Z.length : Int)) = false := by simp; omega
  have z : (kind == 3) = false := beq_eq_false_iff_ne.2 h3
  have w : IntKind.i64.wrap ((at_ : Int) + 1) = ((at_ + 1 : Nat) : Int) := by rw [wrap_i64 (by omega) (by omega)]; omega
  have w1 : IntKind.i64.wrap (m : Int) = (m : Int) := wrap_i64_nat (by omega)
  have w2 : IntKind.i64.wrap ((Z.length : Int) - at_) = ((t.length + 1 : Nat) : Int) := by rw [wrap_i64 (by omega) (by omega)]; omega
  have w3 : IntKind.i64.wrap (((t.length + 1 : Nat) : Int) - 1) = (t.length : Int) := by rw [wrap_i64 (by omega) (by omega)]; omega
  have e1 : (m : Int).tdiv 16 = ((m / 16 : Nat) : Int) := by rw [Int.tdiv_eq_ediv_of_nonneg (by omega)]; simp
  have e2 : IntKind.i64.wrap ((m / 16 : Nat) : Int) = ((m / 16 : Nat) : Int) := wrap_i64_nat (by omega)
  have e3 : ((m / 16 : Nat) : Int).tmod 2 = ((m / 16 % 2 : Nat) : Int) := by rw [Int.tmod_eq_emod_of_nonneg (by omega)]; simp
  have e4 : IntKind.i64.wrap ((m / 16 % 2 : Nat) : Int) = ((m / 16 % 2 : Nat) : Int) := wrap_i64_nat (by omega)
  obtain ⟨wk, wK⟩ : ∃ x, IntKind.i64.wrap ((m : Int) - 16) = x := ⟨_, rfl⟩
  obtain ⟨f, f2⟩ : ∃ x, (((m / 16 % 2 : Nat) : Int) == 1) = x := ⟨_, rfl⟩
  obtain ⟨q, f1⟩ : ∃ x, (kind == 1) = x := ⟨_, rfl⟩
  rcases hH with ⟨p1, p2, p3⟩ | ⟨p1, p0, p2, p3⟩ | ⟨p1, p0, p2, p3⟩
  · have f1 : (kind == 1) = false := beq_eq_false_iff_ne.2 p1
    subst p2
    first | (have FRx := FR; clear FRx) | (have FR : ¬ ((1 : Nat) = 0) := Nat.one_ne_zero)
    repeat' first
      | (refine Sm.mk ?_; try simp -dsimp only [ZK, rvc, drawF, headN, pureH, stp, dvc, calleeOf, gcall, pev, eff, newB, okd, og, ogs, ogo, ogp, slv, bltv, opd, litv, strip, one, both, putE, St.put, look, gdOf, gdv, picka, pickv, pickw, binv, bini, bins, binb, binp, bina, shp, eqCells, unv, convv, nilv, faddv, addp, idxav, idxp, load1, load1m, loadn, loadnm, loadv, hget, hset, hrep, hdel, slicev, bnd, shift1, lenv, IntKind.bits, extractv, fieldv, indexv, min2v, max2v, mkiv, cellsA, fillA, buildv, stC, oneC, rowMB, intsA, plN, appE, appZ, appC, appNZ, appNC, VwL, srcC, srcZ, srcM, isBoolT, isPtrT, isSliceT, uOk, Value.oneCell', Nat.reducePow, Int.reducePow, Nat.reduceAdd, Nat.reduceMul, Nat.reduceSub, Nat.reduceLT, Nat.reduceLeDiff, Nat.reduceEqDiff, Nat.reduceBEq, Nat.reduceDiv, Nat.reduceMod, ↓reduceIte, reduceCtorEq, Int.reduceToNat, Int.reduceLT, Int.reduceLE, drawSF, hdel, TFWiX, SeqQ, BlkQ, LoopQ, BodyQ, d, z, w, w1, w2, w3, h4, h50, f1, FR])
      | (refine WP.seq fun K hK => ?_)
      | (refine WP.region (rvc_sound _ _ (Sm.out ?_)))
      | (refine WP.drawS (is := 13) (k := 16) mixed (by decide +kernel) (by decide +kernel) (Sm.out ?_))
      | (refine WP.drawK rfl mixed (by decide +kernel) (Sm.out ?_))
      | (refine Ob.mk ?_; focus (first | assumption | omega | decide | trivial | (intro hob; simp only [hob, ZF]; done) | (intros; (repeat' refine And.intro ?_ ?_) <;> first | assumption | omega | trivial | decide) | (intros; simp only [ZE] at *; (repeat' refine And.intro ?_ ?_) <;> first | assumption | omega | trivial)))
      | (refine And.intro (Ob.out ?_) ?_)
      | (refine WP.block ?_)
      | (refine WP.cond rfl (fun hc => ?_) (fun hc => ?_) <;> (try simp only [ZC, reduceCtorEq, ZD] at hc) <;> (try (exact absurd hc (by decide))) <;> (try (exfalso; omega)))
      | ((first | refine WP.skip ?_ | refine WP.exit ?_); simp only [SeqQ, BlkQ, LoopQ, BodyQ, ↓reduceIte, Nat.reduceEqDiff, reduceCtorEq, look, true_and])
      | (refine WP.ret (Sm.out ?_))
      | (first | refine ExG.no (Sm.out ?_) | refine Or.inl (ExG.no (Sm.out ?_)) | refine Or.inl (And.intro (fun hg => absurd hg (by decide)) (ExG.no (Sm.out ?_))))
      | (refine Rt.mk ?_; refine And.intro ?_ ?_ <;> (intro hg; first | exact absurd hg (by decide) | refine Sm.out ?_))
      | (refine Nu.mk ?_; first | (fail_if_success (have := nb1)); intro nb1 | (fail_if_success (have := nb2)); intro nb2 | (fail_if_success (have := nb3)); intro nb3 | intro nbz)
      | (refine Fr.mk ?_; intro hfr; replace FR := And.intro hfr FR; clear hfr; refine Sm.out ?_)
      | (refine Two.mk ?_ ?_)
      | (refine Cs.mk ?_; intro hcs; first | exact False.elim hcs | (exfalso; omega) | (refine Sm.out ?_))
      | (refine OutQ.all ?_ ?_; (focus (simp only [resv, ZK, look, loadv, loadn, loadnm, load1, load1m, hget, ↓reduceIte, Nat.reduceEqDiff, Nat.reduceAdd, Nat.reduceMul, Nat.reduceLeDiff, Nat.reduceLT, reduceCtorEq, TFWiX, d, z, w, w1, w2, w3, h4, h50, f1, FR])); (try simp only [resv, resA, Fn, ZK, look, loadv, loadn, loadnm, load1, load1m, hget, ↓reduceIte, Nat.reduceEqDiff, Nat.reduceAdd, Nat.reduceMul, Nat.reduceLeDiff, Nat.reduceLT, reduceCtorEq, TFWiX, d, z, w, w1, w2, w3, h4, h50, f1, FR]); (try simp [resA, Fn, look, d, z, w, w1, w2, w3, h4, h50, f1, FR]); done)
      | go_step
      | omega
      | (simp only [maxLen_eq]; omega)
  · subst p1; subst p2
    have f2 : (((K / 16 % 2 : Nat) : Int) == 1) = false := beq_eq_false_iff_ne.2 (by omega)
    first | (have FRx := FR; clear FRx) | (have FR : ¬ ((1 : Nat) = 0) := Nat.one_ne_zero)
    repeat' first
      | (refine Sm.mk ?_; try simp -dsimp only [ZK, rvc, drawF, headN, pureH, stp, dvc, calleeOf, gcall, pev, eff, newB, okd, og, ogs, ogo, ogp, slv, bltv, opd, litv, strip, one, both, putE, St.put, look, gdOf, gdv, picka, pickv, pickw, binv, bini, bins, binb, binp, bina, shp, eqCells, unv, convv, nilv, faddv, addp, idxav, idxp, load1, load1m, loadn, loadnm, loadv, hget, hset, hrep, hdel, slicev, bnd, shift1, lenv, IntKind.bits, extractv, fieldv, indexv, min2v, max2v, mkiv, cellsA, fillA, buildv, stC, oneC, rowMB, intsA, plN, appE, appZ, appC, appNZ, appNC, VwL, srcC, srcZ, srcM, isBoolT, isPtrT, isSliceT, uOk, Value.oneCell', Nat.reducePow, Int.reducePow, Nat.reduceAdd, Nat.reduceMul, Nat.reduceSub, Nat.reduceLT, Nat.reduceLeDiff, Nat.reduceEqDiff, Nat.reduceBEq, Nat.reduceDiv, Nat.reduceMod, ↓reduceIte, reduceCtorEq, Int.reduceToNat, Int.reduceLT, Int.reduceLE, drawSF, hdel, TFWiX, SeqQ, BlkQ, LoopQ, BodyQ, d, z, w, w1, w2, w3, e1, e2, e3, e4, h4, h50, f2, FR])
      | (refine WP.seq fun K hK => ?_)
      | (refine WP.region (rvc_sound _ _ (Sm.out ?_)))
      | (refine WP.drawS (is := 13) (k := 16) mixed (by decide +kernel) (by decide +kernel) (Sm.out ?_))
      | (refine WP.drawK rfl mixed (by decide +kernel) (Sm.out ?_))
      | (refine Ob.mk ?_; focus (first | assumption | omega | decide | trivial | (intro hob; simp only [hob, ZF]; done) | (intros; (repeat' refine And.intro ?_ ?_) <;> first | assumption | omega | trivial | decide) | (intros; simp only [ZE] at *; (repeat' refine And.intro ?_ ?_) <;> first | assumption | omega | trivial)))
      | (refine And.intro (Ob.out ?_) ?_)
      | (refine WP.block ?_)
      | (refine WP.cond rfl (fun hc => ?_) (fun hc => ?_) <;> (try simp only [ZC, reduceCtorEq, ZD] at hc) <;> (try (exact absurd hc (by decide))) <;> (try (exfalso; omega)))
      | ((first | refine WP.skip ?_ | refine WP.exit ?_); simp only [SeqQ, BlkQ, LoopQ, BodyQ, ↓reduceIte, Nat.reduceEqDiff, reduceCtorEq, look, true_and])
      | (refine WP.ret (Sm.out ?_))
      | (first | refine ExG.no (Sm.out ?_) | refine Or.inl (ExG.no (Sm.out ?_)) | refine Or.inl (And.intro (fun hg => absurd hg (by decide)) (ExG.no (Sm.out ?_))))
      | (refine Rt.mk ?_; refine And.intro ?_ ?_ <;> (intro hg; first | exact absurd hg (by decide) | refine Sm.out ?_))
      | (refine Nu.mk ?_; first | (fail_if_success (have := nb1)); intro nb1 | (fail_if_success (have := nb2)); intro nb2 | (fail_if_success (have := nb3)); intro nb3 | intro nbz)
      | (refine Fr.mk ?_; intro hfr; replace FR := And.intro hfr FR; clear hfr; refine Sm.out ?_)
      | (refine Two.mk ?_ ?_)
      | (refine Cs.mk ?_; intro hcs; first | exact False.elim hcs | (exfalso; omega) | (refine Sm.out ?_))
      | (refine OutQ.all ?_ ?_; (focus (simp only [resv, ZK, look, loadv, loadn, loadnm, load1, load1m, hget, ↓reduceIte, Nat.reduceEqDiff, Nat.reduceAdd, Nat.reduceMul, Nat.reduceLeDiff, Nat.reduceLT, reduceCtorEq, TFWiX, d, z, w, w1, w2, w3, e1, e2, e3, e4, h4, h50, f2, FR])); (try simp only [resv, resA, Fn, ZK, look, loadv, loadn, loadnm, load1, load1m, hget, ↓reduceIte, Nat.reduceEqDiff, Nat.reduceAdd, Nat.reduceMul, Nat.reduceLeDiff, Nat.reduceLT, reduceCtorEq, TFWiX, d, z, w, w1, w2, w3, e1, e2, e3, e4, h4, h50, f2, FR]); (try simp [resA, Fn, look, d, z, w, w1, w2, w3, e1, e2, e3, e4, h4, h50, f2, FR]); done)
      | go_step
      | omega
      | (simp only [maxLen_eq]; omega)
  · subst p1
    rw [show (m / 16 % 2 : Nat) = 1 from p0] at e3 e4
    have e5 : (((1 : Nat) : Int) == 1) = true := rfl
    skip
    have wK : IntKind.i64.wrap ((m : Int) - 16) = (K : Int) := by rw [wrap_i64 (by omega) (by omega)]; omega
    first | (have FRx := FR; clear FRx) | (have FR : ¬ ((1 : Nat) = 0) := Nat.one_ne_zero)
    repeat' first
      | (refine Sm.mk ?_; try simp -dsimp only [ZK, rvc, drawF, headN, pureH, stp, dvc, calleeOf, gcall, pev, eff, newB, okd, og, ogs, ogo, ogp, slv, bltv, opd, litv, strip, one, both, putE, St.put, look, gdOf, gdv, picka, pickv, pickw, binv, bini, bins, binb, binp, bina, shp, eqCells, unv, convv, nilv, faddv, addp, idxav, idxp, load1, load1m, loadn, loadnm, loadv, hget, hset, hrep, hdel, slicev, bnd, shift1, lenv, IntKind.bits, extractv, fieldv, indexv, min2v, max2v, mkiv, cellsA, fillA, buildv, stC, oneC, rowMB, intsA, plN, appE, appZ, appC, appNZ, appNC, VwL, srcC, srcZ, srcM, isBoolT, isPtrT, isSliceT, uOk, Value.oneCell', Nat.reducePow, Int.reducePow, Nat.reduceAdd, Nat.reduceMul, Nat.reduceSub, Nat.reduceLT, Nat.reduceLeDiff, Nat.reduceEqDiff, Nat.reduceBEq, Nat.reduceDiv, Nat.reduceMod, ↓reduceIte, reduceCtorEq, Int.reduceToNat, Int.reduceLT, Int.reduceLE, drawSF, hdel, TFWiX, SeqQ, BlkQ, LoopQ, BodyQ, d, z, w, w1, w2, w3, e1, e2, e3, e4, e5, wK, h4, h50, FR])
      | (refine WP.seq fun K hK => ?_)
      | (refine WP.region (rvc_sound _ _ (Sm.out ?_)))
      | (refine WP.drawS (is := 13) (k := 16) mixed (by decide +kernel) (by decide +kernel) (Sm.out ?_))
      | (refine WP.drawK rfl mixed (by decide +kernel) (Sm.out ?_))
      | (refine Ob.mk ?_; focus (first | assumption | omega | decide | trivial | (intro hob; simp only [hob, ZF]; done) | (intros; (repeat' refine And.intro ?_ ?_) <;> first | assumption | omega | trivial | decide) | (intros; simp only [ZE] at *; (repeat' refine And.intro ?_ ?_) <;> first | assumption | omega | trivial)))
      | (refine And.intro (Ob.out ?_) ?_)
      | (refine WP.block ?_)
      | (refine WP.cond rfl (fun hc => ?_) (fun hc => ?_) <;> (try simp only [ZC, reduceCtorEq, ZD] at hc) <;> (try (exact absurd hc (by decide))) <;> (try (exfalso; omega)))
      | ((first | refine WP.skip ?_ | refine WP.exit ?_); simp only [SeqQ, BlkQ, LoopQ, BodyQ, ↓reduceIte, Nat.reduceEqDiff, reduceCtorEq, look, true_and])
      | (refine WP.ret (Sm.out ?_))
      | (first | refine ExG.no (Sm.out ?_) | refine Or.inl (ExG.no (Sm.out ?_)) | refine Or.inl (And.intro (fun hg => absurd hg (by decide)) (ExG.no (Sm.out ?_))))
      | (refine Rt.mk ?_; refine And.intro ?_ ?_ <;> (intro hg; first | exact absurd hg (by decide) | refine Sm.out ?_))
      | (refine Nu.mk ?_; first | (fail_if_success (have := nb1)); intro nb1 | (fail_if_success (have := nb2)); intro nb2 | (fail_if_success (have := nb3)); intro nb3 | intro nbz)
      | (refine Fr.mk ?_; intro hfr; replace FR := And.intro hfr FR; clear hfr; refine Sm.out ?_)
      | (refine Two.mk ?_ ?_)
      | (refine Cs.mk ?_; intro hcs; first | exact False.elim hcs | (exfalso; omega) | (refine Sm.out ?_))
      | (refine OutQ.all ?_ ?_; (focus (simp only [resv, ZK, look, loadv, loadn, loadnm, load1, load1m, hget, ↓reduceIte, Nat.reduceEqDiff, Nat.reduceAdd, Nat.reduceMul, Nat.reduceLeDiff, Nat.reduceLT, reduceCtorEq, TFWiX, d, z, w, w1, w2, w3, e1, e2, e3, e4, e5, wK, h4, h50, FR])); (try simp only [resv, resA, Fn, ZK, look, loadv, loadn, loadnm, load1, load1m, hget, ↓reduceIte, Nat.reduceEqDiff, Nat.reduceAdd, Nat.reduceMul, Nat.reduceLeDiff, Nat.reduceLT, reduceCtorEq, TFWiX, d, z, w, w1, w2, w3, e1, e2, e3, e4, e5, wK, h4, h50, FR]); (try simp [resA, Fn, look, d, z, w, w1, w2, w3, e1, e2, e3, e4, e5, wK, h4, h50, FR]); done)
      | go_step
      | omega
      | (simp only [maxLen_eq]; omega)
end Go.Proofs.Ytljfldoekamccaa.Wi
namespace Go.Proofs.Ytljfldoekamccaa.Wi
open Go
set_option linter.unusedVariables false
set_option linter.unusedSimpArgs false
theorem TFWiY : ((((((type_of% tyc0) ∧ ((type_of% tyc2) ∧ (type_of% zmb2))) ∧ ((type_of% tyc3) ∧ ((type_of% zmb3) ∧ (type_of% tyc4)))) ∧ (((type_of% zmb4) ∧ ((type_of% tyc5) ∧ (type_of% zmb5))) ∧ ((type_of% tyc9) ∧ ((type_of% zmb9) ∧ (type_of% tyc22))))) ∧ ((((type_of% zmb22) ∧ ((type_of% tyc38) ∧ (type_of% elt38))) ∧ ((type_of% mkz38) ∧ ((type_of% apT38) ∧ (type_of% elk38)))) ∧ (((type_of% zmb38) ∧ ((type_of% tyc84) ∧ (type_of% foff84_0))) ∧ ((type_of% fpart84_0) ∧ ((type_of% foff84_1) ∧ (type_of% fpart84_1)))))) ∧ (((((type_of% foff84_2) ∧ ((type_of% fpart84_2) ∧ (type_of% foff84_3))) ∧ ((type_of% fpart84_3) ∧ ((type_of% fe84) ∧ (type_of% zmb84)))) ∧ (((type_of% bldT84) ∧ ((type_of% tyc88) ∧ (type_of% foff88_0))) ∧ ((type_of% fpart88_0) ∧ ((type_of% foff88_1) ∧ (type_of% fpart88_1))))) ∧ ((((type_of% fe88) ∧ ((type_of% zmb88) ∧ (type_of% bldT88))) ∧ ((type_of% Try.underlying0) ∧ ((type_of% Try.underlying2) ∧ (type_of% Try.underlying3)))) ∧ (((type_of% Try.underlying4) ∧ ((type_of% Try.underlying5) ∧ (type_of% Try.underlying9))) ∧ (((type_of% Try.underlying22) ∧ (type_of% Try.underlying38)) ∧ ((type_of% Try.underlying84) ∧ (type_of% Try.underlying88))))))) :=
  ⟨⟨⟨⟨⟨tyc0, ⟨tyc2, zmb2⟩⟩, ⟨tyc3, ⟨zmb3, tyc4⟩⟩⟩, ⟨⟨zmb4, ⟨tyc5, zmb5⟩⟩, ⟨tyc9, ⟨zmb9, tyc22⟩⟩⟩⟩, ⟨⟨⟨zmb22, ⟨tyc38, elt38⟩⟩, ⟨mkz38, ⟨apT38, elk38⟩⟩⟩, ⟨⟨zmb38, ⟨tyc84, foff84_0⟩⟩, ⟨fpart84_0, ⟨foff84_1, fpart84_1⟩⟩⟩⟩⟩, ⟨⟨⟨⟨foff84_2, ⟨fpart84_2, foff84_3⟩⟩, ⟨fpart84_3, ⟨fe84, zmb84⟩⟩⟩, ⟨⟨bldT84, ⟨tyc88, foff88_0⟩⟩, ⟨fpart88_0, ⟨foff88_1, fpart88_1⟩⟩⟩⟩, ⟨⟨⟨fe88, ⟨zmb88, bldT88⟩⟩, ⟨Try.underlying0, ⟨Try.underlying2, Try.underlying3⟩⟩⟩, ⟨⟨Try.underlying4, ⟨Try.underlying5, Try.underlying9⟩⟩, ⟨⟨Try.underlying22, Try.underlying38⟩, ⟨Try.underlying84, Try.underlying88⟩⟩⟩⟩⟩⟩
def Post3 (zl : Nat) (o : Option (AV × List Int)) (r : AV) (F' : Hp) : Prop :=
  match o with
  | none => Bad3 r F'
  | some (g, rest) => r = .tup [g, iv .i64 ((zl - rest.length : Nat) : Int), bv true] ∧ F' = []
theorem bad3_mk {zl : Nat} {n i y : Int} {st : ByteArray} {fl f : Bool} (h : f = false) : Post3 zl none (.tup [.agg [iv .u64 n, iv .i64 i, .lit (.string st), bv fl], iv .i64 y, bv f]) [] := ⟨(n, i, st, fl, y), by rw [h], rfl⟩
theorem good3_mk {zl : Nat} {g g' : AV} {nx : Int} {f : Bool} {rest : List Int} (hg : g' = g) (h1 : nx = ((zl - rest.length : Nat) : Int)) (h2 : f = true) : Post3 zl (some (g, rest)) (.tup [g', iv .i64 nx, bv f]) [] := by
  subst hg h1 h2; exact ⟨rfl, rfl⟩
/-- what a kind makes of a number -/
def tailF (kind most : Int) (ng : Bool) (N : Nat) (r : List Int) : Option (AV × List Int) :=
  if kind = 1 then (if ng then (if N = 0 ∨ 9223372036854775808 < N then none else some (.agg [nu 0, iv .i64 (-(N : Int)), eS, bv false], r)) else if 9223372036854775807 < N then none else some (.agg [nu 0, iv .i64 (N : Int), eS, bv false], r))
  else if kind = 0 then some (.agg [nu N, iv .i64 0, eS, bv false], r)
  else if most < 0 ∨ most < (N : Int) then none
  else if kind = 4 then some (.agg [nu N, iv .i64 0, eS, bv false], r)
  else if r.length < N then none else some (.agg [nu 0, iv .i64 0, .lit (.string (bstr (r.take N))), bv false], r.drop N)
set_option maxRecDepth 8000 in
set_option maxHeartbeats 8000000 in
theorem refG_goodT (Z t : List Int) (at_ m KK : Nat) (kind most : Int) (h : Z.drop at_ = (m : Int) :: t) (hb : By t) (hz : Z.length ≤ 2000) (h3 : kind ≠ 3) (hm : m < 256) (hH : HeadK kind m KK true)
    (hk : KK ≤ 8 ∧ KK ≤ t.length ∧ (KK = 0 ∨ t.getD 0 0 ≠ 0)) (hm1 : -9223372036854775808 ≤ most) (hm2 : most ≤ 9223372036854775807) :
    ACt Try.prog 37 [.slz .u8 Z, iv .i64 (at_ : Int), .agg [iv .i64 kind, iv .i64 most]] [] (Post3 Z.length (tailF kind most true (valL (t.take KK)) (t.drop KK))) := by
  obtain ⟨h1, h2, h3', h4, h5⟩ := drop_facts h
  have h50 := h5 0
  rw [Nat.add_zero] at h50
  obtain ⟨N, hN⟩ : ∃ N, N = valL (t.take KK) := ⟨_, rfl⟩
  obtain ⟨r, hr⟩ : ∃ r, r = t.drop KK := ⟨_, rfl⟩
  have hrl : r.length = t.length - KK := by rw [hr]; simp
  have hlt : ∀ j, j ≤ KK → valL (t.take j) < 256 ^ j := fun j hj => by
    have := valL_lt (hb.take j)
    rwa [show (t.take j).length = j by simp; omega] at this
  have hNlt : N < 18446744073709551616 := by
    have := hlt KK (Nat.le_refl _)
    have h8 : (256 : Nat) ^ KK ≤ 256 ^ 8 := Nat.pow_le_pow_right (by omega) hk.1
    omega
  have hZr : Z.drop (at_ + 1 + KK) = r := by rw [hr, h2, List.drop_drop]
  rw [← hN, ← hr]
  have hT := tailF kind most true N r
  refine ACt.intro Try.func37 rfl (by kernel_rfl) (by simp [Try.ntmps37]) (fun cx => ?_)
  simp only [argE, Try.ntmps37, Try.results37]
  have d : decide ((at_ : Int) ≥ (Z.length : Int)) = false := by simp; omega
  have z : (kind == 3) = false := beq_eq_false_iff_ne.2 h3
  have w : IntKind.i64.wrap ((at_ : Int) + 1) = ((at_ + 1 : Nat) : Int) := by rw [wrap_i64 (by omega) (by omega)]; omega
  have w1 : IntKind.i64.wrap (m : Int) = (m : Int) := wrap_i64_nat (by omega)
  have w2 : IntKind.i64.wrap ((Z.length : Int) - at_) = ((t.length + 1 : Nat) : Int) := by rw [wrap_i64 (by omega) (by omega)]; omega
  have w3 : IntKind.i64.wrap (((t.length + 1 : Nat) : Int) - 1) = (t.length : Int) := by rw [wrap_i64 (by omega) (by omega)]; omega
  have e1 : (m : Int).tdiv 16 = ((m / 16 : Nat) : Int) := by rw [Int.tdiv_eq_ediv_of_nonneg (by omega)]; simp
  have e2 : IntKind.i64.wrap ((m / 16 : Nat) : Int) = ((m / 16 : Nat) : Int) := wrap_i64_nat (by omega)
  have e3 : ((m / 16 : Nat) : Int).tmod 2 = ((m / 16 % 2 : Nat) : Int) := by rw [Int.tmod_eq_emod_of_nonneg (by omega)]; simp
  have e4 : IntKind.i64.wrap ((m / 16 % 2 : Nat) : Int) = ((m / 16 % 2 : Nat) : Int) := wrap_i64_nat (by omega)
  have g1 : decide ((KK : Int) > 8) = false := by simp; omega
  have g2 : decide ((KK : Int) > (t.length : Int)) = false := by simp; omega
  have hH2 : kind = 1 ∧ m / 16 % 2 = 1 ∧ KK = m - 16 := by
    rcases hH with ⟨_, _, p3⟩ | ⟨_, _, _, p3⟩ | ⟨p1, p0, p2, _⟩
    · cases p3
    · cases p3
    · exact ⟨p1, p0, p2⟩
  obtain ⟨p1, p0, p2⟩ := hH2
  have f1 : (kind == 1) = true := by rw [p1]; rfl
  have f2 : (((m / 16 % 2 : Nat) : Int) == 1) = true := by rw [p0]; rfl
  have k0 : (kind == 0) = false := by rw [p1]; rfl
  have wK : IntKind.i64.wrap ((m : Int) - 16) = (KK : Int) := by rw [wrap_i64 (by omega) (by omega)]; omega
  clear hH
  first | (have FRx := FR; clear FRx) | (have FR : ¬ ((1 : Nat) = 0) := Nat.one_ne_zero)
  repeat' first
    | (refine Sm.mk ?_; try simp -dsimp only [ZK, rvc, drawF, headN, pureH, stp, dvc, calleeOf, gcall, pev, eff, newB, okd, og, ogs, ogo, ogp, slv, bltv, opd, litv, strip, one, both, putE, St.put, look, gdOf, gdv, picka, pickv, pickw, binv, bini, bins, binb, binp, bina, shp, eqCells, unv, convv, nilv, faddv, addp, idxav, idxp, load1, load1m, loadn, loadnm, loadv, hget, hset, hrep, hdel, slicev, bnd, shift1, lenv, IntKind.bits, extractv, fieldv, indexv, min2v, max2v, mkiv, cellsA, fillA, buildv, stC, oneC, rowMB, intsA, plN, appE, appZ, appC, appNZ, appNC, VwL, srcC, srcZ, srcM, isBoolT, isPtrT, isSliceT, uOk, Value.oneCell', Nat.reducePow, Int.reducePow, Nat.reduceAdd, Nat.reduceMul, Nat.reduceSub, Nat.reduceLT, Nat.reduceLeDiff, Nat.reduceEqDiff, Nat.reduceBEq, Nat.reduceDiv, Nat.reduceMod, ↓reduceIte, reduceCtorEq, Int.reduceToNat, Int.reduceLT, Int.reduceLE, drawSF, hdel, TFWiY, SeqQ, BlkQ, LoopQ, BodyQ, d, z, w, w1, w2, w3, e1, e2, e3, e4, f1, f2, wK, h4, h50, g1, g2, FR])
    | (refine WP.seq fun K hK => ?_)
    | (refine WP.region (rvc_sound _ _ (Sm.out ?_)))
    | (refine WP.drawS (is := 13) (k := 16) mixed (by decide +kernel) (by decide +kernel) (Sm.out ?_))
    | (refine WP.drawK rfl mixed (by decide +kernel) (Sm.out ?_))
    | (refine Ob.mk ?_; focus (first | assumption | omega | decide | trivial | (intro hob; simp only [hob, ZF]; done) | (intros; (repeat' refine And.intro ?_ ?_) <;> first | assumption | omega | trivial | decide) | (intros; simp only [ZE] at *; (repeat' refine And.intro ?_ ?_) <;> first | assumption | omega | trivial)))
    | (refine And.intro (Ob.out ?_) ?_)
    | (refine WP.block ?_)
    | (refine WP.cond rfl (fun hc => ?_) (fun hc => ?_) <;> (try simp only [ZC, reduceCtorEq, ZD] at hc) <;> (try (exact absurd hc (by decide))) <;> (try (exfalso; omega)))
    | ((first | refine WP.skip ?_ | refine WP.exit ?_); simp only [SeqQ, BlkQ, LoopQ, BodyQ, ↓reduceIte, Nat.reduceEqDiff, reduceCtorEq, look, true_and])
    | (refine WP.ret (Sm.out ?_))
    | (first | refine ExG.no (Sm.out ?_) | refine Or.inl (ExG.no (Sm.out ?_)) | refine Or.inl (And.intro (fun hg => absurd hg (by decide)) (ExG.no (Sm.out ?_))))
    | (refine Rt.mk ?_; refine And.intro ?_ ?_ <;> (intro hg; first | exact absurd hg (by decide) | refine Sm.out ?_))
    | (refine Nu.mk ?_; first | (fail_if_success (have := nb1)); intro nb1 | (fail_if_success (have := nb2)); intro nb2 | (fail_if_success (have := nb3)); intro nb3 | intro nbz)
    | (refine Fr.mk ?_; intro hfr; replace FR := And.intro hfr FR; clear hfr; refine Sm.out ?_)
    | (refine Two.mk ?_ ?_)
    | (refine Cs.mk ?_; intro hcs; first | exact False.elim hcs | (exfalso; omega) | (refine Sm.out ?_))
    | go_step
    | omega
    | (simp only [maxLen_eq]; omega)
  clear g1 g2 e1 e2 e3 e4 w2 w3
  refine WP.loop (Γ := GG) (fun g => ⟨[(13, iv .i64 g.j), (10, iv .i64 KK), (12, nu (valL (t.take g.j))), (0, .slz .u8 Z), (1, iv .i64 at_), (11, bv true), (5, pt nb1 0), (6, pt nb2 0), (9, pt nb3 0)],
    [(nb1, .cells [iv .i64 kind, iv .i64 most] 2 88), (nb2, .cells [iv .u64 0, iv .i64 0, eS, bv false] 4 84), (nb3, .cells [iv .u64 0, iv .i64 0, eS, bv false] 4 84)]⟩) (fun g => g.j ≤ KK) (fun g => KK - g.j) ⟨0⟩ (by simp) (Sub.pick (by simp [pickB, hget, hdel, FR, valL]) (by simp [look, valL])) ?_
  intro ⟨j⟩ hj
  simp only at hj ⊢
  (refine WP.nd fun hnd => ?_; simp only [ndF, fresh_cons, fresh_nil, and_true, ne_eq] at hnd; replace FR := And.intro hnd FR; clear hnd)
  by_cases hjk : j < KK
  · have k1 : decide ((j : Int) < KK) = true := by simp; omega
    obtain ⟨c, hc0⟩ : ∃ c : Nat, t.getD j 0 = (c : Int) ∧ c ≤ 255 := by
      have hjt : j < t.length := by omega
      have := hb (t.getD j 0) (by rw [List.getD_eq_getElem?_getD, List.getElem?_eq_getElem hjt, Option.getD_some]; exact List.getElem_mem hjt)
      obtain ⟨c, hc⟩ := Int.eq_ofNat_of_zero_le this.1
      exact ⟨c, hc, by omega⟩
    have vj := valL_take (l := t) (i := j) (by omega)
    rw [hc0.1, Int.toNat_natCast] at vj
    have hv1 := hlt j (by omega)
    have h8 : (256 : Nat) ^ j ≤ 256 ^ 7 := Nat.pow_le_pow_right (by omega) (by omega)
    obtain ⟨V, hV⟩ : ∃ V, V = valL (t.take j) := ⟨_, rfl⟩
    rw [← hV] at vj hv1 ⊢
    have a1 : IntKind.u64.wrap (256 * (V : Int)) = ((256 * V : Nat) : Int) := by rw [show 256 * (V : Int) = ((256 * V : Nat) : Int) by simp, wrap_u64_nat (by omega)]
    have a2 : IntKind.i64.wrap (((at_ + 1 : Nat) : Int) + (j : Int)) = ((at_ + 1 + j : Nat) : Int) := by rw [wrap_i64 (by omega) (by omega)]; omega
    have a3 : Z.getD (at_ + 1 + j) 0 = (c : Int) := by rw [h5, hc0.1]
    have a4 : IntKind.u64.wrap (c : Int) = (c : Int) := wrap_u64_nat (by omega)
    have a5 : IntKind.u64.wrap (((256 * V : Nat) : Int) + (c : Int)) = ((V * 256 + c : Nat) : Int) := by rw [wrap_u64 (by omega) (by omega)]; omega
    have a6 : IntKind.i64.wrap ((j : Int) + 1) = ((j + 1 : Nat) : Int) := by rw [wrap_i64 (by omega) (by omega)]; omega
    first | (have FRx := FR; clear FRx) | (have FR : ¬ ((1 : Nat) = 0) := Nat.one_ne_zero)
    repeat' first
      | (refine Sm.mk ?_; try simp -dsimp only [ZK, rvc, drawF, headN, pureH, stp, dvc, calleeOf, gcall, pev, eff, newB, okd, og, ogs, ogo, ogp, slv, bltv, opd, litv, strip, one, both, putE, St.put, look, gdOf, gdv, picka, pickv, pickw, binv, bini, bins, binb, binp, bina, shp, eqCells, unv, convv, nilv, faddv, addp, idxav, idxp, load1, load1m, loadn, loadnm, loadv, hget, hset, hrep, hdel, slicev, bnd, shift1, lenv, IntKind.bits, extractv, fieldv, indexv, min2v, max2v, mkiv, cellsA, fillA, buildv, stC, oneC, rowMB, intsA, plN, appE, appZ, appC, appNZ, appNC, VwL, srcC, srcZ, srcM, isBoolT, isPtrT, isSliceT, uOk, Value.oneCell', Nat.reducePow, Int.reducePow, Nat.reduceAdd, Nat.reduceMul, Nat.reduceSub, Nat.reduceLT, Nat.reduceLeDiff, Nat.reduceEqDiff, Nat.reduceBEq, Nat.reduceDiv, Nat.reduceMod, ↓reduceIte, reduceCtorEq, Int.reduceToNat, Int.reduceLT, Int.reduceLE, drawSF, hdel, TFWiY, SeqQ, BlkQ, LoopQ, BodyQ, k1, w, a1, a2, a3, a4, a5, a6, FR])
      | (refine WP.seq fun K hK => ?_)
      | (refine WP.region (rvc_sound _ _ (Sm.out ?_)))
      | (refine WP.drawS (is := 13) (k := 16) mixed (by decide +kernel) (by decide +kernel) (Sm.out ?_))
      | (refine WP.drawK rfl mixed (by decide +kernel) (Sm.out ?_))
      | (refine Ob.mk ?_; focus (first | assumption | omega | decide | trivial | (intro hob; simp only [hob, ZF]; done) | (intros; (repeat' refine And.intro ?_ ?_) <;> first | assumption | omega | trivial | decide) | (intros; simp only [ZE] at *; (repeat' refine And.intro ?_ ?_) <;> first | assumption | omega | trivial)))
      | (refine And.intro (Ob.out ?_) ?_)
      | (refine WP.block ?_)
      | (refine WP.cond rfl (fun hc => ?_) (fun hc => ?_) <;> (try simp only [ZC, reduceCtorEq, ZD] at hc) <;> (try (exact absurd hc (by decide))) <;> (try (exfalso; omega)))
      | ((first | refine WP.skip ?_ | refine WP.exit ?_); simp only [SeqQ, BlkQ, LoopQ, BodyQ, ↓reduceIte, Nat.reduceEqDiff, reduceCtorEq, look, true_and])
      | (refine WP.ret (Sm.out ?_))
      | (first | refine ExG.no (Sm.out ?_) | refine Or.inl (ExG.no (Sm.out ?_)) | refine Or.inl (And.intro (fun hg => absurd hg (by decide)) (ExG.no (Sm.out ?_))))
      | (refine Rt.mk ?_; refine And.intro ?_ ?_ <;> (intro hg; first | exact absurd hg (by decide) | refine Sm.out ?_))
      | (refine Nu.mk ?_; first | (fail_if_success (have := nb1)); intro nb1 | (fail_if_success (have := nb2)); intro nb2 | (fail_if_success (have := nb3)); intro nb3 | intro nbz)
      | (refine Fr.mk ?_; intro hfr; replace FR := And.intro hfr FR; clear hfr; refine Sm.out ?_)
      | (refine Two.mk ?_ ?_)
      | (refine Cs.mk ?_; intro hcs; first | exact False.elim hcs | (exfalso; omega) | (refine Sm.out ?_))
      | go_step
      | omega
      | (simp only [maxLen_eq]; omega)
    exact ⟨⟨j + 1⟩, by simp only; omega, by simp only; omega, (Sub.pick (by simp [pickB, hget, hdel, FR, vj]) (by simp [look, vj]))⟩
  · have k1 : decide ((j : Int) < KK) = false := by simp; omega
    obtain rfl : j = KK := by omega
    have wn : IntKind.i64.wrap (((at_ + 1 : Nat) : Int) + (j : Int)) = ((at_ + 1 + j : Nat) : Int) := by rw [wrap_i64 (by omega) (by omega)]; omega
    have wl : IntKind.i64.wrap ((Z.length : Int) - ((at_ + 1 + j : Nat) : Int)) = (r.length : Int) := by rw [wrap_i64 (by omega) (by omega)]; omega
    have wr : IntKind.u64.wrap (r.length : Int) = (r.length : Int) := wrap_u64_nat (by omega)
    have hN' := hN.symm
    have hneg : N ≤ 9223372036854775808 → IntKind.i64.wrap (IntKind.u64.wrap (0 - (N : Int))) = -(N : Int) := fun hN9 => by
      rw [wrap_u64_mod]; simp only [IntKind.wrap, IntKind.bits, IntKind.signed]; simp; omega
    first | (have FRx := FR; clear FRx) | (have FR : ¬ ((1 : Nat) = 0) := Nat.one_ne_zero)
    repeat' first
      | (refine Sm.mk ?_; try simp -dsimp only [ZK, rvc, drawF, headN, pureH, stp, dvc, calleeOf, gcall, pev, eff, newB, okd, og, ogs, ogo, ogp, slv, bltv, opd, litv, strip, one, both, putE, St.put, look, gdOf, gdv, picka, pickv, pickw, binv, bini, bins, binb, binp, bina, shp, eqCells, unv, convv, nilv, faddv, addp, idxav, idxp, load1, load1m, loadn, loadnm, loadv, hget, hset, hrep, hdel, slicev, bnd, shift1, lenv, IntKind.bits, extractv, fieldv, indexv, min2v, max2v, mkiv, cellsA, fillA, buildv, stC, oneC, rowMB, intsA, plN, appE, appZ, appC, appNZ, appNC, VwL, srcC, srcZ, srcM, isBoolT, isPtrT, isSliceT, uOk, Value.oneCell', Nat.reducePow, Int.reducePow, Nat.reduceAdd, Nat.reduceMul, Nat.reduceSub, Nat.reduceLT, Nat.reduceLeDiff, Nat.reduceEqDiff, Nat.reduceBEq, Nat.reduceDiv, Nat.reduceMod, ↓reduceIte, reduceCtorEq, Int.reduceToNat, Int.reduceLT, Int.reduceLE, drawSF, hdel, TFWiY, SeqQ, BlkQ, LoopQ, BodyQ, k1, w, wn, wl, wr, hN', k0, f1, FR])
      | (refine WP.seq fun K hK => ?_)
      | (refine WP.region (rvc_sound _ _ (Sm.out ?_)))
      | (refine WP.drawS (is := 13) (k := 16) mixed (by decide +kernel) (by decide +kernel) (Sm.out ?_))
      | (refine WP.drawK rfl mixed (by decide +kernel) (Sm.out ?_))
      | (refine Ob.mk ?_; focus (first | assumption | omega | decide | trivial | (intro hob; simp only [hob, ZF]; done) | (intros; (repeat' refine And.intro ?_ ?_) <;> first | assumption | omega | trivial | decide) | (intros; simp only [ZE] at *; (repeat' refine And.intro ?_ ?_) <;> first | assumption | omega | trivial)))
      | (refine And.intro (Ob.out ?_) ?_)
      | (refine WP.block ?_)
      | (refine WP.cond rfl (fun hc => ?_) (fun hc => ?_) <;> (try simp only [ZC, reduceCtorEq, ZD] at hc) <;> (try (exact absurd hc (by decide))) <;> (try (exfalso; omega)))
      | ((first | refine WP.skip ?_ | refine WP.exit ?_); simp only [SeqQ, BlkQ, LoopQ, BodyQ, ↓reduceIte, Nat.reduceEqDiff, reduceCtorEq, look, true_and])
      | (refine WP.ret (Sm.out ?_))
      | (first | refine ExG.no (Sm.out ?_) | refine Or.inl (ExG.no (Sm.out ?_)) | refine Or.inl (And.intro (fun hg => absurd hg (by decide)) (ExG.no (Sm.out ?_))))
      | (refine Rt.mk ?_; refine And.intro ?_ ?_ <;> (intro hg; first | exact absurd hg (by decide) | refine Sm.out ?_))
      | (refine Nu.mk ?_; first | (fail_if_success (have := nb1)); intro nb1 | (fail_if_success (have := nb2)); intro nb2 | (fail_if_success (have := nb3)); intro nb3 | intro nbz)
      | (refine Fr.mk ?_; intro hfr; replace FR := And.intro hfr FR; clear hfr; refine Sm.out ?_)
      | (refine Two.mk ?_ ?_)
      | (refine Cs.mk ?_; intro hcs; first | exact False.elim hcs | (exfalso; omega) | (refine Sm.out ?_))
      | go_step
      | omega
      | (simp only [maxLen_eq]; omega)
    all_goals clear h5 hlt
    all_goals (refine OutQ.all ?_ ?_; (focus (simp only [resv, ZK, look, loadv, loadn, loadnm, load1, load1m, hget, ↓reduceIte, Nat.reduceEqDiff, Nat.reduceAdd, Nat.reduceMul, Nat.reduceLeDiff, Nat.reduceLT, reduceCtorEq, TFWiY, FR])); (simp only [resv, resA, ZK, look, loadv, loadn, loadnm, load1, load1m, hget, ↓reduceIte, Nat.reduceEqDiff, Nat.reduceAdd, Nat.reduceMul, Nat.reduceLeDiff, Nat.reduceLT, reduceCtorEq, TFWiY, FR]))
    all_goals (unfold tailF; (repeat' split) <;> first | (exfalso; omega) | (exact absurd (show true = true from rfl) (by assumption)) | (exact absurd (show false = true by assumption) (by decide)) | exact bad3_mk (by first | rfl | (simp; omega)) | exact good3_mk rfl (by first | omega | (simp only [List.length_drop]; omega)) (by first | rfl | (simp; omega)) | exact good3_mk (by first | (rw [wrap_i64 (by omega) (by omega)]; done) | (rw [wrap_i64 (by omega) (by omega)]; rfl)) (by omega) (by first | rfl | (simp; omega)) | exact good3_mk (by first | (rw [hneg (by omega)]; done) | (rw [hneg (by omega)]; rfl)) (by omega) (by first | rfl | (simp; omega)) | trace_state)
end Go.Proofs.Ytljfldoekamccaa.Wi
