/-
  The walks and the laws that the statement leans on, part 8.
-/
import Derived.Test.YtnhkohgamnchlaaZ7
namespace Go.Proofs.Ytnhkohgamnchlaa
open Go
set_option linter.unusedVariables false
set_option linter.unusedSimpArgs false
theorem TFBlK : ((((((type_of% tyc0) ∧ ((type_of% tyc3) ∧ (type_of% zmb3))) ∧ ((type_of% tyc4) ∧ ((type_of% zmb4) ∧ (type_of% tyc5)))) ∧ (((type_of% zmb5) ∧ ((type_of% tyc22) ∧ (type_of% elt22))) ∧ ((type_of% mkz22) ∧ ((type_of% mkc22) ∧ (type_of% apT22))))) ∧ ((((type_of% elk22) ∧ ((type_of% zmb22) ∧ (type_of% tyc24))) ∧ ((type_of% mth24_27) ∧ ((type_of% mth24_26) ∧ (type_of% mth24_28)))) ∧ (((type_of% con24) ∧ ((type_of% zmb24) ∧ (type_of% tyc25))) ∧ (((type_of% zmb25) ∧ (type_of% tyc26)) ∧ ((type_of% tyc30) ∧ (type_of% elt30)))))) ∧ (((((type_of% mkz30) ∧ ((type_of% apT30) ∧ (type_of% elk30))) ∧ ((type_of% zmb30) ∧ ((type_of% tyc32) ∧ (type_of% foff32_0)))) ∧ (((type_of% fpart32_0) ∧ ((type_of% foff32_1) ∧ (type_of% fpart32_1))) ∧ ((type_of% foff32_2) ∧ ((type_of% fpart32_2) ∧ (type_of% foff32_3))))) ∧ ((((type_of% fpart32_3) ∧ ((type_of% zmb32) ∧ (type_of% bldT32))) ∧ ((type_of% Try.underlying0) ∧ ((type_of% Try.underlying3) ∧ (type_of% Try.underlying4)))) ∧ (((type_of% Try.underlying5) ∧ ((type_of% Try.underlying22) ∧ (type_of% Try.underlying24))) ∧ (((type_of% Try.underlying25) ∧ (type_of% Try.underlying26)) ∧ ((type_of% Try.underlying30) ∧ (type_of% Try.underlying32))))))) :=
  ⟨⟨⟨⟨⟨tyc0, ⟨tyc3, zmb3⟩⟩, ⟨tyc4, ⟨zmb4, tyc5⟩⟩⟩, ⟨⟨zmb5, ⟨tyc22, elt22⟩⟩, ⟨mkz22, ⟨mkc22, apT22⟩⟩⟩⟩, ⟨⟨⟨elk22, ⟨zmb22, tyc24⟩⟩, ⟨mth24_27, ⟨mth24_26, mth24_28⟩⟩⟩, ⟨⟨con24, ⟨zmb24, tyc25⟩⟩, ⟨⟨zmb25, tyc26⟩, ⟨tyc30, elt30⟩⟩⟩⟩⟩, ⟨⟨⟨⟨mkz30, ⟨apT30, elk30⟩⟩, ⟨zmb30, ⟨tyc32, foff32_0⟩⟩⟩, ⟨⟨fpart32_0, ⟨foff32_1, fpart32_1⟩⟩, ⟨foff32_2, ⟨fpart32_2, foff32_3⟩⟩⟩⟩, ⟨⟨⟨fpart32_3, ⟨zmb32, bldT32⟩⟩, ⟨Try.underlying0, ⟨Try.underlying3, Try.underlying4⟩⟩⟩, ⟨⟨Try.underlying5, ⟨Try.underlying22, Try.underlying24⟩⟩, ⟨⟨Try.underlying25, Try.underlying26⟩, ⟨Try.underlying30, Try.underlying32⟩⟩⟩⟩⟩⟩
structure Ac where
  kd : Int
  i : Int
  k : Int
  bs : List Int
def acC : List Ac → List AV
  | [] => []
  | e :: r => iv .i64 e.kd :: iv .i64 e.i :: iv .i64 e.k :: .slz .u8 e.bs :: acC r
theorem acC_len : ∀ l, (acC l).length = l.length * 4
  | [] => rfl
  | e :: r => by simp only [acC, List.length_cons, acC_len r]; omega
theorem acC_drop : ∀ (l : List Ac) (i : Nat) (h : i < l.length), (acC l).drop (i * 4) = iv .i64 l[i].kd :: iv .i64 l[i].i :: iv .i64 l[i].k :: .slz .u8 l[i].bs :: acC (l.drop (i + 1))
  | e :: r, 0, _ => rfl
  | e :: r, i + 1, h => by
    have := acC_drop r i (by simpa using h)
    rw [show (i + 1) * 4 = i * 4 + 4 by omega]
    simpa [acC] using this
/-- a fuse of n, and the deeds so far -/
structure FI (n : Int) (a : DA) : Prop where
  f : a.f = if n < 0 then -1 else n - a.de
  d : 0 ≤ n → (a.de : Int) ≤ n
  k : a.dk = true → 0 ≤ n ∧ (a.de : Int) = n
/-- what a step of a fused disk shows -/
structure FStep (n : Int) (a a' : DA) (e : Int) : Prop where
  I : FI n a'
  d : a.dk = true → e = 12
  s : (e = 0 ∧ a'.de = a.de + 1) ∨ (e ≠ 0 ∧ a'.de = a.de)
theorem FI.write {n : Int} {a : DA} (h : FI n a) (i : Int) (zs : List Int) : FStep n a (wrA a i zs) (wrC a i zs.length) := by
  unfold wrA wrC
  by_cases h1 : mayA a i zs.length ≠ 0
  · rw [if_pos h1, if_pos h1]
    refine ⟨h, fun hd => ?_, .inr ⟨h1, rfl⟩⟩
    unfold mayA mayC; rw [hd]; rfl
  · rw [if_neg h1, if_neg h1]
    obtain ⟨hk, i0, i1, i2⟩ := mayC_in (show mayA a i zs.length = 0 by simpa using h1)
    by_cases h2 : a.f = 0
    · rw [if_pos h2, if_pos h2]
      refine ⟨⟨h.f, h.d, fun _ => ?_⟩, fun hd => rfl, .inr ⟨by omega, rfl⟩⟩
      have := h.f
      have := h.d
      split at * <;> simp only <;> omega
    · rw [if_neg h2, if_neg h2]
      have hf := h.f
      have hd := h.d
      refine ⟨⟨?_, fun h0 => ?_, fun hx => ?_⟩, fun hx => ?_, .inl ⟨rfl, rfl⟩⟩
      · simp only [fuseN]; split at hf <;> (repeat' split) <;> omega
      · simp only; split at hf <;> omega
      · simp only at hx; rw [hk] at hx; cases hx
      · rw [hk] at hx; cases hx
theorem FI.sync {n : Int} {a : DA} (h : FI n a) : FStep n a (syA a) (syC a) := by
  unfold syA syC
  by_cases h1 : a.dk = true
  · rw [if_pos h1, if_pos h1]
    exact ⟨h, fun hd => rfl, .inr ⟨by omega, rfl⟩⟩
  · rw [if_neg h1, if_neg h1]
    have hk : a.dk = false := by simpa using h1
    by_cases h2 : a.f = 0
    · rw [if_pos h2, if_pos h2]
      refine ⟨⟨h.f, h.d, fun _ => ?_⟩, fun hd => rfl, .inr ⟨by omega, rfl⟩⟩
      have := h.f
      have := h.d
      split at * <;> simp only <;> omega
    · rw [if_neg h2, if_neg h2]
      have hf := h.f
      have hd := h.d
      refine ⟨⟨?_, fun h0 => ?_, fun hx => ?_⟩, fun hx => ?_, .inl ⟨rfl, rfl⟩⟩
      · simp only [fuseN]; split at hf <;> (repeat' split) <;> omega
      · simp only; split at hf <;> omega
      · simp only at hx; rw [hk] at hx; cases hx
      · rw [hk] at hx; cases hx
theorem FStep.no {n c : Int} {a a' : DA} (h : FStep n a a' c) : ¬ ((((a.dk = true ∧ ¬c = 12 ∨ ¬((c == 0) = ((a'.de : Int) == ((a.de + 1 : Nat) : Int)))) ∨ ¬c = 0 ∧ ¬(a'.de : Int) = (a.de : Int)) ∨ n ≥ 0 ∧ (a'.de : Int) > n) ∨ a'.dk = true ∧ ¬(a'.de : Int) = n) := by
  have h1 := h.d
  have h2 := h.I.d
  have h3 := h.I.k
  rintro ((((⟨x, y⟩ | x) | ⟨x, y⟩) | ⟨x, y⟩) | ⟨x, y⟩)
  · exact y (h1 x)
  · refine x ?_
    rcases h.s with ⟨s1, s2⟩ | ⟨s1, s2⟩
    · rw [s1, s2]; simp
    · rw [s2, show (c == 0) = false by simpa using s1]
      symm; simp; omega
  · rcases h.s with ⟨s1, s2⟩ | ⟨s1, s2⟩
    · exact x s1
    · exact y (by rw [s2])
  · have := h2 x; omega
  · exact y (h3 x).2
structure KG where
  i : Nat
  a : DA
  l : DL
set_option maxRecDepth 8000 in
set_option maxHeartbeats 4000000 in
theorem fuses_ct (n : Int) (L : List Ac) (h1 : -9223372036854775808 ≤ n ∧ n ≤ 9223372036854775807) : ACt Try.prog 3 [iv .i64 n, .sl L.length (acC L)] [] (fun r _ => r = bv true) := by
  refine ACt.intro Try.func3 rfl (by kernel_rfl) (by simp [Try.ntmps3]) (fun cx => ?_)
  simp only [argE, Try.ntmps3, Try.results3]
  have a0 : AOk 0 (nwA 6 32) := nwA_ok (by omega) (by omega) (by omega) (by omega)
  have cN := new_d 6 32 (by omega) (by omega) (by omega) (by omega)
  have hCl := acC_len L
  have hdr := acC_drop L
  obtain ⟨C, hC⟩ : ∃ C, C = acC L := ⟨_, rfl⟩
  rw [← hC] at hCl hdr ⊢
  first | (have FRx := FR; clear FRx) | (have FR : Sm (¬ ((1 : Nat) = 0)) := Sm.mk Nat.one_ne_zero)
  repeat' first
    | (refine Sm.mk ?_; try simp -dsimp only [ZK, rvc, drawF, headN, pureH, stp, dvc, calleeOf, gcall, pev, eff, newB, okd, og, ogs, ogo, ogp, slv, bltv, opd, litv, strip, one, both, putE, St.put, look, gdOf, gdv, picka, pickv, pickw, binv, bini, bins, binb, binp, binq, isSlT, bina, shp, eqCells, unv, convv, nilv, faddv, addp, idxav, idxp, load1, load1m, loadn, loadnm, loadv, hget, hset, hrep, hdel, slicev, bnd, shift1, lenv, capv, IntKind.bits, extractv, fieldv, indexv, min2v, max2v, mkiv, cellsA, fillA, buildv, stC, oneC, rowMB, intsA, plN, appE, appZ, appC, appNZ, appNC, VwL, srcC, srcZ, srcM, isBoolT, isPtrT, isSliceT, uOk, Value.oneCell', Nat.reducePow, Int.reducePow, Nat.reduceAdd, Nat.reduceMul, Nat.reduceSub, Nat.reduceLT, Nat.reduceLeDiff, Nat.reduceEqDiff, Nat.reduceBEq, Nat.reduceDiv, Nat.reduceMod, ↓reduceIte, reduceCtorEq, Int.reduceToNat, Int.reduceLT, Int.reduceLE, TFBlK, SeqQ, BlkQ, LoopQ, BodyQ, FR.out])
    | (first | refine CallV.fn (awake_ct) (Sm.out ?_) | refine ExF.mk (awake_ct) (Sm.out ?_) | refine ExG.mk (fun _ => awake_ct) (Sm.out ?_) | refine ExG.mkJ (fun _ => awake_ct) (Sm.out ?_) | refine ExG.mkI (Ob.out ?_) (fun _ => awake_ct) (Sm.out ?_))
    | (refine CallV.ex (F := []) (List.Perm.refl _) (cN) (fun g => Sm.out ?_))
    | (refine WP.seq fun K hK => ?_)
    | ((fail_if_success (show WP _ _ _ (.region 4 _ _) _ _)); refine WP.region (rvc_sound _ _ (Sm.out ?_)))
    | ((fail_if_success (show WP _ _ _ (.region 4 _ _) _ _)); (show WP _ _ _ (.region 12 _ _) _ _); refine WP.drawKk 11 mixed (by decide +kernel) (Sm.out ?_))
    | ((fail_if_success (show WP _ _ _ (.region 4 _ _) _ _)); refine WP.drawK rfl mixed (by decide +kernel) (Sm.out ?_))
    | (refine Ob.mk ?_; focus (first | assumption | omega | decide | trivial | (intro hob; simp only [hob, ZF]; done) | (intros; (repeat' refine And.intro ?_ ?_) <;> first | assumption | omega | trivial | decide) | (intros; simp only [ZE] at *; (repeat' refine And.intro ?_ ?_) <;> first | assumption | omega | trivial)))
    | (refine And.intro (Ob.out ?_) ?_)
    | (refine WP.block ?_)
    | (refine WP.cond rfl (fun hc => ?_) (fun hc => ?_) <;> (try simp only [ZC, reduceCtorEq, ZD] at hc) <;> (try (exact absurd hc (by decide))) <;> (try (exfalso; omega)))
    | ((first | refine WP.skip ?_ | refine WP.exit ?_); simp only [SeqQ, BlkQ, LoopQ, BodyQ, ↓reduceIte, Nat.reduceEqDiff, reduceCtorEq, look, true_and])
    | (refine WP.ret (Sm.out ?_))
    | (first | refine ExG.no (Sm.out ?_) | refine Or.inl (ExG.no (Sm.out ?_)) | refine Or.inl (And.intro (fun hg => absurd hg (by decide)) (ExG.no (Sm.out ?_))))
    | (refine Rt.mk ?_; refine And.intro ?_ ?_ <;> (intro hg; first | exact absurd hg (by decide) | refine Sm.out ?_))
    | (refine Nu.mk ?_; first | (fail_if_success (have := nb1)); intro nb1 | (fail_if_success (have := nb2)); intro nb2 | (fail_if_success (have := nb3)); intro nb3 | intro nbz)
    | (refine Fr.mk ?_; intro hfr; (first | (have hFRb : _ ≤ _ ∧ _ ≤ _ := And.intro hfr.1 hfr.2.1) | (have hFRb : _ ≤ _ := hfr.1) | skip); replace FR := Sm.mk (And.intro hfr FR.out); clear hfr; refine Sm.out ?_)
    | (refine Two.mk ?_ ?_)
    | (refine Cs.mk ?_; intro hcs; first | exact False.elim hcs | (exfalso; omega) | (refine Sm.out ?_))
    | go_step
    | omega
    | (simp only [maxLen_eq]; omega)
    | (refine Or.inr (Rt.mk ?_); refine And.intro ?_ ?_ <;> (intro hg; first | exact absurd hg (by decide) | refine Sm.out ?_))
  obtain ⟨⟨b, l⟩, hl⟩ := g
  try simp only [List.append_nil]
  have cF := fuse_d b (nwA 6 32) l n
  have aF : AOk 0 (fuA (nwA 6 32) n) := fuA_ok a0 n (by omega)
  have lF : LOk b (fuA (nwA 6 32) n) l := ⟨hl.cl, hl.cs, hl.k, hl.nd⟩
  have iF : FI n (fuA (nwA 6 32) n) := by
    refine ⟨?_, fun h => ?_, fun h => ?_⟩
    · simp only [fuA, nwA, fzN]; split <;> split <;> omega
    · simp only [fuA, nwA]; omega
    · simp [fuA, nwA] at h
  obtain ⟨aa, haa⟩ : ∃ aa, aa = fuA (nwA 6 32) n := ⟨_, rfl⟩
  rw [← haa] at cF aF lF iF
  first | (have FRx := FR; clear FRx) | (have FR : Sm (¬ ((1 : Nat) = 0)) := Sm.mk Nat.one_ne_zero)
  repeat' first
    | (refine Sm.mk ?_; try simp -dsimp only [ZK, rvc, drawF, headN, pureH, stp, dvc, calleeOf, gcall, pev, eff, newB, okd, og, ogs, ogo, ogp, slv, bltv, opd, litv, strip, one, both, putE, St.put, look, gdOf, gdv, picka, pickv, pickw, binv, bini, bins, binb, binp, binq, isSlT, bina, shp, eqCells, unv, convv, nilv, faddv, addp, idxav, idxp, load1, load1m, loadn, loadnm, loadv, hget, hset, hrep, hdel, slicev, bnd, shift1, lenv, capv, IntKind.bits, extractv, fieldv, indexv, min2v, max2v, mkiv, cellsA, fillA, buildv, stC, oneC, rowMB, intsA, plN, appE, appZ, appC, appNZ, appNC, VwL, srcC, srcZ, srcM, isBoolT, isPtrT, isSliceT, uOk, Value.oneCell', Nat.reducePow, Int.reducePow, Nat.reduceAdd, Nat.reduceMul, Nat.reduceSub, Nat.reduceLT, Nat.reduceLeDiff, Nat.reduceEqDiff, Nat.reduceBEq, Nat.reduceDiv, Nat.reduceMod, ↓reduceIte, reduceCtorEq, Int.reduceToNat, Int.reduceLT, Int.reduceLE, TFBlK, SeqQ, BlkQ, LoopQ, BodyQ, FR.out])
    | (refine CallV.updM (cF) (pmz _) (Sm.out ?_))
    | (refine WP.seq fun K hK => ?_)
    | (refine WP.region (rvc_sound _ _ (Sm.out ?_)))
    | ((show WP _ _ _ (.region 12 _ _) _ _); refine WP.drawKk 11 mixed (by decide +kernel) (Sm.out ?_))
    | (refine WP.drawK rfl mixed (by decide +kernel) (Sm.out ?_))
    | (refine Ob.mk ?_; focus (first | assumption | omega | decide | trivial | (intro hob; simp only [hob, ZF]; done) | (intros; (repeat' refine And.intro ?_ ?_) <;> first | assumption | omega | trivial | decide) | (intros; simp only [ZE] at *; (repeat' refine And.intro ?_ ?_) <;> first | assumption | omega | trivial)))
    | (refine And.intro (Ob.out ?_) ?_)
    | (refine WP.block ?_)
    | (refine WP.cond rfl (fun hc => ?_) (fun hc => ?_) <;> (try simp only [ZC, reduceCtorEq, ZD] at hc) <;> (try (exact absurd hc (by decide))) <;> (try (exfalso; omega)))
    | ((first | refine WP.skip ?_ | refine WP.exit ?_); simp only [SeqQ, BlkQ, LoopQ, BodyQ, ↓reduceIte, Nat.reduceEqDiff, reduceCtorEq, look, true_and])
    | (refine WP.ret (Sm.out ?_))
    | (first | refine ExG.no (Sm.out ?_) | refine Or.inl (ExG.no (Sm.out ?_)) | refine Or.inl (And.intro (fun hg => absurd hg (by decide)) (ExG.no (Sm.out ?_))))
    | (refine Rt.mk ?_; refine And.intro ?_ ?_ <;> (intro hg; first | exact absurd hg (by decide) | refine Sm.out ?_))
    | (refine Nu.mk ?_; first | (fail_if_success (have := nb1)); intro nb1 | (fail_if_success (have := nb2)); intro nb2 | (fail_if_success (have := nb3)); intro nb3 | intro nbz)
    | (refine Fr.mk ?_; intro hfr; (first | (have hFRb : _ ≤ _ ∧ _ ≤ _ := And.intro hfr.1 hfr.2.1) | (have hFRb : _ ≤ _ := hfr.1) | skip); replace FR := Sm.mk (And.intro hfr FR.out); clear hfr; refine Sm.out ?_)
    | (refine Two.mk ?_ ?_)
    | (refine Cs.mk ?_; intro hcs; first | exact False.elim hcs | (exfalso; omega) | (refine Sm.out ?_))
    | go_step
    | omega
    | (simp only [maxLen_eq]; omega)
    | (refine Or.inr (Rt.mk ?_); refine And.intro ?_ ?_ <;> (intro hg; first | exact absurd hg (by decide) | refine Sm.out ?_))
  try simp only [List.append_nil]
  refine WP.loop (Γ := KG) (fun q => ⟨[(7, iv .i64 q.i), (5, pt b 0), (1, .sl L.length C), (0, iv .i64 n)], dH b q.a q.l⟩)
    (fun q => q.i ≤ L.length ∧ q.i ≤ 100 ∧ AOk q.i q.a ∧ LOk b q.a q.l ∧ FI n q.a) (fun q => L.length - q.i) ⟨0, aa, l⟩ ⟨by simp, by simp, aF, lF, iF⟩
    (Sub.of_env [] (pmz _) (by simp [look])) ?_
  intro ⟨i, a, l⟩ ⟨hi, hi2, hA, hl, hI⟩
  simp only at hi hi2 hA hl hI ⊢
  have FR : Sm (¬ ((1 : Nat) = 0)) := Sm.mk Nat.one_ne_zero
  have cD := deeds_d b a l
  have cK := dark_d b a l
  by_cases hlt : i < L.length ∧ i < 100
  · have k1 : decide ((i : Int) < (L.length : Int)) = true := by simp; omega
    have k2 : decide ((i : Int) < 100) = true := by simp; omega
    have hd := hdr i hlt.1
    obtain ⟨e, he⟩ : ∃ e, e = L[i]'hlt.1 := ⟨_, rfl⟩
    rw [← he] at hd
    obtain ⟨TR, hTR⟩ : ∃ TR, TR = acC (L.drop (i + 1)) := ⟨_, rfl⟩
    rw [← hTR] at hd
    have q1 : i * 4 + 4 ≤ C.length := by omega
    have w1 : IntKind.i64.wrap ((i : Int) + 1) = ((i + 1 : Nat) : Int) := by rw [wrap_i64 (by omega) (by omega)]; omega
    have w2 : IntKind.i64.wrap ((a.de : Int) + 1) = ((a.de + 1 : Nat) : Int) := by have := hA.de; rw [wrap_i64 (by omega) (by omega)]; omega
    have cS := sync_d hA hl (by omega)
    have cW := write_d hA hl (by omega) e.i e.bs
    clear hdr hTR he
    first | (have FRx := FR; clear FRx) | (have FR : Sm (¬ ((1 : Nat) = 0)) := Sm.mk Nat.one_ne_zero)
    repeat' first
      | (refine Sm.mk ?_; try simp -dsimp only [ZK, rvc, drawF, headN, pureH, stp, dvc, calleeOf, gcall, pev, eff, newB, okd, og, ogs, ogo, ogp, slv, bltv, opd, litv, strip, one, both, putE, St.put, look, gdOf, gdv, picka, pickv, pickw, binv, bini, bins, binb, binp, binq, isSlT, bina, shp, eqCells, unv, convv, nilv, faddv, addp, idxav, idxp, load1, load1m, loadn, loadnm, loadv, hget, hset, hrep, hdel, slicev, bnd, shift1, lenv, capv, IntKind.bits, extractv, fieldv, indexv, min2v, max2v, mkiv, cellsA, fillA, buildv, stC, oneC, rowMB, intsA, plN, appE, appZ, appC, appNZ, appNC, VwL, srcC, srcZ, srcM, isBoolT, isPtrT, isSliceT, uOk, Value.oneCell', Nat.reducePow, Int.reducePow, Nat.reduceAdd, Nat.reduceMul, Nat.reduceSub, Nat.reduceLT, Nat.reduceLeDiff, Nat.reduceEqDiff, Nat.reduceBEq, Nat.reduceDiv, Nat.reduceMod, ↓reduceIte, reduceCtorEq, Int.reduceToNat, Int.reduceLT, Int.reduceLE, TFBlK, SeqQ, BlkQ, LoopQ, BodyQ, k1, k2, hd, q1, w1, FR.out])
      | (refine CallV.updM (cD) (pmz _) (Sm.out ?_))
      | ((first | refine ExF.up ?_ (cD) (Sm.out ?_) | refine ExG.up ?_ (fun _ => cD) (Sm.out ?_) | refine ExG.upJ ?_ (fun _ => cD) (Sm.out ?_) | refine ExG.upI ?_ (fun _ => cD) (Ob.out ?_) (Sm.out ?_)); focus (exact ⟨_, (pmz _)⟩))
      | (refine CallV.updM (cK) (pmz _) (Sm.out ?_))
      | ((first | refine ExF.up ?_ (cK) (Sm.out ?_) | refine ExG.up ?_ (fun _ => cK) (Sm.out ?_) | refine ExG.upJ ?_ (fun _ => cK) (Sm.out ?_) | refine ExG.upI ?_ (fun _ => cK) (Ob.out ?_) (Sm.out ?_)); focus (exact ⟨_, (pmz _)⟩))
      | (refine CallV.exM (cS) (pmz _) (fun g => Sm.out ?_))
      | (refine CallV.exM (cW) (pmz _) (fun g => Sm.out ?_))
      | (refine WP.seq fun K hK => ?_)
      | ((fail_if_success (show WP _ _ _ (.region 13 _ _) _ _)); refine WP.region (rvc_sound _ _ (Sm.out ?_)))
      | ((fail_if_success (show WP _ _ _ (.region 13 _ _) _ _)); (show WP _ _ _ (.region 12 _ _) _ _); refine WP.drawKk 11 mixed (by decide +kernel) (Sm.out ?_))
      | ((fail_if_success (show WP _ _ _ (.region 13 _ _) _ _)); refine WP.drawK rfl mixed (by decide +kernel) (Sm.out ?_))
      | (refine Ob.mk ?_; focus (first | assumption | omega | decide | trivial | (intro hob; simp only [hob, ZF]; done) | (intros; (repeat' refine And.intro ?_ ?_) <;> first | assumption | omega | trivial | decide) | (intros; simp only [ZE] at *; (repeat' refine And.intro ?_ ?_) <;> first | assumption | omega | trivial)))
      | (refine And.intro (Ob.out ?_) ?_)
      | (refine WP.block ?_)
      | (refine WP.cond rfl (fun hc => ?_) (fun hc => ?_) <;> (try simp only [ZC, reduceCtorEq, ZD] at hc) <;> (try (exact absurd hc (by decide))) <;> (try (exfalso; omega)))
      | ((first | refine WP.skip ?_ | refine WP.exit ?_); simp only [SeqQ, BlkQ, LoopQ, BodyQ, ↓reduceIte, Nat.reduceEqDiff, reduceCtorEq, look, true_and])
      | (refine WP.ret (Sm.out ?_))
      | (first | refine ExG.no (Sm.out ?_) | refine Or.inl (ExG.no (Sm.out ?_)) | refine Or.inl (And.intro (fun hg => absurd hg (by decide)) (ExG.no (Sm.out ?_))))
      | (refine Rt.mk ?_; refine And.intro ?_ ?_ <;> (intro hg; first | exact absurd hg (by decide) | refine Sm.out ?_))
      | (refine Nu.mk ?_; first | (fail_if_success (have := nb1)); intro nb1 | (fail_if_success (have := nb2)); intro nb2 | (fail_if_success (have := nb3)); intro nb3 | intro nbz)
      | (refine Fr.mk ?_; intro hfr; (first | (have hFRb : _ ≤ _ ∧ _ ≤ _ := And.intro hfr.1 hfr.2.1) | (have hFRb : _ ≤ _ := hfr.1) | skip); replace FR := Sm.mk (And.intro hfr FR.out); clear hfr; refine Sm.out ?_)
      | (refine Two.mk ?_ ?_)
      | (refine Cs.mk ?_; intro hcs; first | exact False.elim hcs | (exfalso; omega) | (refine Sm.out ?_))
      | go_step
      | omega
      | (simp only [maxLen_eq]; omega)
      | (refine Or.inr (Rt.mk ?_); refine And.intro ?_ ?_ <;> (intro hg; first | exact absurd hg (by decide) | refine Sm.out ?_))
    · obtain ⟨l', hl'⟩ := g
      have hS := hI.sync
      have hA' := syA_ok hA
      obtain ⟨a', ha'⟩ : ∃ a', a' = syA a := ⟨_, rfl⟩
      obtain ⟨c', hc'⟩ : ∃ c', c' = syC a := ⟨_, rfl⟩
      rw [← ha', ← hc'] at hS
      rw [← ha'] at hA' hl'
      dsimp only
      rw [← ha', ← hc']
      have cD' := deeds_d b a' l'
      have cK' := dark_d b a' l'
      first | (have FRx := FR; clear FRx) | (have FR : Sm (¬ ((1 : Nat) = 0)) := Sm.mk Nat.one_ne_zero)
      repeat' first
        | (refine Sm.mk ?_; try simp -dsimp only [ZK, rvc, drawF, headN, pureH, stp, dvc, calleeOf, gcall, pev, eff, newB, okd, og, ogs, ogo, ogp, slv, bltv, opd, litv, strip, one, both, putE, St.put, look, gdOf, gdv, picka, pickv, pickw, binv, bini, bins, binb, binp, binq, isSlT, bina, shp, eqCells, unv, convv, nilv, faddv, addp, idxav, idxp, load1, load1m, loadn, loadnm, loadv, hget, hset, hrep, hdel, slicev, bnd, shift1, lenv, capv, IntKind.bits, extractv, fieldv, indexv, min2v, max2v, mkiv, cellsA, fillA, buildv, stC, oneC, rowMB, intsA, plN, appE, appZ, appC, appNZ, appNC, VwL, srcC, srcZ, srcM, isBoolT, isPtrT, isSliceT, uOk, Value.oneCell', Nat.reducePow, Int.reducePow, Nat.reduceAdd, Nat.reduceMul, Nat.reduceSub, Nat.reduceLT, Nat.reduceLeDiff, Nat.reduceEqDiff, Nat.reduceBEq, Nat.reduceDiv, Nat.reduceMod, ↓reduceIte, reduceCtorEq, Int.reduceToNat, Int.reduceLT, Int.reduceLE, TFBlK, SeqQ, BlkQ, LoopQ, BodyQ, k1, q1, w1, w2, FR.out])
        | (refine CallV.updM (cD') (pmz _) (Sm.out ?_))
        | ((first | refine ExF.up ?_ (cD') (Sm.out ?_) | refine ExG.up ?_ (fun _ => cD') (Sm.out ?_) | refine ExG.upJ ?_ (fun _ => cD') (Sm.out ?_) | refine ExG.upI ?_ (fun _ => cD') (Ob.out ?_) (Sm.out ?_)); focus (exact ⟨_, (pmz _)⟩))
        | (refine CallV.updM (cK') (pmz _) (Sm.out ?_))
        | ((first | refine ExF.up ?_ (cK') (Sm.out ?_) | refine ExG.up ?_ (fun _ => cK') (Sm.out ?_) | refine ExG.upJ ?_ (fun _ => cK') (Sm.out ?_) | refine ExG.upI ?_ (fun _ => cK') (Ob.out ?_) (Sm.out ?_)); focus (exact ⟨_, (pmz _)⟩))
        | (refine WP.seq fun K hK => ?_)
        | (refine WP.region (rvc_sound _ _ (Sm.out ?_)))
        | ((show WP _ _ _ (.region 12 _ _) _ _); refine WP.drawKk 11 mixed (by decide +kernel) (Sm.out ?_))
        | (refine WP.drawK rfl mixed (by decide +kernel) (Sm.out ?_))
        | (refine Ob.mk ?_; focus (first | assumption | omega | decide | trivial | (intro hob; simp only [hob, ZF]; done) | (intros; (repeat' refine And.intro ?_ ?_) <;> first | assumption | omega | trivial | decide) | (intros; simp only [ZE] at *; (repeat' refine And.intro ?_ ?_) <;> first | assumption | omega | trivial)))
        | (refine And.intro (Ob.out ?_) ?_)
        | (refine WP.block ?_)
        | (refine WP.cond rfl (fun hc => ?_) (fun hc => ?_) <;> (try simp only [ZC, reduceCtorEq, ZD] at hc) <;> (try (exact absurd hc (by decide))) <;> (try (exfalso; omega)))
        | ((first | refine WP.skip ?_ | refine WP.exit ?_); simp only [SeqQ, BlkQ, LoopQ, BodyQ, ↓reduceIte, Nat.reduceEqDiff, reduceCtorEq, look, true_and])
        | (refine WP.ret (Sm.out ?_))
        | (first | refine ExG.no (Sm.out ?_) | refine Or.inl (ExG.no (Sm.out ?_)) | refine Or.inl (And.intro (fun hg => absurd hg (by decide)) (ExG.no (Sm.out ?_))))
        | (refine Rt.mk ?_; refine And.intro ?_ ?_ <;> (intro hg; first | exact absurd hg (by decide) | refine Sm.out ?_))
        | (refine Nu.mk ?_; first | (fail_if_success (have := nb1)); intro nb1 | (fail_if_success (have := nb2)); intro nb2 | (fail_if_success (have := nb3)); intro nb3 | intro nbz)
        | (refine Fr.mk ?_; intro hfr; (first | (have hFRb : _ ≤ _ ∧ _ ≤ _ := And.intro hfr.1 hfr.2.1) | (have hFRb : _ ≤ _ := hfr.1) | skip); replace FR := Sm.mk (And.intro hfr FR.out); clear hfr; refine Sm.out ?_)
        | (refine Two.mk ?_ ?_)
        | (refine Cs.mk ?_; intro hcs; first | exact False.elim hcs | (exfalso; omega) | (refine Sm.out ?_))
        | go_step
        | omega
        | (simp only [maxLen_eq]; omega)
        | (refine Or.inr (Rt.mk ?_); refine And.intro ?_ ?_ <;> (intro hg; first | exact absurd hg (by decide) | refine Sm.out ?_))
      · exact absurd hc hS.no
      · exact ⟨⟨i + 1, a', l'⟩, ⟨by simp only; omega, by simp only; omega, hA', hl', hS.I⟩, by simp only; omega, Sub.of_env [] (pmz _) (by simp [look, w1])⟩
    · obtain ⟨l', hl'⟩ := g
      have hS := hI.write e.i e.bs
      have hA' := wrA_ok hA e.i e.bs
      obtain ⟨a', ha'⟩ : ∃ a', a' = wrA a e.i e.bs := ⟨_, rfl⟩
      obtain ⟨c', hc'⟩ : ∃ c', c' = wrC a e.i e.bs.length := ⟨_, rfl⟩
      rw [← ha', ← hc'] at hS
      rw [← ha'] at hA' hl'
      dsimp only
      rw [← ha', ← hc']
      have cD' := deeds_d b a' l'
      have cK' := dark_d b a' l'
      first | (have FRx := FR; clear FRx) | (have FR : Sm (¬ ((1 : Nat) = 0)) := Sm.mk Nat.one_ne_zero)
      repeat' first
        | (refine Sm.mk ?_; try simp -dsimp only [ZK, rvc, drawF, headN, pureH, stp, dvc, calleeOf, gcall, pev, eff, newB, okd, og, ogs, ogo, ogp, slv, bltv, opd, litv, strip, one, both, putE, St.put, look, gdOf, gdv, picka, pickv, pickw, binv, bini, bins, binb, binp, binq, isSlT, bina, shp, eqCells, unv, convv, nilv, faddv, addp, idxav, idxp, load1, load1m, loadn, loadnm, loadv, hget, hset, hrep, hdel, slicev, bnd, shift1, lenv, capv, IntKind.bits, extractv, fieldv, indexv, min2v, max2v, mkiv, cellsA, fillA, buildv, stC, oneC, rowMB, intsA, plN, appE, appZ, appC, appNZ, appNC, VwL, srcC, srcZ, srcM, isBoolT, isPtrT, isSliceT, uOk, Value.oneCell', Nat.reducePow, Int.reducePow, Nat.reduceAdd, Nat.reduceMul, Nat.reduceSub, Nat.reduceLT, Nat.reduceLeDiff, Nat.reduceEqDiff, Nat.reduceBEq, Nat.reduceDiv, Nat.reduceMod, ↓reduceIte, reduceCtorEq, Int.reduceToNat, Int.reduceLT, Int.reduceLE, TFBlK, SeqQ, BlkQ, LoopQ, BodyQ, k1, q1, w1, w2, FR.out])
        | (refine CallV.updM (cD') (pmz _) (Sm.out ?_))
        | ((first | refine ExF.up ?_ (cD') (Sm.out ?_) | refine ExG.up ?_ (fun _ => cD') (Sm.out ?_) | refine ExG.upJ ?_ (fun _ => cD') (Sm.out ?_) | refine ExG.upI ?_ (fun _ => cD') (Ob.out ?_) (Sm.out ?_)); focus (exact ⟨_, (pmz _)⟩))
        | (refine CallV.updM (cK') (pmz _) (Sm.out ?_))
        | ((first | refine ExF.up ?_ (cK') (Sm.out ?_) | refine ExG.up ?_ (fun _ => cK') (Sm.out ?_) | refine ExG.upJ ?_ (fun _ => cK') (Sm.out ?_) | refine ExG.upI ?_ (fun _ => cK') (Ob.out ?_) (Sm.out ?_)); focus (exact ⟨_, (pmz _)⟩))
        | (refine WP.seq fun K hK => ?_)
        | (refine WP.region (rvc_sound _ _ (Sm.out ?_)))
        | ((show WP _ _ _ (.region 12 _ _) _ _); refine WP.drawKk 11 mixed (by decide +kernel) (Sm.out ?_))
        | (refine WP.drawK rfl mixed (by decide +kernel) (Sm.out ?_))
        | (refine Ob.mk ?_; focus (first | assumption | omega | decide | trivial | (intro hob; simp only [hob, ZF]; done) | (intros; (repeat' refine And.intro ?_ ?_) <;> first | assumption | omega | trivial | decide) | (intros; simp only [ZE] at *; (repeat' refine And.intro ?_ ?_) <;> first | assumption | omega | trivial)))
        | (refine And.intro (Ob.out ?_) ?_)
        | (refine WP.block ?_)
        | (refine WP.cond rfl (fun hc => ?_) (fun hc => ?_) <;> (try simp only [ZC, reduceCtorEq, ZD] at hc) <;> (try (exact absurd hc (by decide))) <;> (try (exfalso; omega)))
        | ((first | refine WP.skip ?_ | refine WP.exit ?_); simp only [SeqQ, BlkQ, LoopQ, BodyQ, ↓reduceIte, Nat.reduceEqDiff, reduceCtorEq, look, true_and])
        | (refine WP.ret (Sm.out ?_))
        | (first | refine ExG.no (Sm.out ?_) | refine Or.inl (ExG.no (Sm.out ?_)) | refine Or.inl (And.intro (fun hg => absurd hg (by decide)) (ExG.no (Sm.out ?_))))
        | (refine Rt.mk ?_; refine And.intro ?_ ?_ <;> (intro hg; first | exact absurd hg (by decide) | refine Sm.out ?_))
        | (refine Nu.mk ?_; first | (fail_if_success (have := nb1)); intro nb1 | (fail_if_success (have := nb2)); intro nb2 | (fail_if_success (have := nb3)); intro nb3 | intro nbz)
        | (refine Fr.mk ?_; intro hfr; (first | (have hFRb : _ ≤ _ ∧ _ ≤ _ := And.intro hfr.1 hfr.2.1) | (have hFRb : _ ≤ _ := hfr.1) | skip); replace FR := Sm.mk (And.intro hfr FR.out); clear hfr; refine Sm.out ?_)
        | (refine Two.mk ?_ ?_)
        | (refine Cs.mk ?_; intro hcs; first | exact False.elim hcs | (exfalso; omega) | (refine Sm.out ?_))
        | go_step
        | omega
        | (simp only [maxLen_eq]; omega)
        | (refine Or.inr (Rt.mk ?_); refine And.intro ?_ ?_ <;> (intro hg; first | exact absurd hg (by decide) | refine Sm.out ?_))
      · exact absurd hc hS.no
      · exact ⟨⟨i + 1, a', l'⟩, ⟨by simp only; omega, by simp only; omega, hA', hl', hS.I⟩, by simp only; omega, Sub.of_env [] (pmz _) (by simp [look, w1])⟩
  · have cC := crash_d hA hl (by omega) 0 0
    have hA1 := crA_ok hA 0 0
    have cont : ∀ q, LOk b (crA a 0 0) q → ACt Try.prog 12 [pt b 0] (dH b (crA a 0 0) q) (fun r F' => ∃ q : LS b (syA (crA a 0 0)), r = iv .i64 0 ∧ F' = dH b (syA (crA a 0 0)) q.1) := fun q hq => sync_d hA1 hq (by omega)
    have cK1 : ∀ q, ACt Try.prog 11 [pt b 0] (dH b (crA a 0 0) q) (fun r F' => r = bv false ∧ F' = dH b (crA a 0 0) q) := fun q => dark_d b (crA a 0 0) q
    by_cases hlt1 : i < L.length
    · have k1 : decide ((i : Int) < (L.length : Int)) = true := by simp; omega
      have k2 : decide ((i : Int) < 100) = false := by simp; omega
      first | (have FRx := FR; clear FRx) | (have FR : Sm (¬ ((1 : Nat) = 0)) := Sm.mk Nat.one_ne_zero)
      repeat' first
        | (refine Sm.mk ?_; try simp -dsimp only [ZK, rvc, drawF, headN, pureH, stp, dvc, calleeOf, gcall, pev, eff, newB, okd, og, ogs, ogo, ogp, slv, bltv, opd, litv, strip, one, both, putE, St.put, look, gdOf, gdv, picka, pickv, pickw, binv, bini, bins, binb, binp, binq, isSlT, bina, shp, eqCells, unv, convv, nilv, faddv, addp, idxav, idxp, load1, load1m, loadn, loadnm, loadv, hget, hset, hrep, hdel, slicev, bnd, shift1, lenv, capv, IntKind.bits, extractv, fieldv, indexv, min2v, max2v, mkiv, cellsA, fillA, buildv, stC, oneC, rowMB, intsA, plN, appE, appZ, appC, appNZ, appNC, VwL, srcC, srcZ, srcM, isBoolT, isPtrT, isSliceT, uOk, Value.oneCell', Nat.reducePow, Int.reducePow, Nat.reduceAdd, Nat.reduceMul, Nat.reduceSub, Nat.reduceLT, Nat.reduceLeDiff, Nat.reduceEqDiff, Nat.reduceBEq, Nat.reduceDiv, Nat.reduceMod, ↓reduceIte, reduceCtorEq, Int.reduceToNat, Int.reduceLT, Int.reduceLE, TFBlK, SeqQ, BlkQ, LoopQ, BodyQ, k1, k2, FR.out])
        | (refine CallV.exM (cC) (pmz _) (fun g => Sm.out ?_))
        | (refine CallV.updM (cK1 _) (pmz _) (Sm.out ?_))
        | ((first | refine ExF.up ?_ (cK1 _) (Sm.out ?_) | refine ExG.up ?_ (fun _ => cK1 _) (Sm.out ?_) | refine ExG.upJ ?_ (fun _ => cK1 _) (Sm.out ?_) | refine ExG.upI ?_ (fun _ => cK1 _) (Ob.out ?_) (Sm.out ?_)); focus (exact ⟨_, (pmz _)⟩))
        | (refine CallV.exM (cont _ g.2) (pmz _) (fun g => Sm.out ?_))
        | (refine WP.seq fun K hK => ?_)
        | (refine WP.region (rvc_sound _ _ (Sm.out ?_)))
        | ((show WP _ _ _ (.region 12 _ _) _ _); refine WP.drawKk 11 mixed (by decide +kernel) (Sm.out ?_))
        | (refine WP.drawK rfl mixed (by decide +kernel) (Sm.out ?_))
        | (refine Ob.mk ?_; focus (first | assumption | omega | decide | trivial | (intro hob; simp only [hob, ZF]; done) | (intros; (repeat' refine And.intro ?_ ?_) <;> first | assumption | omega | trivial | decide) | (intros; simp only [ZE] at *; (repeat' refine And.intro ?_ ?_) <;> first | assumption | omega | trivial)))
        | (refine And.intro (Ob.out ?_) ?_)
        | (refine WP.block ?_)
        | (refine WP.cond rfl (fun hc => ?_) (fun hc => ?_) <;> (try simp only [ZC, reduceCtorEq, ZD] at hc) <;> (try (exact absurd hc (by decide))) <;> (try (exfalso; omega)))
        | ((first | refine WP.skip ?_ | refine WP.exit ?_); simp only [SeqQ, BlkQ, LoopQ, BodyQ, ↓reduceIte, Nat.reduceEqDiff, reduceCtorEq, look, true_and])
        | (refine WP.ret (Sm.out ?_))
        | (first | refine ExG.no (Sm.out ?_) | refine Or.inl (ExG.no (Sm.out ?_)) | refine Or.inl (And.intro (fun hg => absurd hg (by decide)) (ExG.no (Sm.out ?_))))
        | (refine Rt.mk ?_; refine And.intro ?_ ?_ <;> (intro hg; first | exact absurd hg (by decide) | refine Sm.out ?_))
        | (refine Nu.mk ?_; first | (fail_if_success (have := nb1)); intro nb1 | (fail_if_success (have := nb2)); intro nb2 | (fail_if_success (have := nb3)); intro nb3 | intro nbz)
        | (refine Fr.mk ?_; intro hfr; (first | (have hFRb : _ ≤ _ ∧ _ ≤ _ := And.intro hfr.1 hfr.2.1) | (have hFRb : _ ≤ _ := hfr.1) | skip); replace FR := Sm.mk (And.intro hfr FR.out); clear hfr; refine Sm.out ?_)
        | (refine Two.mk ?_ ?_)
        | (refine Cs.mk ?_; intro hcs; first | exact False.elim hcs | (exfalso; omega) | (refine Sm.out ?_))
        | go_step
        | omega
        | (simp only [maxLen_eq]; omega)
        | (refine Or.inr (Rt.mk ?_); refine And.intro ?_ ?_ <;> (intro hg; first | exact absurd hg (by decide) | refine Sm.out ?_))
      (refine OutQ.all ?_ ?_; (focus (simp only [resv, ZK, look, loadv, loadn, loadnm, load1, load1m, hget, ↓reduceIte, Nat.reduceEqDiff, Nat.reduceAdd, Nat.reduceMul, Nat.reduceLeDiff, Nat.reduceLT, reduceCtorEq, TFBlK])); (try simp only [resv, resA, Fn, ZK, look, loadv, loadn, loadnm, load1, load1m, hget, ↓reduceIte, Nat.reduceEqDiff, Nat.reduceAdd, Nat.reduceMul, Nat.reduceLeDiff, Nat.reduceLT, reduceCtorEq, TFBlK]); (try simp [resA, Fn, look]))
    · have k1 : decide ((i : Int) < (L.length : Int)) = false := by simp; omega
      first | (have FRx := FR; clear FRx) | (have FR : Sm (¬ ((1 : Nat) = 0)) := Sm.mk Nat.one_ne_zero)
      repeat' first
        | (refine Sm.mk ?_; try simp -dsimp only [ZK, rvc, drawF, headN, pureH, stp, dvc, calleeOf, gcall, pev, eff, newB, okd, og, ogs, ogo, ogp, slv, bltv, opd, litv, strip, one, both, putE, St.put, look, gdOf, gdv, picka, pickv, pickw, binv, bini, bins, binb, binp, binq, isSlT, bina, shp, eqCells, unv, convv, nilv, faddv, addp, idxav, idxp, load1, load1m, loadn, loadnm, loadv, hget, hset, hrep, hdel, slicev, bnd, shift1, lenv, capv, IntKind.bits, extractv, fieldv, indexv, min2v, max2v, mkiv, cellsA, fillA, buildv, stC, oneC, rowMB, intsA, plN, appE, appZ, appC, appNZ, appNC, VwL, srcC, srcZ, srcM, isBoolT, isPtrT, isSliceT, uOk, Value.oneCell', Nat.reducePow, Int.reducePow, Nat.reduceAdd, Nat.reduceMul, Nat.reduceSub, Nat.reduceLT, Nat.reduceLeDiff, Nat.reduceEqDiff, Nat.reduceBEq, Nat.reduceDiv, Nat.reduceMod, ↓reduceIte, reduceCtorEq, Int.reduceToNat, Int.reduceLT, Int.reduceLE, TFBlK, SeqQ, BlkQ, LoopQ, BodyQ, k1, FR.out])
        | (refine CallV.exM (cC) (pmz _) (fun g => Sm.out ?_))
        | (refine CallV.updM (cK1 _) (pmz _) (Sm.out ?_))
        | ((first | refine ExF.up ?_ (cK1 _) (Sm.out ?_) | refine ExG.up ?_ (fun _ => cK1 _) (Sm.out ?_) | refine ExG.upJ ?_ (fun _ => cK1 _) (Sm.out ?_) | refine ExG.upI ?_ (fun _ => cK1 _) (Ob.out ?_) (Sm.out ?_)); focus (exact ⟨_, (pmz _)⟩))
        | (refine CallV.exM (cont _ g.2) (pmz _) (fun g => Sm.out ?_))
        | (refine WP.seq fun K hK => ?_)
        | (refine WP.region (rvc_sound _ _ (Sm.out ?_)))
        | ((show WP _ _ _ (.region 12 _ _) _ _); refine WP.drawKk 11 mixed (by decide +kernel) (Sm.out ?_))
        | (refine WP.drawK rfl mixed (by decide +kernel) (Sm.out ?_))
        | (refine Ob.mk ?_; focus (first | assumption | omega | decide | trivial | (intro hob; simp only [hob, ZF]; done) | (intros; (repeat' refine And.intro ?_ ?_) <;> first | assumption | omega | trivial | decide) | (intros; simp only [ZE] at *; (repeat' refine And.intro ?_ ?_) <;> first | assumption | omega | trivial)))
        | (refine And.intro (Ob.out ?_) ?_)
        | (refine WP.block ?_)
        | (refine WP.cond rfl (fun hc => ?_) (fun hc => ?_) <;> (try simp only [ZC, reduceCtorEq, ZD] at hc) <;> (try (exact absurd hc (by decide))) <;> (try (exfalso; omega)))
        | ((first | refine WP.skip ?_ | refine WP.exit ?_); simp only [SeqQ, BlkQ, LoopQ, BodyQ, ↓reduceIte, Nat.reduceEqDiff, reduceCtorEq, look, true_and])
        | (refine WP.ret (Sm.out ?_))
        | (first | refine ExG.no (Sm.out ?_) | refine Or.inl (ExG.no (Sm.out ?_)) | refine Or.inl (And.intro (fun hg => absurd hg (by decide)) (ExG.no (Sm.out ?_))))
        | (refine Rt.mk ?_; refine And.intro ?_ ?_ <;> (intro hg; first | exact absurd hg (by decide) | refine Sm.out ?_))
        | (refine Nu.mk ?_; first | (fail_if_success (have := nb1)); intro nb1 | (fail_if_success (have := nb2)); intro nb2 | (fail_if_success (have := nb3)); intro nb3 | intro nbz)
        | (refine Fr.mk ?_; intro hfr; (first | (have hFRb : _ ≤ _ ∧ _ ≤ _ := And.intro hfr.1 hfr.2.1) | (have hFRb : _ ≤ _ := hfr.1) | skip); replace FR := Sm.mk (And.intro hfr FR.out); clear hfr; refine Sm.out ?_)
        | (refine Two.mk ?_ ?_)
        | (refine Cs.mk ?_; intro hcs; first | exact False.elim hcs | (exfalso; omega) | (refine Sm.out ?_))
        | go_step
        | omega
        | (simp only [maxLen_eq]; omega)
        | (refine Or.inr (Rt.mk ?_); refine And.intro ?_ ?_ <;> (intro hg; first | exact absurd hg (by decide) | refine Sm.out ?_))
      (refine OutQ.all ?_ ?_; (focus (simp only [resv, ZK, look, loadv, loadn, loadnm, load1, load1m, hget, ↓reduceIte, Nat.reduceEqDiff, Nat.reduceAdd, Nat.reduceMul, Nat.reduceLeDiff, Nat.reduceLT, reduceCtorEq, TFBlK])); (try simp only [resv, resA, Fn, ZK, look, loadv, loadn, loadnm, load1, load1m, hget, ↓reduceIte, Nat.reduceEqDiff, Nat.reduceAdd, Nat.reduceMul, Nat.reduceLeDiff, Nat.reduceLT, reduceCtorEq, TFBlK]); (try simp [resA, Fn, look]))
abbrev acTy : Ty := .st [.int .i64, .int .i64, .int .i64, .row .u8]
theorem ac_rows : ∀ (rows : List (List AV)), (∀ r ∈ rows, Shp acTy r) → ∃ L : List Ac, L.length = rows.length ∧ rows.flatten = acC L ∧ ∀ p ∈ L, (-9223372036854775808 ≤ p.i ∧ p.i ≤ 9223372036854775807) ∧ -9223372036854775808 ≤ p.k ∧ p.k ≤ 9223372036854775807
  | [], _ => ⟨[], rfl, rfl, fun p hp => by cases hp⟩
  | r :: rows, h => by
    obtain ⟨L, l1, l2, l3⟩ := ac_rows rows fun x hx => h x (List.mem_cons_of_mem _ hx)
    have h0 := h r (List.mem_cons_self ..)
    simp only [Shp, ShpL] at h0
    obtain ⟨_, _, rfl, ⟨a, rfl, ha⟩, _, _, rfl, ⟨b, rfl, hb⟩, _, _, rfl, ⟨c, rfl, hc⟩, _, _, rfl, ⟨d, rfl, hd⟩, rfl⟩ := h0
    refine ⟨⟨a, b, c, d⟩ :: L, by simp [l1], by simp [l2, acC], fun p hp => ?_⟩
    rcases List.mem_cons.1 hp with rfl | hp
    · exact ⟨wf_i64 hb, wf_i64 hc⟩
    · exact l3 p hp
theorem fuses_law (n : Int) (h1 : -9223372036854775808 ≤ n ∧ n ≤ 9223372036854775807) {y : AV} (hy : Shp (.sl acTy) [y]) : ACt Try.prog 3 [iv .i64 n, y] [] (fun r _ => r = bv true) := by
  simp only [Shp] at hy
  obtain ⟨rows, e, hr⟩ := hy
  obtain rfl : y = _ := (List.cons.inj e).1
  obtain ⟨L, l1, l2, l3⟩ := ac_rows rows hr
  rw [← l1, l2]
  exact fuses_ct n L h1
end Go.Proofs.Ytnhkohgamnchlaa
