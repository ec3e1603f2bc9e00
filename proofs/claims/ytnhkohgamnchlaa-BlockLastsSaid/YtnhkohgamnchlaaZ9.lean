/-
  The walks and the laws that the statement leans on, part 9.
-/
import Derived.Test.YtnhkohgamnchlaaZ8
namespace Go.Proofs.Ytnhkohgamnchlaa
open Go
set_option linter.unusedVariables false
set_option linter.unusedSimpArgs false
theorem TFBlM : (((((((type_of% tyc0) ∧ (type_of% tyc3)) ∧ ((type_of% zmb3) ∧ (type_of% tyc4))) ∧ (((type_of% zmb4) ∧ (type_of% tyc5)) ∧ ((type_of% zmb5) ∧ (type_of% tyc9)))) ∧ ((((type_of% zmb9) ∧ (type_of% tyc22)) ∧ ((type_of% elt22) ∧ (type_of% mkz22))) ∧ (((type_of% mkc22) ∧ (type_of% apT22)) ∧ ((type_of% elk22) ∧ ((type_of% zmb22) ∧ (type_of% tyc24)))))) ∧ (((((type_of% mth24_27) ∧ (type_of% mth24_26)) ∧ ((type_of% mth24_28) ∧ (type_of% con24))) ∧ (((type_of% zmb24) ∧ (type_of% tyc25)) ∧ ((type_of% zmb25) ∧ (type_of% tyc26)))) ∧ ((((type_of% tyc30) ∧ (type_of% elt30)) ∧ ((type_of% mkz30) ∧ (type_of% apT30))) ∧ (((type_of% elk30) ∧ (type_of% zmb30)) ∧ ((type_of% tyc32) ∧ ((type_of% foff32_0) ∧ (type_of% fpart32_0))))))) ∧ ((((((type_of% foff32_1) ∧ (type_of% fpart32_1)) ∧ ((type_of% foff32_2) ∧ (type_of% fpart32_2))) ∧ (((type_of% foff32_3) ∧ (type_of% fpart32_3)) ∧ ((type_of% zmb32) ∧ (type_of% bldT32)))) ∧ ((((type_of% tyc38) ∧ (type_of% elt38)) ∧ ((type_of% mkz38) ∧ (type_of% mkc38))) ∧ (((type_of% apT38) ∧ (type_of% elk38)) ∧ ((type_of% zmb38) ∧ ((type_of% tyc39) ∧ (type_of% elt39)))))) ∧ (((((type_of% mkz39) ∧ (type_of% apT39)) ∧ ((type_of% elk39) ∧ (type_of% zmb39))) ∧ (((type_of% Try.underlying0) ∧ (type_of% Try.underlying3)) ∧ ((type_of% Try.underlying4) ∧ (type_of% Try.underlying5)))) ∧ ((((type_of% Try.underlying9) ∧ (type_of% Try.underlying22)) ∧ ((type_of% Try.underlying24) ∧ (type_of% Try.underlying25))) ∧ (((type_of% Try.underlying26) ∧ (type_of% Try.underlying30)) ∧ ((type_of% Try.underlying32) ∧ ((type_of% Try.underlying38) ∧ (type_of% Try.underlying39)))))))) :=
  ⟨⟨⟨⟨⟨⟨tyc0, tyc3⟩, ⟨zmb3, tyc4⟩⟩, ⟨⟨zmb4, tyc5⟩, ⟨zmb5, tyc9⟩⟩⟩, ⟨⟨⟨zmb9, tyc22⟩, ⟨elt22, mkz22⟩⟩, ⟨⟨mkc22, apT22⟩, ⟨elk22, ⟨zmb22, tyc24⟩⟩⟩⟩⟩, ⟨⟨⟨⟨mth24_27, mth24_26⟩, ⟨mth24_28, con24⟩⟩, ⟨⟨zmb24, tyc25⟩, ⟨zmb25, tyc26⟩⟩⟩, ⟨⟨⟨tyc30, elt30⟩, ⟨mkz30, apT30⟩⟩, ⟨⟨elk30, zmb30⟩, ⟨tyc32, ⟨foff32_0, fpart32_0⟩⟩⟩⟩⟩⟩, ⟨⟨⟨⟨⟨foff32_1, fpart32_1⟩, ⟨foff32_2, fpart32_2⟩⟩, ⟨⟨foff32_3, fpart32_3⟩, ⟨zmb32, bldT32⟩⟩⟩, ⟨⟨⟨tyc38, elt38⟩, ⟨mkz38, mkc38⟩⟩, ⟨⟨apT38, elk38⟩, ⟨zmb38, ⟨tyc39, elt39⟩⟩⟩⟩⟩, ⟨⟨⟨⟨mkz39, apT39⟩, ⟨elk39, zmb39⟩⟩, ⟨⟨Try.underlying0, Try.underlying3⟩, ⟨Try.underlying4, Try.underlying5⟩⟩⟩, ⟨⟨⟨Try.underlying9, Try.underlying22⟩, ⟨Try.underlying24, Try.underlying25⟩⟩, ⟨⟨Try.underlying26, Try.underlying30⟩, ⟨Try.underlying32, ⟨Try.underlying38, Try.underlying39⟩⟩⟩⟩⟩⟩⟩
theorem bstr_ext (zs : List Int) (lo hi : Nat) : (bstr zs).extract lo hi = bstr ((zs.take hi).drop lo) := by
  apply ByteArray.ext
  rw [ByteArray.data_extract]
  apply Array.ext'
  simp [bstr, List.map_take, List.map_drop, List.drop_take]
/-- a disk never fused and never dark -/
structure Fr0 (a : DA) : Prop where
  n : a.n = 6
  s : a.size = 32
  k : a.dk = false
  f : a.f = -1
theorem Fr0.write {a : DA} (h : Fr0 a) (i : Int) (zs : List Int) : Fr0 (wrA a i zs) ∧ (wrA a i zs).L = a.L ∧
    ((wrC a i zs.length ≠ 0 ∧ wrA a i zs = a) ∨ ∃ m : Nat, i = m ∧ m < 6 ∧ wrC a i zs.length = 0 ∧ ∃ x, x.length = 32 ∧ (wrA a i zs).W = a.W ++ [(m, x)] ∧ (wrA a i zs).S = a.S.set m x) := by
  unfold wrA wrC
  by_cases h1 : mayA a i zs.length ≠ 0
  · rw [if_pos h1, if_pos h1]; exact ⟨h, rfl, .inl ⟨h1, rfl⟩⟩
  · rw [if_neg h1, if_neg h1]
    obtain ⟨hk, i0, i1, i2⟩ := mayC_in (show mayA a i zs.length = 0 by simpa using h1)
    obtain ⟨m, rfl⟩ := Int.eq_ofNat_of_zero_le i0
    have hf := h.f
    have h2 : ¬ a.f = 0 := by omega
    rw [if_neg h2, if_neg h2]
    have hn := h.n
    have hs := h.s
    refine ⟨⟨h.n, h.s, h.k, by simp only [fuseN]; split <;> omega⟩, rfl, .inr ⟨m, rfl, by omega, rfl, pad a.size zs, ?_, rfl, rfl⟩⟩
    rw [pad_len (by omega), h.s]
theorem Fr0.sync {a : DA} (h : Fr0 a) : Fr0 (syA a) ∧ syC a = 0 ∧ (syA a).W = [] ∧ (syA a).S = a.S ∧ (syA a).L = a.S := by
  have hf := h.f
  have h1 : ¬ a.dk = true := by rw [h.k]; simp
  have h2 : ¬ a.f = 0 := by omega
  unfold syA syC
  rw [if_neg h1, if_neg h1, if_neg h2, if_neg h2]
  exact ⟨⟨h.n, h.s, h.k, by simp only [fuseN]; split <;> omega⟩, rfl, rfl, rfl, rfl⟩
/-- all blocks behind each write -/
def str1 (L : List (List Int)) : AV := .lit (.string (bstr L.flatten))
def strs (L : List (List Int)) (W : List (Nat × List Int)) : List AV := (List.range (W.length + 1)).map fun j => str1 (layW L (W.take j))
theorem strs_len (L W) : (strs L W).length = W.length + 1 := by simp [strs]
theorem strs_app (L : List (List Int)) (W : List (Nat × List Int)) (w : Nat × List Int) : strs L (W ++ [w]) = strs L W ++ [str1 ((layW L W).set w.1 w.2)] := by
  unfold strs
  rw [List.length_append, List.length_singleton, List.range_succ, List.map_append]
  congr 1
  · refine List.map_congr_left fun j hj => ?_
    have : j < W.length + 1 := by simpa using hj
    rw [List.take_append_of_le_length (by omega)]
  · have e : (W ++ [w]).take (W.length + 1) = W ++ [w] := List.take_of_length_le (by simp)
    simp only [List.map_cons, List.map_nil, e, layW_app]
    rfl
theorem strs_get (L : List (List Int)) (W : List (Nat × List Int)) {j : Nat} (h : j ≤ W.length) : (strs L W).getD j .any = str1 (layW L (W.take j)) := by
  unfold strs
  rw [List.getD_eq_getElem?_getD, List.getElem?_map, List.getElem?_range (by omega)]
  rfl
theorem flat_split {s : Nat} : ∀ (X : List (List Int)) (i : Nat) (y : List Int), (∀ z ∈ X, z.length = s) → X[i]? = some y → ∃ A B : List Int, A.length = s * i ∧ X.flatten = A ++ (y ++ B) ∧ ∀ z, (X.set i z).flatten = A ++ (z ++ B)
  | x :: r, 0, y, h, hy => by
    simp only [List.getElem?_cons_zero, Option.some.injEq] at hy
    subst hy
    exact ⟨[], r.flatten, by simp, by simp, fun z => by simp⟩
  | x :: r, i + 1, y, h, hy => by
    obtain ⟨A, B, h1, h2, h3⟩ := flat_split r i y (fun z hz => h z (List.mem_cons_of_mem _ hz)) (by simpa using hy)
    refine ⟨x ++ A, B, ?_, by simp [h2], fun z => by simp [h3 z]⟩
    rw [List.length_append, h1, h x (List.mem_cons_self ..), Nat.mul_succ]; omega
/-- a row torn, seen in the text of all -/
theorem torn_text {s i t : Nat} {X : List (List Int)} {x : List Int} (hX : ∀ z ∈ X, z.length = s) (hi : i < X.length) (hx : x.length = s) (ht : t ≤ s) :
    (X.set i (x.take t ++ (X.getD i []).drop t)).flatten = X.flatten.take (s * i) ++ (((X.set i x).flatten.take (s * i + t)).drop (s * i) ++ X.flatten.drop (s * i + t)) := by
  have hy : X[i]? = some (X.getD i []) := by rw [List.getD_eq_getElem?_getD, List.getElem?_eq_getElem hi]; rfl
  obtain ⟨y, hyy⟩ : ∃ y, y = X.getD i [] := ⟨_, rfl⟩
  rw [← hyy] at hy ⊢
  obtain ⟨A, B, h1, h2, h3⟩ := flat_split X i y hX hy
  have ly : y.length = s := hX y (List.mem_of_getElem? hy)
  rw [h3, h3, h2, ← h1]
  rw [List.take_left, List.take_length_add_append, List.drop_left, List.drop_length_add_append, List.take_append_of_le_length (by omega), List.drop_append_of_le_length (by omega), List.append_assoc]
theorem hN_min (n : Int) (m : Nat) : hN n m = min n.toNat m := by unfold hN held; (repeat' split) <;> omega
theorem baBeq (s : ByteArray) : (s == s) = true := by
  obtain ⟨a⟩ := s
  show (a == a) = true
  exact beq_self_eq_true _
structure LI (S0 : List (List Int)) (a : DA) : Prop where
  F : Fr0 a
  L : a.L = S0
  S : a.S = layW S0 a.W
structure LG where
  i : Nat
  a : DA
  l : DL
  xa : Nat
  ca : Nat
  xb : Nat
  cb : Nat
theorem pm2 {α : Type} (x y : α) (T : List α) : (x :: y :: T).Perm (T ++ [x, y]) := List.perm_append_comm (l₁ := [x, y])
set_option maxRecDepth 8000 in
set_option maxHeartbeats 4000000 in
theorem lasts_ct (keep torn : Int) (L M : List Ac) : ACt Try.prog 4 [.sl L.length (acC L), .sl M.length (acC M), iv .i64 keep, iv .i64 torn] [] (fun r _ => r = bv true) := by
  refine ACt.intro Try.func4 rfl (by kernel_rfl) (by simp [Try.ntmps4]) (fun cx => ?_)
  simp only [argE, Try.ntmps4, Try.results4]
  have a0 : AOk 0 (nwA 6 32) := nwA_ok (by omega) (by omega) (by omega) (by omega)
  have f0 : Fr0 (nwA 6 32) := ⟨rfl, rfl, rfl, rfl⟩
  have cN := new_d 6 32 (by omega) (by omega) (by omega) (by omega)
  have hCl := acC_len L
  have hdr := acC_drop L
  have hCm := acC_len M
  have hdm := acC_drop M
  obtain ⟨C, hC⟩ : ∃ C, C = acC L := ⟨_, rfl⟩
  obtain ⟨D, hD⟩ : ∃ D, D = acC M := ⟨_, rfl⟩
  rw [← hC] at hCl hdr ⊢
  rw [← hD] at hCm hdm ⊢
  first | (have FRx := FR; clear FRx) | (have FR : Sm (¬ ((1 : Nat) = 0)) := Sm.mk Nat.one_ne_zero)
  repeat' first
    | (refine Sm.mk ?_; try simp -dsimp only [ZK, rvc, drawF, headN, pureH, stp, dvc, calleeOf, gcall, pev, eff, newB, okd, og, ogs, ogo, ogp, slv, bltv, opd, litv, strip, one, both, putE, St.put, look, gdOf, gdv, picka, pickv, pickw, binv, bini, bins, binb, binp, binq, isSlT, bina, shp, eqCells, unv, convv, nilv, faddv, addp, idxav, idxp, load1, load1m, loadn, loadnm, loadv, hget, hset, hrep, hdel, slicev, bnd, shift1, lenv, capv, IntKind.bits, extractv, fieldv, indexv, min2v, max2v, mkiv, cellsA, fillA, buildv, stC, oneC, rowMB, intsA, plN, appE, appZ, appC, appNZ, appNC, VwL, srcC, srcZ, srcM, isBoolT, isPtrT, isSliceT, uOk, Value.oneCell', Nat.reducePow, Int.reducePow, Nat.reduceAdd, Nat.reduceMul, Nat.reduceSub, Nat.reduceLT, Nat.reduceLeDiff, Nat.reduceEqDiff, Nat.reduceBEq, Nat.reduceDiv, Nat.reduceMod, ↓reduceIte, reduceCtorEq, Int.reduceToNat, Int.reduceLT, Int.reduceLE, TFBlM, SeqQ, BlkQ, LoopQ, BodyQ, FR.out])
    | (first | refine CallV.fn (awake_ct) (Sm.out ?_) | refine ExF.mk (awake_ct) (Sm.out ?_) | refine ExG.mk (fun _ => awake_ct) (Sm.out ?_) | refine ExG.mkJ (fun _ => awake_ct) (Sm.out ?_) | refine ExG.mkI (Ob.out ?_) (fun _ => awake_ct) (Sm.out ?_))
    | (refine CallV.ex (F := []) (List.Perm.refl _) (cN) (fun g => Sm.out ?_))
    | (refine WP.seq fun K hK => ?_)
    | (refine WP.region (rvc_sound _ _ (Sm.out ?_)))
    | ((show WP _ _ _ (.region 7 _ _) _ _); refine WP.drawKk 11 mixed (by decide +kernel) (Sm.out ?_))
    | ((show WP _ _ _ (.region 15 _ _) _ _); refine WP.drawKk 11 mixed (by decide +kernel) (Sm.out ?_))
    | (refine WP.drawK rfl mixed (by decide +kernel) (Sm.out ?_))
    | (refine Ob.mk ?_; focus (first | assumption | omega | decide | trivial | (intro hob; simp only [hob, ZF]; done) | (intros; (repeat' refine And.intro ?_ ?_) <;> first | assumption | omega | trivial | decide) | (intros; simp only [ZE] at *; (repeat' refine And.intro ?_ ?_) <;> first | assumption | omega | trivial)))
    | (refine And.intro (Ob.out ?_) ?_)
    | (refine WP.block ?_)
    | (refine WP.cond rfl (fun hc => ?_) (fun hc => ?_) <;> (try simp only [ZC, reduceCtorEq, ZD] at hc) <;> (try (exact absurd hc (by decide))) <;> (try (exfalso; omega)))
    | ((first | refine WP.skip ?_ | refine WP.exit ?_); simp only [SeqQ, BlkQ, LoopQ, BodyQ, ↓reduceIte, Nat.reduceEqDiff, reduceCtorEq, look, true_and])
    | (refine WP.ret (Sm.out ?_))
    | (first | refine ExG.no (Sm.out ?_) | refine Or.inl (ExG.no (Sm.out ?_)) | refine Or.inl (And.intro (fun hg => absurd hg (by decide)) (ExG.no (Sm.out ?_))))
    | (refine Rt.mk ?_; refine And.intro ?_ ?_ <;> (intro hg; first | exact absurd hg (by decide) | refine Sm.out ?_))
    | (refine Nu.mk ?_; first | (fail_if_success (have := nb1)); intro nb1 | (fail_if_success (have := nb2)); intro nb2 | (fail_if_success (have := nb3)); intro nb3 | (fail_if_success (have := nb4)); intro nb4 | (fail_if_success (have := nb5)); intro nb5 | (fail_if_success (have := nb6)); intro nb6 | (fail_if_success (have := nb7)); intro nb7 | (fail_if_success (have := nb8)); intro nb8 | (fail_if_success (have := nb9)); intro nb9 | (fail_if_success (have := nb10)); intro nb10 | (fail_if_success (have := nb11)); intro nb11 | (fail_if_success (have := nb12)); intro nb12 | (fail_if_success (have := nb13)); intro nb13 | (fail_if_success (have := nb14)); intro nb14 | (fail_if_success (have := nb15)); intro nb15 | (fail_if_success (have := nb16)); intro nb16 | intro nbz)
    | (refine Fr.mk ?_; intro hfr; (first | (have hFRb : _ ≤ _ ∧ _ ≤ _ := And.intro hfr.1 hfr.2.1) | (have hFRb : _ ≤ _ := hfr.1) | skip); replace FR := Sm.mk (And.intro hfr FR.out); clear hfr; refine Sm.out ?_)
    | (refine Two.mk ?_ ?_)
    | (refine Cs.mk ?_; intro hcs; first | exact False.elim hcs | (exfalso; omega) | (refine Sm.out ?_))
    | go_step
    | omega
    | (simp only [maxLen_eq]; omega)
  obtain ⟨⟨b, l⟩, hl⟩ := g
  try simp only [List.append_nil]
  have cont : Sm (∀ i a l, (i ≤ 100 ∧ AOk i a ∧ LOk b a l ∧ Fr0 a) → ∀ s', Sub s' ⟨[(9, pt b 0), (3, iv .i64 torn), (2, iv .i64 keep), (1, .sl M.length D)], dH b a l⟩ → K s') := Sm.mk fun i a l hh s' hs => by
    refine hK s' (WP.sub hs ?_)
    clear hK hs hdr
    obtain ⟨hi, hA, hl, hF⟩ := hh
    have cS := sync_d hA hl (by omega)
    obtain ⟨fS, eS, eW, eSS, eL⟩ := hF.sync
    have aS := syA_ok hA
    rw [eS] at cS
    have iS : LI a.S (syA a) := ⟨fS, eL, by rw [eSS, eW]; rfl⟩
    have hAll := fun q (hq : LOk b (syA a) q) => all_ct b (syA a) q aS hq fS.k
    obtain ⟨a1, ha1⟩ : ∃ a1, a1 = syA a := ⟨_, rfl⟩
    rw [← ha1] at cS aS iS hAll eW eSS
    rw [eSS] at hAll
    obtain ⟨S0, hS0⟩ : ∃ S0, S0 = a.S := ⟨_, rfl⟩
    rw [← hS0] at iS hAll
    have FR : Sm (¬ ((1 : Nat) = 0)) := Sm.mk Nat.one_ne_zero
    first | (have FRx := FR; clear FRx) | (have FR : Sm (¬ ((1 : Nat) = 0)) := Sm.mk Nat.one_ne_zero)
    repeat' first
      | (refine Sm.mk ?_; try simp -dsimp only [ZK, rvc, drawF, headN, pureH, stp, dvc, calleeOf, gcall, pev, eff, newB, okd, og, ogs, ogo, ogp, slv, bltv, opd, litv, strip, one, both, putE, St.put, look, gdOf, gdv, picka, pickv, pickw, binv, bini, bins, binb, binp, binq, isSlT, bina, shp, eqCells, unv, convv, nilv, faddv, addp, idxav, idxp, load1, load1m, loadn, loadnm, loadv, hget, hset, hrep, hdel, slicev, bnd, shift1, lenv, capv, IntKind.bits, extractv, fieldv, indexv, min2v, max2v, mkiv, cellsA, fillA, buildv, stC, oneC, rowMB, intsA, plN, appE, appZ, appC, appNZ, appNC, VwL, srcC, srcZ, srcM, isBoolT, isPtrT, isSliceT, uOk, Value.oneCell', Nat.reducePow, Int.reducePow, Nat.reduceAdd, Nat.reduceMul, Nat.reduceSub, Nat.reduceLT, Nat.reduceLeDiff, Nat.reduceEqDiff, Nat.reduceBEq, Nat.reduceDiv, Nat.reduceMod, ↓reduceIte, reduceCtorEq, Int.reduceToNat, Int.reduceLT, Int.reduceLE, TFBlM, SeqQ, BlkQ, LoopQ, BodyQ, FR.out])
      | (refine CallV.exM (cS) (pmz _) (fun g => Sm.out ?_))
      | (refine CallV.updM (hAll _ g.2) (pmz _) (Sm.out ?_))
      | ((first | refine ExF.up ?_ (hAll _ g.2) (Sm.out ?_) | refine ExG.up ?_ (fun _ => hAll _ g.2) (Sm.out ?_) | refine ExG.upJ ?_ (fun _ => hAll _ g.2) (Sm.out ?_) | refine ExG.upI ?_ (fun _ => hAll _ g.2) (Ob.out ?_) (Sm.out ?_)); focus (exact ⟨_, (pmz _)⟩))
      | (refine WP.seq fun K hK => ?_)
      | (refine WP.region (rvc_sound _ _ (Sm.out ?_)))
      | ((show WP _ _ _ (.region 7 _ _) _ _); refine WP.drawKk 11 mixed (by decide +kernel) (Sm.out ?_))
      | ((show WP _ _ _ (.region 15 _ _) _ _); refine WP.drawKk 11 mixed (by decide +kernel) (Sm.out ?_))
      | (refine WP.drawK rfl mixed (by decide +kernel) (Sm.out ?_))
      | (refine Ob.mk ?_; focus (first | assumption | omega | decide | trivial | (intro hob; simp only [hob, ZF]; done) | (intros; (repeat' refine And.intro ?_ ?_) <;> first | assumption | omega | trivial | decide) | (intros; simp only [ZE] at *; (repeat' refine And.intro ?_ ?_) <;> first | assumption | omega | trivial)))
      | (refine And.intro (Ob.out ?_) ?_)
      | (refine WP.block ?_)
      | (refine WP.cond rfl (fun hc => ?_) (fun hc => ?_) <;> (try simp only [ZC, reduceCtorEq, ZD] at hc) <;> (try (exact absurd hc (by decide))) <;> (try (exfalso; omega)))
      | ((first | refine WP.skip ?_ | refine WP.exit ?_); simp only [SeqQ, BlkQ, LoopQ, BodyQ, ↓reduceIte, Nat.reduceEqDiff, reduceCtorEq, look, true_and])
      | (refine WP.ret (Sm.out ?_))
      | (first | refine ExG.no (Sm.out ?_) | refine Or.inl (ExG.no (Sm.out ?_)) | refine Or.inl (And.intro (fun hg => absurd hg (by decide)) (ExG.no (Sm.out ?_))))
      | (refine Rt.mk ?_; refine And.intro ?_ ?_ <;> (intro hg; first | exact absurd hg (by decide) | refine Sm.out ?_))
      | (refine Nu.mk ?_; first | (fail_if_success (have := nb1)); intro nb1 | (fail_if_success (have := nb2)); intro nb2 | (fail_if_success (have := nb3)); intro nb3 | (fail_if_success (have := nb4)); intro nb4 | (fail_if_success (have := nb5)); intro nb5 | (fail_if_success (have := nb6)); intro nb6 | (fail_if_success (have := nb7)); intro nb7 | (fail_if_success (have := nb8)); intro nb8 | (fail_if_success (have := nb9)); intro nb9 | (fail_if_success (have := nb10)); intro nb10 | (fail_if_success (have := nb11)); intro nb11 | (fail_if_success (have := nb12)); intro nb12 | (fail_if_success (have := nb13)); intro nb13 | (fail_if_success (have := nb14)); intro nb14 | (fail_if_success (have := nb15)); intro nb15 | (fail_if_success (have := nb16)); intro nb16 | intro nbz)
      | (refine Fr.mk ?_; intro hfr; (first | (have hFRb : _ ≤ _ ∧ _ ≤ _ := And.intro hfr.1 hfr.2.1) | (have hFRb : _ ≤ _ := hfr.1) | skip); replace FR := Sm.mk (And.intro hfr FR.out); clear hfr; refine Sm.out ?_)
      | (refine Two.mk ?_ ?_)
      | (refine Cs.mk ?_; intro hcs; first | exact False.elim hcs | (exfalso; omega) | (refine Sm.out ?_))
      | go_step
      | omega
      | (simp only [maxLen_eq]; omega)
    have cont2 : Sm (∀ q : LG, (q.i ≤ M.length ∧ q.i ≤ 100 ∧ AOk (101 + q.i) q.a ∧ LOk b q.a q.l ∧ LI S0 q.a ∧ q.xa ≠ q.xb) → ∀ s', Sub s' ⟨[(13, ms q.xb 0 q.a.W.length q.cb), (12, ms q.xa 0 (q.a.W.length + 1) q.ca), (9, pt b 0), (3, iv .i64 torn), (2, iv .i64 keep)],
        (q.xb, .zs .i64 (q.a.W.map fun w => (w.1 : Int)) q.cb 3) :: (q.xa, .cells (strs S0 q.a.W) q.ca 9) :: dH b q.a q.l⟩ → K s') := Sm.mk fun ⟨i, a, l, xa, ca, xb, cb⟩ hh s' hs => by
      refine hK s' (WP.sub hs ?_)
      clear hK hs hdm
      simp only at hh ⊢
      obtain ⟨h1, h2, hA, hl, hI, hx⟩ := hh
      have FR : Sm (¬ ((1 : Nat) = 0)) := Sm.mk Nat.one_ne_zero
      have cC := crash_d hA hl (by omega) keep torn
      have hA1 := crA_ok hA keep torn
      have hWc := hA.Wc
      have hsl := strs_len S0 a.W
      have hAll1 := fun q (hq : LOk b (crA a keep torn) q) => all_ct b (crA a keep torn) q hA1 hq rfl
      have hWt := fun q => waits_d b (crA a keep torn) q
      have hDk := fun q => dark_d b (crA a keep torn) q
      have eS : (crA a keep torn).S = crL S0 a.W (min keep.toNat a.W.length) (min torn.toNat 32) := by
        simp only [crA, hI.L, hI.F.s, hN_min]
      have eW1 : (crA a keep torn).W.length = 0 := rfl
      have eD1 : (crA a keep torn).dk = false := rfl
      rw [eS] at hAll1
      simp only [eW1] at hWt
      simp only [eD1] at hDk
      obtain ⟨a', ha'⟩ : ∃ a', a' = crA a keep torn := ⟨_, rfl⟩
      rw [← ha'] at cC hAll1 hWt hDk
      first | (have FRx := FR; clear FRx) | (have FR : Sm (¬ ((1 : Nat) = 0)) := Sm.mk Nat.one_ne_zero)
      repeat' first
        | (refine Sm.mk ?_; try simp -dsimp only [ZK, rvc, drawF, headN, pureH, stp, dvc, calleeOf, gcall, pev, eff, newB, okd, og, ogs, ogo, ogp, slv, bltv, opd, litv, strip, one, both, putE, St.put, look, gdOf, gdv, picka, pickv, pickw, binv, bini, bins, binb, binp, binq, isSlT, bina, shp, eqCells, unv, convv, nilv, faddv, addp, idxav, idxp, load1, load1m, loadn, loadnm, loadv, hget, hset, hrep, hdel, slicev, bnd, shift1, lenv, capv, IntKind.bits, extractv, fieldv, indexv, min2v, max2v, mkiv, cellsA, fillA, buildv, stC, oneC, rowMB, intsA, plN, appE, appZ, appC, appNZ, appNC, VwL, srcC, srcZ, srcM, isBoolT, isPtrT, isSliceT, uOk, Value.oneCell', Nat.reducePow, Int.reducePow, Nat.reduceAdd, Nat.reduceMul, Nat.reduceSub, Nat.reduceLT, Nat.reduceLeDiff, Nat.reduceEqDiff, Nat.reduceBEq, Nat.reduceDiv, Nat.reduceMod, ↓reduceIte, reduceCtorEq, Int.reduceToNat, Int.reduceLT, Int.reduceLE, TFBlM, SeqQ, BlkQ, LoopQ, BodyQ, FR.out])
        | (refine CallV.exM (cC) (pm2 _ _ _) (fun g => Sm.out ?_))
        | (refine WP.seq fun K hK => ?_)
        | ((fail_if_success (show WP _ _ _ (.region 19 _ _) _ _)); refine WP.region (rvc_sound _ _ (Sm.out ?_)))
        | ((fail_if_success (show WP _ _ _ (.region 19 _ _) _ _)); (show WP _ _ _ (.region 7 _ _) _ _); refine WP.drawKk 11 mixed (by decide +kernel) (Sm.out ?_))
        | ((fail_if_success (show WP _ _ _ (.region 19 _ _) _ _)); (show WP _ _ _ (.region 15 _ _) _ _); refine WP.drawKk 11 mixed (by decide +kernel) (Sm.out ?_))
        | ((fail_if_success (show WP _ _ _ (.region 19 _ _) _ _)); refine WP.drawK rfl mixed (by decide +kernel) (Sm.out ?_))
        | (refine Ob.mk ?_; focus (first | assumption | omega | decide | trivial | (intro hob; simp only [hob, ZF]; done) | (intros; (repeat' refine And.intro ?_ ?_) <;> first | assumption | omega | trivial | decide) | (intros; simp only [ZE] at *; (repeat' refine And.intro ?_ ?_) <;> first | assumption | omega | trivial)))
        | (refine And.intro (Ob.out ?_) ?_)
        | (refine WP.block ?_)
        | (refine WP.cond rfl (fun hc => ?_) (fun hc => ?_) <;> (try simp only [ZC, reduceCtorEq, ZD] at hc) <;> (try (exact absurd hc (by decide))) <;> (try (exfalso; omega)))
        | ((first | refine WP.skip ?_ | refine WP.exit ?_); simp only [SeqQ, BlkQ, LoopQ, BodyQ, ↓reduceIte, Nat.reduceEqDiff, reduceCtorEq, look, true_and])
        | (refine WP.ret (Sm.out ?_))
        | (first | refine ExG.no (Sm.out ?_) | refine Or.inl (ExG.no (Sm.out ?_)) | refine Or.inl (And.intro (fun hg => absurd hg (by decide)) (ExG.no (Sm.out ?_))))
        | (refine Rt.mk ?_; refine And.intro ?_ ?_ <;> (intro hg; first | exact absurd hg (by decide) | refine Sm.out ?_))
        | (refine Nu.mk ?_; first | (fail_if_success (have := nb1)); intro nb1 | (fail_if_success (have := nb2)); intro nb2 | (fail_if_success (have := nb3)); intro nb3 | (fail_if_success (have := nb4)); intro nb4 | (fail_if_success (have := nb5)); intro nb5 | (fail_if_success (have := nb6)); intro nb6 | (fail_if_success (have := nb7)); intro nb7 | (fail_if_success (have := nb8)); intro nb8 | (fail_if_success (have := nb9)); intro nb9 | (fail_if_success (have := nb10)); intro nb10 | (fail_if_success (have := nb11)); intro nb11 | (fail_if_success (have := nb12)); intro nb12 | (fail_if_success (have := nb13)); intro nb13 | (fail_if_success (have := nb14)); intro nb14 | (fail_if_success (have := nb15)); intro nb15 | (fail_if_success (have := nb16)); intro nb16 | intro nbz)
        | (refine Fr.mk ?_; intro hfr; (first | (have hFRb : _ ≤ _ ∧ _ ≤ _ := And.intro hfr.1 hfr.2.1) | (have hFRb : _ ≤ _ := hfr.1) | skip); replace FR := Sm.mk (And.intro hfr FR.out); clear hfr; refine Sm.out ?_)
        | (refine Two.mk ?_ ?_)
        | (refine Cs.mk ?_; intro hcs; first | exact False.elim hcs | (exfalso; omega) | (refine Sm.out ?_))
        | go_step
        | omega
        | (simp only [maxLen_eq]; omega)
      obtain ⟨l', hl'⟩ := g
      dsimp only
      have hAll1 := (hAll1 l' hl').lookU (pm2 (xb, .zs .i64 (a.W.map fun w => (w.1 : Int)) cb 3) (xa, .cells (strs S0 a.W) ca 9) _)
      have hWt := (hWt l').lookU (pm2 (xb, .zs .i64 (a.W.map fun w => (w.1 : Int)) cb 3) (xa, .cells (strs S0 a.W) ca 9) _)
      have hDk := (hDk l').lookU (pm2 (xb, .zs .i64 (a.W.map fun w => (w.1 : Int)) cb 3) (xa, .cells (strs S0 a.W) ca 9) _)
      refine WP.sub (s' := ⟨[(13, ms xb 0 a.W.length cb), (12, ms xa 0 (a.W.length + 1) ca), (9, pt b 0), (3, iv .i64 torn), (2, iv .i64 keep)],
        (xb, .zs .i64 (a.W.map fun w => (w.1 : Int)) cb 3) :: (xa, .cells (strs S0 a.W) ca 9) :: dH b a' l'⟩) (Sub.of_env [] (List.perm_append_comm.trans (pmz _)) (by simp [look])) ?_
      obtain ⟨kN, hkN⟩ : ∃ kN, kN = keep.toNat := ⟨_, rfl⟩
      rw [← hkN] at hAll1 eS
      have tN1 : min torn.toNat 32 ≤ 32 := Nat.min_le_right ..
      obtain ⟨tN, htN⟩ : ∃ tN, tN = min torn.toNat 32 := ⟨_, rfl⟩
      rw [← htN] at hAll1 eS tN1
      by_cases hkm : a.W.length ≤ kN
      · have k4 : decide ((kN : Int) ≥ (a.W.length : Int)) = true := by simp; omega
        have eA : crL S0 a.W (min kN a.W.length) tN = layW S0 a.W := by
          rw [Nat.min_eq_right hkm]
          unfold crL
          rw [List.getElem?_eq_none (by omega), List.take_length]
        rw [eA] at hAll1
        have eg := strs_get S0 a.W (Nat.le_refl a.W.length)
        rw [List.take_length, str1] at eg
        obtain ⟨C1, hC1⟩ : ∃ C1, C1 = strs S0 a.W := ⟨_, rfl⟩
        rw [← hC1] at eg hsl
        simp only [← hC1] at hAll1 hWt hDk ⊢
        first | (have FRx := FR; clear FRx) | (have FR : Sm (¬ ((1 : Nat) = 0)) := Sm.mk Nat.one_ne_zero)
        repeat' first
          | (refine Sm.mk ?_; try simp -dsimp only [ZK, rvc, drawF, headN, pureH, stp, dvc, calleeOf, gcall, pev, eff, newB, okd, og, ogs, ogo, ogp, slv, bltv, opd, litv, strip, one, both, putE, St.put, look, gdOf, gdv, picka, pickv, pickw, binv, bini, bins, binb, binp, binq, isSlT, bina, shp, eqCells, unv, convv, nilv, faddv, addp, idxav, idxp, load1, load1m, loadn, loadnm, loadv, hget, hset, hrep, hdel, slicev, bnd, shift1, lenv, capv, IntKind.bits, extractv, fieldv, indexv, min2v, max2v, mkiv, cellsA, fillA, buildv, stC, oneC, rowMB, intsA, plN, appE, appZ, appC, appNZ, appNC, VwL, srcC, srcZ, srcM, isBoolT, isPtrT, isSliceT, uOk, Value.oneCell', Nat.reducePow, Int.reducePow, Nat.reduceAdd, Nat.reduceMul, Nat.reduceSub, Nat.reduceLT, Nat.reduceLeDiff, Nat.reduceEqDiff, Nat.reduceBEq, Nat.reduceDiv, Nat.reduceMod, ↓reduceIte, reduceCtorEq, Int.reduceToNat, Int.reduceLT, Int.reduceLE, TFBlM, SeqQ, BlkQ, LoopQ, BodyQ, FR.out])
          | (refine WP.seq fun K hK => ?_)
          | (refine WP.region (rvc_sound _ _ (Sm.out ?_)))
          | ((show WP _ _ _ (.region 7 _ _) _ _); refine WP.drawKk 11 mixed (by decide +kernel) (Sm.out ?_))
          | ((show WP _ _ _ (.region 15 _ _) _ _); refine WP.drawKk 11 mixed (by decide +kernel) (Sm.out ?_))
          | (refine WP.drawK rfl mixed (by decide +kernel) (Sm.out ?_))
          | (refine Ob.mk ?_; focus (first | assumption | omega | decide | trivial | (intro hob; simp only [hob, ZF]; done) | (intros; (repeat' refine And.intro ?_ ?_) <;> first | assumption | omega | trivial | decide) | (intros; simp only [ZE] at *; (repeat' refine And.intro ?_ ?_) <;> first | assumption | omega | trivial)))
          | (refine And.intro (Ob.out ?_) ?_)
          | (refine WP.block ?_)
          | ((fail_if_success (show WP _ _ _ (.cond _ _ _) _ _)); refine WP.cond rfl (fun hc => ?_) (fun hc => ?_) <;> (try simp only [ZC, reduceCtorEq, ZD] at hc) <;> (try (exact absurd hc (by decide))) <;> (try (exfalso; omega)))
          | ((first | refine WP.skip ?_ | refine WP.exit ?_); simp only [SeqQ, BlkQ, LoopQ, BodyQ, ↓reduceIte, Nat.reduceEqDiff, reduceCtorEq, look, true_and])
          | (refine WP.ret (Sm.out ?_))
          | (first | refine ExG.no (Sm.out ?_) | refine Or.inl (ExG.no (Sm.out ?_)) | refine Or.inl (And.intro (fun hg => absurd hg (by decide)) (ExG.no (Sm.out ?_))))
          | (refine Rt.mk ?_; refine And.intro ?_ ?_ <;> (intro hg; first | exact absurd hg (by decide) | refine Sm.out ?_))
          | (refine Nu.mk ?_; first | (fail_if_success (have := nb1)); intro nb1 | (fail_if_success (have := nb2)); intro nb2 | (fail_if_success (have := nb3)); intro nb3 | (fail_if_success (have := nb4)); intro nb4 | (fail_if_success (have := nb5)); intro nb5 | (fail_if_success (have := nb6)); intro nb6 | (fail_if_success (have := nb7)); intro nb7 | (fail_if_success (have := nb8)); intro nb8 | (fail_if_success (have := nb9)); intro nb9 | (fail_if_success (have := nb10)); intro nb10 | (fail_if_success (have := nb11)); intro nb11 | (fail_if_success (have := nb12)); intro nb12 | (fail_if_success (have := nb13)); intro nb13 | (fail_if_success (have := nb14)); intro nb14 | (fail_if_success (have := nb15)); intro nb15 | (fail_if_success (have := nb16)); intro nb16 | intro nbz)
          | (refine Fr.mk ?_; intro hfr; (first | (have hFRb : _ ≤ _ ∧ _ ≤ _ := And.intro hfr.1 hfr.2.1) | (have hFRb : _ ≤ _ := hfr.1) | skip); replace FR := Sm.mk (And.intro hfr FR.out); clear hfr; refine Sm.out ?_)
          | (refine Two.mk ?_ ?_)
          | (refine Cs.mk ?_; intro hcs; first | exact False.elim hcs | (exfalso; omega) | (refine Sm.out ?_))
          | go_step
          | omega
          | (simp only [maxLen_eq]; omega)
        have cont3 : Sm (∀ s', Sub s' ⟨[(15, iv .i64 (kN : Int)), (13, ms xb 0 a.W.length cb), (12, ms xa 0 (a.W.length + 1) ca), (9, pt b 0), (3, iv .i64 torn)],
            (xb, .zs .i64 (a.W.map fun w => (w.1 : Int)) cb 3) :: (xa, .cells C1 ca 9) :: dH b a' l'⟩ → K s') := Sm.mk fun s' hs => by
          refine hK s' (WP.sub hs ?_)
          clear hK hs
          first | (have FRx := FR; clear FRx) | (have FR : Sm (¬ ((1 : Nat) = 0)) := Sm.mk Nat.one_ne_zero)
          repeat' first
            | (refine Sm.mk ?_; try simp -dsimp only [ZK, rvc, drawF, headN, pureH, stp, dvc, calleeOf, gcall, pev, eff, newB, okd, og, ogs, ogo, ogp, slv, bltv, opd, litv, strip, one, both, putE, St.put, look, gdOf, gdv, picka, pickv, pickw, binv, bini, bins, binb, binp, binq, isSlT, bina, shp, eqCells, unv, convv, nilv, faddv, addp, idxav, idxp, load1, load1m, loadn, loadnm, loadv, hget, hset, hrep, hdel, slicev, bnd, shift1, lenv, capv, IntKind.bits, extractv, fieldv, indexv, min2v, max2v, mkiv, cellsA, fillA, buildv, stC, oneC, rowMB, intsA, plN, appE, appZ, appC, appNZ, appNC, VwL, srcC, srcZ, srcM, isBoolT, isPtrT, isSliceT, uOk, Value.oneCell', Nat.reducePow, Int.reducePow, Nat.reduceAdd, Nat.reduceMul, Nat.reduceSub, Nat.reduceLT, Nat.reduceLeDiff, Nat.reduceEqDiff, Nat.reduceBEq, Nat.reduceDiv, Nat.reduceMod, ↓reduceIte, reduceCtorEq, Int.reduceToNat, Int.reduceLT, Int.reduceLE, TFBlM, SeqQ, BlkQ, LoopQ, BodyQ, k4, hsl, hx, eg, baBeq, FR.out])
            | (refine CallV.updM (hAll1) (pmz _) (Sm.out ?_))
            | ((first | refine ExF.up ?_ (hAll1) (Sm.out ?_) | refine ExG.up ?_ (fun _ => hAll1) (Sm.out ?_) | refine ExG.upJ ?_ (fun _ => hAll1) (Sm.out ?_) | refine ExG.upI ?_ (fun _ => hAll1) (Ob.out ?_) (Sm.out ?_)); focus (exact ⟨_, (pmz _)⟩))
            | (refine WP.seq fun K hK => ?_)
            | (refine WP.region (rvc_sound _ _ (Sm.out ?_)))
            | ((show WP _ _ _ (.region 7 _ _) _ _); refine WP.drawKk 11 mixed (by decide +kernel) (Sm.out ?_))
            | ((show WP _ _ _ (.region 15 _ _) _ _); refine WP.drawKk 11 mixed (by decide +kernel) (Sm.out ?_))
            | (refine WP.drawK rfl mixed (by decide +kernel) (Sm.out ?_))
            | (refine Ob.mk ?_; focus (first | assumption | omega | decide | trivial | (intro hob; simp only [hob, ZF]; done) | (intros; (repeat' refine And.intro ?_ ?_) <;> first | assumption | omega | trivial | decide) | (intros; simp only [ZE] at *; (repeat' refine And.intro ?_ ?_) <;> first | assumption | omega | trivial)))
            | (refine And.intro (Ob.out ?_) ?_)
            | (refine WP.block ?_)
            | (refine WP.cond rfl (fun hc => ?_) (fun hc => ?_) <;> (try simp only [ZC, reduceCtorEq, ZD] at hc) <;> (try (exact absurd hc (by decide))) <;> (try (exfalso; omega)))
            | ((first | refine WP.skip ?_ | refine WP.exit ?_); simp only [SeqQ, BlkQ, LoopQ, BodyQ, ↓reduceIte, Nat.reduceEqDiff, reduceCtorEq, look, true_and])
            | (refine WP.ret (Sm.out ?_))
            | (first | refine ExG.no (Sm.out ?_) | refine Or.inl (ExG.no (Sm.out ?_)) | refine Or.inl (And.intro (fun hg => absurd hg (by decide)) (ExG.no (Sm.out ?_))))
            | (refine Rt.mk ?_; refine And.intro ?_ ?_ <;> (intro hg; first | exact absurd hg (by decide) | refine Sm.out ?_))
            | (refine Nu.mk ?_; first | (fail_if_success (have := nb1)); intro nb1 | (fail_if_success (have := nb2)); intro nb2 | (fail_if_success (have := nb3)); intro nb3 | (fail_if_success (have := nb4)); intro nb4 | (fail_if_success (have := nb5)); intro nb5 | (fail_if_success (have := nb6)); intro nb6 | (fail_if_success (have := nb7)); intro nb7 | (fail_if_success (have := nb8)); intro nb8 | (fail_if_success (have := nb9)); intro nb9 | (fail_if_success (have := nb10)); intro nb10 | (fail_if_success (have := nb11)); intro nb11 | (fail_if_success (have := nb12)); intro nb12 | (fail_if_success (have := nb13)); intro nb13 | (fail_if_success (have := nb14)); intro nb14 | (fail_if_success (have := nb15)); intro nb15 | (fail_if_success (have := nb16)); intro nb16 | intro nbz)
            | (refine Fr.mk ?_; intro hfr; (first | (have hFRb : _ ≤ _ ∧ _ ≤ _ := And.intro hfr.1 hfr.2.1) | (have hFRb : _ ≤ _ := hfr.1) | skip); replace FR := Sm.mk (And.intro hfr FR.out); clear hfr; refine Sm.out ?_)
            | (refine Two.mk ?_ ?_)
            | (refine Cs.mk ?_; intro hcs; first | exact False.elim hcs | (exfalso; omega) | (refine Sm.out ?_))
            | go_step
            | omega
            | (simp only [maxLen_eq]; omega)
          (refine OutQ.all ?_ ?_; (focus (simp only [resv, ZK, look, loadv, loadn, loadnm, load1, load1m, hget, ↓reduceIte, Nat.reduceEqDiff, Nat.reduceAdd, Nat.reduceMul, Nat.reduceLeDiff, Nat.reduceLT, reduceCtorEq, TFBlM])); (try simp only [resv, resA, Fn, ZK, look, loadv, loadn, loadnm, load1, load1m, hget, ↓reduceIte, Nat.reduceEqDiff, Nat.reduceAdd, Nat.reduceMul, Nat.reduceLeDiff, Nat.reduceLT, reduceCtorEq, TFBlM]); (try simp [resA, Fn, look]))
        clear hK
        first | (have FRx := FR; clear FRx) | (have FR : Sm (¬ ((1 : Nat) = 0)) := Sm.mk Nat.one_ne_zero)
        repeat' first
          | (refine Sm.mk ?_; try simp -dsimp only [ZK, rvc, drawF, headN, pureH, stp, dvc, calleeOf, gcall, pev, eff, newB, okd, og, ogs, ogo, ogp, slv, bltv, opd, litv, strip, one, both, putE, St.put, look, gdOf, gdv, picka, pickv, pickw, binv, bini, bins, binb, binp, binq, isSlT, bina, shp, eqCells, unv, convv, nilv, faddv, addp, idxav, idxp, load1, load1m, loadn, loadnm, loadv, hget, hset, hrep, hdel, slicev, bnd, shift1, lenv, capv, IntKind.bits, extractv, fieldv, indexv, min2v, max2v, mkiv, cellsA, fillA, buildv, stC, oneC, rowMB, intsA, plN, appE, appZ, appC, appNZ, appNC, VwL, srcC, srcZ, srcM, isBoolT, isPtrT, isSliceT, uOk, Value.oneCell', Nat.reducePow, Int.reducePow, Nat.reduceAdd, Nat.reduceMul, Nat.reduceSub, Nat.reduceLT, Nat.reduceLeDiff, Nat.reduceEqDiff, Nat.reduceBEq, Nat.reduceDiv, Nat.reduceMod, ↓reduceIte, reduceCtorEq, Int.reduceToNat, Int.reduceLT, Int.reduceLE, TFBlM, SeqQ, BlkQ, LoopQ, BodyQ, FR.out])
          | (refine WP.seq fun K hK => ?_)
          | (refine WP.region (rvc_sound _ _ (Sm.out ?_)))
          | ((show WP _ _ _ (.region 7 _ _) _ _); refine WP.drawKk 11 mixed (by decide +kernel) (Sm.out ?_))
          | ((show WP _ _ _ (.region 15 _ _) _ _); refine WP.drawKk 11 mixed (by decide +kernel) (Sm.out ?_))
          | (refine WP.drawK rfl mixed (by decide +kernel) (Sm.out ?_))
          | (refine Ob.mk ?_; focus (first | assumption | omega | decide | trivial | (intro hob; simp only [hob, ZF]; done) | (intros; (repeat' refine And.intro ?_ ?_) <;> first | assumption | omega | trivial | decide) | (intros; simp only [ZE] at *; (repeat' refine And.intro ?_ ?_) <;> first | assumption | omega | trivial)))
          | (refine And.intro (Ob.out ?_) ?_)
          | (refine WP.block ?_)
          | (refine WP.cond rfl (fun hc => ?_) (fun hc => ?_) <;> (try simp only [ZC, reduceCtorEq, ZD] at hc) <;> (try (exact absurd hc (by decide))) <;> (try (exfalso; omega)))
          | ((first | refine WP.skip ?_ | refine WP.exit ?_); simp only [SeqQ, BlkQ, LoopQ, BodyQ, ↓reduceIte, Nat.reduceEqDiff, reduceCtorEq, look, true_and])
          | (refine WP.ret (Sm.out ?_))
          | (first | refine ExG.no (Sm.out ?_) | refine Or.inl (ExG.no (Sm.out ?_)) | refine Or.inl (And.intro (fun hg => absurd hg (by decide)) (ExG.no (Sm.out ?_))))
          | (refine Rt.mk ?_; refine And.intro ?_ ?_ <;> (intro hg; first | exact absurd hg (by decide) | refine Sm.out ?_))
          | (refine Nu.mk ?_; first | (fail_if_success (have := nb1)); intro nb1 | (fail_if_success (have := nb2)); intro nb2 | (fail_if_success (have := nb3)); intro nb3 | (fail_if_success (have := nb4)); intro nb4 | (fail_if_success (have := nb5)); intro nb5 | (fail_if_success (have := nb6)); intro nb6 | (fail_if_success (have := nb7)); intro nb7 | (fail_if_success (have := nb8)); intro nb8 | (fail_if_success (have := nb9)); intro nb9 | (fail_if_success (have := nb10)); intro nb10 | (fail_if_success (have := nb11)); intro nb11 | (fail_if_success (have := nb12)); intro nb12 | (fail_if_success (have := nb13)); intro nb13 | (fail_if_success (have := nb14)); intro nb14 | (fail_if_success (have := nb15)); intro nb15 | (fail_if_success (have := nb16)); intro nb16 | intro nbz)
          | (refine Fr.mk ?_; intro hfr; (first | (have hFRb : _ ≤ _ ∧ _ ≤ _ := And.intro hfr.1 hfr.2.1) | (have hFRb : _ ≤ _ := hfr.1) | skip); replace FR := Sm.mk (And.intro hfr FR.out); clear hfr; refine Sm.out ?_)
          | (refine Two.mk ?_ ?_)
          | (refine Cs.mk ?_; intro hcs; first | exact False.elim hcs | (exfalso; omega) | (refine Sm.out ?_))
          | go_step
          | omega
          | (simp only [maxLen_eq]; omega)
        · have hz : ((kN : Nat) : Int) = 0 := by omega
          exact cont3.out _ (Sub.of_env [] (pmz _) (by simp [look, hz]))
        · have hz : ((kN : Nat) : Int) = keep := by omega
          exact cont3.out _ (Sub.of_env [] (pmz _) (by simp [look, hz]))
      · have k4 : decide ((kN : Int) ≥ (a.W.length : Int)) = false := by simp; omega
        have hkl : kN < a.W.length := by omega
        have hwm := hA.W _ (List.getElem_mem hkl)
        rw [hI.F.n, hI.F.s] at hwm
        have hLr := hA.Lr
        have hLl := hA.Ll
        rw [hI.L, hI.F.s] at hLr
        rw [hI.L, hI.F.n] at hLl
        have hXr := layW_rows (a.W.take kN) S0 hLr fun w hw => by have := (hA.W w (List.mem_of_mem_take hw)).2; rw [hI.F.s] at this; exact this
        have hXl := layW_len (a.W.take kN) S0
        have et : a.W.take (kN + 1) = a.W.take kN ++ [a.W[kN]] := by rw [List.take_add_one, List.getElem?_eq_getElem hkl]; rfl
        have eg := strs_get S0 a.W (show kN ≤ a.W.length by omega)
        have eg2 := strs_get S0 a.W (show kN + 1 ≤ a.W.length by omega)
        rw [et, layW_app] at eg2
        have eB : crL S0 a.W (min kN a.W.length) tN = (layW S0 (a.W.take kN)).set a.W[kN].1 (a.W[kN].2.take tN ++ ((layW S0 (a.W.take kN)).getD a.W[kN].1 []).drop tN) := by
          rw [Nat.min_eq_left (by omega)]
          unfold crL
          rw [List.getElem?_eq_getElem hkl]
        have ez : (a.W.map fun w => (w.1 : Int)).getD kN 0 = (a.W[kN].1 : Int) := by simp [List.getD_eq_getElem?_getD, List.getElem?_eq_getElem hkl]
        obtain ⟨X, hX⟩ : ∃ X, X = layW S0 (a.W.take kN) := ⟨_, rfl⟩
        obtain ⟨w, hw⟩ : ∃ w, w = a.W[kN] := ⟨_, rfl⟩
        have eg2' : (strs S0 a.W).getD (kN + 1) .any = str1 (X.set w.1 w.2) := by rw [eg2, hX, hw]; rfl
        rw [← hX] at eg hXr hXl eB
        rw [← hw] at hwm eB ez
        rw [eB, torn_text hXr (by omega) hwm.2 tN1] at hAll1
        have lP : X.flatten.length = 192 := by rw [flat_len X hXr, hXl, hLl]
        have lQ : (X.set w.1 w.2).flatten.length = 192 := by rw [flat_len _ (set_rows hXr hwm.2), List.length_set, hXl, hLl]
        obtain ⟨P, hP⟩ : ∃ P, P = X.flatten := ⟨_, rfl⟩
        obtain ⟨Q, hQ⟩ : ∃ Q, Q = (X.set w.1 w.2).flatten := ⟨_, rfl⟩
        rw [str1, ← hP] at eg
        rw [str1, ← hQ] at eg2'
        rw [← hP] at lP
        rw [← hQ] at lQ
        rw [← hP, ← hQ] at hAll1
        have hw6 := hwm.1
        obtain ⟨wi, hwi⟩ : ∃ wi, wi = w.1 := ⟨_, rfl⟩
        rw [← hwi] at hAll1 hw6 ez
        obtain ⟨Z1, hZ1⟩ : ∃ Z1, Z1 = (a.W.map fun w => (w.1 : Int)) := ⟨_, rfl⟩
        have lZ : Z1.length = a.W.length := by rw [hZ1]; simp
        obtain ⟨C1, hC1⟩ : ∃ C1, C1 = strs S0 a.W := ⟨_, rfl⟩
        rw [← hC1] at eg eg2' hsl
        rw [← hZ1] at ez
        simp only [← hC1, ← hZ1] at hAll1 hWt hDk ⊢
        have m1 : IntKind.i64.wrap (32 * (wi : Int)) = ((32 * wi : Nat) : Int) := by rw [wrap_i64 (by omega) (by omega)]; omega
        have m2 : IntKind.i64.wrap (((32 * wi : Nat) : Int) + (tN : Int)) = ((32 * wi + tN : Nat) : Int) := by rw [wrap_i64 (by omega) (by omega)]; omega
        have i1 : 32 * wi ≤ 192 := by omega
        have i2 : 32 * wi + tN ≤ 192 := by omega
        have tP : P.take 192 = P := List.take_of_length_le (by omega)
        have i3 : 32 * wi + (32 * wi + tN - 32 * wi) ≤ 9223372036854775807 := by omega
        have i4 : 32 * wi + (32 * wi + tN - 32 * wi) + (192 - (32 * wi + tN)) ≤ 9223372036854775807 := by omega
        have m3 : IntKind.i64.wrap ((kN : Int) + 1) = ((kN + 1 : Nat) : Int) := by rw [wrap_i64 (by omega) (by omega)]; omega
        clear hA1 hA hI hLr hLl hXr hXl hwm hw hX eB et eg2 hP hQ hwi hZ1 hC1 hl hl' cC
        first | (have FRx := FR; clear FRx) | (have FR : Sm (¬ ((1 : Nat) = 0)) := Sm.mk Nat.one_ne_zero)
        repeat' first
          | (refine Sm.mk ?_; try simp -dsimp only [ZK, rvc, drawF, headN, pureH, stp, dvc, calleeOf, gcall, pev, eff, newB, okd, og, ogs, ogo, ogp, slv, bltv, opd, litv, strip, one, both, putE, St.put, look, gdOf, gdv, picka, pickv, pickw, binv, bini, bins, binb, binp, binq, isSlT, bina, shp, eqCells, unv, convv, nilv, faddv, addp, idxav, idxp, load1, load1m, loadn, loadnm, loadv, hget, hset, hrep, hdel, slicev, bnd, shift1, lenv, capv, IntKind.bits, extractv, fieldv, indexv, min2v, max2v, mkiv, cellsA, fillA, buildv, stC, oneC, rowMB, intsA, plN, appE, appZ, appC, appNZ, appNC, VwL, srcC, srcZ, srcM, isBoolT, isPtrT, isSliceT, uOk, Value.oneCell', Nat.reducePow, Int.reducePow, Nat.reduceAdd, Nat.reduceMul, Nat.reduceSub, Nat.reduceLT, Nat.reduceLeDiff, Nat.reduceEqDiff, Nat.reduceBEq, Nat.reduceDiv, Nat.reduceMod, ↓reduceIte, reduceCtorEq, Int.reduceToNat, Int.reduceLT, Int.reduceLE, TFBlM, SeqQ, BlkQ, LoopQ, BodyQ, FR.out])
          | (refine WP.seq fun K hK => ?_)
          | (refine WP.region (rvc_sound _ _ (Sm.out ?_)))
          | ((show WP _ _ _ (.region 7 _ _) _ _); refine WP.drawKk 11 mixed (by decide +kernel) (Sm.out ?_))
          | ((show WP _ _ _ (.region 15 _ _) _ _); refine WP.drawKk 11 mixed (by decide +kernel) (Sm.out ?_))
          | (refine WP.drawK rfl mixed (by decide +kernel) (Sm.out ?_))
          | (refine Ob.mk ?_; focus (first | assumption | omega | decide | trivial | (intro hob; simp only [hob, ZF]; done) | (intros; (repeat' refine And.intro ?_ ?_) <;> first | assumption | omega | trivial | decide) | (intros; simp only [ZE] at *; (repeat' refine And.intro ?_ ?_) <;> first | assumption | omega | trivial)))
          | (refine And.intro (Ob.out ?_) ?_)
          | (refine WP.block ?_)
          | ((fail_if_success (show WP _ _ _ (.cond _ _ _) _ _)); refine WP.cond rfl (fun hc => ?_) (fun hc => ?_) <;> (try simp only [ZC, reduceCtorEq, ZD] at hc) <;> (try (exact absurd hc (by decide))) <;> (try (exfalso; omega)))
          | ((first | refine WP.skip ?_ | refine WP.exit ?_); simp only [SeqQ, BlkQ, LoopQ, BodyQ, ↓reduceIte, Nat.reduceEqDiff, reduceCtorEq, look, true_and])
          | (refine WP.ret (Sm.out ?_))
          | (first | refine ExG.no (Sm.out ?_) | refine Or.inl (ExG.no (Sm.out ?_)) | refine Or.inl (And.intro (fun hg => absurd hg (by decide)) (ExG.no (Sm.out ?_))))
          | (refine Rt.mk ?_; refine And.intro ?_ ?_ <;> (intro hg; first | exact absurd hg (by decide) | refine Sm.out ?_))
          | (refine Nu.mk ?_; first | (fail_if_success (have := nb1)); intro nb1 | (fail_if_success (have := nb2)); intro nb2 | (fail_if_success (have := nb3)); intro nb3 | (fail_if_success (have := nb4)); intro nb4 | (fail_if_success (have := nb5)); intro nb5 | (fail_if_success (have := nb6)); intro nb6 | (fail_if_success (have := nb7)); intro nb7 | (fail_if_success (have := nb8)); intro nb8 | (fail_if_success (have := nb9)); intro nb9 | (fail_if_success (have := nb10)); intro nb10 | (fail_if_success (have := nb11)); intro nb11 | (fail_if_success (have := nb12)); intro nb12 | (fail_if_success (have := nb13)); intro nb13 | (fail_if_success (have := nb14)); intro nb14 | (fail_if_success (have := nb15)); intro nb15 | (fail_if_success (have := nb16)); intro nb16 | intro nbz)
          | (refine Fr.mk ?_; intro hfr; (first | (have hFRb : _ ≤ _ ∧ _ ≤ _ := And.intro hfr.1 hfr.2.1) | (have hFRb : _ ≤ _ := hfr.1) | skip); replace FR := Sm.mk (And.intro hfr FR.out); clear hfr; refine Sm.out ?_)
          | (refine Two.mk ?_ ?_)
          | (refine Cs.mk ?_; intro hcs; first | exact False.elim hcs | (exfalso; omega) | (refine Sm.out ?_))
          | go_step
          | omega
          | (simp only [maxLen_eq]; omega)
        have cont3 : Sm (∀ s', Sub s' ⟨[(15, iv .i64 (kN : Int)), (13, ms xb 0 a.W.length cb), (12, ms xa 0 (a.W.length + 1) ca), (9, pt b 0), (3, iv .i64 torn)],
            (xb, .zs .i64 Z1 cb 3) :: (xa, .cells C1 ca 9) :: dH b a' l'⟩ → K s') := Sm.mk fun s' hs => by
          refine hK s' (WP.sub hs ?_)
          clear hK hs
          first | (have FRx := FR; clear FRx) | (have FR : Sm (¬ ((1 : Nat) = 0)) := Sm.mk Nat.one_ne_zero)
          repeat' first
            | (refine Sm.mk ?_; try simp -dsimp only [ZK, rvc, drawF, headN, pureH, stp, dvc, calleeOf, gcall, pev, eff, newB, okd, og, ogs, ogo, ogp, slv, bltv, opd, litv, strip, one, both, putE, St.put, look, gdOf, gdv, picka, pickv, pickw, binv, bini, bins, binb, binp, binq, isSlT, bina, shp, eqCells, unv, convv, nilv, faddv, addp, idxav, idxp, load1, load1m, loadn, loadnm, loadv, hget, hset, hrep, hdel, slicev, bnd, shift1, lenv, capv, IntKind.bits, extractv, fieldv, indexv, min2v, max2v, mkiv, cellsA, fillA, buildv, stC, oneC, rowMB, intsA, plN, appE, appZ, appC, appNZ, appNC, VwL, srcC, srcZ, srcM, isBoolT, isPtrT, isSliceT, uOk, Value.oneCell', Nat.reducePow, Int.reducePow, Nat.reduceAdd, Nat.reduceMul, Nat.reduceSub, Nat.reduceLT, Nat.reduceLeDiff, Nat.reduceEqDiff, Nat.reduceBEq, Nat.reduceDiv, Nat.reduceMod, ↓reduceIte, reduceCtorEq, Int.reduceToNat, Int.reduceLT, Int.reduceLE, TFBlM, SeqQ, BlkQ, LoopQ, BodyQ, k4, FR.out])
            | (refine WP.seq fun K hK => ?_)
            | ((fail_if_success (show WP _ _ _ (.region 25 _ _) _ _)); refine WP.region (rvc_sound _ _ (Sm.out ?_)))
            | ((fail_if_success (show WP _ _ _ (.region 25 _ _) _ _)); (show WP _ _ _ (.region 7 _ _) _ _); refine WP.drawKk 11 mixed (by decide +kernel) (Sm.out ?_))
            | ((fail_if_success (show WP _ _ _ (.region 25 _ _) _ _)); (show WP _ _ _ (.region 15 _ _) _ _); refine WP.drawKk 11 mixed (by decide +kernel) (Sm.out ?_))
            | ((fail_if_success (show WP _ _ _ (.region 25 _ _) _ _)); refine WP.drawK rfl mixed (by decide +kernel) (Sm.out ?_))
            | (refine Ob.mk ?_; focus (first | assumption | omega | decide | trivial | (intro hob; simp only [hob, ZF]; done) | (intros; (repeat' refine And.intro ?_ ?_) <;> first | assumption | omega | trivial | decide) | (intros; simp only [ZE] at *; (repeat' refine And.intro ?_ ?_) <;> first | assumption | omega | trivial)))
            | (refine And.intro (Ob.out ?_) ?_)
            | (refine WP.block ?_)
            | (refine WP.cond rfl (fun hc => ?_) (fun hc => ?_) <;> (try simp only [ZC, reduceCtorEq, ZD] at hc) <;> (try (exact absurd hc (by decide))) <;> (try (exfalso; omega)))
            | ((first | refine WP.skip ?_ | refine WP.exit ?_); simp only [SeqQ, BlkQ, LoopQ, BodyQ, ↓reduceIte, Nat.reduceEqDiff, reduceCtorEq, look, true_and])
            | (refine WP.ret (Sm.out ?_))
            | (first | refine ExG.no (Sm.out ?_) | refine Or.inl (ExG.no (Sm.out ?_)) | refine Or.inl (And.intro (fun hg => absurd hg (by decide)) (ExG.no (Sm.out ?_))))
            | (refine Rt.mk ?_; refine And.intro ?_ ?_ <;> (intro hg; first | exact absurd hg (by decide) | refine Sm.out ?_))
            | (refine Nu.mk ?_; first | (fail_if_success (have := nb1)); intro nb1 | (fail_if_success (have := nb2)); intro nb2 | (fail_if_success (have := nb3)); intro nb3 | (fail_if_success (have := nb4)); intro nb4 | (fail_if_success (have := nb5)); intro nb5 | (fail_if_success (have := nb6)); intro nb6 | (fail_if_success (have := nb7)); intro nb7 | (fail_if_success (have := nb8)); intro nb8 | (fail_if_success (have := nb9)); intro nb9 | (fail_if_success (have := nb10)); intro nb10 | (fail_if_success (have := nb11)); intro nb11 | (fail_if_success (have := nb12)); intro nb12 | (fail_if_success (have := nb13)); intro nb13 | (fail_if_success (have := nb14)); intro nb14 | (fail_if_success (have := nb15)); intro nb15 | (fail_if_success (have := nb16)); intro nb16 | intro nbz)
            | (refine Fr.mk ?_; intro hfr; (first | (have hFRb : _ ≤ _ ∧ _ ≤ _ := And.intro hfr.1 hfr.2.1) | (have hFRb : _ ≤ _ := hfr.1) | skip); replace FR := Sm.mk (And.intro hfr FR.out); clear hfr; refine Sm.out ?_)
            | (refine Two.mk ?_ ?_)
            | (refine Cs.mk ?_; intro hcs; first | exact False.elim hcs | (exfalso; omega) | (refine Sm.out ?_))
            | go_step
            | omega
            | (simp only [maxLen_eq]; omega)
          first | (have FRx := FR; clear FRx) | (have FR : Sm (¬ ((1 : Nat) = 0)) := Sm.mk Nat.one_ne_zero)
          repeat' first
            | (refine Sm.mk ?_; try simp -dsimp only [ZK, rvc, drawF, headN, pureH, stp, dvc, calleeOf, gcall, pev, eff, newB, okd, og, ogs, ogo, ogp, slv, bltv, opd, litv, strip, one, both, putE, St.put, look, gdOf, gdv, picka, pickv, pickw, binv, bini, bins, binb, binp, binq, isSlT, bina, shp, eqCells, unv, convv, nilv, faddv, addp, idxav, idxp, load1, load1m, loadn, loadnm, loadv, hget, hset, hrep, hdel, slicev, bnd, shift1, lenv, capv, IntKind.bits, extractv, fieldv, indexv, min2v, max2v, mkiv, cellsA, fillA, buildv, stC, oneC, rowMB, intsA, plN, appE, appZ, appC, appNZ, appNC, VwL, srcC, srcZ, srcM, isBoolT, isPtrT, isSliceT, uOk, Value.oneCell', Nat.reducePow, Int.reducePow, Nat.reduceAdd, Nat.reduceMul, Nat.reduceSub, Nat.reduceLT, Nat.reduceLeDiff, Nat.reduceEqDiff, Nat.reduceBEq, Nat.reduceDiv, Nat.reduceMod, ↓reduceIte, reduceCtorEq, Int.reduceToNat, Int.reduceLT, Int.reduceLE, TFBlM, SeqQ, BlkQ, LoopQ, BodyQ, FR.out])
            | (refine WP.seq fun K hK => ?_)
            | (refine WP.region (rvc_sound _ _ (Sm.out ?_)))
            | ((show WP _ _ _ (.region 7 _ _) _ _); refine WP.drawKk 11 mixed (by decide +kernel) (Sm.out ?_))
            | ((show WP _ _ _ (.region 15 _ _) _ _); refine WP.drawKk 11 mixed (by decide +kernel) (Sm.out ?_))
            | (refine WP.drawK rfl mixed (by decide +kernel) (Sm.out ?_))
            | (refine Ob.mk ?_; focus (first | assumption | omega | decide | trivial | (intro hob; simp only [hob, ZF]; done) | (intros; (repeat' refine And.intro ?_ ?_) <;> first | assumption | omega | trivial | decide) | (intros; simp only [ZE] at *; (repeat' refine And.intro ?_ ?_) <;> first | assumption | omega | trivial)))
            | (refine And.intro (Ob.out ?_) ?_)
            | (refine WP.block ?_)
            | ((fail_if_success (show WP _ _ _ (.cond _ _ _) _ _)); refine WP.cond rfl (fun hc => ?_) (fun hc => ?_) <;> (try simp only [ZC, reduceCtorEq, ZD] at hc) <;> (try (exact absurd hc (by decide))) <;> (try (exfalso; omega)))
            | ((first | refine WP.skip ?_ | refine WP.exit ?_); simp only [SeqQ, BlkQ, LoopQ, BodyQ, ↓reduceIte, Nat.reduceEqDiff, reduceCtorEq, look, true_and])
            | (refine WP.ret (Sm.out ?_))
            | (first | refine ExG.no (Sm.out ?_) | refine Or.inl (ExG.no (Sm.out ?_)) | refine Or.inl (And.intro (fun hg => absurd hg (by decide)) (ExG.no (Sm.out ?_))))
            | (refine Rt.mk ?_; refine And.intro ?_ ?_ <;> (intro hg; first | exact absurd hg (by decide) | refine Sm.out ?_))
            | (refine Nu.mk ?_; first | (fail_if_success (have := nb1)); intro nb1 | (fail_if_success (have := nb2)); intro nb2 | (fail_if_success (have := nb3)); intro nb3 | (fail_if_success (have := nb4)); intro nb4 | (fail_if_success (have := nb5)); intro nb5 | (fail_if_success (have := nb6)); intro nb6 | (fail_if_success (have := nb7)); intro nb7 | (fail_if_success (have := nb8)); intro nb8 | (fail_if_success (have := nb9)); intro nb9 | (fail_if_success (have := nb10)); intro nb10 | (fail_if_success (have := nb11)); intro nb11 | (fail_if_success (have := nb12)); intro nb12 | (fail_if_success (have := nb13)); intro nb13 | (fail_if_success (have := nb14)); intro nb14 | (fail_if_success (have := nb15)); intro nb15 | (fail_if_success (have := nb16)); intro nb16 | intro nbz)
            | (refine Fr.mk ?_; intro hfr; (first | (have hFRb : _ ≤ _ ∧ _ ≤ _ := And.intro hfr.1 hfr.2.1) | (have hFRb : _ ≤ _ := hfr.1) | skip); replace FR := Sm.mk (And.intro hfr FR.out); clear hfr; refine Sm.out ?_)
            | (refine Two.mk ?_ ?_)
            | (refine Cs.mk ?_; intro hcs; first | exact False.elim hcs | (exfalso; omega) | (refine Sm.out ?_))
            | go_step
            | omega
            | (simp only [maxLen_eq]; omega)
          have cont4 : Sm (∀ tA : Int, tA = (if torn < 0 then 0 else torn) → ∀ s', Sub s' ⟨[(16, iv .i64 tA), (15, iv .i64 (kN : Int)), (13, ms xb 0 a.W.length cb), (12, ms xa 0 (a.W.length + 1) ca), (9, pt b 0)],
              (xb, .zs .i64 Z1 cb 3) :: (xa, .cells C1 ca 9) :: dH b a' l'⟩ → K s') := Sm.mk fun tA htA s' hs => by
            refine hK s' (WP.sub hs ?_)
            clear hK hs
            first | (have FRx := FR; clear FRx) | (have FR : Sm (¬ ((1 : Nat) = 0)) := Sm.mk Nat.one_ne_zero)
            repeat' first
              | (refine Sm.mk ?_; try simp -dsimp only [ZK, rvc, drawF, headN, pureH, stp, dvc, calleeOf, gcall, pev, eff, newB, okd, og, ogs, ogo, ogp, slv, bltv, opd, litv, strip, one, both, putE, St.put, look, gdOf, gdv, picka, pickv, pickw, binv, bini, bins, binb, binp, binq, isSlT, bina, shp, eqCells, unv, convv, nilv, faddv, addp, idxav, idxp, load1, load1m, loadn, loadnm, loadv, hget, hset, hrep, hdel, slicev, bnd, shift1, lenv, capv, IntKind.bits, extractv, fieldv, indexv, min2v, max2v, mkiv, cellsA, fillA, buildv, stC, oneC, rowMB, intsA, plN, appE, appZ, appC, appNZ, appNC, VwL, srcC, srcZ, srcM, isBoolT, isPtrT, isSliceT, uOk, Value.oneCell', Nat.reducePow, Int.reducePow, Nat.reduceAdd, Nat.reduceMul, Nat.reduceSub, Nat.reduceLT, Nat.reduceLeDiff, Nat.reduceEqDiff, Nat.reduceBEq, Nat.reduceDiv, Nat.reduceMod, ↓reduceIte, reduceCtorEq, Int.reduceToNat, Int.reduceLT, Int.reduceLE, TFBlM, SeqQ, BlkQ, LoopQ, BodyQ, FR.out])
              | (refine WP.seq fun K hK => ?_)
              | (refine WP.region (rvc_sound _ _ (Sm.out ?_)))
              | ((show WP _ _ _ (.region 7 _ _) _ _); refine WP.drawKk 11 mixed (by decide +kernel) (Sm.out ?_))
              | ((show WP _ _ _ (.region 15 _ _) _ _); refine WP.drawKk 11 mixed (by decide +kernel) (Sm.out ?_))
              | (refine WP.drawK rfl mixed (by decide +kernel) (Sm.out ?_))
              | (refine Ob.mk ?_; focus (first | assumption | omega | decide | trivial | (intro hob; simp only [hob, ZF]; done) | (intros; (repeat' refine And.intro ?_ ?_) <;> first | assumption | omega | trivial | decide) | (intros; simp only [ZE] at *; (repeat' refine And.intro ?_ ?_) <;> first | assumption | omega | trivial)))
              | (refine And.intro (Ob.out ?_) ?_)
              | (refine WP.block ?_)
              | ((fail_if_success (show WP _ _ _ (.cond _ _ _) _ _)); refine WP.cond rfl (fun hc => ?_) (fun hc => ?_) <;> (try simp only [ZC, reduceCtorEq, ZD] at hc) <;> (try (exact absurd hc (by decide))) <;> (try (exfalso; omega)))
              | ((first | refine WP.skip ?_ | refine WP.exit ?_); simp only [SeqQ, BlkQ, LoopQ, BodyQ, ↓reduceIte, Nat.reduceEqDiff, reduceCtorEq, look, true_and])
              | (refine WP.ret (Sm.out ?_))
              | (first | refine ExG.no (Sm.out ?_) | refine Or.inl (ExG.no (Sm.out ?_)) | refine Or.inl (And.intro (fun hg => absurd hg (by decide)) (ExG.no (Sm.out ?_))))
              | (refine Rt.mk ?_; refine And.intro ?_ ?_ <;> (intro hg; first | exact absurd hg (by decide) | refine Sm.out ?_))
              | (refine Nu.mk ?_; first | (fail_if_success (have := nb1)); intro nb1 | (fail_if_success (have := nb2)); intro nb2 | (fail_if_success (have := nb3)); intro nb3 | (fail_if_success (have := nb4)); intro nb4 | (fail_if_success (have := nb5)); intro nb5 | (fail_if_success (have := nb6)); intro nb6 | (fail_if_success (have := nb7)); intro nb7 | (fail_if_success (have := nb8)); intro nb8 | (fail_if_success (have := nb9)); intro nb9 | (fail_if_success (have := nb10)); intro nb10 | (fail_if_success (have := nb11)); intro nb11 | (fail_if_success (have := nb12)); intro nb12 | (fail_if_success (have := nb13)); intro nb13 | (fail_if_success (have := nb14)); intro nb14 | (fail_if_success (have := nb15)); intro nb15 | (fail_if_success (have := nb16)); intro nb16 | intro nbz)
              | (refine Fr.mk ?_; intro hfr; (first | (have hFRb : _ ≤ _ ∧ _ ≤ _ := And.intro hfr.1 hfr.2.1) | (have hFRb : _ ≤ _ := hfr.1) | skip); replace FR := Sm.mk (And.intro hfr FR.out); clear hfr; refine Sm.out ?_)
              | (refine Two.mk ?_ ?_)
              | (refine Cs.mk ?_; intro hcs; first | exact False.elim hcs | (exfalso; omega) | (refine Sm.out ?_))
              | go_step
              | omega
              | (simp only [maxLen_eq]; omega)
            have cont5 : Sm (∀ s', Sub s' ⟨[(16, iv .i64 (tN : Int)), (15, iv .i64 (kN : Int)), (13, ms xb 0 a.W.length cb), (12, ms xa 0 (a.W.length + 1) ca), (9, pt b 0)],
                (xb, .zs .i64 Z1 cb 3) :: (xa, .cells C1 ca 9) :: dH b a' l'⟩ → K s') := Sm.mk fun s' hs => by
              refine hK s' (WP.sub hs ?_)
              clear hK hs
              clear htA htN hkN
              first | (have FRx := FR; clear FRx) | (have FR : Sm (¬ ((1 : Nat) = 0)) := Sm.mk Nat.one_ne_zero)
              repeat' first
                | (refine Sm.mk ?_; try simp -dsimp only [ZK, rvc, drawF, headN, pureH, stp, dvc, calleeOf, gcall, pev, eff, newB, okd, og, ogs, ogo, ogp, slv, bltv, opd, litv, strip, one, both, putE, St.put, look, gdOf, gdv, picka, pickv, pickw, binv, bini, bins, binb, binp, binq, isSlT, bina, shp, eqCells, unv, convv, nilv, faddv, addp, idxav, idxp, load1, load1m, loadn, loadnm, loadv, hget, hset, hrep, hdel, slicev, bnd, shift1, lenv, capv, IntKind.bits, extractv, fieldv, indexv, min2v, max2v, mkiv, cellsA, fillA, buildv, stC, oneC, rowMB, intsA, plN, appE, appZ, appC, appNZ, appNC, VwL, srcC, srcZ, srcM, isBoolT, isPtrT, isSliceT, uOk, Value.oneCell', Nat.reducePow, Int.reducePow, Nat.reduceAdd, Nat.reduceMul, Nat.reduceSub, Nat.reduceLT, Nat.reduceLeDiff, Nat.reduceEqDiff, Nat.reduceBEq, Nat.reduceDiv, Nat.reduceMod, ↓reduceIte, reduceCtorEq, Int.reduceToNat, Int.reduceLT, Int.reduceLE, TFBlM, SeqQ, BlkQ, LoopQ, BodyQ, ez, m1, m2, m3, eg, eg2', lP, lQ, i1, i2, i3, i4, tP, bstr_size, bstr_ext, bstr_app, hsl, hx, lZ, baBeq, List.append_assoc, FR.out])
                | (refine CallV.updM (hAll1) (pmz _) (Sm.out ?_))
                | ((first | refine ExF.up ?_ (hAll1) (Sm.out ?_) | refine ExG.up ?_ (fun _ => hAll1) (Sm.out ?_) | refine ExG.upJ ?_ (fun _ => hAll1) (Sm.out ?_) | refine ExG.upI ?_ (fun _ => hAll1) (Ob.out ?_) (Sm.out ?_)); focus (exact ⟨_, (pmz _)⟩))
                | (refine CallV.updM (hWt) (pmz _) (Sm.out ?_))
                | ((first | refine ExF.up ?_ (hWt) (Sm.out ?_) | refine ExG.up ?_ (fun _ => hWt) (Sm.out ?_) | refine ExG.upJ ?_ (fun _ => hWt) (Sm.out ?_) | refine ExG.upI ?_ (fun _ => hWt) (Ob.out ?_) (Sm.out ?_)); focus (exact ⟨_, (pmz _)⟩))
                | (refine CallV.updM (hDk) (pmz _) (Sm.out ?_))
                | ((first | refine ExF.up ?_ (hDk) (Sm.out ?_) | refine ExG.up ?_ (fun _ => hDk) (Sm.out ?_) | refine ExG.upJ ?_ (fun _ => hDk) (Sm.out ?_) | refine ExG.upI ?_ (fun _ => hDk) (Ob.out ?_) (Sm.out ?_)); focus (exact ⟨_, (pmz _)⟩))
                | (refine WP.seq fun K hK => ?_)
                | (refine WP.region (rvc_sound _ _ (Sm.out ?_)))
                | ((show WP _ _ _ (.region 7 _ _) _ _); refine WP.drawKk 11 mixed (by decide +kernel) (Sm.out ?_))
                | ((show WP _ _ _ (.region 15 _ _) _ _); refine WP.drawKk 11 mixed (by decide +kernel) (Sm.out ?_))
                | (refine WP.drawK rfl mixed (by decide +kernel) (Sm.out ?_))
                | (refine Ob.mk ?_; focus (first | assumption | omega | decide | trivial | (intro hob; simp only [hob, ZF]; done) | (intros; (repeat' refine And.intro ?_ ?_) <;> first | assumption | omega | trivial | decide) | (intros; simp only [ZE] at *; (repeat' refine And.intro ?_ ?_) <;> first | assumption | omega | trivial)))
                | (refine And.intro (Ob.out ?_) ?_)
                | (refine WP.block ?_)
                | (refine WP.cond rfl (fun hc => ?_) (fun hc => ?_) <;> (try simp only [ZC, reduceCtorEq, ZD] at hc) <;> (try (exact absurd hc (by decide))) <;> (try (exfalso; omega)))
                | ((first | refine WP.skip ?_ | refine WP.exit ?_); simp only [SeqQ, BlkQ, LoopQ, BodyQ, ↓reduceIte, Nat.reduceEqDiff, reduceCtorEq, look, true_and])
                | (refine WP.ret (Sm.out ?_))
                | (first | refine ExG.no (Sm.out ?_) | refine Or.inl (ExG.no (Sm.out ?_)) | refine Or.inl (And.intro (fun hg => absurd hg (by decide)) (ExG.no (Sm.out ?_))))
                | (refine Rt.mk ?_; refine And.intro ?_ ?_ <;> (intro hg; first | exact absurd hg (by decide) | refine Sm.out ?_))
                | (refine Nu.mk ?_; first | (fail_if_success (have := nb1)); intro nb1 | (fail_if_success (have := nb2)); intro nb2 | (fail_if_success (have := nb3)); intro nb3 | (fail_if_success (have := nb4)); intro nb4 | (fail_if_success (have := nb5)); intro nb5 | (fail_if_success (have := nb6)); intro nb6 | (fail_if_success (have := nb7)); intro nb7 | (fail_if_success (have := nb8)); intro nb8 | (fail_if_success (have := nb9)); intro nb9 | (fail_if_success (have := nb10)); intro nb10 | (fail_if_success (have := nb11)); intro nb11 | (fail_if_success (have := nb12)); intro nb12 | (fail_if_success (have := nb13)); intro nb13 | (fail_if_success (have := nb14)); intro nb14 | (fail_if_success (have := nb15)); intro nb15 | (fail_if_success (have := nb16)); intro nb16 | intro nbz)
                | (refine Fr.mk ?_; intro hfr; (first | (have hFRb : _ ≤ _ ∧ _ ≤ _ := And.intro hfr.1 hfr.2.1) | (have hFRb : _ ≤ _ := hfr.1) | skip); replace FR := Sm.mk (And.intro hfr FR.out); clear hfr; refine Sm.out ?_)
                | (refine Two.mk ?_ ?_)
                | (refine Cs.mk ?_; intro hcs; first | exact False.elim hcs | (exfalso; omega) | (refine Sm.out ?_))
                | go_step
                | omega
                | (simp only [maxLen_eq]; omega)
              (refine OutQ.all ?_ ?_; (focus (simp only [resv, ZK, look, loadv, loadn, loadnm, load1, load1m, hget, ↓reduceIte, Nat.reduceEqDiff, Nat.reduceAdd, Nat.reduceMul, Nat.reduceLeDiff, Nat.reduceLT, reduceCtorEq, TFBlM])); (try simp only [resv, resA, Fn, ZK, look, loadv, loadn, loadnm, load1, load1m, hget, ↓reduceIte, Nat.reduceEqDiff, Nat.reduceAdd, Nat.reduceMul, Nat.reduceLeDiff, Nat.reduceLT, reduceCtorEq, TFBlM]); (try simp [resA, Fn, look]))
            clear hK
            first | (have FRx := FR; clear FRx) | (have FR : Sm (¬ ((1 : Nat) = 0)) := Sm.mk Nat.one_ne_zero)
            repeat' first
              | (refine Sm.mk ?_; try simp -dsimp only [ZK, rvc, drawF, headN, pureH, stp, dvc, calleeOf, gcall, pev, eff, newB, okd, og, ogs, ogo, ogp, slv, bltv, opd, litv, strip, one, both, putE, St.put, look, gdOf, gdv, picka, pickv, pickw, binv, bini, bins, binb, binp, binq, isSlT, bina, shp, eqCells, unv, convv, nilv, faddv, addp, idxav, idxp, load1, load1m, loadn, loadnm, loadv, hget, hset, hrep, hdel, slicev, bnd, shift1, lenv, capv, IntKind.bits, extractv, fieldv, indexv, min2v, max2v, mkiv, cellsA, fillA, buildv, stC, oneC, rowMB, intsA, plN, appE, appZ, appC, appNZ, appNC, VwL, srcC, srcZ, srcM, isBoolT, isPtrT, isSliceT, uOk, Value.oneCell', Nat.reducePow, Int.reducePow, Nat.reduceAdd, Nat.reduceMul, Nat.reduceSub, Nat.reduceLT, Nat.reduceLeDiff, Nat.reduceEqDiff, Nat.reduceBEq, Nat.reduceDiv, Nat.reduceMod, ↓reduceIte, reduceCtorEq, Int.reduceToNat, Int.reduceLT, Int.reduceLE, TFBlM, SeqQ, BlkQ, LoopQ, BodyQ, FR.out])
              | (refine WP.seq fun K hK => ?_)
              | (refine WP.region (rvc_sound _ _ (Sm.out ?_)))
              | ((show WP _ _ _ (.region 7 _ _) _ _); refine WP.drawKk 11 mixed (by decide +kernel) (Sm.out ?_))
              | ((show WP _ _ _ (.region 15 _ _) _ _); refine WP.drawKk 11 mixed (by decide +kernel) (Sm.out ?_))
              | (refine WP.drawK rfl mixed (by decide +kernel) (Sm.out ?_))
              | (refine Ob.mk ?_; focus (first | assumption | omega | decide | trivial | (intro hob; simp only [hob, ZF]; done) | (intros; (repeat' refine And.intro ?_ ?_) <;> first | assumption | omega | trivial | decide) | (intros; simp only [ZE] at *; (repeat' refine And.intro ?_ ?_) <;> first | assumption | omega | trivial)))
              | (refine And.intro (Ob.out ?_) ?_)
              | (refine WP.block ?_)
              | (refine WP.cond rfl (fun hc => ?_) (fun hc => ?_) <;> (try simp only [ZC, reduceCtorEq, ZD] at hc) <;> (try (exact absurd hc (by decide))) <;> (try (exfalso; omega)))
              | ((first | refine WP.skip ?_ | refine WP.exit ?_); simp only [SeqQ, BlkQ, LoopQ, BodyQ, ↓reduceIte, Nat.reduceEqDiff, reduceCtorEq, look, true_and])
              | (refine WP.ret (Sm.out ?_))
              | (first | refine ExG.no (Sm.out ?_) | refine Or.inl (ExG.no (Sm.out ?_)) | refine Or.inl (And.intro (fun hg => absurd hg (by decide)) (ExG.no (Sm.out ?_))))
              | (refine Rt.mk ?_; refine And.intro ?_ ?_ <;> (intro hg; first | exact absurd hg (by decide) | refine Sm.out ?_))
              | (refine Nu.mk ?_; first | (fail_if_success (have := nb1)); intro nb1 | (fail_if_success (have := nb2)); intro nb2 | (fail_if_success (have := nb3)); intro nb3 | (fail_if_success (have := nb4)); intro nb4 | (fail_if_success (have := nb5)); intro nb5 | (fail_if_success (have := nb6)); intro nb6 | (fail_if_success (have := nb7)); intro nb7 | (fail_if_success (have := nb8)); intro nb8 | (fail_if_success (have := nb9)); intro nb9 | (fail_if_success (have := nb10)); intro nb10 | (fail_if_success (have := nb11)); intro nb11 | (fail_if_success (have := nb12)); intro nb12 | (fail_if_success (have := nb13)); intro nb13 | (fail_if_success (have := nb14)); intro nb14 | (fail_if_success (have := nb15)); intro nb15 | (fail_if_success (have := nb16)); intro nb16 | intro nbz)
              | (refine Fr.mk ?_; intro hfr; (first | (have hFRb : _ ≤ _ ∧ _ ≤ _ := And.intro hfr.1 hfr.2.1) | (have hFRb : _ ≤ _ := hfr.1) | skip); replace FR := Sm.mk (And.intro hfr FR.out); clear hfr; refine Sm.out ?_)
              | (refine Two.mk ?_ ?_)
              | (refine Cs.mk ?_; intro hcs; first | exact False.elim hcs | (exfalso; omega) | (refine Sm.out ?_))
              | go_step
              | omega
              | (simp only [maxLen_eq]; omega)
            · have hz : (tN : Int) = 32 := by split at htA <;> omega
              exact cont5.out _ (Sub.of_env [] (pmz _) (by simp [look, hz]))
            · have hz : (tN : Int) = tA := by split at htA <;> omega
              exact cont5.out _ (Sub.of_env [] (pmz _) (by simp [look, hz]))
          clear hK
          first | (have FRx := FR; clear FRx) | (have FR : Sm (¬ ((1 : Nat) = 0)) := Sm.mk Nat.one_ne_zero)
          repeat' first
            | (refine Sm.mk ?_; try simp -dsimp only [ZK, rvc, drawF, headN, pureH, stp, dvc, calleeOf, gcall, pev, eff, newB, okd, og, ogs, ogo, ogp, slv, bltv, opd, litv, strip, one, both, putE, St.put, look, gdOf, gdv, picka, pickv, pickw, binv, bini, bins, binb, binp, binq, isSlT, bina, shp, eqCells, unv, convv, nilv, faddv, addp, idxav, idxp, load1, load1m, loadn, loadnm, loadv, hget, hset, hrep, hdel, slicev, bnd, shift1, lenv, capv, IntKind.bits, extractv, fieldv, indexv, min2v, max2v, mkiv, cellsA, fillA, buildv, stC, oneC, rowMB, intsA, plN, appE, appZ, appC, appNZ, appNC, VwL, srcC, srcZ, srcM, isBoolT, isPtrT, isSliceT, uOk, Value.oneCell', Nat.reducePow, Int.reducePow, Nat.reduceAdd, Nat.reduceMul, Nat.reduceSub, Nat.reduceLT, Nat.reduceLeDiff, Nat.reduceEqDiff, Nat.reduceBEq, Nat.reduceDiv, Nat.reduceMod, ↓reduceIte, reduceCtorEq, Int.reduceToNat, Int.reduceLT, Int.reduceLE, TFBlM, SeqQ, BlkQ, LoopQ, BodyQ, FR.out])
            | (refine WP.seq fun K hK => ?_)
            | (refine WP.region (rvc_sound _ _ (Sm.out ?_)))
            | ((show WP _ _ _ (.region 7 _ _) _ _); refine WP.drawKk 11 mixed (by decide +kernel) (Sm.out ?_))
            | ((show WP _ _ _ (.region 15 _ _) _ _); refine WP.drawKk 11 mixed (by decide +kernel) (Sm.out ?_))
            | (refine WP.drawK rfl mixed (by decide +kernel) (Sm.out ?_))
            | (refine Ob.mk ?_; focus (first | assumption | omega | decide | trivial | (intro hob; simp only [hob, ZF]; done) | (intros; (repeat' refine And.intro ?_ ?_) <;> first | assumption | omega | trivial | decide) | (intros; simp only [ZE] at *; (repeat' refine And.intro ?_ ?_) <;> first | assumption | omega | trivial)))
            | (refine And.intro (Ob.out ?_) ?_)
            | (refine WP.block ?_)
            | (refine WP.cond rfl (fun hc => ?_) (fun hc => ?_) <;> (try simp only [ZC, reduceCtorEq, ZD] at hc) <;> (try (exact absurd hc (by decide))) <;> (try (exfalso; omega)))
            | ((first | refine WP.skip ?_ | refine WP.exit ?_); simp only [SeqQ, BlkQ, LoopQ, BodyQ, ↓reduceIte, Nat.reduceEqDiff, reduceCtorEq, look, true_and])
            | (refine WP.ret (Sm.out ?_))
            | (first | refine ExG.no (Sm.out ?_) | refine Or.inl (ExG.no (Sm.out ?_)) | refine Or.inl (And.intro (fun hg => absurd hg (by decide)) (ExG.no (Sm.out ?_))))
            | (refine Rt.mk ?_; refine And.intro ?_ ?_ <;> (intro hg; first | exact absurd hg (by decide) | refine Sm.out ?_))
            | (refine Nu.mk ?_; first | (fail_if_success (have := nb1)); intro nb1 | (fail_if_success (have := nb2)); intro nb2 | (fail_if_success (have := nb3)); intro nb3 | (fail_if_success (have := nb4)); intro nb4 | (fail_if_success (have := nb5)); intro nb5 | (fail_if_success (have := nb6)); intro nb6 | (fail_if_success (have := nb7)); intro nb7 | (fail_if_success (have := nb8)); intro nb8 | (fail_if_success (have := nb9)); intro nb9 | (fail_if_success (have := nb10)); intro nb10 | (fail_if_success (have := nb11)); intro nb11 | (fail_if_success (have := nb12)); intro nb12 | (fail_if_success (have := nb13)); intro nb13 | (fail_if_success (have := nb14)); intro nb14 | (fail_if_success (have := nb15)); intro nb15 | (fail_if_success (have := nb16)); intro nb16 | intro nbz)
            | (refine Fr.mk ?_; intro hfr; (first | (have hFRb : _ ≤ _ ∧ _ ≤ _ := And.intro hfr.1 hfr.2.1) | (have hFRb : _ ≤ _ := hfr.1) | skip); replace FR := Sm.mk (And.intro hfr FR.out); clear hfr; refine Sm.out ?_)
            | (refine Two.mk ?_ ?_)
            | (refine Cs.mk ?_; intro hcs; first | exact False.elim hcs | (exfalso; omega) | (refine Sm.out ?_))
            | go_step
            | omega
            | (simp only [maxLen_eq]; omega)
          · exact cont4.out 0 (by rw [if_pos (by assumption)]) _ (Sub.of_env [] (pmz _) (by simp [look]))
          · exact cont4.out torn (by rw [if_neg (by omega)]) _ (Sub.of_env [] (pmz _) (by simp [look]))
        clear hK
        first | (have FRx := FR; clear FRx) | (have FR : Sm (¬ ((1 : Nat) = 0)) := Sm.mk Nat.one_ne_zero)
        repeat' first
          | (refine Sm.mk ?_; try simp -dsimp only [ZK, rvc, drawF, headN, pureH, stp, dvc, calleeOf, gcall, pev, eff, newB, okd, og, ogs, ogo, ogp, slv, bltv, opd, litv, strip, one, both, putE, St.put, look, gdOf, gdv, picka, pickv, pickw, binv, bini, bins, binb, binp, binq, isSlT, bina, shp, eqCells, unv, convv, nilv, faddv, addp, idxav, idxp, load1, load1m, loadn, loadnm, loadv, hget, hset, hrep, hdel, slicev, bnd, shift1, lenv, capv, IntKind.bits, extractv, fieldv, indexv, min2v, max2v, mkiv, cellsA, fillA, buildv, stC, oneC, rowMB, intsA, plN, appE, appZ, appC, appNZ, appNC, VwL, srcC, srcZ, srcM, isBoolT, isPtrT, isSliceT, uOk, Value.oneCell', Nat.reducePow, Int.reducePow, Nat.reduceAdd, Nat.reduceMul, Nat.reduceSub, Nat.reduceLT, Nat.reduceLeDiff, Nat.reduceEqDiff, Nat.reduceBEq, Nat.reduceDiv, Nat.reduceMod, ↓reduceIte, reduceCtorEq, Int.reduceToNat, Int.reduceLT, Int.reduceLE, TFBlM, SeqQ, BlkQ, LoopQ, BodyQ, FR.out])
          | (refine WP.seq fun K hK => ?_)
          | (refine WP.region (rvc_sound _ _ (Sm.out ?_)))
          | ((show WP _ _ _ (.region 7 _ _) _ _); refine WP.drawKk 11 mixed (by decide +kernel) (Sm.out ?_))
          | ((show WP _ _ _ (.region 15 _ _) _ _); refine WP.drawKk 11 mixed (by decide +kernel) (Sm.out ?_))
          | (refine WP.drawK rfl mixed (by decide +kernel) (Sm.out ?_))
          | (refine Ob.mk ?_; focus (first | assumption | omega | decide | trivial | (intro hob; simp only [hob, ZF]; done) | (intros; (repeat' refine And.intro ?_ ?_) <;> first | assumption | omega | trivial | decide) | (intros; simp only [ZE] at *; (repeat' refine And.intro ?_ ?_) <;> first | assumption | omega | trivial)))
          | (refine And.intro (Ob.out ?_) ?_)
          | (refine WP.block ?_)
          | (refine WP.cond rfl (fun hc => ?_) (fun hc => ?_) <;> (try simp only [ZC, reduceCtorEq, ZD] at hc) <;> (try (exact absurd hc (by decide))) <;> (try (exfalso; omega)))
          | ((first | refine WP.skip ?_ | refine WP.exit ?_); simp only [SeqQ, BlkQ, LoopQ, BodyQ, ↓reduceIte, Nat.reduceEqDiff, reduceCtorEq, look, true_and])
          | (refine WP.ret (Sm.out ?_))
          | (first | refine ExG.no (Sm.out ?_) | refine Or.inl (ExG.no (Sm.out ?_)) | refine Or.inl (And.intro (fun hg => absurd hg (by decide)) (ExG.no (Sm.out ?_))))
          | (refine Rt.mk ?_; refine And.intro ?_ ?_ <;> (intro hg; first | exact absurd hg (by decide) | refine Sm.out ?_))
          | (refine Nu.mk ?_; first | (fail_if_success (have := nb1)); intro nb1 | (fail_if_success (have := nb2)); intro nb2 | (fail_if_success (have := nb3)); intro nb3 | (fail_if_success (have := nb4)); intro nb4 | (fail_if_success (have := nb5)); intro nb5 | (fail_if_success (have := nb6)); intro nb6 | (fail_if_success (have := nb7)); intro nb7 | (fail_if_success (have := nb8)); intro nb8 | (fail_if_success (have := nb9)); intro nb9 | (fail_if_success (have := nb10)); intro nb10 | (fail_if_success (have := nb11)); intro nb11 | (fail_if_success (have := nb12)); intro nb12 | (fail_if_success (have := nb13)); intro nb13 | (fail_if_success (have := nb14)); intro nb14 | (fail_if_success (have := nb15)); intro nb15 | (fail_if_success (have := nb16)); intro nb16 | intro nbz)
          | (refine Fr.mk ?_; intro hfr; (first | (have hFRb : _ ≤ _ ∧ _ ≤ _ := And.intro hfr.1 hfr.2.1) | (have hFRb : _ ≤ _ := hfr.1) | skip); replace FR := Sm.mk (And.intro hfr FR.out); clear hfr; refine Sm.out ?_)
          | (refine Two.mk ?_ ?_)
          | (refine Cs.mk ?_; intro hcs; first | exact False.elim hcs | (exfalso; omega) | (refine Sm.out ?_))
          | go_step
          | omega
          | (simp only [maxLen_eq]; omega)
        · have hz : ((kN : Nat) : Int) = 0 := by omega
          exact cont3.out _ (Sub.of_env [] (pmz _) (by simp [look, hz]))
        · have hz : ((kN : Nat) : Int) = keep := by omega
          exact cont3.out _ (Sub.of_env [] (pmz _) (by simp [look, hz]))
    clear hK
    refine WP.loop (Γ := LG) (fun q => ⟨[(14, iv .i64 q.i), (13, ms q.xb 0 q.a.W.length q.cb), (12, ms q.xa 0 (q.a.W.length + 1) q.ca), (9, pt b 0), (3, iv .i64 torn), (2, iv .i64 keep), (1, .sl M.length D)],
        (q.xb, .zs .i64 (q.a.W.map fun w => (w.1 : Int)) q.cb 3) :: (q.xa, .cells (strs S0 q.a.W) q.ca 9) :: dH b q.a q.l⟩)
      (fun q => q.i ≤ M.length ∧ q.i ≤ 100 ∧ AOk (101 + q.i) q.a ∧ LOk b q.a q.l ∧ LI S0 q.a ∧ q.xa ≠ q.xb ∧ q.ca ≤ 9223372036854775807 ∧ q.cb ≤ 9223372036854775807) (fun q => M.length - q.i) ⟨0, a1, g.1, nb1, 1, nb2, 0⟩
      ⟨by simp, by simp, aS.le (by omega), g.2, iS, by simp [FR.out], by simp, by simp⟩
      (Sub.of_env [] (by rw [eW]; exact pmz _) (by simp [look, eW])) ?_
    intro ⟨i, a, l, xa, ca, xb, cb⟩ ⟨hi, hi2, hA, hl, hI, hx, hca, hcb⟩
    simp only at hi hi2 hA hl hI hx hca hcb ⊢
    have FR : Sm (¬ ((1 : Nat) = 0)) := Sm.mk Nat.one_ne_zero
    by_cases hlt : i < M.length
    · have k1 : decide ((i : Int) < (M.length : Int)) = true := by simp; omega
      by_cases hlt2 : i < 100
      · have k2 : decide ((i : Int) < 100) = true := by simp; omega
        have hd := hdm i hlt
        obtain ⟨e, he⟩ : ∃ e, e = M[i]'hlt := ⟨_, rfl⟩
        rw [← he] at hd
        obtain ⟨TR, hTR⟩ : ∃ TR, TR = acC (M.drop (i + 1)) := ⟨_, rfl⟩
        rw [← hTR] at hd
        have q1 : i * 4 + 4 ≤ D.length := by omega
        have w1 : IntKind.i64.wrap ((i : Int) + 1) = ((i + 1 : Nat) : Int) := by rw [wrap_i64 (by omega) (by omega)]; omega
        have cW := write_d hA hl (by omega) e.i e.bs
        have hA' := wrA_ok hA e.i e.bs
        have hWc := hA.Wc
        have hsl := strs_len S0 a.W
        obtain ⟨hF', hL', hw⟩ := hI.F.write e.i e.bs
        clear hdm hTR he
        rcases hw with ⟨hc0, hw⟩ | ⟨m, hm, hm6, hc0, x, hx32, hW', hS'⟩
        · rw [hw] at cW
          obtain ⟨c, hcc⟩ : ∃ c, c = wrC a e.i e.bs.length := ⟨_, rfl⟩
          rw [← hcc] at cW hc0
          have k3 : (c == 0) = false := by simpa using hc0
          first | (have FRx := FR; clear FRx) | (have FR : Sm (¬ ((1 : Nat) = 0)) := Sm.mk Nat.one_ne_zero)
          repeat' first
            | (refine Sm.mk ?_; try simp -dsimp only [ZK, rvc, drawF, headN, pureH, stp, dvc, calleeOf, gcall, pev, eff, newB, okd, og, ogs, ogo, ogp, slv, bltv, opd, litv, strip, one, both, putE, St.put, look, gdOf, gdv, picka, pickv, pickw, binv, bini, bins, binb, binp, binq, isSlT, bina, shp, eqCells, unv, convv, nilv, faddv, addp, idxav, idxp, load1, load1m, loadn, loadnm, loadv, hget, hset, hrep, hdel, slicev, bnd, shift1, lenv, capv, IntKind.bits, extractv, fieldv, indexv, min2v, max2v, mkiv, cellsA, fillA, buildv, stC, oneC, rowMB, intsA, plN, appE, appZ, appC, appNZ, appNC, VwL, srcC, srcZ, srcM, isBoolT, isPtrT, isSliceT, uOk, Value.oneCell', Nat.reducePow, Int.reducePow, Nat.reduceAdd, Nat.reduceMul, Nat.reduceSub, Nat.reduceLT, Nat.reduceLeDiff, Nat.reduceEqDiff, Nat.reduceBEq, Nat.reduceDiv, Nat.reduceMod, ↓reduceIte, reduceCtorEq, Int.reduceToNat, Int.reduceLT, Int.reduceLE, TFBlM, SeqQ, BlkQ, LoopQ, BodyQ, k1, k2, hd, q1, k3, FR.out])
            | (refine CallV.exM (cW) (pm2 _ _ _) (fun g => Sm.out ?_))
            | (refine WP.seq fun K hK => ?_)
            | (refine WP.region (rvc_sound _ _ (Sm.out ?_)))
            | ((show WP _ _ _ (.region 7 _ _) _ _); refine WP.drawKk 11 mixed (by decide +kernel) (Sm.out ?_))
            | ((show WP _ _ _ (.region 15 _ _) _ _); refine WP.drawKk 11 mixed (by decide +kernel) (Sm.out ?_))
            | (refine WP.drawK rfl mixed (by decide +kernel) (Sm.out ?_))
            | (refine Ob.mk ?_; focus (first | assumption | omega | decide | trivial | (intro hob; simp only [hob, ZF]; done) | (intros; (repeat' refine And.intro ?_ ?_) <;> first | assumption | omega | trivial | decide) | (intros; simp only [ZE] at *; (repeat' refine And.intro ?_ ?_) <;> first | assumption | omega | trivial)))
            | (refine And.intro (Ob.out ?_) ?_)
            | (refine WP.block ?_)
            | (refine WP.cond rfl (fun hc => ?_) (fun hc => ?_) <;> (try simp only [ZC, reduceCtorEq, ZD] at hc) <;> (try (exact absurd hc (by decide))) <;> (try (exfalso; omega)))
            | ((first | refine WP.skip ?_ | refine WP.exit ?_); simp only [SeqQ, BlkQ, LoopQ, BodyQ, ↓reduceIte, Nat.reduceEqDiff, reduceCtorEq, look, true_and])
            | (refine WP.ret (Sm.out ?_))
            | (first | refine ExG.no (Sm.out ?_) | refine Or.inl (ExG.no (Sm.out ?_)) | refine Or.inl (And.intro (fun hg => absurd hg (by decide)) (ExG.no (Sm.out ?_))))
            | (refine Rt.mk ?_; refine And.intro ?_ ?_ <;> (intro hg; first | exact absurd hg (by decide) | refine Sm.out ?_))
            | (refine Nu.mk ?_; first | (fail_if_success (have := nb1)); intro nb1 | (fail_if_success (have := nb2)); intro nb2 | (fail_if_success (have := nb3)); intro nb3 | (fail_if_success (have := nb4)); intro nb4 | (fail_if_success (have := nb5)); intro nb5 | (fail_if_success (have := nb6)); intro nb6 | (fail_if_success (have := nb7)); intro nb7 | (fail_if_success (have := nb8)); intro nb8 | (fail_if_success (have := nb9)); intro nb9 | (fail_if_success (have := nb10)); intro nb10 | (fail_if_success (have := nb11)); intro nb11 | (fail_if_success (have := nb12)); intro nb12 | (fail_if_success (have := nb13)); intro nb13 | (fail_if_success (have := nb14)); intro nb14 | (fail_if_success (have := nb15)); intro nb15 | (fail_if_success (have := nb16)); intro nb16 | intro nbz)
            | (refine Fr.mk ?_; intro hfr; (first | (have hFRb : _ ≤ _ ∧ _ ≤ _ := And.intro hfr.1 hfr.2.1) | (have hFRb : _ ≤ _ := hfr.1) | skip); replace FR := Sm.mk (And.intro hfr FR.out); clear hfr; refine Sm.out ?_)
            | (refine Two.mk ?_ ?_)
            | (refine Cs.mk ?_; intro hcs; first | exact False.elim hcs | (exfalso; omega) | (refine Sm.out ?_))
            | go_step
            | omega
            | (simp only [maxLen_eq]; omega)
          exact ⟨⟨i + 1, a, g.1, xa, ca, xb, cb⟩, ⟨by simp only; omega, by simp only; omega, hA.up, g.2, hI, hx, hca, hcb⟩, by simp only; omega, Sub.of_env [] (List.perm_append_comm.trans (pmz _)) (by simp [look, w1])⟩
        · have hI' : LI S0 (wrA a e.i e.bs) := ⟨hF', hL'.trans hI.L, by rw [hS', hW', hI.S, layW_app]; rfl⟩
          have es := strs_app S0 a.W (m, x)
          rw [hc0] at cW
          have hAll := fun q (hq : LOk b (wrA a e.i e.bs) q) => all_ct b (wrA a e.i e.bs) q hA' hq hF'.k
          obtain ⟨a', ha'⟩ : ∃ a', a' = wrA a e.i e.bs := ⟨_, rfl⟩
          rw [← ha'] at cW hAll hI' hW' hS' hA'
          rw [hI.S] at hS'
          rw [hS'] at hAll
          rw [← hW'] at es
          obtain ⟨Y, hY⟩ : ∃ Y, Y = (layW S0 a.W).set m x := ⟨_, rfl⟩
          simp only [← hY, str1] at es
          rw [← hY] at hAll
          have hlw : a'.W.length = a.W.length + 1 := by rw [hW']; simp
          have hmw : (a'.W.map fun w => (w.1 : Int)) = (a.W.map fun w => (w.1 : Int)) ++ [e.i] := by rw [hW', hm]; simp
          first | (have FRx := FR; clear FRx) | (have FR : Sm (¬ ((1 : Nat) = 0)) := Sm.mk Nat.one_ne_zero)
          repeat' first
            | (refine Sm.mk ?_; try simp -dsimp only [ZK, rvc, drawF, headN, pureH, stp, dvc, calleeOf, gcall, pev, eff, newB, okd, og, ogs, ogo, ogp, slv, bltv, opd, litv, strip, one, both, putE, St.put, look, gdOf, gdv, picka, pickv, pickw, binv, bini, bins, binb, binp, binq, isSlT, bina, shp, eqCells, unv, convv, nilv, faddv, addp, idxav, idxp, load1, load1m, loadn, loadnm, loadv, hget, hset, hrep, hdel, slicev, bnd, shift1, lenv, capv, IntKind.bits, extractv, fieldv, indexv, min2v, max2v, mkiv, cellsA, fillA, buildv, stC, oneC, rowMB, intsA, plN, appE, appZ, appC, appNZ, appNC, VwL, srcC, srcZ, srcM, isBoolT, isPtrT, isSliceT, uOk, Value.oneCell', Nat.reducePow, Int.reducePow, Nat.reduceAdd, Nat.reduceMul, Nat.reduceSub, Nat.reduceLT, Nat.reduceLeDiff, Nat.reduceEqDiff, Nat.reduceBEq, Nat.reduceDiv, Nat.reduceMod, ↓reduceIte, reduceCtorEq, Int.reduceToNat, Int.reduceLT, Int.reduceLE, TFBlM, SeqQ, BlkQ, LoopQ, BodyQ, k1, k2, FR.out])
            | (refine WP.seq fun K hK => ?_)
            | ((fail_if_success (show WP _ _ _ (.region 15 _ _) _ _)); refine WP.region (rvc_sound _ _ (Sm.out ?_)))
            | ((fail_if_success (show WP _ _ _ (.region 15 _ _) _ _)); (show WP _ _ _ (.region 7 _ _) _ _); refine WP.drawKk 11 mixed (by decide +kernel) (Sm.out ?_))
            | ((fail_if_success (show WP _ _ _ (.region 15 _ _) _ _)); (show WP _ _ _ (.region 15 _ _) _ _); refine WP.drawKk 11 mixed (by decide +kernel) (Sm.out ?_))
            | ((fail_if_success (show WP _ _ _ (.region 15 _ _) _ _)); refine WP.drawK rfl mixed (by decide +kernel) (Sm.out ?_))
            | (refine Ob.mk ?_; focus (first | assumption | omega | decide | trivial | (intro hob; simp only [hob, ZF]; done) | (intros; (repeat' refine And.intro ?_ ?_) <;> first | assumption | omega | trivial | decide) | (intros; simp only [ZE] at *; (repeat' refine And.intro ?_ ?_) <;> first | assumption | omega | trivial)))
            | (refine And.intro (Ob.out ?_) ?_)
            | (refine WP.block ?_)
            | (refine WP.cond rfl (fun hc => ?_) (fun hc => ?_) <;> (try simp only [ZC, reduceCtorEq, ZD] at hc) <;> (try (exact absurd hc (by decide))) <;> (try (exfalso; omega)))
            | ((first | refine WP.skip ?_ | refine WP.exit ?_); simp only [SeqQ, BlkQ, LoopQ, BodyQ, ↓reduceIte, Nat.reduceEqDiff, reduceCtorEq, look, true_and])
            | (refine WP.ret (Sm.out ?_))
            | (first | refine ExG.no (Sm.out ?_) | refine Or.inl (ExG.no (Sm.out ?_)) | refine Or.inl (And.intro (fun hg => absurd hg (by decide)) (ExG.no (Sm.out ?_))))
            | (refine Rt.mk ?_; refine And.intro ?_ ?_ <;> (intro hg; first | exact absurd hg (by decide) | refine Sm.out ?_))
            | (refine Nu.mk ?_; first | (fail_if_success (have := nb1)); intro nb1 | (fail_if_success (have := nb2)); intro nb2 | (fail_if_success (have := nb3)); intro nb3 | (fail_if_success (have := nb4)); intro nb4 | (fail_if_success (have := nb5)); intro nb5 | (fail_if_success (have := nb6)); intro nb6 | (fail_if_success (have := nb7)); intro nb7 | (fail_if_success (have := nb8)); intro nb8 | (fail_if_success (have := nb9)); intro nb9 | (fail_if_success (have := nb10)); intro nb10 | (fail_if_success (have := nb11)); intro nb11 | (fail_if_success (have := nb12)); intro nb12 | (fail_if_success (have := nb13)); intro nb13 | (fail_if_success (have := nb14)); intro nb14 | (fail_if_success (have := nb15)); intro nb15 | (fail_if_success (have := nb16)); intro nb16 | intro nbz)
            | (refine Fr.mk ?_; intro hfr; (first | (have hFRb : _ ≤ _ ∧ _ ≤ _ := And.intro hfr.1 hfr.2.1) | (have hFRb : _ ≤ _ := hfr.1) | skip); replace FR := Sm.mk (And.intro hfr FR.out); clear hfr; refine Sm.out ?_)
            | (refine Two.mk ?_ ?_)
            | (refine Cs.mk ?_; intro hcs; first | exact False.elim hcs | (exfalso; omega) | (refine Sm.out ?_))
            | go_step
            | omega
            | (simp only [maxLen_eq]; omega)
          first | (have FRx := FR; clear FRx) | (have FR : Sm (¬ ((1 : Nat) = 0)) := Sm.mk Nat.one_ne_zero)
          repeat' first
            | (refine Sm.mk ?_; try simp -dsimp only [ZK, rvc, drawF, headN, pureH, stp, dvc, calleeOf, gcall, pev, eff, newB, okd, og, ogs, ogo, ogp, slv, bltv, opd, litv, strip, one, both, putE, St.put, look, gdOf, gdv, picka, pickv, pickw, binv, bini, bins, binb, binp, binq, isSlT, bina, shp, eqCells, unv, convv, nilv, faddv, addp, idxav, idxp, load1, load1m, loadn, loadnm, loadv, hget, hset, hrep, hdel, slicev, bnd, shift1, lenv, capv, IntKind.bits, extractv, fieldv, indexv, min2v, max2v, mkiv, cellsA, fillA, buildv, stC, oneC, rowMB, intsA, plN, appE, appZ, appC, appNZ, appNC, VwL, srcC, srcZ, srcM, isBoolT, isPtrT, isSliceT, uOk, Value.oneCell', Nat.reducePow, Int.reducePow, Nat.reduceAdd, Nat.reduceMul, Nat.reduceSub, Nat.reduceLT, Nat.reduceLeDiff, Nat.reduceEqDiff, Nat.reduceBEq, Nat.reduceDiv, Nat.reduceMod, ↓reduceIte, reduceCtorEq, Int.reduceToNat, Int.reduceLT, Int.reduceLE, TFBlM, SeqQ, BlkQ, LoopQ, BodyQ, hd, q1, FR.out])
            | (refine CallV.exM (cW) (pm2 _ _ _) (fun g => Sm.out ?_))
            | (refine WP.seq fun K hK => ?_)
            | (refine WP.region (rvc_sound _ _ (Sm.out ?_)))
            | ((show WP _ _ _ (.region 7 _ _) _ _); refine WP.drawKk 11 mixed (by decide +kernel) (Sm.out ?_))
            | ((show WP _ _ _ (.region 15 _ _) _ _); refine WP.drawKk 11 mixed (by decide +kernel) (Sm.out ?_))
            | (refine WP.drawK rfl mixed (by decide +kernel) (Sm.out ?_))
            | (refine Ob.mk ?_; focus (first | assumption | omega | decide | trivial | (intro hob; simp only [hob, ZF]; done) | (intros; (repeat' refine And.intro ?_ ?_) <;> first | assumption | omega | trivial | decide) | (intros; simp only [ZE] at *; (repeat' refine And.intro ?_ ?_) <;> first | assumption | omega | trivial)))
            | (refine And.intro (Ob.out ?_) ?_)
            | (refine WP.block ?_)
            | ((fail_if_success (show WP _ _ _ (.cond _ _ _) _ _)); refine WP.cond rfl (fun hc => ?_) (fun hc => ?_) <;> (try simp only [ZC, reduceCtorEq, ZD] at hc) <;> (try (exact absurd hc (by decide))) <;> (try (exfalso; omega)))
            | ((first | refine WP.skip ?_ | refine WP.exit ?_); simp only [SeqQ, BlkQ, LoopQ, BodyQ, ↓reduceIte, Nat.reduceEqDiff, reduceCtorEq, look, true_and])
            | (refine WP.ret (Sm.out ?_))
            | (first | refine ExG.no (Sm.out ?_) | refine Or.inl (ExG.no (Sm.out ?_)) | refine Or.inl (And.intro (fun hg => absurd hg (by decide)) (ExG.no (Sm.out ?_))))
            | (refine Rt.mk ?_; refine And.intro ?_ ?_ <;> (intro hg; first | exact absurd hg (by decide) | refine Sm.out ?_))
            | (refine Nu.mk ?_; first | (fail_if_success (have := nb1)); intro nb1 | (fail_if_success (have := nb2)); intro nb2 | (fail_if_success (have := nb3)); intro nb3 | (fail_if_success (have := nb4)); intro nb4 | (fail_if_success (have := nb5)); intro nb5 | (fail_if_success (have := nb6)); intro nb6 | (fail_if_success (have := nb7)); intro nb7 | (fail_if_success (have := nb8)); intro nb8 | (fail_if_success (have := nb9)); intro nb9 | (fail_if_success (have := nb10)); intro nb10 | (fail_if_success (have := nb11)); intro nb11 | (fail_if_success (have := nb12)); intro nb12 | (fail_if_success (have := nb13)); intro nb13 | (fail_if_success (have := nb14)); intro nb14 | (fail_if_success (have := nb15)); intro nb15 | (fail_if_success (have := nb16)); intro nb16 | intro nbz)
            | (refine Fr.mk ?_; intro hfr; (first | (have hFRb : _ ≤ _ ∧ _ ≤ _ := And.intro hfr.1 hfr.2.1) | (have hFRb : _ ≤ _ := hfr.1) | skip); replace FR := Sm.mk (And.intro hfr FR.out); clear hfr; refine Sm.out ?_)
            | (refine Two.mk ?_ ?_)
            | (refine Cs.mk ?_; intro hcs; first | exact False.elim hcs | (exfalso; omega) | (refine Sm.out ?_))
            | go_step
            | omega
            | (simp only [maxLen_eq]; omega)
          refine WP.sub (s' := ⟨[(75, bv true), (14, iv .i64 i), (13, ms xb 0 a.W.length cb), (12, ms xa 0 (a.W.length + 1) ca), (9, pt b 0), (3, iv .i64 torn), (2, iv .i64 keep), (1, .sl M.length D)],
            (xb, .zs .i64 (a.W.map fun w => (w.1 : Int)) cb 3) :: (xa, .cells (strs S0 a.W) ca 9) :: dH b a' g.1⟩) (Sub.of_env [] (List.perm_append_comm.trans (pmz _)) (by simp [look])) ?_
          first | (have FRx := FR; clear FRx) | (have FR : Sm (¬ ((1 : Nat) = 0)) := Sm.mk Nat.one_ne_zero)
          repeat' first
            | (refine Sm.mk ?_; try simp -dsimp only [ZK, rvc, drawF, headN, pureH, stp, dvc, calleeOf, gcall, pev, eff, newB, okd, og, ogs, ogo, ogp, slv, bltv, opd, litv, strip, one, both, putE, St.put, look, gdOf, gdv, picka, pickv, pickw, binv, bini, bins, binb, binp, binq, isSlT, bina, shp, eqCells, unv, convv, nilv, faddv, addp, idxav, idxp, load1, load1m, loadn, loadnm, loadv, hget, hset, hrep, hdel, slicev, bnd, shift1, lenv, capv, IntKind.bits, extractv, fieldv, indexv, min2v, max2v, mkiv, cellsA, fillA, buildv, stC, oneC, rowMB, intsA, plN, appE, appZ, appC, appNZ, appNC, VwL, srcC, srcZ, srcM, isBoolT, isPtrT, isSliceT, uOk, Value.oneCell', Nat.reducePow, Int.reducePow, Nat.reduceAdd, Nat.reduceMul, Nat.reduceSub, Nat.reduceLT, Nat.reduceLeDiff, Nat.reduceEqDiff, Nat.reduceBEq, Nat.reduceDiv, Nat.reduceMod, ↓reduceIte, reduceCtorEq, Int.reduceToNat, Int.reduceLT, Int.reduceLE, TFBlM, SeqQ, BlkQ, LoopQ, BodyQ, hd, q1, hsl, hx, List.length_map, List.append_nil, FR.out])
            | (refine CallV.updM ((hAll _ g.2).lookU (pm2 _ _ _)) (pmz _) (Sm.out ?_))
            | ((first | refine ExF.up ?_ ((hAll _ g.2).lookU (pm2 _ _ _)) (Sm.out ?_) | refine ExG.up ?_ (fun _ => (hAll _ g.2).lookU (pm2 _ _ _)) (Sm.out ?_) | refine ExG.upJ ?_ (fun _ => (hAll _ g.2).lookU (pm2 _ _ _)) (Sm.out ?_) | refine ExG.upI ?_ (fun _ => (hAll _ g.2).lookU (pm2 _ _ _)) (Ob.out ?_) (Sm.out ?_)); focus (exact ⟨_, (pmz _)⟩))
            | (refine WP.seq fun K hK => ?_)
            | (refine WP.region (rvc_sound _ _ (Sm.out ?_)))
            | ((show WP _ _ _ (.region 7 _ _) _ _); refine WP.drawKk 11 mixed (by decide +kernel) (Sm.out ?_))
            | ((show WP _ _ _ (.region 15 _ _) _ _); refine WP.drawKk 11 mixed (by decide +kernel) (Sm.out ?_))
            | (refine WP.drawK rfl mixed (by decide +kernel) (Sm.out ?_))
            | (refine Ob.mk ?_; focus (first | assumption | omega | decide | trivial | (intro hob; simp only [hob, ZF]; done) | (intros; (repeat' refine And.intro ?_ ?_) <;> first | assumption | omega | trivial | decide) | (intros; simp only [ZE] at *; (repeat' refine And.intro ?_ ?_) <;> first | assumption | omega | trivial)))
            | (refine And.intro (Ob.out ?_) ?_)
            | (refine WP.block ?_)
            | (refine WP.cond rfl (fun hc => ?_) (fun hc => ?_) <;> (try simp only [ZC, reduceCtorEq, ZD] at hc) <;> (try (exact absurd hc (by decide))) <;> (try (exfalso; omega)))
            | ((first | refine WP.skip ?_ | refine WP.exit ?_); simp only [SeqQ, BlkQ, LoopQ, BodyQ, ↓reduceIte, Nat.reduceEqDiff, reduceCtorEq, look, true_and])
            | (refine WP.ret (Sm.out ?_))
            | (first | refine ExG.no (Sm.out ?_) | refine Or.inl (ExG.no (Sm.out ?_)) | refine Or.inl (And.intro (fun hg => absurd hg (by decide)) (ExG.no (Sm.out ?_))))
            | (refine Rt.mk ?_; refine And.intro ?_ ?_ <;> (intro hg; first | exact absurd hg (by decide) | refine Sm.out ?_))
            | (refine Nu.mk ?_; first | (fail_if_success (have := nb1)); intro nb1 | (fail_if_success (have := nb2)); intro nb2 | (fail_if_success (have := nb3)); intro nb3 | (fail_if_success (have := nb4)); intro nb4 | (fail_if_success (have := nb5)); intro nb5 | (fail_if_success (have := nb6)); intro nb6 | (fail_if_success (have := nb7)); intro nb7 | (fail_if_success (have := nb8)); intro nb8 | (fail_if_success (have := nb9)); intro nb9 | (fail_if_success (have := nb10)); intro nb10 | (fail_if_success (have := nb11)); intro nb11 | (fail_if_success (have := nb12)); intro nb12 | (fail_if_success (have := nb13)); intro nb13 | (fail_if_success (have := nb14)); intro nb14 | (fail_if_success (have := nb15)); intro nb15 | (fail_if_success (have := nb16)); intro nb16 | intro nbz)
            | (refine Fr.mk ?_; intro hfr; (first | (have hFRb : _ ≤ _ ∧ _ ≤ _ := And.intro hfr.1 hfr.2.1) | (have hFRb : _ ≤ _ := hfr.1) | skip); replace FR := Sm.mk (And.intro hfr FR.out); clear hfr; refine Sm.out ?_)
            | (refine Two.mk ?_ ?_)
            | (refine Cs.mk ?_; intro hcs; first | exact False.elim hcs | (exfalso; omega) | (refine Sm.out ?_))
            | go_step
            | omega
            | (simp only [maxLen_eq]; omega)
          have hne : nb4 ≠ nb7 := by
            have h1 := FR.out.1.2.2.2.2.1
            have h2 := FR.out.2.2.1.2.2.2.1
            rcases h2 with h2 | h2
            · exact absurd h2.symm hx
            · rcases h1 with h1 | h1
              · exact absurd h1 h2.2
              · exact h1.1
          exact ⟨⟨i + 1, a', g.1, nb4, nb5, nb7, nb8⟩, ⟨by simp only; omega, by simp only; omega, hA', g.2, hI', hne, FR.out.2.2.1.2.1, hFRb.2⟩, by simp only; omega,
            Sub.of_env [(nb6, .zs .i64 [e.i] 1 3), (nb3, .cells [.lit (.string (bstr Y.flatten))] 1 9)] (by simp only [hmw, es]; exact List.perm_append_comm (l₁ := [_, _])) (by simp [look, w1, hlw])⟩
      · have k2 : decide ((i : Int) < 100) = false := by simp; omega
        first | (have FRx := FR; clear FRx) | (have FR : Sm (¬ ((1 : Nat) = 0)) := Sm.mk Nat.one_ne_zero)
        repeat' first
          | (refine Sm.mk ?_; try simp -dsimp only [ZK, rvc, drawF, headN, pureH, stp, dvc, calleeOf, gcall, pev, eff, newB, okd, og, ogs, ogo, ogp, slv, bltv, opd, litv, strip, one, both, putE, St.put, look, gdOf, gdv, picka, pickv, pickw, binv, bini, bins, binb, binp, binq, isSlT, bina, shp, eqCells, unv, convv, nilv, faddv, addp, idxav, idxp, load1, load1m, loadn, loadnm, loadv, hget, hset, hrep, hdel, slicev, bnd, shift1, lenv, capv, IntKind.bits, extractv, fieldv, indexv, min2v, max2v, mkiv, cellsA, fillA, buildv, stC, oneC, rowMB, intsA, plN, appE, appZ, appC, appNZ, appNC, VwL, srcC, srcZ, srcM, isBoolT, isPtrT, isSliceT, uOk, Value.oneCell', Nat.reducePow, Int.reducePow, Nat.reduceAdd, Nat.reduceMul, Nat.reduceSub, Nat.reduceLT, Nat.reduceLeDiff, Nat.reduceEqDiff, Nat.reduceBEq, Nat.reduceDiv, Nat.reduceMod, ↓reduceIte, reduceCtorEq, Int.reduceToNat, Int.reduceLT, Int.reduceLE, TFBlM, SeqQ, BlkQ, LoopQ, BodyQ, k1, k2, FR.out])
          | (refine WP.seq fun K hK => ?_)
          | (refine WP.region (rvc_sound _ _ (Sm.out ?_)))
          | ((show WP _ _ _ (.region 7 _ _) _ _); refine WP.drawKk 11 mixed (by decide +kernel) (Sm.out ?_))
          | ((show WP _ _ _ (.region 15 _ _) _ _); refine WP.drawKk 11 mixed (by decide +kernel) (Sm.out ?_))
          | (refine WP.drawK rfl mixed (by decide +kernel) (Sm.out ?_))
          | (refine Ob.mk ?_; focus (first | assumption | omega | decide | trivial | (intro hob; simp only [hob, ZF]; done) | (intros; (repeat' refine And.intro ?_ ?_) <;> first | assumption | omega | trivial | decide) | (intros; simp only [ZE] at *; (repeat' refine And.intro ?_ ?_) <;> first | assumption | omega | trivial)))
          | (refine And.intro (Ob.out ?_) ?_)
          | (refine WP.block ?_)
          | (refine WP.cond rfl (fun hc => ?_) (fun hc => ?_) <;> (try simp only [ZC, reduceCtorEq, ZD] at hc) <;> (try (exact absurd hc (by decide))) <;> (try (exfalso; omega)))
          | ((first | refine WP.skip ?_ | refine WP.exit ?_); simp only [SeqQ, BlkQ, LoopQ, BodyQ, ↓reduceIte, Nat.reduceEqDiff, reduceCtorEq, look, true_and])
          | (refine WP.ret (Sm.out ?_))
          | (first | refine ExG.no (Sm.out ?_) | refine Or.inl (ExG.no (Sm.out ?_)) | refine Or.inl (And.intro (fun hg => absurd hg (by decide)) (ExG.no (Sm.out ?_))))
          | (refine Rt.mk ?_; refine And.intro ?_ ?_ <;> (intro hg; first | exact absurd hg (by decide) | refine Sm.out ?_))
          | (refine Nu.mk ?_; first | (fail_if_success (have := nb1)); intro nb1 | (fail_if_success (have := nb2)); intro nb2 | (fail_if_success (have := nb3)); intro nb3 | (fail_if_success (have := nb4)); intro nb4 | (fail_if_success (have := nb5)); intro nb5 | (fail_if_success (have := nb6)); intro nb6 | (fail_if_success (have := nb7)); intro nb7 | (fail_if_success (have := nb8)); intro nb8 | (fail_if_success (have := nb9)); intro nb9 | (fail_if_success (have := nb10)); intro nb10 | (fail_if_success (have := nb11)); intro nb11 | (fail_if_success (have := nb12)); intro nb12 | (fail_if_success (have := nb13)); intro nb13 | (fail_if_success (have := nb14)); intro nb14 | (fail_if_success (have := nb15)); intro nb15 | (fail_if_success (have := nb16)); intro nb16 | intro nbz)
          | (refine Fr.mk ?_; intro hfr; (first | (have hFRb : _ ≤ _ ∧ _ ≤ _ := And.intro hfr.1 hfr.2.1) | (have hFRb : _ ≤ _ := hfr.1) | skip); replace FR := Sm.mk (And.intro hfr FR.out); clear hfr; refine Sm.out ?_)
          | (refine Two.mk ?_ ?_)
          | (refine Cs.mk ?_; intro hcs; first | exact False.elim hcs | (exfalso; omega) | (refine Sm.out ?_))
          | go_step
          | omega
          | (simp only [maxLen_eq]; omega)
        exact cont2.out ⟨i, a, l, xa, ca, xb, cb⟩ ⟨hi, hi2, hA, hl, hI, hx⟩ _ (Sub.of_env [] (pmz _) (by simp [look]))
    · have k1 : decide ((i : Int) < (M.length : Int)) = false := by simp; omega
      first | (have FRx := FR; clear FRx) | (have FR : Sm (¬ ((1 : Nat) = 0)) := Sm.mk Nat.one_ne_zero)
      repeat' first
        | (refine Sm.mk ?_; try simp -dsimp only [ZK, rvc, drawF, headN, pureH, stp, dvc, calleeOf, gcall, pev, eff, newB, okd, og, ogs, ogo, ogp, slv, bltv, opd, litv, strip, one, both, putE, St.put, look, gdOf, gdv, picka, pickv, pickw, binv, bini, bins, binb, binp, binq, isSlT, bina, shp, eqCells, unv, convv, nilv, faddv, addp, idxav, idxp, load1, load1m, loadn, loadnm, loadv, hget, hset, hrep, hdel, slicev, bnd, shift1, lenv, capv, IntKind.bits, extractv, fieldv, indexv, min2v, max2v, mkiv, cellsA, fillA, buildv, stC, oneC, rowMB, intsA, plN, appE, appZ, appC, appNZ, appNC, VwL, srcC, srcZ, srcM, isBoolT, isPtrT, isSliceT, uOk, Value.oneCell', Nat.reducePow, Int.reducePow, Nat.reduceAdd, Nat.reduceMul, Nat.reduceSub, Nat.reduceLT, Nat.reduceLeDiff, Nat.reduceEqDiff, Nat.reduceBEq, Nat.reduceDiv, Nat.reduceMod, ↓reduceIte, reduceCtorEq, Int.reduceToNat, Int.reduceLT, Int.reduceLE, TFBlM, SeqQ, BlkQ, LoopQ, BodyQ, k1, FR.out])
        | (refine WP.seq fun K hK => ?_)
        | (refine WP.region (rvc_sound _ _ (Sm.out ?_)))
        | ((show WP _ _ _ (.region 7 _ _) _ _); refine WP.drawKk 11 mixed (by decide +kernel) (Sm.out ?_))
        | ((show WP _ _ _ (.region 15 _ _) _ _); refine WP.drawKk 11 mixed (by decide +kernel) (Sm.out ?_))
        | (refine WP.drawK rfl mixed (by decide +kernel) (Sm.out ?_))
        | (refine Ob.mk ?_; focus (first | assumption | omega | decide | trivial | (intro hob; simp only [hob, ZF]; done) | (intros; (repeat' refine And.intro ?_ ?_) <;> first | assumption | omega | trivial | decide) | (intros; simp only [ZE] at *; (repeat' refine And.intro ?_ ?_) <;> first | assumption | omega | trivial)))
        | (refine And.intro (Ob.out ?_) ?_)
        | (refine WP.block ?_)
        | (refine WP.cond rfl (fun hc => ?_) (fun hc => ?_) <;> (try simp only [ZC, reduceCtorEq, ZD] at hc) <;> (try (exact absurd hc (by decide))) <;> (try (exfalso; omega)))
        | ((first | refine WP.skip ?_ | refine WP.exit ?_); simp only [SeqQ, BlkQ, LoopQ, BodyQ, ↓reduceIte, Nat.reduceEqDiff, reduceCtorEq, look, true_and])
        | (refine WP.ret (Sm.out ?_))
        | (first | refine ExG.no (Sm.out ?_) | refine Or.inl (ExG.no (Sm.out ?_)) | refine Or.inl (And.intro (fun hg => absurd hg (by decide)) (ExG.no (Sm.out ?_))))
        | (refine Rt.mk ?_; refine And.intro ?_ ?_ <;> (intro hg; first | exact absurd hg (by decide) | refine Sm.out ?_))
        | (refine Nu.mk ?_; first | (fail_if_success (have := nb1)); intro nb1 | (fail_if_success (have := nb2)); intro nb2 | (fail_if_success (have := nb3)); intro nb3 | (fail_if_success (have := nb4)); intro nb4 | (fail_if_success (have := nb5)); intro nb5 | (fail_if_success (have := nb6)); intro nb6 | (fail_if_success (have := nb7)); intro nb7 | (fail_if_success (have := nb8)); intro nb8 | (fail_if_success (have := nb9)); intro nb9 | (fail_if_success (have := nb10)); intro nb10 | (fail_if_success (have := nb11)); intro nb11 | (fail_if_success (have := nb12)); intro nb12 | (fail_if_success (have := nb13)); intro nb13 | (fail_if_success (have := nb14)); intro nb14 | (fail_if_success (have := nb15)); intro nb15 | (fail_if_success (have := nb16)); intro nb16 | intro nbz)
        | (refine Fr.mk ?_; intro hfr; (first | (have hFRb : _ ≤ _ ∧ _ ≤ _ := And.intro hfr.1 hfr.2.1) | (have hFRb : _ ≤ _ := hfr.1) | skip); replace FR := Sm.mk (And.intro hfr FR.out); clear hfr; refine Sm.out ?_)
        | (refine Two.mk ?_ ?_)
        | (refine Cs.mk ?_; intro hcs; first | exact False.elim hcs | (exfalso; omega) | (refine Sm.out ?_))
        | go_step
        | omega
        | (simp only [maxLen_eq]; omega)
      exact cont2.out ⟨i, a, l, xa, ca, xb, cb⟩ ⟨hi, hi2, hA, hl, hI, hx⟩ _ (Sub.of_env [] (pmz _) (by simp [look]))
  clear hK
  refine WP.loop (Γ := KG) (fun q => ⟨[(11, iv .i64 q.i), (9, pt b 0), (3, iv .i64 torn), (2, iv .i64 keep), (1, .sl M.length D), (0, .sl L.length C)], dH b q.a q.l⟩)
    (fun q => q.i ≤ L.length ∧ q.i ≤ 100 ∧ AOk q.i q.a ∧ LOk b q.a q.l ∧ Fr0 q.a) (fun q => L.length - q.i) ⟨0, nwA 6 32, l⟩ ⟨by simp, by simp, a0, hl, f0⟩
    (Sub.of_env [] (pmz _) (by simp [look])) ?_
  intro ⟨i, a, l⟩ ⟨hi, hi2, hA, hl, hF⟩
  simp only at hi hi2 hA hl hF ⊢
  have FR : Sm (¬ ((1 : Nat) = 0)) := Sm.mk Nat.one_ne_zero
  by_cases hlt : i < L.length
  · have k1 : decide ((i : Int) < (L.length : Int)) = true := by simp; omega
    by_cases hlt2 : i < 100
    · have k2 : decide ((i : Int) < 100) = true := by simp; omega
      have hd := hdr i hlt
      obtain ⟨e, he⟩ : ∃ e, e = L[i]'hlt := ⟨_, rfl⟩
      rw [← he] at hd
      obtain ⟨TR, hTR⟩ : ∃ TR, TR = acC (L.drop (i + 1)) := ⟨_, rfl⟩
      rw [← hTR] at hd
      have q1 : i * 4 + 4 ≤ C.length := by omega
      have w1 : IntKind.i64.wrap ((i : Int) + 1) = ((i + 1 : Nat) : Int) := by rw [wrap_i64 (by omega) (by omega)]; omega
      have cW := write_d hA hl (by omega) e.i e.bs
      clear hdr hTR he hdm
      first | (have FRx := FR; clear FRx) | (have FR : Sm (¬ ((1 : Nat) = 0)) := Sm.mk Nat.one_ne_zero)
      repeat' first
        | (refine Sm.mk ?_; try simp -dsimp only [ZK, rvc, drawF, headN, pureH, stp, dvc, calleeOf, gcall, pev, eff, newB, okd, og, ogs, ogo, ogp, slv, bltv, opd, litv, strip, one, both, putE, St.put, look, gdOf, gdv, picka, pickv, pickw, binv, bini, bins, binb, binp, binq, isSlT, bina, shp, eqCells, unv, convv, nilv, faddv, addp, idxav, idxp, load1, load1m, loadn, loadnm, loadv, hget, hset, hrep, hdel, slicev, bnd, shift1, lenv, capv, IntKind.bits, extractv, fieldv, indexv, min2v, max2v, mkiv, cellsA, fillA, buildv, stC, oneC, rowMB, intsA, plN, appE, appZ, appC, appNZ, appNC, VwL, srcC, srcZ, srcM, isBoolT, isPtrT, isSliceT, uOk, Value.oneCell', Nat.reducePow, Int.reducePow, Nat.reduceAdd, Nat.reduceMul, Nat.reduceSub, Nat.reduceLT, Nat.reduceLeDiff, Nat.reduceEqDiff, Nat.reduceBEq, Nat.reduceDiv, Nat.reduceMod, ↓reduceIte, reduceCtorEq, Int.reduceToNat, Int.reduceLT, Int.reduceLE, TFBlM, SeqQ, BlkQ, LoopQ, BodyQ, k1, k2, hd, q1, w1, FR.out])
        | (refine CallV.exM (cW) (pmz _) (fun g => Sm.out ?_))
        | (refine WP.seq fun K hK => ?_)
        | (refine WP.region (rvc_sound _ _ (Sm.out ?_)))
        | ((show WP _ _ _ (.region 7 _ _) _ _); refine WP.drawKk 11 mixed (by decide +kernel) (Sm.out ?_))
        | ((show WP _ _ _ (.region 15 _ _) _ _); refine WP.drawKk 11 mixed (by decide +kernel) (Sm.out ?_))
        | (refine WP.drawK rfl mixed (by decide +kernel) (Sm.out ?_))
        | (refine Ob.mk ?_; focus (first | assumption | omega | decide | trivial | (intro hob; simp only [hob, ZF]; done) | (intros; (repeat' refine And.intro ?_ ?_) <;> first | assumption | omega | trivial | decide) | (intros; simp only [ZE] at *; (repeat' refine And.intro ?_ ?_) <;> first | assumption | omega | trivial)))
        | (refine And.intro (Ob.out ?_) ?_)
        | (refine WP.block ?_)
        | (refine WP.cond rfl (fun hc => ?_) (fun hc => ?_) <;> (try simp only [ZC, reduceCtorEq, ZD] at hc) <;> (try (exact absurd hc (by decide))) <;> (try (exfalso; omega)))
        | ((first | refine WP.skip ?_ | refine WP.exit ?_); simp only [SeqQ, BlkQ, LoopQ, BodyQ, ↓reduceIte, Nat.reduceEqDiff, reduceCtorEq, look, true_and])
        | (refine WP.ret (Sm.out ?_))
        | (first | refine ExG.no (Sm.out ?_) | refine Or.inl (ExG.no (Sm.out ?_)) | refine Or.inl (And.intro (fun hg => absurd hg (by decide)) (ExG.no (Sm.out ?_))))
        | (refine Rt.mk ?_; refine And.intro ?_ ?_ <;> (intro hg; first | exact absurd hg (by decide) | refine Sm.out ?_))
        | (refine Nu.mk ?_; first | (fail_if_success (have := nb1)); intro nb1 | (fail_if_success (have := nb2)); intro nb2 | (fail_if_success (have := nb3)); intro nb3 | (fail_if_success (have := nb4)); intro nb4 | (fail_if_success (have := nb5)); intro nb5 | (fail_if_success (have := nb6)); intro nb6 | (fail_if_success (have := nb7)); intro nb7 | (fail_if_success (have := nb8)); intro nb8 | (fail_if_success (have := nb9)); intro nb9 | (fail_if_success (have := nb10)); intro nb10 | (fail_if_success (have := nb11)); intro nb11 | (fail_if_success (have := nb12)); intro nb12 | (fail_if_success (have := nb13)); intro nb13 | (fail_if_success (have := nb14)); intro nb14 | (fail_if_success (have := nb15)); intro nb15 | (fail_if_success (have := nb16)); intro nb16 | intro nbz)
        | (refine Fr.mk ?_; intro hfr; (first | (have hFRb : _ ≤ _ ∧ _ ≤ _ := And.intro hfr.1 hfr.2.1) | (have hFRb : _ ≤ _ := hfr.1) | skip); replace FR := Sm.mk (And.intro hfr FR.out); clear hfr; refine Sm.out ?_)
        | (refine Two.mk ?_ ?_)
        | (refine Cs.mk ?_; intro hcs; first | exact False.elim hcs | (exfalso; omega) | (refine Sm.out ?_))
        | go_step
        | omega
        | (simp only [maxLen_eq]; omega)
      exact ⟨⟨i + 1, wrA a e.i e.bs, g.1⟩, ⟨by simp only; omega, by simp only; omega, wrA_ok hA e.i e.bs, g.2, (hF.write e.i e.bs).1⟩, by simp only; omega, Sub.of_env [] (pmz _) (by simp [look, w1])⟩
    · have k2 : decide ((i : Int) < 100) = false := by simp; omega
      first | (have FRx := FR; clear FRx) | (have FR : Sm (¬ ((1 : Nat) = 0)) := Sm.mk Nat.one_ne_zero)
      repeat' first
        | (refine Sm.mk ?_; try simp -dsimp only [ZK, rvc, drawF, headN, pureH, stp, dvc, calleeOf, gcall, pev, eff, newB, okd, og, ogs, ogo, ogp, slv, bltv, opd, litv, strip, one, both, putE, St.put, look, gdOf, gdv, picka, pickv, pickw, binv, bini, bins, binb, binp, binq, isSlT, bina, shp, eqCells, unv, convv, nilv, faddv, addp, idxav, idxp, load1, load1m, loadn, loadnm, loadv, hget, hset, hrep, hdel, slicev, bnd, shift1, lenv, capv, IntKind.bits, extractv, fieldv, indexv, min2v, max2v, mkiv, cellsA, fillA, buildv, stC, oneC, rowMB, intsA, plN, appE, appZ, appC, appNZ, appNC, VwL, srcC, srcZ, srcM, isBoolT, isPtrT, isSliceT, uOk, Value.oneCell', Nat.reducePow, Int.reducePow, Nat.reduceAdd, Nat.reduceMul, Nat.reduceSub, Nat.reduceLT, Nat.reduceLeDiff, Nat.reduceEqDiff, Nat.reduceBEq, Nat.reduceDiv, Nat.reduceMod, ↓reduceIte, reduceCtorEq, Int.reduceToNat, Int.reduceLT, Int.reduceLE, TFBlM, SeqQ, BlkQ, LoopQ, BodyQ, k1, k2, FR.out])
        | (refine WP.seq fun K hK => ?_)
        | (refine WP.region (rvc_sound _ _ (Sm.out ?_)))
        | ((show WP _ _ _ (.region 7 _ _) _ _); refine WP.drawKk 11 mixed (by decide +kernel) (Sm.out ?_))
        | ((show WP _ _ _ (.region 15 _ _) _ _); refine WP.drawKk 11 mixed (by decide +kernel) (Sm.out ?_))
        | (refine WP.drawK rfl mixed (by decide +kernel) (Sm.out ?_))
        | (refine Ob.mk ?_; focus (first | assumption | omega | decide | trivial | (intro hob; simp only [hob, ZF]; done) | (intros; (repeat' refine And.intro ?_ ?_) <;> first | assumption | omega | trivial | decide) | (intros; simp only [ZE] at *; (repeat' refine And.intro ?_ ?_) <;> first | assumption | omega | trivial)))
        | (refine And.intro (Ob.out ?_) ?_)
        | (refine WP.block ?_)
        | (refine WP.cond rfl (fun hc => ?_) (fun hc => ?_) <;> (try simp only [ZC, reduceCtorEq, ZD] at hc) <;> (try (exact absurd hc (by decide))) <;> (try (exfalso; omega)))
        | ((first | refine WP.skip ?_ | refine WP.exit ?_); simp only [SeqQ, BlkQ, LoopQ, BodyQ, ↓reduceIte, Nat.reduceEqDiff, reduceCtorEq, look, true_and])
        | (refine WP.ret (Sm.out ?_))
        | (first | refine ExG.no (Sm.out ?_) | refine Or.inl (ExG.no (Sm.out ?_)) | refine Or.inl (And.intro (fun hg => absurd hg (by decide)) (ExG.no (Sm.out ?_))))
        | (refine Rt.mk ?_; refine And.intro ?_ ?_ <;> (intro hg; first | exact absurd hg (by decide) | refine Sm.out ?_))
        | (refine Nu.mk ?_; first | (fail_if_success (have := nb1)); intro nb1 | (fail_if_success (have := nb2)); intro nb2 | (fail_if_success (have := nb3)); intro nb3 | (fail_if_success (have := nb4)); intro nb4 | (fail_if_success (have := nb5)); intro nb5 | (fail_if_success (have := nb6)); intro nb6 | (fail_if_success (have := nb7)); intro nb7 | (fail_if_success (have := nb8)); intro nb8 | (fail_if_success (have := nb9)); intro nb9 | (fail_if_success (have := nb10)); intro nb10 | (fail_if_success (have := nb11)); intro nb11 | (fail_if_success (have := nb12)); intro nb12 | (fail_if_success (have := nb13)); intro nb13 | (fail_if_success (have := nb14)); intro nb14 | (fail_if_success (have := nb15)); intro nb15 | (fail_if_success (have := nb16)); intro nb16 | intro nbz)
        | (refine Fr.mk ?_; intro hfr; (first | (have hFRb : _ ≤ _ ∧ _ ≤ _ := And.intro hfr.1 hfr.2.1) | (have hFRb : _ ≤ _ := hfr.1) | skip); replace FR := Sm.mk (And.intro hfr FR.out); clear hfr; refine Sm.out ?_)
        | (refine Two.mk ?_ ?_)
        | (refine Cs.mk ?_; intro hcs; first | exact False.elim hcs | (exfalso; omega) | (refine Sm.out ?_))
        | go_step
        | omega
        | (simp only [maxLen_eq]; omega)
      exact cont.out i a l ⟨hi2, hA, hl, hF⟩ _ (Sub.of_env [] (pmz _) (by simp [look]))
  · have k1 : decide ((i : Int) < (L.length : Int)) = false := by simp; omega
    first | (have FRx := FR; clear FRx) | (have FR : Sm (¬ ((1 : Nat) = 0)) := Sm.mk Nat.one_ne_zero)
    repeat' first
      | (refine Sm.mk ?_; try simp -dsimp only [ZK, rvc, drawF, headN, pureH, stp, dvc, calleeOf, gcall, pev, eff, newB, okd, og, ogs, ogo, ogp, slv, bltv, opd, litv, strip, one, both, putE, St.put, look, gdOf, gdv, picka, pickv, pickw, binv, bini, bins, binb, binp, binq, isSlT, bina, shp, eqCells, unv, convv, nilv, faddv, addp, idxav, idxp, load1, load1m, loadn, loadnm, loadv, hget, hset, hrep, hdel, slicev, bnd, shift1, lenv, capv, IntKind.bits, extractv, fieldv, indexv, min2v, max2v, mkiv, cellsA, fillA, buildv, stC, oneC, rowMB, intsA, plN, appE, appZ, appC, appNZ, appNC, VwL, srcC, srcZ, srcM, isBoolT, isPtrT, isSliceT, uOk, Value.oneCell', Nat.reducePow, Int.reducePow, Nat.reduceAdd, Nat.reduceMul, Nat.reduceSub, Nat.reduceLT, Nat.reduceLeDiff, Nat.reduceEqDiff, Nat.reduceBEq, Nat.reduceDiv, Nat.reduceMod, ↓reduceIte, reduceCtorEq, Int.reduceToNat, Int.reduceLT, Int.reduceLE, TFBlM, SeqQ, BlkQ, LoopQ, BodyQ, k1, FR.out])
      | (refine WP.seq fun K hK => ?_)
      | (refine WP.region (rvc_sound _ _ (Sm.out ?_)))
      | ((show WP _ _ _ (.region 7 _ _) _ _); refine WP.drawKk 11 mixed (by decide +kernel) (Sm.out ?_))
      | ((show WP _ _ _ (.region 15 _ _) _ _); refine WP.drawKk 11 mixed (by decide +kernel) (Sm.out ?_))
      | (refine WP.drawK rfl mixed (by decide +kernel) (Sm.out ?_))
      | (refine Ob.mk ?_; focus (first | assumption | omega | decide | trivial | (intro hob; simp only [hob, ZF]; done) | (intros; (repeat' refine And.intro ?_ ?_) <;> first | assumption | omega | trivial | decide) | (intros; simp only [ZE] at *; (repeat' refine And.intro ?_ ?_) <;> first | assumption | omega | trivial)))
      | (refine And.intro (Ob.out ?_) ?_)
      | (refine WP.block ?_)
      | (refine WP.cond rfl (fun hc => ?_) (fun hc => ?_) <;> (try simp only [ZC, reduceCtorEq, ZD] at hc) <;> (try (exact absurd hc (by decide))) <;> (try (exfalso; omega)))
      | ((first | refine WP.skip ?_ | refine WP.exit ?_); simp only [SeqQ, BlkQ, LoopQ, BodyQ, ↓reduceIte, Nat.reduceEqDiff, reduceCtorEq, look, true_and])
      | (refine WP.ret (Sm.out ?_))
      | (first | refine ExG.no (Sm.out ?_) | refine Or.inl (ExG.no (Sm.out ?_)) | refine Or.inl (And.intro (fun hg => absurd hg (by decide)) (ExG.no (Sm.out ?_))))
      | (refine Rt.mk ?_; refine And.intro ?_ ?_ <;> (intro hg; first | exact absurd hg (by decide) | refine Sm.out ?_))
      | (refine Nu.mk ?_; first | (fail_if_success (have := nb1)); intro nb1 | (fail_if_success (have := nb2)); intro nb2 | (fail_if_success (have := nb3)); intro nb3 | (fail_if_success (have := nb4)); intro nb4 | (fail_if_success (have := nb5)); intro nb5 | (fail_if_success (have := nb6)); intro nb6 | (fail_if_success (have := nb7)); intro nb7 | (fail_if_success (have := nb8)); intro nb8 | (fail_if_success (have := nb9)); intro nb9 | (fail_if_success (have := nb10)); intro nb10 | (fail_if_success (have := nb11)); intro nb11 | (fail_if_success (have := nb12)); intro nb12 | (fail_if_success (have := nb13)); intro nb13 | (fail_if_success (have := nb14)); intro nb14 | (fail_if_success (have := nb15)); intro nb15 | (fail_if_success (have := nb16)); intro nb16 | intro nbz)
      | (refine Fr.mk ?_; intro hfr; (first | (have hFRb : _ ≤ _ ∧ _ ≤ _ := And.intro hfr.1 hfr.2.1) | (have hFRb : _ ≤ _ := hfr.1) | skip); replace FR := Sm.mk (And.intro hfr FR.out); clear hfr; refine Sm.out ?_)
      | (refine Two.mk ?_ ?_)
      | (refine Cs.mk ?_; intro hcs; first | exact False.elim hcs | (exfalso; omega) | (refine Sm.out ?_))
      | go_step
      | omega
      | (simp only [maxLen_eq]; omega)
    exact cont.out i a l ⟨hi2, hA, hl, hF⟩ _ (Sub.of_env [] (pmz _) (by simp [look]))
theorem lasts_law {x y : AV} (keep torn : Int) (hx : Shp (.sl acTy) [x]) (hy : Shp (.sl acTy) [y]) : ACt Try.prog 4 [x, y, iv .i64 keep, iv .i64 torn] [] (fun r _ => r = bv true) := by
  simp only [Shp] at hx hy
  obtain ⟨rows, e, hr⟩ := hx
  obtain rfl : x = _ := (List.cons.inj e).1
  obtain ⟨L, l1, l2, l3⟩ := ac_rows rows hr
  rw [← l1, l2]
  obtain ⟨rows', e', hr'⟩ := hy
  obtain rfl : y = _ := (List.cons.inj e').1
  obtain ⟨M, m1, m2, m3⟩ := ac_rows rows' hr'
  rw [← m1, m2]
  exact lasts_ct keep torn L M
end Go.Proofs.Ytnhkohgamnchlaa
