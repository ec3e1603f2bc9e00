/-
  The walks and the laws that the statement leans on, part 10.
-/
import Derived.Test.YtnhkohgamnchlaaZ9
namespace Go.Proofs.Ytnhkohgamnchlaa
open Go
set_option linter.unusedVariables false
set_option linter.unusedSimpArgs false
theorem TFBlR : (((((((type_of% tyc0) ∧ (type_of% tyc3)) ∧ ((type_of% zmb3) ∧ ((type_of% tyc4) ∧ (type_of% zmb4)))) ∧ (((type_of% tyc5) ∧ ((type_of% zmb5) ∧ (type_of% tyc9))) ∧ ((type_of% zmb9) ∧ ((type_of% tyc22) ∧ (type_of% elt22))))) ∧ ((((type_of% mkz22) ∧ ((type_of% mkc22) ∧ (type_of% apT22))) ∧ ((type_of% elk22) ∧ ((type_of% zmb22) ∧ (type_of% tyc24)))) ∧ (((type_of% mth24_27) ∧ ((type_of% mth24_26) ∧ (type_of% mth24_28))) ∧ ((type_of% con24) ∧ ((type_of% zmb24) ∧ (type_of% tyc25)))))) ∧ (((((type_of% zmb25) ∧ ((type_of% tyc26) ∧ (type_of% tyc30))) ∧ ((type_of% elt30) ∧ ((type_of% mkz30) ∧ (type_of% apT30)))) ∧ (((type_of% elk30) ∧ ((type_of% zmb30) ∧ (type_of% tyc32))) ∧ ((type_of% foff32_0) ∧ ((type_of% fpart32_0) ∧ (type_of% foff32_1))))) ∧ ((((type_of% fpart32_1) ∧ ((type_of% foff32_2) ∧ (type_of% fpart32_2))) ∧ ((type_of% foff32_3) ∧ ((type_of% fpart32_3) ∧ (type_of% zmb32)))) ∧ (((type_of% bldT32) ∧ ((type_of% tyc41) ∧ (type_of% mth41_32))) ∧ ((type_of% con41) ∧ ((type_of% zmb41) ∧ (type_of% tyc43))))))) ∧ ((((((type_of% elt43) ∧ ((type_of% mkz43) ∧ (type_of% mkc43))) ∧ ((type_of% apT43) ∧ ((type_of% elk43) ∧ (type_of% zmb43)))) ∧ (((type_of% tyc45) ∧ ((type_of% foff45_0) ∧ (type_of% fpart45_0))) ∧ ((type_of% foff45_1) ∧ ((type_of% fpart45_1) ∧ (type_of% foff45_2))))) ∧ ((((type_of% fpart45_2) ∧ ((type_of% foff45_3) ∧ (type_of% fpart45_3))) ∧ ((type_of% foff45_4) ∧ ((type_of% fpart45_4) ∧ (type_of% foff45_5)))) ∧ (((type_of% fpart45_5) ∧ ((type_of% foff45_6) ∧ (type_of% fpart45_6))) ∧ ((type_of% zmb45) ∧ ((type_of% bldT45) ∧ (type_of% tyc46)))))) ∧ (((((type_of% tyc63) ∧ ((type_of% foff63_0) ∧ (type_of% fpart63_0))) ∧ ((type_of% foff63_1) ∧ ((type_of% fpart63_1) ∧ (type_of% fe63)))) ∧ (((type_of% zmb63) ∧ ((type_of% bldT63) ∧ (type_of% Try.underlying0))) ∧ ((type_of% Try.underlying3) ∧ ((type_of% Try.underlying4) ∧ (type_of% Try.underlying5))))) ∧ ((((type_of% Try.underlying9) ∧ ((type_of% Try.underlying22) ∧ (type_of% Try.underlying24))) ∧ ((type_of% Try.underlying25) ∧ ((type_of% Try.underlying26) ∧ (type_of% Try.underlying30)))) ∧ (((type_of% Try.underlying32) ∧ ((type_of% Try.underlying41) ∧ (type_of% Try.underlying43))) ∧ ((type_of% Try.underlying45) ∧ ((type_of% Try.underlying46) ∧ (type_of% Try.underlying63)))))))) :=
  ⟨⟨⟨⟨⟨⟨tyc0, tyc3⟩, ⟨zmb3, ⟨tyc4, zmb4⟩⟩⟩, ⟨⟨tyc5, ⟨zmb5, tyc9⟩⟩, ⟨zmb9, ⟨tyc22, elt22⟩⟩⟩⟩, ⟨⟨⟨mkz22, ⟨mkc22, apT22⟩⟩, ⟨elk22, ⟨zmb22, tyc24⟩⟩⟩, ⟨⟨mth24_27, ⟨mth24_26, mth24_28⟩⟩, ⟨con24, ⟨zmb24, tyc25⟩⟩⟩⟩⟩, ⟨⟨⟨⟨zmb25, ⟨tyc26, tyc30⟩⟩, ⟨elt30, ⟨mkz30, apT30⟩⟩⟩, ⟨⟨elk30, ⟨zmb30, tyc32⟩⟩, ⟨foff32_0, ⟨fpart32_0, foff32_1⟩⟩⟩⟩, ⟨⟨⟨fpart32_1, ⟨foff32_2, fpart32_2⟩⟩, ⟨foff32_3, ⟨fpart32_3, zmb32⟩⟩⟩, ⟨⟨bldT32, ⟨tyc41, mth41_32⟩⟩, ⟨con41, ⟨zmb41, tyc43⟩⟩⟩⟩⟩⟩, ⟨⟨⟨⟨⟨elt43, ⟨mkz43, mkc43⟩⟩, ⟨apT43, ⟨elk43, zmb43⟩⟩⟩, ⟨⟨tyc45, ⟨foff45_0, fpart45_0⟩⟩, ⟨foff45_1, ⟨fpart45_1, foff45_2⟩⟩⟩⟩, ⟨⟨⟨fpart45_2, ⟨foff45_3, fpart45_3⟩⟩, ⟨foff45_4, ⟨fpart45_4, foff45_5⟩⟩⟩, ⟨⟨fpart45_5, ⟨foff45_6, fpart45_6⟩⟩, ⟨zmb45, ⟨bldT45, tyc46⟩⟩⟩⟩⟩, ⟨⟨⟨⟨tyc63, ⟨foff63_0, fpart63_0⟩⟩, ⟨foff63_1, ⟨fpart63_1, fe63⟩⟩⟩, ⟨⟨zmb63, ⟨bldT63, Try.underlying0⟩⟩, ⟨Try.underlying3, ⟨Try.underlying4, Try.underlying5⟩⟩⟩⟩, ⟨⟨⟨Try.underlying9, ⟨Try.underlying22, Try.underlying24⟩⟩, ⟨Try.underlying25, ⟨Try.underlying26, Try.underlying30⟩⟩⟩, ⟨⟨Try.underlying32, ⟨Try.underlying41, Try.underlying43⟩⟩, ⟨Try.underlying45, ⟨Try.underlying46, Try.underlying63⟩⟩⟩⟩⟩⟩⟩
theorem bne_ba (s : ByteArray) : (s != s) = false := by
  show (!(s == s)) = false
  rw [baBeq]; rfl
/-- our disk's call, over more blocks -/
theorem liftD {f : FuncId} {args : List AV} {b : Nat} {a a' : DA} {l : DL} {x : AV} (X : Hp) (h : ACt Try.prog f args (dH b a l) (fun r F' => ∃ q : LS b a', r = x ∧ F' = dH b a' q.1)) :
    ACt Try.prog f args (X ++ dH b a l) (fun r F' => ∃ q : LS b a', r = x ∧ F' = X ++ dH b a' q.1) :=
  ACt.frm (R := X) h List.perm_append_comm fun r F' hr _ => by
    obtain ⟨q, e1, e2⟩ := hr
    subst e1 e2
    exact ⟨X ++ dH b a' q.1, [], by rw [List.append_nil]; exact List.perm_append_comm, q, rfl, rfl⟩
theorem liftU {f : FuncId} {args : List AV} {F F0 : Hp} {x : AV} (X : Hp) (h : ACt Try.prog f args F (fun r F' => r = x ∧ F' = F0)) : ACt Try.prog f args (X ++ F) (fun r F' => r = x ∧ F' = X ++ F0) :=
  ACt.frm (R := X) h List.perm_append_comm fun r F' hr _ => by
    obtain ⟨e1, e2⟩ := hr
    subst e1 e2
    exact ⟨_, [], by rw [List.append_nil]; exact List.perm_append_comm, rfl, rfl⟩
theorem liftR {f : FuncId} {args : List AV} {mb : Nat} {a a' : DA} {o : RL} {x : AV} (X Y : Hp) (h : ACt Try.prog f args (rH mb a o) (fun r F' => ∃ q : RS mb a', r = x ∧ F' = rH mb a' q.1)) :
    ACt Try.prog f args (X ++ (rH mb a o ++ Y)) (fun r F' => ∃ q : RS mb a', r = x ∧ F' = X ++ (rH mb a' q.1 ++ Y)) :=
  ACt.frm (R := Y ++ X) h (by rw [← List.append_assoc (rH mb a o)]; exact List.perm_append_comm) fun r F' hr _ => by
    obtain ⟨q, e1, e2⟩ := hr
    subst e1 e2
    refine ⟨X ++ (rH mb a' q.1 ++ Y), [], ?_, q, rfl, rfl⟩
    rw [List.append_nil, ← List.append_assoc (rH mb a' q.1)]
    exact List.perm_append_comm
structure QG where
  i : Nat
  a : DA
  l : DL
  o : RL
/-- both disks, side by side -/
def QH (b mb : Nat) (a : DA) (l : DL) (o : RL) : Hp := (mb, rHd a o) :: (rB a.size a.W o ++ dH b a l)
/-- ours ahead by one step -/
def QN (b mb : Nat) (a : DA) (o : RL) (a' : DA) (l : DL) : Hp := rH mb a o ++ dH b a' l
structure QOk (n s b mb c : Nat) (a : DA) (l : DL) (o : RL) : Prop where
  A : AOk c a
  l : LOk b a l
  o : ROk mb a o
  S : SI a
  n : a.n = n
  s : a.size = s
theorem rW_wV (W : List (Nat × List Int)) (o : RL) : ∃ p, rW W o = wV p ∧ wN p = W.length := by
  cases W with
  | nil => exact ⟨none, rfl, rfl⟩
  | cons w r => exact ⟨some (o.1, (w :: r).length, o.2), rfl, rfl⟩
set_option maxRecDepth 8000 in
set_option maxHeartbeats 4000000 in
theorem plays_ct (B Z : Int) (L : List Ac) (hB : -9223372036854775808 ≤ B ∧ B ≤ 9223372036854775807) (hZ : -9223372036854775808 ≤ Z ∧ Z ≤ 9223372036854775807) (hLb : ∀ p ∈ L, (-9223372036854775808 ≤ p.i ∧ p.i ≤ 9223372036854775807) ∧ -9223372036854775808 ≤ p.k ∧ p.k ≤ 9223372036854775807) :
    ACt Try.prog 5 [iv .i64 B, iv .i64 Z, .sl L.length (acC L)] [] (fun r _ => r = bv true) := by
  refine ACt.intro Try.func5 rfl (by kernel_rfl) (by simp [Try.ntmps5]) (fun cx => ?_)
  simp only [argE, Try.ntmps5, Try.results5]
  by_cases hbad : B < 1 ∨ 400 < B ∨ Z < 32 ∨ 512 < Z
  · have e2 : (decide (B < 1) || decide (B > 400) || decide (Z < 32) || decide (Z > 512)) = true := by simp; omega
    have cN := new_bad B Z hbad
    first | (have FRx := FR; clear FRx) | (have FR : Sm (¬ ((1 : Nat) = 0)) := Sm.mk Nat.one_ne_zero)
    repeat' first
      | (refine Sm.mk ?_; try simp -dsimp only [ZK, rvc, drawF, headN, pureH, stp, dvc, calleeOf, gcall, pev, eff, newB, okd, og, ogs, ogo, ogp, slv, bltv, opd, litv, strip, one, both, putE, St.put, look, gdOf, gdv, picka, pickv, pickw, binv, bini, bins, binb, binp, binq, isSlT, bina, shp, eqCells, unv, convv, nilv, faddv, addp, idxav, idxp, load1, load1m, loadn, loadnm, loadv, hget, hset, hrep, hdel, slicev, bnd, shift1, lenv, capv, IntKind.bits, extractv, fieldv, indexv, min2v, max2v, mkiv, cellsA, fillA, buildv, stC, oneC, rowMB, intsA, plN, appE, appZ, appC, appNZ, appNC, VwL, srcC, srcZ, srcM, isBoolT, isPtrT, isSliceT, uOk, Value.oneCell', Nat.reducePow, Int.reducePow, Nat.reduceAdd, Nat.reduceMul, Nat.reduceSub, Nat.reduceLT, Nat.reduceLeDiff, Nat.reduceEqDiff, Nat.reduceBEq, Nat.reduceDiv, Nat.reduceMod, ↓reduceIte, reduceCtorEq, Int.reduceToNat, Int.reduceLT, Int.reduceLE, drawNF, drawNF1, drawNTF, nvc, xst, chF, chS, mkV, splitH, calleeV, putE, hdel, TFBlR, SeqQ, BlkQ, LoopQ, BodyQ, e2, FR.out])
      | (first | refine CallV.fn (awake_ct) (Sm.out ?_) | refine ExF.mk (awake_ct) (Sm.out ?_) | refine ExG.mk (fun _ => awake_ct) (Sm.out ?_) | refine ExG.mkJ (fun _ => awake_ct) (Sm.out ?_) | refine ExG.mkI (Ob.out ?_) (fun _ => awake_ct) (Sm.out ?_))
      | (first | refine CallV.fn (cN) (Sm.out ?_) | refine ExF.mk (cN) (Sm.out ?_) | refine ExG.mk (fun _ => cN) (Sm.out ?_) | refine ExG.mkJ (fun _ => cN) (Sm.out ?_) | refine ExG.mkI (Ob.out ?_) (fun _ => cN) (Sm.out ?_))
      | (refine WP.seq fun K hK => ?_)
      | (refine WP.region (rvc_sound _ _ (Sm.out ?_)))
      | (refine WP.drawNT (cs := [5,11]) (k := 12) mixed (by decide +kernel) (by decide +kernel) (by decide +kernel) (by decide +kernel) (Sm.out ?_))
      | (refine WP.drawK rfl mixed (by decide +kernel) (Sm.out ?_))
      | (refine Ob.mk ?_; focus (first | assumption | omega | decide | trivial | (intro hob; simp only [hob, ZF]; done) | (intros; (repeat' refine And.intro ?_ ?_) <;> first | assumption | omega | trivial | decide) | (intros; simp only [ZE] at *; (repeat' refine And.intro ?_ ?_) <;> first | assumption | omega | trivial)))
      | (refine And.intro (Ob.out ?_) ?_)
      | (refine WP.block ?_)
      | (refine WP.cond rfl (fun hc => ?_) (fun hc => ?_) <;> (try simp only [ZC, reduceCtorEq, ZD] at hc) <;> (try (exact absurd hc (by decide))) <;> (try (exfalso; omega)))
      | ((first | refine WP.skip ?_ | refine WP.exit ?_); simp only [SeqQ, BlkQ, LoopQ, BodyQ, ↓reduceIte, Nat.reduceEqDiff, reduceCtorEq, look, true_and])
      | (refine WP.ret (Sm.out ?_))
      | (first | refine ExG.no (Sm.out ?_) | refine Or.inl (ExG.no (Sm.out ?_)) | refine Or.inl (And.intro (fun hg => absurd hg (by decide)) (ExG.no (Sm.out ?_))))
      | (refine Rt.mk ?_; refine And.intro ?_ ?_ <;> (intro hg; first | exact absurd hg (by decide) | refine Sm.out ?_))
      | (refine Nu.mk ?_; first | (fail_if_success (have := nb1)); intro nb1 | (fail_if_success (have := nb2)); intro nb2 | (fail_if_success (have := nb3)); intro nb3 | intro nbz)
      | (refine Fr.mk ?_; intro hfr; (first | (have hFRb : _ ≤ _ ∧ _ ≤ _ := And.intro hfr.1 hfr.2.1) | (have hFRb : _ ≤ _ := hfr.1) | skip); replace FR := Sm.mk (And.intro hfr FR.out); clear hfr; refine Sm.out ?_)
      | (refine Two.mk ?_ ?_)
      | (refine Cs.mk ?_; intro hcs; first | exact False.elim hcs | (exfalso; omega) | (refine Sm.out ?_))
      | (refine OutQ.all ?_ ?_; (focus (simp only [resv, ZK, look, loadv, loadn, loadnm, load1, load1m, hget, ↓reduceIte, Nat.reduceEqDiff, Nat.reduceAdd, Nat.reduceMul, Nat.reduceLeDiff, Nat.reduceLT, reduceCtorEq, TFBlR, e2, FR.out])); (try simp only [resv, resA, Fn, ZK, look, loadv, loadn, loadnm, load1, load1m, hget, ↓reduceIte, Nat.reduceEqDiff, Nat.reduceAdd, Nat.reduceMul, Nat.reduceLeDiff, Nat.reduceLT, reduceCtorEq, TFBlR, e2, FR.out]); (try simp [resA, Fn, look, e2, FR.out]); done)
      | go_step
      | omega
      | (simp only [maxLen_eq]; omega)
      | (refine Or.inr (Rt.mk ?_); refine And.intro ?_ ?_ <;> (intro hg; first | exact absurd hg (by decide) | refine Sm.out ?_))
  obtain ⟨n, rfl⟩ := Int.eq_ofNat_of_zero_le (show 0 ≤ B by omega)
  obtain ⟨s, rfl⟩ := Int.eq_ofNat_of_zero_le (show 0 ≤ Z by omega)
  have e2 : (decide ((n : Int) < 1) || decide ((n : Int) > 400) || decide ((s : Int) < 32) || decide ((s : Int) > 512)) = false := by simp; omega
  have cN := new_d n s (by omega) (by omega) (by omega) (by omega)
  have a0 : AOk 0 (nwA n s) := nwA_ok (by omega) (by omega) (by omega) (by omega)
  by_cases h12 : 12 < n
  · have k1 : decide ((n : Int) > 12) = true := by simp; omega
    first | (have FRx := FR; clear FRx) | (have FR : Sm (¬ ((1 : Nat) = 0)) := Sm.mk Nat.one_ne_zero)
    repeat' first
      | (refine Sm.mk ?_; try simp -dsimp only [ZK, rvc, drawF, headN, pureH, stp, dvc, calleeOf, gcall, pev, eff, newB, okd, og, ogs, ogo, ogp, slv, bltv, opd, litv, strip, one, both, putE, St.put, look, gdOf, gdv, picka, pickv, pickw, binv, bini, bins, binb, binp, binq, isSlT, bina, shp, eqCells, unv, convv, nilv, faddv, addp, idxav, idxp, load1, load1m, loadn, loadnm, loadv, hget, hset, hrep, hdel, slicev, bnd, shift1, lenv, capv, IntKind.bits, extractv, fieldv, indexv, min2v, max2v, mkiv, cellsA, fillA, buildv, stC, oneC, rowMB, intsA, plN, appE, appZ, appC, appNZ, appNC, VwL, srcC, srcZ, srcM, isBoolT, isPtrT, isSliceT, uOk, Value.oneCell', Nat.reducePow, Int.reducePow, Nat.reduceAdd, Nat.reduceMul, Nat.reduceSub, Nat.reduceLT, Nat.reduceLeDiff, Nat.reduceEqDiff, Nat.reduceBEq, Nat.reduceDiv, Nat.reduceMod, ↓reduceIte, reduceCtorEq, Int.reduceToNat, Int.reduceLT, Int.reduceLE, drawNF, drawNF1, drawNTF, nvc, xst, chF, chS, mkV, splitH, calleeV, putE, hdel, TFBlR, SeqQ, BlkQ, LoopQ, BodyQ, e2, k1, FR.out])
      | (first | refine CallV.fn (awake_ct) (Sm.out ?_) | refine ExF.mk (awake_ct) (Sm.out ?_) | refine ExG.mk (fun _ => awake_ct) (Sm.out ?_) | refine ExG.mkJ (fun _ => awake_ct) (Sm.out ?_) | refine ExG.mkI (Ob.out ?_) (fun _ => awake_ct) (Sm.out ?_))
      | (refine CallV.ex (F := []) (List.Perm.refl _) (cN) (fun g => Sm.out ?_))
      | (refine WP.seq fun K hK => ?_)
      | (refine WP.region (rvc_sound _ _ (Sm.out ?_)))
      | (refine WP.drawNT (cs := [5,11]) (k := 12) mixed (by decide +kernel) (by decide +kernel) (by decide +kernel) (by decide +kernel) (Sm.out ?_))
      | (refine WP.drawK rfl mixed (by decide +kernel) (Sm.out ?_))
      | (refine Ob.mk ?_; focus (first | assumption | omega | decide | trivial | (intro hob; simp only [hob, ZF]; done) | (intros; (repeat' refine And.intro ?_ ?_) <;> first | assumption | omega | trivial | decide) | (intros; simp only [ZE] at *; (repeat' refine And.intro ?_ ?_) <;> first | assumption | omega | trivial)))
      | (refine And.intro (Ob.out ?_) ?_)
      | (refine WP.block ?_)
      | (refine WP.cond rfl (fun hc => ?_) (fun hc => ?_) <;> (try simp only [ZC, reduceCtorEq, ZD] at hc) <;> (try (exact absurd hc (by decide))) <;> (try (exfalso; omega)))
      | ((first | refine WP.skip ?_ | refine WP.exit ?_); simp only [SeqQ, BlkQ, LoopQ, BodyQ, ↓reduceIte, Nat.reduceEqDiff, reduceCtorEq, look, true_and])
      | (refine WP.ret (Sm.out ?_))
      | (first | refine ExG.no (Sm.out ?_) | refine Or.inl (ExG.no (Sm.out ?_)) | refine Or.inl (And.intro (fun hg => absurd hg (by decide)) (ExG.no (Sm.out ?_))))
      | (refine Rt.mk ?_; refine And.intro ?_ ?_ <;> (intro hg; first | exact absurd hg (by decide) | refine Sm.out ?_))
      | (refine Nu.mk ?_; first | (fail_if_success (have := nb1)); intro nb1 | (fail_if_success (have := nb2)); intro nb2 | (fail_if_success (have := nb3)); intro nb3 | intro nbz)
      | (refine Fr.mk ?_; intro hfr; (first | (have hFRb : _ ≤ _ ∧ _ ≤ _ := And.intro hfr.1 hfr.2.1) | (have hFRb : _ ≤ _ := hfr.1) | skip); replace FR := Sm.mk (And.intro hfr FR.out); clear hfr; refine Sm.out ?_)
      | (refine Two.mk ?_ ?_)
      | (refine Cs.mk ?_; intro hcs; first | exact False.elim hcs | (exfalso; omega) | (refine Sm.out ?_))
      | go_step
      | omega
      | (simp only [maxLen_eq]; omega)
      | (refine Or.inr (Rt.mk ?_); refine And.intro ?_ ?_ <;> (intro hg; first | exact absurd hg (by decide) | refine Sm.out ?_))
    (refine OutQ.all ?_ ?_; (focus (simp only [resv, ZK, look, loadv, loadn, loadnm, load1, load1m, hget, ↓reduceIte, Nat.reduceEqDiff, Nat.reduceAdd, Nat.reduceMul, Nat.reduceLeDiff, Nat.reduceLT, reduceCtorEq, TFBlR])); (try simp only [resv, resA, Fn, ZK, look, loadv, loadn, loadnm, load1, load1m, hget, ↓reduceIte, Nat.reduceEqDiff, Nat.reduceAdd, Nat.reduceMul, Nat.reduceLeDiff, Nat.reduceLT, reduceCtorEq, TFBlR]); (try simp [resA, Fn, look]))
  have k1 : decide ((n : Int) > 12) = false := by simp; omega
  have cR := rnew_ct n s (by omega) (by omega)
  have hCl := acC_len L
  have hdr := acC_drop L
  obtain ⟨C, hC⟩ : ∃ C, C = acC L := ⟨_, rfl⟩
  rw [← hC] at hCl hdr ⊢
  first | (have FRx := FR; clear FRx) | (have FR : Sm (¬ ((1 : Nat) = 0)) := Sm.mk Nat.one_ne_zero)
  repeat' first
    | (refine Sm.mk ?_; try simp -dsimp only [ZK, rvc, drawF, headN, pureH, stp, dvc, calleeOf, gcall, pev, eff, newB, okd, og, ogs, ogo, ogp, slv, bltv, opd, litv, strip, one, both, putE, St.put, look, gdOf, gdv, picka, pickv, pickw, binv, bini, bins, binb, binp, binq, isSlT, bina, shp, eqCells, unv, convv, nilv, faddv, addp, idxav, idxp, load1, load1m, loadn, loadnm, loadv, hget, hset, hrep, hdel, slicev, bnd, shift1, lenv, capv, IntKind.bits, extractv, fieldv, indexv, min2v, max2v, mkiv, cellsA, fillA, buildv, stC, oneC, rowMB, intsA, plN, appE, appZ, appC, appNZ, appNC, VwL, srcC, srcZ, srcM, isBoolT, isPtrT, isSliceT, uOk, Value.oneCell', Nat.reducePow, Int.reducePow, Nat.reduceAdd, Nat.reduceMul, Nat.reduceSub, Nat.reduceLT, Nat.reduceLeDiff, Nat.reduceEqDiff, Nat.reduceBEq, Nat.reduceDiv, Nat.reduceMod, ↓reduceIte, reduceCtorEq, Int.reduceToNat, Int.reduceLT, Int.reduceLE, drawNF, drawNF1, drawNTF, nvc, xst, chF, chS, mkV, splitH, calleeV, putE, hdel, TFBlR, SeqQ, BlkQ, LoopQ, BodyQ, e2, k1, FR.out])
    | (first | refine CallV.fn (awake_ct) (Sm.out ?_) | refine ExF.mk (awake_ct) (Sm.out ?_) | refine ExG.mk (fun _ => awake_ct) (Sm.out ?_) | refine ExG.mkJ (fun _ => awake_ct) (Sm.out ?_) | refine ExG.mkI (Ob.out ?_) (fun _ => awake_ct) (Sm.out ?_))
    | (refine CallV.ex (F := []) (List.Perm.refl _) (cN) (fun g => Sm.out ?_))
    | (refine WP.seq fun K hK => ?_)
    | ((fail_if_success (show WP _ _ _ (.region 8 _ _) _ _)); refine WP.region (rvc_sound _ _ (Sm.out ?_)))
    | ((fail_if_success (show WP _ _ _ (.region 8 _ _) _ _)); refine WP.drawNT (cs := [5,11]) (k := 12) mixed (by decide +kernel) (by decide +kernel) (by decide +kernel) (by decide +kernel) (Sm.out ?_))
    | ((fail_if_success (show WP _ _ _ (.region 8 _ _) _ _)); refine WP.drawK rfl mixed (by decide +kernel) (Sm.out ?_))
    | (refine Ob.mk ?_; focus (first | assumption | omega | decide | trivial | (intro hob; simp only [hob, ZF]; done) | (intros; (repeat' refine And.intro ?_ ?_) <;> first | assumption | omega | trivial | decide) | (intros; simp only [ZE] at *; (repeat' refine And.intro ?_ ?_) <;> first | assumption | omega | trivial)))
    | (refine And.intro (Ob.out ?_) ?_)
    | (refine WP.block ?_)
    | (refine WP.cond rfl (fun hc => ?_) (fun hc => ?_) <;> (try simp only [ZC, reduceCtorEq, ZD] at hc) <;> (try (exact absurd hc (by decide))) <;> (try (exfalso; omega)))
    | ((first | refine WP.skip ?_ | refine WP.exit ?_); simp only [SeqQ, BlkQ, LoopQ, BodyQ, ↓reduceIte, Nat.reduceEqDiff, reduceCtorEq, look, true_and])
    | (refine WP.ret (Sm.out ?_))
    | (first | refine ExG.no (Sm.out ?_) | refine Or.inl (ExG.no (Sm.out ?_)) | refine Or.inl (And.intro (fun hg => absurd hg (by decide)) (ExG.no (Sm.out ?_))))
    | (refine Rt.mk ?_; refine And.intro ?_ ?_ <;> (intro hg; first | exact absurd hg (by decide) | refine Sm.out ?_))
    | (refine Nu.mk ?_; first | (fail_if_success (have := nb1)); intro nb1 | (fail_if_success (have := nb2)); intro nb2 | (fail_if_success (have := nb3)); intro nb3 | intro nbz)
    | (refine Fr.mk ?_; intro hfr; (first | (have hFRb : _ ≤ _ ∧ _ ≤ _ := And.intro hfr.1 hfr.2.1) | (have hFRb : _ ≤ _ := hfr.1) | skip); replace FR := Sm.mk (And.intro hfr FR.out); clear hfr; refine Sm.out ?_)
    | (refine Two.mk ?_ ?_)
    | (refine Cs.mk ?_; intro hcs; first | exact False.elim hcs | (exfalso; omega) | (refine Sm.out ?_))
    | go_step
    | omega
    | (simp only [maxLen_eq]; omega)
    | (refine Or.inr (Rt.mk ?_); refine And.intro ?_ ?_ <;> (intro hg; first | exact absurd hg (by decide) | refine Sm.out ?_))
  obtain ⟨⟨b, l⟩, hl⟩ := g
  try simp only [List.append_nil]
  try simp only at hl
  first | (have FRx := FR; clear FRx) | (have FR : Sm (¬ ((1 : Nat) = 0)) := Sm.mk Nat.one_ne_zero)
  repeat' first
    | (refine Sm.mk ?_; try simp -dsimp only [ZK, rvc, drawF, headN, pureH, stp, dvc, calleeOf, gcall, pev, eff, newB, okd, og, ogs, ogo, ogp, slv, bltv, opd, litv, strip, one, both, putE, St.put, look, gdOf, gdv, picka, pickv, pickw, binv, bini, bins, binb, binp, binq, isSlT, bina, shp, eqCells, unv, convv, nilv, faddv, addp, idxav, idxp, load1, load1m, loadn, loadnm, loadv, hget, hset, hrep, hdel, slicev, bnd, shift1, lenv, capv, IntKind.bits, extractv, fieldv, indexv, min2v, max2v, mkiv, cellsA, fillA, buildv, stC, oneC, rowMB, intsA, plN, appE, appZ, appC, appNZ, appNC, VwL, srcC, srcZ, srcM, isBoolT, isPtrT, isSliceT, uOk, Value.oneCell', Nat.reducePow, Int.reducePow, Nat.reduceAdd, Nat.reduceMul, Nat.reduceSub, Nat.reduceLT, Nat.reduceLeDiff, Nat.reduceEqDiff, Nat.reduceBEq, Nat.reduceDiv, Nat.reduceMod, ↓reduceIte, reduceCtorEq, Int.reduceToNat, Int.reduceLT, Int.reduceLE, drawNF, drawNF1, drawNTF, nvc, xst, chF, chS, mkV, splitH, calleeV, putE, hdel, TFBlR, SeqQ, BlkQ, LoopQ, BodyQ, FR.out])
    | (refine CallV.new1 (F := []) (List.Perm.refl _) (cR) rfl (Sm.out ?_))
    | (refine WP.seq fun K hK => ?_)
    | (refine WP.region (rvc_sound _ _ (Sm.out ?_)))
    | (refine WP.drawNT (cs := [5,11]) (k := 12) mixed (by decide +kernel) (by decide +kernel) (by decide +kernel) (by decide +kernel) (Sm.out ?_))
    | (refine WP.drawK rfl mixed (by decide +kernel) (Sm.out ?_))
    | (refine Ob.mk ?_; focus (first | assumption | omega | decide | trivial | (intro hob; simp only [hob, ZF]; done) | (intros; (repeat' refine And.intro ?_ ?_) <;> first | assumption | omega | trivial | decide) | (intros; simp only [ZE] at *; (repeat' refine And.intro ?_ ?_) <;> first | assumption | omega | trivial)))
    | (refine And.intro (Ob.out ?_) ?_)
    | (refine WP.block ?_)
    | (refine WP.cond rfl (fun hc => ?_) (fun hc => ?_) <;> (try simp only [ZC, reduceCtorEq, ZD] at hc) <;> (try (exact absurd hc (by decide))) <;> (try (exfalso; omega)))
    | ((first | refine WP.skip ?_ | refine WP.exit ?_); simp only [SeqQ, BlkQ, LoopQ, BodyQ, ↓reduceIte, Nat.reduceEqDiff, reduceCtorEq, look, true_and])
    | (refine WP.ret (Sm.out ?_))
    | (first | refine ExG.no (Sm.out ?_) | refine Or.inl (ExG.no (Sm.out ?_)) | refine Or.inl (And.intro (fun hg => absurd hg (by decide)) (ExG.no (Sm.out ?_))))
    | (refine Rt.mk ?_; refine And.intro ?_ ?_ <;> (intro hg; first | exact absurd hg (by decide) | refine Sm.out ?_))
    | (refine Nu.mk ?_; first | (fail_if_success (have := nb1)); intro nb1 | (fail_if_success (have := nb2)); intro nb2 | (fail_if_success (have := nb3)); intro nb3 | intro nbz)
    | (refine Fr.mk ?_; intro hfr; (first | (have hFRb : _ ≤ _ ∧ _ ≤ _ := And.intro hfr.1 hfr.2.1) | (have hFRb : _ ≤ _ := hfr.1) | skip); replace FR := Sm.mk (And.intro hfr FR.out); clear hfr; refine Sm.out ?_)
    | (refine Two.mk ?_ ?_)
    | (refine Cs.mk ?_; intro hcs; first | exact False.elim hcs | (exfalso; omega) | (refine Sm.out ?_))
    | go_step
    | omega
    | (simp only [maxLen_eq]; omega)
    | (refine Or.inr (Rt.mk ?_); refine And.intro ?_ ?_ <;> (intro hg; first | exact absurd hg (by decide) | refine Sm.out ?_))
  refine WP.loop (Γ := QG) (fun q => ⟨[(10, iv .i64 q.i), (9, pt nb1 0), (7, pt b 0), (2, .sl L.length C), (1, iv .i64 (s : Int)), (0, iv .i64 (n : Int))], QH b nb1 q.a q.l q.o⟩)
    (fun q => q.i ≤ L.length ∧ q.i ≤ 100 ∧ QOk n s b nb1 q.i q.a q.l q.o) (fun q => L.length - q.i) ⟨0, nwA n s, l, (0, 0)⟩ ⟨by simp, by simp, a0, hl, ROk.of0 rfl, rfl, rfl, rfl⟩
    (Sub.of_env [] (by simp only [QH, rHd, nwA, rW, rB, zrow, List.flatten_replicate_replicate]; exact pmz _) (by simp [look])) ?_
  intro ⟨i, a, l, o⟩ ⟨hi, hi2, hQ⟩
  simp only at hi hi2 hQ ⊢
  have FR : Sm (¬ ((1 : Nat) = 0)) := Sm.mk Nat.one_ne_zero
  by_cases hlt : i < L.length
  · have k1 : decide ((i : Int) < (L.length : Int)) = true := by simp; omega
    by_cases hlt2 : i < 100
    · have k2 : decide ((i : Int) < 100) = true := by simp; omega
      have hd := hdr i hlt
      have heb := hLb _ (List.getElem_mem hlt)
      obtain ⟨e, he⟩ : ∃ e, e = L[i]'hlt := ⟨_, rfl⟩
      rw [← he] at hd heb
      obtain ⟨TR, hTR⟩ : ∃ TR, TR = acC (L.drop (i + 1)) := ⟨_, rfl⟩
      rw [← hTR] at hd
      have q1 : i * 4 + 4 ≤ C.length := by omega
      have w1 : IntKind.i64.wrap ((i : Int) + 1) = ((i + 1 : Nat) : Int) := by rw [wrap_i64 (by omega) (by omega)]; omega
      clear hdr hTR he
      first | (have FRx := FR; clear FRx) | (have FR : Sm (¬ ((1 : Nat) = 0)) := Sm.mk Nat.one_ne_zero)
      repeat' first
        | (refine Sm.mk ?_; try simp -dsimp only [ZK, rvc, drawF, headN, pureH, stp, dvc, calleeOf, gcall, pev, eff, newB, okd, og, ogs, ogo, ogp, slv, bltv, opd, litv, strip, one, both, putE, St.put, look, gdOf, gdv, picka, pickv, pickw, binv, bini, bins, binb, binp, binq, isSlT, bina, shp, eqCells, unv, convv, nilv, faddv, addp, idxav, idxp, load1, load1m, loadn, loadnm, loadv, hget, hset, hrep, hdel, slicev, bnd, shift1, lenv, capv, IntKind.bits, extractv, fieldv, indexv, min2v, max2v, mkiv, cellsA, fillA, buildv, stC, oneC, rowMB, intsA, plN, appE, appZ, appC, appNZ, appNC, VwL, srcC, srcZ, srcM, isBoolT, isPtrT, isSliceT, uOk, Value.oneCell', Nat.reducePow, Int.reducePow, Nat.reduceAdd, Nat.reduceMul, Nat.reduceSub, Nat.reduceLT, Nat.reduceLeDiff, Nat.reduceEqDiff, Nat.reduceBEq, Nat.reduceDiv, Nat.reduceMod, ↓reduceIte, reduceCtorEq, Int.reduceToNat, Int.reduceLT, Int.reduceLE, drawNF, drawNF1, drawNTF, nvc, xst, chF, chS, mkV, splitH, calleeV, putE, hdel, TFBlR, SeqQ, BlkQ, LoopQ, BodyQ, k1, k2, hd, q1, FR.out])
        | (refine WP.seq fun K hK => ?_)
        | ((fail_if_success (show WP _ _ _ (.region 14 _ _) _ _)); refine WP.region (rvc_sound _ _ (Sm.out ?_)))
        | ((fail_if_success (show WP _ _ _ (.region 14 _ _) _ _)); refine WP.drawNT (cs := [5,11]) (k := 12) mixed (by decide +kernel) (by decide +kernel) (by decide +kernel) (by decide +kernel) (Sm.out ?_))
        | ((fail_if_success (show WP _ _ _ (.region 14 _ _) _ _)); refine WP.drawK rfl mixed (by decide +kernel) (Sm.out ?_))
        | (refine Ob.mk ?_; focus (first | assumption | omega | decide | trivial | (intro hob; simp only [hob, ZF]; done) | (intros; (repeat' refine And.intro ?_ ?_) <;> first | assumption | omega | trivial | decide) | (intros; simp only [ZE] at *; (repeat' refine And.intro ?_ ?_) <;> first | assumption | omega | trivial)))
        | (refine And.intro (Ob.out ?_) ?_)
        | (refine WP.block ?_)
        | (refine WP.cond rfl (fun hc => ?_) (fun hc => ?_) <;> (try simp only [ZC, reduceCtorEq, ZD] at hc) <;> (try (exact absurd hc (by decide))) <;> (try (exfalso; omega)))
        | ((first | refine WP.skip ?_ | refine WP.exit ?_); simp only [SeqQ, BlkQ, LoopQ, BodyQ, ↓reduceIte, Nat.reduceEqDiff, reduceCtorEq, look, true_and])
        | (refine WP.ret (Sm.out ?_))
        | (first | refine ExG.no (Sm.out ?_) | refine Or.inl (ExG.no (Sm.out ?_)) | refine Or.inl (And.intro (fun hg => absurd hg (by decide)) (ExG.no (Sm.out ?_))))
        | (refine Rt.mk ?_; refine And.intro ?_ ?_ <;> (intro hg; first | exact absurd hg (by decide) | refine Sm.out ?_))
        | (refine Nu.mk ?_; first | (fail_if_success (have := nb1)); intro nb1 | (fail_if_success (have := nb2)); intro nb2 | (fail_if_success (have := nb3)); intro nb3 | intro nbz)
        | (refine Fr.mk ?_; intro hfr; (first | (have hFRb : _ ≤ _ ∧ _ ≤ _ := And.intro hfr.1 hfr.2.1) | (have hFRb : _ ≤ _ := hfr.1) | skip); replace FR := Sm.mk (And.intro hfr FR.out); clear hfr; refine Sm.out ?_)
        | (refine Two.mk ?_ ?_)
        | (refine Cs.mk ?_; intro hcs; first | exact False.elim hcs | (exfalso; omega) | (refine Sm.out ?_))
        | go_step
        | omega
        | (simp only [maxLen_eq]; omega)
        | (refine Or.inr (Rt.mk ?_); refine And.intro ?_ ?_ <;> (intro hg; first | exact absurd hg (by decide) | refine Sm.out ?_))
      rename_i K2 hK2
      have cont : Sm (∀ a' l' o', QOk n s b nb1 (i + 1) a' l' o' → ∀ s', Sub s' ⟨[(10, iv .i64 (i : Int)), (9, pt nb1 0), (7, pt b 0), (2, .sl L.length C), (1, iv .i64 (s : Int)), (0, iv .i64 (n : Int))], QH b nb1 a' l' o'⟩ → K2 s') := Sm.mk fun a' l' o' hQ' s' hs => by
        refine hK2 s' (WP.sub hs ?_)
        clear hK2 hs hK hd hQ
        have pD : (QH b nb1 a' l' o').Perm (dH b a' l' ++ rH nb1 a' o') := List.perm_append_comm (l₁ := rH nb1 a' o')
        have pR : (QH b nb1 a' l' o').Perm (rH nb1 a' o' ++ dH b a' l') := .refl _
        have cK := (dark_d b a' l').lookU pD
        have cE := (deeds_d b a' l').lookU pD
        have cW := (waits_d b a' l').lookU pD
        have cB := (blocks_d b a' l').lookU pD
        have cZ := (size_d b a' l').lookU pD
        have cS := (rseen_d hQ'.A hQ'.o (by omega) hQ'.S).lookU pR
        have eqn := hQ'.n
        have eqs := hQ'.s
        have cRd := fun (j : Int) (h : mayC a'.size a'.n a'.dk j 0 ≠ 0) => (readbad_d b a' l' j h).lookU pD
        have cAll := fun h => (all_ct b a' l' hQ'.A hQ'.l h).lookU pD
        obtain ⟨p, ep, el⟩ := rW_wV a'.W o'
        unfold QH rHd rM at cK cE cW cB cZ cS cRd cAll ⊢
        rw [ep] at cK cE cW cB cZ cS cRd cAll ⊢
        rw [← el] at cW
        have yn : ((a'.n : Int) != (n : Int)) = false := by rw [eqn]; simp
        have ys : ((a'.size : Int) != (s : Int)) = false := by rw [eqs]; simp
        have y1 : ∀ x : Int, (x != x) = false := fun x => by simp
        have y2 : ∀ x : Bool, (x != x) = false := fun x => by simp
        obtain ⟨T, hT⟩ : ∃ T, T = rB a'.size a'.W o' ++ dH b a' l' := ⟨_, rfl⟩
        have eQ : QH b nb1 a' l' o' = (nb1, .cells [iv .i64 (a'.n : Int), iv .i64 (a'.size : Int), stz a'.L.flatten, wV p, iv .i64 a'.f, bv a'.dk, iv .i64 (a'.de : Int)] 7 45) :: T := by unfold QH rHd rM; rw [ep, hT]
        rw [← hT] at cK cE cW cB cZ cS cRd cAll ⊢
        have hQ1 : mayC a'.size a'.n a'.dk n 0 ≠ 0 ∧ mayC a'.size a'.n a'.dk (-1) 0 ≠ 0 := by
          unfold mayC; rw [eqn]; constructor <;> (split <;> simp)
        have FR : Sm (¬ ((1 : Nat) = 0)) := Sm.mk Nat.one_ne_zero
        cases hdk : a'.dk
        · rw [hdk] at cK cRd cAll hQ1 eQ
          have cAll := cAll rfl
          have c1 := cRd n hQ1.1
          have c2 := cRd (-1) hQ1.2
          have m1 : mayC a'.size a'.n false n 0 = 2 := by unfold mayC; rw [if_neg (by simp), if_pos (by omega)]
          have m2 : mayC a'.size a'.n false (-1) 0 = 2 := by unfold mayC; rw [if_neg (by simp), if_pos (by omega)]
          rw [m1] at c1
          rw [m2] at c2
          rw [hdk] at cE cW cB cZ cS
          clear hT
          rcases p with _ | ⟨pb, pn, pc⟩ <;> simp only [wV, wN] at cK cE cW cB cZ cS c1 c2 cAll eQ ⊢
          all_goals (
              first | (have FRx := FR; clear FRx) | (have FR : Sm (¬ ((1 : Nat) = 0)) := Sm.mk Nat.one_ne_zero)
              repeat' first
                | (refine Sm.mk ?_; try simp -dsimp only [ZK, rvc, drawF, headN, pureH, stp, dvc, calleeOf, gcall, pev, eff, newB, okd, og, ogs, ogo, ogp, slv, bltv, opd, litv, strip, one, both, putE, St.put, look, gdOf, gdv, picka, pickv, pickw, binv, bini, bins, binb, binp, binq, isSlT, bina, shp, eqCells, unv, convv, nilv, faddv, addp, idxav, idxp, load1, load1m, loadn, loadnm, loadv, hget, hset, hrep, hdel, slicev, bnd, shift1, lenv, capv, IntKind.bits, extractv, fieldv, indexv, min2v, max2v, mkiv, cellsA, fillA, buildv, stC, oneC, rowMB, intsA, plN, appE, appZ, appC, appNZ, appNC, VwL, srcC, srcZ, srcM, isBoolT, isPtrT, isSliceT, uOk, Value.oneCell', Nat.reducePow, Int.reducePow, Nat.reduceAdd, Nat.reduceMul, Nat.reduceSub, Nat.reduceLT, Nat.reduceLeDiff, Nat.reduceEqDiff, Nat.reduceBEq, Nat.reduceDiv, Nat.reduceMod, ↓reduceIte, reduceCtorEq, Int.reduceToNat, Int.reduceLT, Int.reduceLE, drawNF, drawNF1, drawNTF, nvc, xst, chF, chS, mkV, splitH, calleeV, putE, hdel, TFBlR, SeqQ, BlkQ, LoopQ, BodyQ, y1, y2, yn, ys, bne_ba, List.append_nil, FR.out])
                | (refine CallV.updM (cK) (pmz _) (Sm.out ?_))
                | ((first | refine ExF.up ?_ (cK) (Sm.out ?_) | refine ExG.up ?_ (fun _ => cK) (Sm.out ?_) | refine ExG.upJ ?_ (fun _ => cK) (Sm.out ?_) | refine ExG.upI ?_ (fun _ => cK) (Ob.out ?_) (Sm.out ?_)); focus (exact ⟨_, (pmz _)⟩))
                | (refine CallV.updM (cE) (pmz _) (Sm.out ?_))
                | ((first | refine ExF.up ?_ (cE) (Sm.out ?_) | refine ExG.up ?_ (fun _ => cE) (Sm.out ?_) | refine ExG.upJ ?_ (fun _ => cE) (Sm.out ?_) | refine ExG.upI ?_ (fun _ => cE) (Ob.out ?_) (Sm.out ?_)); focus (exact ⟨_, (pmz _)⟩))
                | (refine CallV.updM (cW) (pmz _) (Sm.out ?_))
                | ((first | refine ExF.up ?_ (cW) (Sm.out ?_) | refine ExG.up ?_ (fun _ => cW) (Sm.out ?_) | refine ExG.upJ ?_ (fun _ => cW) (Sm.out ?_) | refine ExG.upI ?_ (fun _ => cW) (Ob.out ?_) (Sm.out ?_)); focus (exact ⟨_, (pmz _)⟩))
                | (refine CallV.updM (cB) (pmz _) (Sm.out ?_))
                | ((first | refine ExF.up ?_ (cB) (Sm.out ?_) | refine ExG.up ?_ (fun _ => cB) (Sm.out ?_) | refine ExG.upJ ?_ (fun _ => cB) (Sm.out ?_) | refine ExG.upI ?_ (fun _ => cB) (Ob.out ?_) (Sm.out ?_)); focus (exact ⟨_, (pmz _)⟩))
                | (refine CallV.updM (cZ) (pmz _) (Sm.out ?_))
                | ((first | refine ExF.up ?_ (cZ) (Sm.out ?_) | refine ExG.up ?_ (fun _ => cZ) (Sm.out ?_) | refine ExG.upJ ?_ (fun _ => cZ) (Sm.out ?_) | refine ExG.upI ?_ (fun _ => cZ) (Ob.out ?_) (Sm.out ?_)); focus (exact ⟨_, (pmz _)⟩))
                | (refine CallV.updM (c1) (pmz _) (Sm.out ?_))
                | ((first | refine ExF.up ?_ (c1) (Sm.out ?_) | refine ExG.up ?_ (fun _ => c1) (Sm.out ?_) | refine ExG.upJ ?_ (fun _ => c1) (Sm.out ?_) | refine ExG.upI ?_ (fun _ => c1) (Ob.out ?_) (Sm.out ?_)); focus (exact ⟨_, (pmz _)⟩))
                | (refine CallV.updM (c2) (pmz _) (Sm.out ?_))
                | ((first | refine ExF.up ?_ (c2) (Sm.out ?_) | refine ExG.up ?_ (fun _ => c2) (Sm.out ?_) | refine ExG.upJ ?_ (fun _ => c2) (Sm.out ?_) | refine ExG.upI ?_ (fun _ => c2) (Ob.out ?_) (Sm.out ?_)); focus (exact ⟨_, (pmz _)⟩))
                | (refine CallV.updM (cAll) (pmz _) (Sm.out ?_))
                | ((first | refine ExF.up ?_ (cAll) (Sm.out ?_) | refine ExG.up ?_ (fun _ => cAll) (Sm.out ?_) | refine ExG.upJ ?_ (fun _ => cAll) (Sm.out ?_) | refine ExG.upI ?_ (fun _ => cAll) (Ob.out ?_) (Sm.out ?_)); focus (exact ⟨_, (pmz _)⟩))
                | (refine CallV.updM (cS) (pmz _) (Sm.out ?_))
                | ((first | refine ExF.up ?_ (cS) (Sm.out ?_) | refine ExG.up ?_ (fun _ => cS) (Sm.out ?_) | refine ExG.upJ ?_ (fun _ => cS) (Sm.out ?_) | refine ExG.upI ?_ (fun _ => cS) (Ob.out ?_) (Sm.out ?_)); focus (exact ⟨_, (pmz _)⟩))
                | (refine WP.seq fun K hK => ?_)
                | (refine WP.region (rvc_sound _ _ (Sm.out ?_)))
                | (refine WP.drawNT (cs := [5,11]) (k := 12) mixed (by decide +kernel) (by decide +kernel) (by decide +kernel) (by decide +kernel) (Sm.out ?_))
                | (refine WP.drawK rfl mixed (by decide +kernel) (Sm.out ?_))
                | (refine Ob.mk ?_; focus (first | assumption | omega | decide | trivial | (intro hob; simp only [hob, ZF]; done) | (intros; (repeat' refine And.intro ?_ ?_) <;> first | assumption | omega | trivial | decide) | (intros; simp only [ZE] at *; (repeat' refine And.intro ?_ ?_) <;> first | assumption | omega | trivial)))
                | (refine And.intro (Ob.out ?_) ?_)
                | (refine WP.block ?_)
                | (refine WP.cond rfl (fun hc => ?_) (fun hc => ?_) <;> (try simp only [ZC, reduceCtorEq, ZD] at hc) <;> (try (exact absurd hc (by decide))) <;> (try (exfalso; omega)))
                | ((first | refine WP.skip ?_ | refine WP.exit ?_); simp only [SeqQ, BlkQ, LoopQ, BodyQ, ↓reduceIte, Nat.reduceEqDiff, reduceCtorEq, look, true_and])
                | (refine WP.ret (Sm.out ?_))
                | (first | refine ExG.no (Sm.out ?_) | refine Or.inl (ExG.no (Sm.out ?_)) | refine Or.inl (And.intro (fun hg => absurd hg (by decide)) (ExG.no (Sm.out ?_))))
                | (refine Rt.mk ?_; refine And.intro ?_ ?_ <;> (intro hg; first | exact absurd hg (by decide) | refine Sm.out ?_))
                | (refine Nu.mk ?_; first | (fail_if_success (have := nb1)); intro nb1 | (fail_if_success (have := nb2)); intro nb2 | (fail_if_success (have := nb3)); intro nb3 | intro nbz)
                | (refine Fr.mk ?_; intro hfr; (first | (have hFRb : _ ≤ _ ∧ _ ≤ _ := And.intro hfr.1 hfr.2.1) | (have hFRb : _ ≤ _ := hfr.1) | skip); replace FR := Sm.mk (And.intro hfr FR.out); clear hfr; refine Sm.out ?_)
                | (refine Two.mk ?_ ?_)
                | (refine Cs.mk ?_; intro hcs; first | exact False.elim hcs | (exfalso; omega) | (refine Sm.out ?_))
                | go_step
                | omega
                | (simp only [maxLen_eq]; omega)
                | (refine Or.inr (Rt.mk ?_); refine And.intro ?_ ?_ <;> (intro hg; first | exact absurd hg (by decide) | refine Sm.out ?_)))
          all_goals exact ⟨⟨i + 1, a', l', o'⟩, ⟨by simp only; omega, by simp only; omega, hQ'⟩, by simp only; omega, Sub.of_env [] (by rw [eQ]; exact pmz _) (by simp [look, w1])⟩
        · rw [hdk] at cK cRd hQ1 eQ
          have c0 : mayC a'.size a'.n true 0 0 = 12 := rfl
          have c1 := cRd 0 (by rw [c0]; simp)
          rw [c0] at c1
          rw [hdk] at cE cW cB cZ cS
          clear hT
          rcases p with _ | ⟨pb, pn, pc⟩ <;> simp only [wV, wN] at cK cE cW cB cZ cS c1 eQ ⊢
          all_goals (
              first | (have FRx := FR; clear FRx) | (have FR : Sm (¬ ((1 : Nat) = 0)) := Sm.mk Nat.one_ne_zero)
              repeat' first
                | (refine Sm.mk ?_; try simp -dsimp only [ZK, rvc, drawF, headN, pureH, stp, dvc, calleeOf, gcall, pev, eff, newB, okd, og, ogs, ogo, ogp, slv, bltv, opd, litv, strip, one, both, putE, St.put, look, gdOf, gdv, picka, pickv, pickw, binv, bini, bins, binb, binp, binq, isSlT, bina, shp, eqCells, unv, convv, nilv, faddv, addp, idxav, idxp, load1, load1m, loadn, loadnm, loadv, hget, hset, hrep, hdel, slicev, bnd, shift1, lenv, capv, IntKind.bits, extractv, fieldv, indexv, min2v, max2v, mkiv, cellsA, fillA, buildv, stC, oneC, rowMB, intsA, plN, appE, appZ, appC, appNZ, appNC, VwL, srcC, srcZ, srcM, isBoolT, isPtrT, isSliceT, uOk, Value.oneCell', Nat.reducePow, Int.reducePow, Nat.reduceAdd, Nat.reduceMul, Nat.reduceSub, Nat.reduceLT, Nat.reduceLeDiff, Nat.reduceEqDiff, Nat.reduceBEq, Nat.reduceDiv, Nat.reduceMod, ↓reduceIte, reduceCtorEq, Int.reduceToNat, Int.reduceLT, Int.reduceLE, drawNF, drawNF1, drawNTF, nvc, xst, chF, chS, mkV, splitH, calleeV, putE, hdel, TFBlR, SeqQ, BlkQ, LoopQ, BodyQ, y1, y2, yn, ys, List.append_nil, FR.out])
                | (refine CallV.updM (cK) (pmz _) (Sm.out ?_))
                | ((first | refine ExF.up ?_ (cK) (Sm.out ?_) | refine ExG.up ?_ (fun _ => cK) (Sm.out ?_) | refine ExG.upJ ?_ (fun _ => cK) (Sm.out ?_) | refine ExG.upI ?_ (fun _ => cK) (Ob.out ?_) (Sm.out ?_)); focus (exact ⟨_, (pmz _)⟩))
                | (refine CallV.updM (cE) (pmz _) (Sm.out ?_))
                | ((first | refine ExF.up ?_ (cE) (Sm.out ?_) | refine ExG.up ?_ (fun _ => cE) (Sm.out ?_) | refine ExG.upJ ?_ (fun _ => cE) (Sm.out ?_) | refine ExG.upI ?_ (fun _ => cE) (Ob.out ?_) (Sm.out ?_)); focus (exact ⟨_, (pmz _)⟩))
                | (refine CallV.updM (cW) (pmz _) (Sm.out ?_))
                | ((first | refine ExF.up ?_ (cW) (Sm.out ?_) | refine ExG.up ?_ (fun _ => cW) (Sm.out ?_) | refine ExG.upJ ?_ (fun _ => cW) (Sm.out ?_) | refine ExG.upI ?_ (fun _ => cW) (Ob.out ?_) (Sm.out ?_)); focus (exact ⟨_, (pmz _)⟩))
                | (refine CallV.updM (cB) (pmz _) (Sm.out ?_))
                | ((first | refine ExF.up ?_ (cB) (Sm.out ?_) | refine ExG.up ?_ (fun _ => cB) (Sm.out ?_) | refine ExG.upJ ?_ (fun _ => cB) (Sm.out ?_) | refine ExG.upI ?_ (fun _ => cB) (Ob.out ?_) (Sm.out ?_)); focus (exact ⟨_, (pmz _)⟩))
                | (refine CallV.updM (cZ) (pmz _) (Sm.out ?_))
                | ((first | refine ExF.up ?_ (cZ) (Sm.out ?_) | refine ExG.up ?_ (fun _ => cZ) (Sm.out ?_) | refine ExG.upJ ?_ (fun _ => cZ) (Sm.out ?_) | refine ExG.upI ?_ (fun _ => cZ) (Ob.out ?_) (Sm.out ?_)); focus (exact ⟨_, (pmz _)⟩))
                | (refine CallV.updM (c1) (pmz _) (Sm.out ?_))
                | ((first | refine ExF.up ?_ (c1) (Sm.out ?_) | refine ExG.up ?_ (fun _ => c1) (Sm.out ?_) | refine ExG.upJ ?_ (fun _ => c1) (Sm.out ?_) | refine ExG.upI ?_ (fun _ => c1) (Ob.out ?_) (Sm.out ?_)); focus (exact ⟨_, (pmz _)⟩))
                | (refine WP.seq fun K hK => ?_)
                | (refine WP.region (rvc_sound _ _ (Sm.out ?_)))
                | (refine WP.drawNT (cs := [5,11]) (k := 12) mixed (by decide +kernel) (by decide +kernel) (by decide +kernel) (by decide +kernel) (Sm.out ?_))
                | (refine WP.drawK rfl mixed (by decide +kernel) (Sm.out ?_))
                | (refine Ob.mk ?_; focus (first | assumption | omega | decide | trivial | (intro hob; simp only [hob, ZF]; done) | (intros; (repeat' refine And.intro ?_ ?_) <;> first | assumption | omega | trivial | decide) | (intros; simp only [ZE] at *; (repeat' refine And.intro ?_ ?_) <;> first | assumption | omega | trivial)))
                | (refine And.intro (Ob.out ?_) ?_)
                | (refine WP.block ?_)
                | (refine WP.cond rfl (fun hc => ?_) (fun hc => ?_) <;> (try simp only [ZC, reduceCtorEq, ZD] at hc) <;> (try (exact absurd hc (by decide))) <;> (try (exfalso; omega)))
                | ((first | refine WP.skip ?_ | refine WP.exit ?_); simp only [SeqQ, BlkQ, LoopQ, BodyQ, ↓reduceIte, Nat.reduceEqDiff, reduceCtorEq, look, true_and])
                | (refine WP.ret (Sm.out ?_))
                | (first | refine ExG.no (Sm.out ?_) | refine Or.inl (ExG.no (Sm.out ?_)) | refine Or.inl (And.intro (fun hg => absurd hg (by decide)) (ExG.no (Sm.out ?_))))
                | (refine Rt.mk ?_; refine And.intro ?_ ?_ <;> (intro hg; first | exact absurd hg (by decide) | refine Sm.out ?_))
                | (refine Nu.mk ?_; first | (fail_if_success (have := nb1)); intro nb1 | (fail_if_success (have := nb2)); intro nb2 | (fail_if_success (have := nb3)); intro nb3 | intro nbz)
                | (refine Fr.mk ?_; intro hfr; (first | (have hFRb : _ ≤ _ ∧ _ ≤ _ := And.intro hfr.1 hfr.2.1) | (have hFRb : _ ≤ _ := hfr.1) | skip); replace FR := Sm.mk (And.intro hfr FR.out); clear hfr; refine Sm.out ?_)
                | (refine Two.mk ?_ ?_)
                | (refine Cs.mk ?_; intro hcs; first | exact False.elim hcs | (exfalso; omega) | (refine Sm.out ?_))
                | go_step
                | omega
                | (simp only [maxLen_eq]; omega)
                | (refine Or.inr (Rt.mk ?_); refine And.intro ?_ ?_ <;> (intro hg; first | exact absurd hg (by decide) | refine Sm.out ?_)))
          all_goals exact ⟨⟨i + 1, a', l', o'⟩, ⟨by simp only; omega, by simp only; omega, hQ'⟩, by simp only; omega, Sub.of_env [] (by rw [eQ]; exact pmz _) (by simp [look, w1])⟩
      clear hK2
      have hne : nb1 ≠ nb2 ∧ nb2 ≠ nb1 := FR.out.1 (nb1, rHd a o) (List.mem_cons_self ..)
      have y1 : ∀ x : Int, (x != x) = false := fun x => by simp
      have hA := hQ.A
      obtain ⟨X, hX⟩ : ∃ X : Hp, X = [(nb2, .cells [iv .i64 e.kd, iv .i64 e.i, iv .i64 e.k, .slz .u8 e.bs] 4 32)] := ⟨_, rfl⟩
      by_cases h1 : e.kd = 1
      · rw [h1]
        have j1 : ((1 : Int) == 1) = true := by decide
        have cD : ACt Try.prog 13 [pt b 0, iv .i64 e.i, .slz .u8 e.bs] (QH b nb1 a l o) (fun r F' => ∃ q : LS b (wrA a e.i e.bs), r = iv .i64 (wrC a e.i e.bs.length) ∧ F' = QN b nb1 a o (wrA a e.i e.bs) q.1) := liftD (rH nb1 a o) (write_d hA hQ.l (by omega) e.i e.bs)
        have cM : ∀ q, ACt Try.prog 18 [pt nb1 0, iv .i64 e.i, .slz .u8 e.bs] (QN b nb1 a o (wrA a e.i e.bs) q) (fun r F' => ∃ p : RS nb1 (wrA a e.i e.bs), r = iv .i64 (wrC a e.i e.bs.length) ∧ F' = QH b nb1 (wrA a e.i e.bs) q p.1) := fun q => liftR [] (dH b (wrA a e.i e.bs) q) (rwrite_d hA hQ.o (by omega) e.i e.bs)
        have hA' := wrA_ok hA e.i e.bs
        have hn' := wrA_n (a := a) e.i e.bs
        have hS' := hQ.S.write e.i e.bs
        obtain ⟨a', ha'⟩ : ∃ a', a' = wrA a e.i e.bs := ⟨_, rfl⟩
        obtain ⟨c', hc'⟩ : ∃ c', c' = wrC a e.i e.bs.length := ⟨_, rfl⟩
        rw [← ha', ← hc'] at cD
        simp only [← ha', ← hc'] at cM
        rw [← ha'] at hA' hn' hS'
        first | (have FRx := FR; clear FRx) | (have FR : Sm (¬ ((1 : Nat) = 0)) := Sm.mk Nat.one_ne_zero)
        repeat' first
          | (refine Sm.mk ?_; try simp -dsimp only [ZK, rvc, drawF, headN, pureH, stp, dvc, calleeOf, gcall, pev, eff, newB, okd, og, ogs, ogo, ogp, slv, bltv, opd, litv, strip, one, both, putE, St.put, look, gdOf, gdv, picka, pickv, pickw, binv, bini, bins, binb, binp, binq, isSlT, bina, shp, eqCells, unv, convv, nilv, faddv, addp, idxav, idxp, load1, load1m, loadn, loadnm, loadv, hget, hset, hrep, hdel, slicev, bnd, shift1, lenv, capv, IntKind.bits, extractv, fieldv, indexv, min2v, max2v, mkiv, cellsA, fillA, buildv, stC, oneC, rowMB, intsA, plN, appE, appZ, appC, appNZ, appNC, VwL, srcC, srcZ, srcM, isBoolT, isPtrT, isSliceT, uOk, Value.oneCell', Nat.reducePow, Int.reducePow, Nat.reduceAdd, Nat.reduceMul, Nat.reduceSub, Nat.reduceLT, Nat.reduceLeDiff, Nat.reduceEqDiff, Nat.reduceBEq, Nat.reduceDiv, Nat.reduceMod, ↓reduceIte, reduceCtorEq, Int.reduceToNat, Int.reduceLT, Int.reduceLE, drawNF, drawNF1, drawNTF, nvc, xst, chF, chS, mkV, splitH, calleeV, putE, hdel, TFBlR, SeqQ, BlkQ, LoopQ, BodyQ, j1, y1, List.append_nil, FR.out])
          | (refine CallV.exM (cD) (pmz _) (fun g => Sm.out ?_))
          | (refine WCt.exM (cD) (pmz _) (fun g => Sm.out ?_))
          | (refine CallV.exM (cM _) (pmz _) (fun g2 => Sm.out ?_))
          | (refine WCt.exM (cM _) (pmz _) (fun g2 => Sm.out ?_))
          | (refine WP.seq fun K hK => ?_)
          | (refine WP.region (rvc_sound _ _ (Sm.out ?_)))
          | (refine WP.drawNT (cs := [5,11]) (k := 12) mixed (by decide +kernel) (by decide +kernel) (by decide +kernel) (by decide +kernel) (Sm.out ?_))
          | (refine WP.drawK rfl mixed (by decide +kernel) (Sm.out ?_))
          | (refine Ob.mk ?_; focus (first | assumption | omega | decide | trivial | (intro hob; simp only [hob, ZF]; done) | (intros; (repeat' refine And.intro ?_ ?_) <;> first | assumption | omega | trivial | decide) | (intros; simp only [ZE] at *; (repeat' refine And.intro ?_ ?_) <;> first | assumption | omega | trivial)))
          | (refine And.intro (Ob.out ?_) ?_)
          | (refine WP.block ?_)
          | (refine WP.cond rfl (fun hc => ?_) (fun hc => ?_) <;> (try simp only [ZC, reduceCtorEq, ZD] at hc) <;> (try (exact absurd hc (by decide))) <;> (try (exfalso; omega)))
          | ((first | refine WP.skip ?_ | refine WP.exit ?_); simp only [SeqQ, BlkQ, LoopQ, BodyQ, ↓reduceIte, Nat.reduceEqDiff, reduceCtorEq, look, true_and])
          | (refine WP.ret (Sm.out ?_))
          | (first | refine ExG.no (Sm.out ?_) | refine Or.inl (ExG.no (Sm.out ?_)) | refine Or.inl (And.intro (fun hg => absurd hg (by decide)) (ExG.no (Sm.out ?_))))
          | (refine Rt.mk ?_; refine And.intro ?_ ?_ <;> (intro hg; first | exact absurd hg (by decide) | refine Sm.out ?_))
          | (refine Nu.mk ?_; first | (fail_if_success (have := nb1)); intro nb1 | (fail_if_success (have := nb2)); intro nb2 | (fail_if_success (have := nb3)); intro nb3 | intro nbz)
          | (refine Fr.mk ?_; intro hfr; (first | (have hFRb : _ ≤ _ ∧ _ ≤ _ := And.intro hfr.1 hfr.2.1) | (have hFRb : _ ≤ _ := hfr.1) | skip); replace FR := Sm.mk (And.intro hfr FR.out); clear hfr; refine Sm.out ?_)
          | (refine Two.mk ?_ ?_)
          | (refine Cs.mk ?_; intro hcs; first | exact False.elim hcs | (exfalso; omega) | (refine Sm.out ?_))
          | go_step
          | omega
          | (simp only [maxLen_eq]; omega)
          | (refine Or.inr (Rt.mk ?_); refine And.intro ?_ ?_ <;> (intro hg; first | exact absurd hg (by decide) | refine Sm.out ?_))
        exact cont.out a' _ _ ⟨hA', g.2, by rw [ha']; exact g2.2, hS', hn'.1.trans hQ.n, hn'.2.trans hQ.s⟩ _ (Sub.of_env [_] (.refl _) (by simp [look]))
      have j1 : (e.kd == 1) = false := by simpa using h1
      by_cases h2 : e.kd = 2
      · rw [h2] at j1 ⊢
        have j2 : ((2 : Int) == 2) = true := by decide
        have cD : ACt Try.prog 12 [pt b 0] ((nb2, .cells [iv .i64 2, iv .i64 e.i, iv .i64 e.k, .slz .u8 e.bs] 4 32) :: QH b nb1 a l o) (fun r F' => ∃ q : LS b (syA a), r = iv .i64 (syC a) ∧ F' = (nb2, .cells [iv .i64 2, iv .i64 e.i, iv .i64 e.k, .slz .u8 e.bs] 4 32) :: QN b nb1 a o (syA a) q.1) := liftD (_ :: rH nb1 a o) (sync_d hA hQ.l (by omega))
        have cM : ∀ q, ACt Try.prog 19 [pt nb1 0] ((nb2, .cells [iv .i64 2, iv .i64 e.i, iv .i64 e.k, .slz .u8 e.bs] 4 32) :: QN b nb1 a o (syA a) q) (fun r F' => ∃ p : RS nb1 (syA a), r = iv .i64 (syC a) ∧ F' = (nb2, .cells [iv .i64 2, iv .i64 e.i, iv .i64 e.k, .slz .u8 e.bs] 4 32) :: QH b nb1 (syA a) q p.1) := fun q => liftR [_] (dH b (syA a) q) (rsync_d hA hQ.o (by omega) hQ.S)
        have hA' := syA_ok hA
        have hn' := syA_n (a := a)
        have hS' := hQ.S.sync
        obtain ⟨a', ha'⟩ : ∃ a', a' = syA a := ⟨_, rfl⟩
        obtain ⟨c', hc'⟩ : ∃ c', c' = syC a := ⟨_, rfl⟩
        rw [← ha', ← hc'] at cD
        simp only [← ha', ← hc'] at cM
        rw [← ha'] at hA' hn' hS'
        first | (have FRx := FR; clear FRx) | (have FR : Sm (¬ ((1 : Nat) = 0)) := Sm.mk Nat.one_ne_zero)
        repeat' first
          | (refine Sm.mk ?_; try simp -dsimp only [ZK, rvc, drawF, headN, pureH, stp, dvc, calleeOf, gcall, pev, eff, newB, okd, og, ogs, ogo, ogp, slv, bltv, opd, litv, strip, one, both, putE, St.put, look, gdOf, gdv, picka, pickv, pickw, binv, bini, bins, binb, binp, binq, isSlT, bina, shp, eqCells, unv, convv, nilv, faddv, addp, idxav, idxp, load1, load1m, loadn, loadnm, loadv, hget, hset, hrep, hdel, slicev, bnd, shift1, lenv, capv, IntKind.bits, extractv, fieldv, indexv, min2v, max2v, mkiv, cellsA, fillA, buildv, stC, oneC, rowMB, intsA, plN, appE, appZ, appC, appNZ, appNC, VwL, srcC, srcZ, srcM, isBoolT, isPtrT, isSliceT, uOk, Value.oneCell', Nat.reducePow, Int.reducePow, Nat.reduceAdd, Nat.reduceMul, Nat.reduceSub, Nat.reduceLT, Nat.reduceLeDiff, Nat.reduceEqDiff, Nat.reduceBEq, Nat.reduceDiv, Nat.reduceMod, ↓reduceIte, reduceCtorEq, Int.reduceToNat, Int.reduceLT, Int.reduceLE, drawNF, drawNF1, drawNTF, nvc, xst, chF, chS, mkV, splitH, calleeV, putE, hdel, TFBlR, SeqQ, BlkQ, LoopQ, BodyQ, j1, j2, y1, List.append_nil, FR.out])
          | (refine CallV.exM (cD) (pmz _) (fun g => Sm.out ?_))
          | (refine WCt.exM (cD) (pmz _) (fun g => Sm.out ?_))
          | (refine CallV.exM (cM _) (pmz _) (fun g2 => Sm.out ?_))
          | (refine WCt.exM (cM _) (pmz _) (fun g2 => Sm.out ?_))
          | (refine WP.seq fun K hK => ?_)
          | (refine WP.region (rvc_sound _ _ (Sm.out ?_)))
          | (refine WP.drawNT (cs := [5,11]) (k := 12) mixed (by decide +kernel) (by decide +kernel) (by decide +kernel) (by decide +kernel) (Sm.out ?_))
          | (refine WP.drawK rfl mixed (by decide +kernel) (Sm.out ?_))
          | (refine Ob.mk ?_; focus (first | assumption | omega | decide | trivial | (intro hob; simp only [hob, ZF]; done) | (intros; (repeat' refine And.intro ?_ ?_) <;> first | assumption | omega | trivial | decide) | (intros; simp only [ZE] at *; (repeat' refine And.intro ?_ ?_) <;> first | assumption | omega | trivial)))
          | (refine And.intro (Ob.out ?_) ?_)
          | (refine WP.block ?_)
          | (refine WP.cond rfl (fun hc => ?_) (fun hc => ?_) <;> (try simp only [ZC, reduceCtorEq, ZD] at hc) <;> (try (exact absurd hc (by decide))) <;> (try (exfalso; omega)))
          | ((first | refine WP.skip ?_ | refine WP.exit ?_); simp only [SeqQ, BlkQ, LoopQ, BodyQ, ↓reduceIte, Nat.reduceEqDiff, reduceCtorEq, look, true_and])
          | (refine WP.ret (Sm.out ?_))
          | (first | refine ExG.no (Sm.out ?_) | refine Or.inl (ExG.no (Sm.out ?_)) | refine Or.inl (And.intro (fun hg => absurd hg (by decide)) (ExG.no (Sm.out ?_))))
          | (refine Rt.mk ?_; refine And.intro ?_ ?_ <;> (intro hg; first | exact absurd hg (by decide) | refine Sm.out ?_))
          | (refine Nu.mk ?_; first | (fail_if_success (have := nb1)); intro nb1 | (fail_if_success (have := nb2)); intro nb2 | (fail_if_success (have := nb3)); intro nb3 | intro nbz)
          | (refine Fr.mk ?_; intro hfr; (first | (have hFRb : _ ≤ _ ∧ _ ≤ _ := And.intro hfr.1 hfr.2.1) | (have hFRb : _ ≤ _ := hfr.1) | skip); replace FR := Sm.mk (And.intro hfr FR.out); clear hfr; refine Sm.out ?_)
          | (refine Two.mk ?_ ?_)
          | (refine Cs.mk ?_; intro hcs; first | exact False.elim hcs | (exfalso; omega) | (refine Sm.out ?_))
          | go_step
          | omega
          | (simp only [maxLen_eq]; omega)
          | (refine Or.inr (Rt.mk ?_); refine And.intro ?_ ?_ <;> (intro hg; first | exact absurd hg (by decide) | refine Sm.out ?_))
        exact cont.out a' _ _ ⟨hA', g.2, by rw [ha']; exact g2.2, hS', hn'.1.trans hQ.n, hn'.2.trans hQ.s⟩ _ (Sub.of_env [_] (List.perm_append_comm (l₁ := [_])) (by simp [look]))
      have j2 : (e.kd == 2) = false := by simpa using h2
      by_cases h3 : e.kd = 3
      · rw [h3] at j1 j2 ⊢
        have j3 : ((3 : Int) == 3) = true := by decide
        have hA' := (fuA_ok hA e.i (by omega)).up
        have hS' := hQ.S.fuse e.i
        have hl' : LOk b (fuA a e.i) l := ⟨hQ.l.cl, hQ.l.cs, hQ.l.k, hQ.l.nd⟩
        have ho' : ROk nb1 (fuA a e.i) o := ⟨hQ.o.k, hQ.o.nd⟩
        have cF := first_d ((l.bs, .cells (rws a.S) l.cs 30) :: (l.bl, .cells (rws a.L) l.cl 30) :: dB a.W l) (fuse_ct b a.size a.de (ms l.bl 0 a.n l.cl) (ms l.bs 0 a.n l.cs) (dW a.W l) a.f e.i a.dk)
        have cD : ACt Try.prog 9 [pt b 0, iv .i64 e.i] ((nb2, .cells [iv .i64 3, iv .i64 e.i, iv .i64 e.k, .slz .u8 e.bs] 4 32) :: (nb1, .cells [iv .i64 (a.n : Int), iv .i64 (a.size : Int), stz a.L.flatten, rW a.W o, iv .i64 a.f, bv a.dk, iv .i64 (a.de : Int)] 7 45) :: (rB a.size a.W o ++ dH b a l))
            (fun r F' => r = .tup [] ∧ F' = (nb2, .cells [iv .i64 3, iv .i64 e.i, iv .i64 e.k, .slz .u8 e.bs] 4 32) :: (nb1, .cells [iv .i64 (a.n : Int), iv .i64 (a.size : Int), stz a.L.flatten, rW a.W o, iv .i64 a.f, bv a.dk, iv .i64 (a.de : Int)] 7 45) :: (rB a.size a.W o ++ dH b (fuA a e.i) l)) := liftU (_ :: _ :: rB a.size a.W o) (fuse_d b a l e.i)
        have eQ : QH b nb1 (fuA a e.i) l o = (nb1, .cells [iv .i64 (a.n : Int), iv .i64 (a.size : Int), stz a.L.flatten, rW a.W o, iv .i64 (fzN e.i), bv a.dk, iv .i64 (a.de : Int)] 7 45) :: (rB a.size a.W o ++ dH b (fuA a e.i) l) := rfl
        have fin : ∀ x, x = fzN e.i → ∀ s', Sub s' ⟨[(10, iv .i64 (i : Int)), (9, pt nb1 0), (7, pt b 0), (2, .sl L.length C), (1, iv .i64 (s : Int)), (0, iv .i64 (n : Int))], (nb1, .cells [iv .i64 (a.n : Int), iv .i64 (a.size : Int), stz a.L.flatten, rW a.W o, iv .i64 x, bv a.dk, iv .i64 (a.de : Int)] 7 45) :: (rB a.size a.W o ++ dH b (fuA a e.i) l)⟩ → K2 s' := fun x hx s' hs => by
          subst hx
          exact cont.out (fuA a e.i) l o ⟨hA', hl', ho', hS', hQ.n, hQ.s⟩ s' (by rw [eQ]; exact hs)
        obtain ⟨T0, hT0⟩ : ∃ T0, T0 = rB a.size a.W o ++ dH b a l := ⟨_, rfl⟩
        obtain ⟨T1, hT1⟩ : ∃ T1, T1 = rB a.size a.W o ++ dH b (fuA a e.i) l := ⟨_, rfl⟩
        unfold QH rHd rM
        rw [← hT0, ← hT1] at cD
        rw [← hT0]
        rw [← hT1] at fin
        clear eQ cF cont
        first | (have FRx := FR; clear FRx) | (have FR : Sm (¬ ((1 : Nat) = 0)) := Sm.mk Nat.one_ne_zero)
        repeat' first
          | (refine Sm.mk ?_; try simp -dsimp only [ZK, rvc, drawF, headN, pureH, stp, dvc, calleeOf, gcall, pev, eff, newB, okd, og, ogs, ogo, ogp, slv, bltv, opd, litv, strip, one, both, putE, St.put, look, gdOf, gdv, picka, pickv, pickw, binv, bini, bins, binb, binp, binq, isSlT, bina, shp, eqCells, unv, convv, nilv, faddv, addp, idxav, idxp, load1, load1m, loadn, loadnm, loadv, hget, hset, hrep, hdel, slicev, bnd, shift1, lenv, capv, IntKind.bits, extractv, fieldv, indexv, min2v, max2v, mkiv, cellsA, fillA, buildv, stC, oneC, rowMB, intsA, plN, appE, appZ, appC, appNZ, appNC, VwL, srcC, srcZ, srcM, isBoolT, isPtrT, isSliceT, uOk, Value.oneCell', Nat.reducePow, Int.reducePow, Nat.reduceAdd, Nat.reduceMul, Nat.reduceSub, Nat.reduceLT, Nat.reduceLeDiff, Nat.reduceEqDiff, Nat.reduceBEq, Nat.reduceDiv, Nat.reduceMod, ↓reduceIte, reduceCtorEq, Int.reduceToNat, Int.reduceLT, Int.reduceLE, drawNF, drawNF1, drawNTF, nvc, xst, chF, chS, mkV, splitH, calleeV, putE, hdel, TFBlR, SeqQ, BlkQ, LoopQ, BodyQ, j1, j2, j3, hne, List.append_nil, FR.out])
          | (refine CallV.updM (cD) (pmz _) (Sm.out ?_))
          | (refine WP.seq fun K hK => ?_)
          | (refine WP.region (rvc_sound _ _ (Sm.out ?_)))
          | (refine WP.drawNT (cs := [5,11]) (k := 12) mixed (by decide +kernel) (by decide +kernel) (by decide +kernel) (by decide +kernel) (Sm.out ?_))
          | (refine WP.drawK rfl mixed (by decide +kernel) (Sm.out ?_))
          | (refine Ob.mk ?_; focus (first | assumption | omega | decide | trivial | (intro hob; simp only [hob, ZF]; done) | (intros; (repeat' refine And.intro ?_ ?_) <;> first | assumption | omega | trivial | decide) | (intros; simp only [ZE] at *; (repeat' refine And.intro ?_ ?_) <;> first | assumption | omega | trivial)))
          | (refine And.intro (Ob.out ?_) ?_)
          | (refine WP.block ?_)
          | (refine WP.cond rfl (fun hc => ?_) (fun hc => ?_) <;> (try simp only [ZC, reduceCtorEq, ZD] at hc) <;> (try (exact absurd hc (by decide))) <;> (try (exfalso; omega)))
          | ((first | refine WP.skip ?_ | refine WP.exit ?_); simp only [SeqQ, BlkQ, LoopQ, BodyQ, ↓reduceIte, Nat.reduceEqDiff, reduceCtorEq, look, true_and])
          | (refine WP.ret (Sm.out ?_))
          | (first | refine ExG.no (Sm.out ?_) | refine Or.inl (ExG.no (Sm.out ?_)) | refine Or.inl (And.intro (fun hg => absurd hg (by decide)) (ExG.no (Sm.out ?_))))
          | (refine Rt.mk ?_; refine And.intro ?_ ?_ <;> (intro hg; first | exact absurd hg (by decide) | refine Sm.out ?_))
          | (refine Nu.mk ?_; first | (fail_if_success (have := nb1)); intro nb1 | (fail_if_success (have := nb2)); intro nb2 | (fail_if_success (have := nb3)); intro nb3 | intro nbz)
          | (refine Fr.mk ?_; intro hfr; (first | (have hFRb : _ ≤ _ ∧ _ ≤ _ := And.intro hfr.1 hfr.2.1) | (have hFRb : _ ≤ _ := hfr.1) | skip); replace FR := Sm.mk (And.intro hfr FR.out); clear hfr; refine Sm.out ?_)
          | (refine Two.mk ?_ ?_)
          | (refine Cs.mk ?_; intro hcs; first | exact False.elim hcs | (exfalso; omega) | (refine Sm.out ?_))
          | go_step
          | omega
          | (simp only [maxLen_eq]; omega)
          | (refine Or.inr (Rt.mk ?_); refine And.intro ?_ ?_ <;> (intro hg; first | exact absurd hg (by decide) | refine Sm.out ?_))
        · exact fin (-1) (by unfold fzN; split <;> omega) _ (Sub.of_env [_] (List.perm_append_comm (l₁ := [_])) (by simp [look]))
        · exact fin e.i (by unfold fzN; split <;> omega) _ (Sub.of_env [_] (List.perm_append_comm (l₁ := [_])) (by simp [look]))
      have j3 : (e.kd == 3) = false := by simpa using h3
      by_cases h4 : e.kd = 4
      · rw [h4] at j1 j2 j3 ⊢
        have j4 : ((4 : Int) == 4) = true := by decide
        have cD : ACt Try.prog 14 [pt b 0, iv .i64 e.i, iv .i64 e.k] ((nb2, .cells [iv .i64 4, iv .i64 e.i, iv .i64 e.k, .slz .u8 e.bs] 4 32) :: QH b nb1 a l o) (fun r F' => ∃ q : LS b (crA a e.i e.k), r = .tup [] ∧ F' = (nb2, .cells [iv .i64 4, iv .i64 e.i, iv .i64 e.k, .slz .u8 e.bs] 4 32) :: QN b nb1 a o (crA a e.i e.k) q.1) := liftD (_ :: rH nb1 a o) (crash_d hA hQ.l (by omega) e.i e.k)
        have cM : ∀ q, ACt Try.prog 20 [pt nb1 0, iv .i64 e.i, iv .i64 e.k] ((nb2, .cells [iv .i64 4, iv .i64 e.i, iv .i64 e.k, .slz .u8 e.bs] 4 32) :: QN b nb1 a o (crA a e.i e.k) q) (fun r F' => ∃ p : RS nb1 (crA a e.i e.k), r = .tup [] ∧ F' = (nb2, .cells [iv .i64 4, iv .i64 e.i, iv .i64 e.k, .slz .u8 e.bs] 4 32) :: QH b nb1 (crA a e.i e.k) q p.1) := fun q => liftR [_] (dH b (crA a e.i e.k) q) (rcrash_d hA hQ.o (by omega) e.i e.k)
        have hA' := (crA_ok hA e.i e.k).up
        have hS' := SI.crash (a := a) e.i e.k
        have hn' : (crA a e.i e.k).n = a.n ∧ (crA a e.i e.k).size = a.size := ⟨rfl, rfl⟩
        obtain ⟨a', ha'⟩ : ∃ a', a' = crA a e.i e.k := ⟨_, rfl⟩
        rw [← ha'] at cD
        simp only [← ha'] at cM
        rw [← ha'] at hA' hn' hS'
        first | (have FRx := FR; clear FRx) | (have FR : Sm (¬ ((1 : Nat) = 0)) := Sm.mk Nat.one_ne_zero)
        repeat' first
          | (refine Sm.mk ?_; try simp -dsimp only [ZK, rvc, drawF, headN, pureH, stp, dvc, calleeOf, gcall, pev, eff, newB, okd, og, ogs, ogo, ogp, slv, bltv, opd, litv, strip, one, both, putE, St.put, look, gdOf, gdv, picka, pickv, pickw, binv, bini, bins, binb, binp, binq, isSlT, bina, shp, eqCells, unv, convv, nilv, faddv, addp, idxav, idxp, load1, load1m, loadn, loadnm, loadv, hget, hset, hrep, hdel, slicev, bnd, shift1, lenv, capv, IntKind.bits, extractv, fieldv, indexv, min2v, max2v, mkiv, cellsA, fillA, buildv, stC, oneC, rowMB, intsA, plN, appE, appZ, appC, appNZ, appNC, VwL, srcC, srcZ, srcM, isBoolT, isPtrT, isSliceT, uOk, Value.oneCell', Nat.reducePow, Int.reducePow, Nat.reduceAdd, Nat.reduceMul, Nat.reduceSub, Nat.reduceLT, Nat.reduceLeDiff, Nat.reduceEqDiff, Nat.reduceBEq, Nat.reduceDiv, Nat.reduceMod, ↓reduceIte, reduceCtorEq, Int.reduceToNat, Int.reduceLT, Int.reduceLE, drawNF, drawNF1, drawNTF, nvc, xst, chF, chS, mkV, splitH, calleeV, putE, hdel, TFBlR, SeqQ, BlkQ, LoopQ, BodyQ, j1, j2, j3, j4, List.append_nil, FR.out])
          | (refine CallV.exM (cD) (pmz _) (fun g => Sm.out ?_))
          | (refine WCt.exM (cD) (pmz _) (fun g => Sm.out ?_))
          | (refine CallV.exM (cM _) (pmz _) (fun g2 => Sm.out ?_))
          | (refine WCt.exM (cM _) (pmz _) (fun g2 => Sm.out ?_))
          | (refine WP.seq fun K hK => ?_)
          | (refine WP.region (rvc_sound _ _ (Sm.out ?_)))
          | (refine WP.drawNT (cs := [5,11]) (k := 12) mixed (by decide +kernel) (by decide +kernel) (by decide +kernel) (by decide +kernel) (Sm.out ?_))
          | (refine WP.drawK rfl mixed (by decide +kernel) (Sm.out ?_))
          | (refine Ob.mk ?_; focus (first | assumption | omega | decide | trivial | (intro hob; simp only [hob, ZF]; done) | (intros; (repeat' refine And.intro ?_ ?_) <;> first | assumption | omega | trivial | decide) | (intros; simp only [ZE] at *; (repeat' refine And.intro ?_ ?_) <;> first | assumption | omega | trivial)))
          | (refine And.intro (Ob.out ?_) ?_)
          | (refine WP.block ?_)
          | (refine WP.cond rfl (fun hc => ?_) (fun hc => ?_) <;> (try simp only [ZC, reduceCtorEq, ZD] at hc) <;> (try (exact absurd hc (by decide))) <;> (try (exfalso; omega)))
          | ((first | refine WP.skip ?_ | refine WP.exit ?_); simp only [SeqQ, BlkQ, LoopQ, BodyQ, ↓reduceIte, Nat.reduceEqDiff, reduceCtorEq, look, true_and])
          | (refine WP.ret (Sm.out ?_))
          | (first | refine ExG.no (Sm.out ?_) | refine Or.inl (ExG.no (Sm.out ?_)) | refine Or.inl (And.intro (fun hg => absurd hg (by decide)) (ExG.no (Sm.out ?_))))
          | (refine Rt.mk ?_; refine And.intro ?_ ?_ <;> (intro hg; first | exact absurd hg (by decide) | refine Sm.out ?_))
          | (refine Nu.mk ?_; first | (fail_if_success (have := nb1)); intro nb1 | (fail_if_success (have := nb2)); intro nb2 | (fail_if_success (have := nb3)); intro nb3 | intro nbz)
          | (refine Fr.mk ?_; intro hfr; (first | (have hFRb : _ ≤ _ ∧ _ ≤ _ := And.intro hfr.1 hfr.2.1) | (have hFRb : _ ≤ _ := hfr.1) | skip); replace FR := Sm.mk (And.intro hfr FR.out); clear hfr; refine Sm.out ?_)
          | (refine Two.mk ?_ ?_)
          | (refine Cs.mk ?_; intro hcs; first | exact False.elim hcs | (exfalso; omega) | (refine Sm.out ?_))
          | go_step
          | omega
          | (simp only [maxLen_eq]; omega)
          | (refine Or.inr (Rt.mk ?_); refine And.intro ?_ ?_ <;> (intro hg; first | exact absurd hg (by decide) | refine Sm.out ?_))
        exact cont.out a' _ _ ⟨hA', g.2, by rw [ha']; exact g2.2, hS', hn'.1.trans hQ.n, hn'.2.trans hQ.s⟩ _ (Sub.of_env [_] (List.perm_append_comm (l₁ := [_])) (by simp [look]))
      have j4 : (e.kd == 4) = false := by simpa using h4
      first | (have FRx := FR; clear FRx) | (have FR : Sm (¬ ((1 : Nat) = 0)) := Sm.mk Nat.one_ne_zero)
      repeat' first
        | (refine Sm.mk ?_; try simp -dsimp only [ZK, rvc, drawF, headN, pureH, stp, dvc, calleeOf, gcall, pev, eff, newB, okd, og, ogs, ogo, ogp, slv, bltv, opd, litv, strip, one, both, putE, St.put, look, gdOf, gdv, picka, pickv, pickw, binv, bini, bins, binb, binp, binq, isSlT, bina, shp, eqCells, unv, convv, nilv, faddv, addp, idxav, idxp, load1, load1m, loadn, loadnm, loadv, hget, hset, hrep, hdel, slicev, bnd, shift1, lenv, capv, IntKind.bits, extractv, fieldv, indexv, min2v, max2v, mkiv, cellsA, fillA, buildv, stC, oneC, rowMB, intsA, plN, appE, appZ, appC, appNZ, appNC, VwL, srcC, srcZ, srcM, isBoolT, isPtrT, isSliceT, uOk, Value.oneCell', Nat.reducePow, Int.reducePow, Nat.reduceAdd, Nat.reduceMul, Nat.reduceSub, Nat.reduceLT, Nat.reduceLeDiff, Nat.reduceEqDiff, Nat.reduceBEq, Nat.reduceDiv, Nat.reduceMod, ↓reduceIte, reduceCtorEq, Int.reduceToNat, Int.reduceLT, Int.reduceLE, drawNF, drawNF1, drawNTF, nvc, xst, chF, chS, mkV, splitH, calleeV, putE, hdel, TFBlR, SeqQ, BlkQ, LoopQ, BodyQ, j1, j2, j3, j4, FR.out])
        | (refine WP.seq fun K hK => ?_)
        | (refine WP.region (rvc_sound _ _ (Sm.out ?_)))
        | (refine WP.drawNT (cs := [5,11]) (k := 12) mixed (by decide +kernel) (by decide +kernel) (by decide +kernel) (by decide +kernel) (Sm.out ?_))
        | (refine WP.drawK rfl mixed (by decide +kernel) (Sm.out ?_))
        | (refine Ob.mk ?_; focus (first | assumption | omega | decide | trivial | (intro hob; simp only [hob, ZF]; done) | (intros; (repeat' refine And.intro ?_ ?_) <;> first | assumption | omega | trivial | decide) | (intros; simp only [ZE] at *; (repeat' refine And.intro ?_ ?_) <;> first | assumption | omega | trivial)))
        | (refine And.intro (Ob.out ?_) ?_)
        | (refine WP.block ?_)
        | (refine WP.cond rfl (fun hc => ?_) (fun hc => ?_) <;> (try simp only [ZC, reduceCtorEq, ZD] at hc) <;> (try (exact absurd hc (by decide))) <;> (try (exfalso; omega)))
        | ((first | refine WP.skip ?_ | refine WP.exit ?_); simp only [SeqQ, BlkQ, LoopQ, BodyQ, ↓reduceIte, Nat.reduceEqDiff, reduceCtorEq, look, true_and])
        | (refine WP.ret (Sm.out ?_))
        | (first | refine ExG.no (Sm.out ?_) | refine Or.inl (ExG.no (Sm.out ?_)) | refine Or.inl (And.intro (fun hg => absurd hg (by decide)) (ExG.no (Sm.out ?_))))
        | (refine Rt.mk ?_; refine And.intro ?_ ?_ <;> (intro hg; first | exact absurd hg (by decide) | refine Sm.out ?_))
        | (refine Nu.mk ?_; first | (fail_if_success (have := nb1)); intro nb1 | (fail_if_success (have := nb2)); intro nb2 | (fail_if_success (have := nb3)); intro nb3 | intro nbz)
        | (refine Fr.mk ?_; intro hfr; (first | (have hFRb : _ ≤ _ ∧ _ ≤ _ := And.intro hfr.1 hfr.2.1) | (have hFRb : _ ≤ _ := hfr.1) | skip); replace FR := Sm.mk (And.intro hfr FR.out); clear hfr; refine Sm.out ?_)
        | (refine Two.mk ?_ ?_)
        | (refine Cs.mk ?_; intro hcs; first | exact False.elim hcs | (exfalso; omega) | (refine Sm.out ?_))
        | go_step
        | omega
        | (simp only [maxLen_eq]; omega)
        | (refine Or.inr (Rt.mk ?_); refine And.intro ?_ ?_ <;> (intro hg; first | exact absurd hg (by decide) | refine Sm.out ?_))
      exact cont.out a l o ⟨hQ.A.up, hQ.l, hQ.o, hQ.S, hQ.n, hQ.s⟩ _ (Sub.of_env [_] (List.perm_append_comm (l₁ := [_])) (by simp [look]))
    · have k2 : decide ((i : Int) < 100) = false := by simp; omega
      first | (have FRx := FR; clear FRx) | (have FR : Sm (¬ ((1 : Nat) = 0)) := Sm.mk Nat.one_ne_zero)
      repeat' first
        | (refine Sm.mk ?_; try simp -dsimp only [ZK, rvc, drawF, headN, pureH, stp, dvc, calleeOf, gcall, pev, eff, newB, okd, og, ogs, ogo, ogp, slv, bltv, opd, litv, strip, one, both, putE, St.put, look, gdOf, gdv, picka, pickv, pickw, binv, bini, bins, binb, binp, binq, isSlT, bina, shp, eqCells, unv, convv, nilv, faddv, addp, idxav, idxp, load1, load1m, loadn, loadnm, loadv, hget, hset, hrep, hdel, slicev, bnd, shift1, lenv, capv, IntKind.bits, extractv, fieldv, indexv, min2v, max2v, mkiv, cellsA, fillA, buildv, stC, oneC, rowMB, intsA, plN, appE, appZ, appC, appNZ, appNC, VwL, srcC, srcZ, srcM, isBoolT, isPtrT, isSliceT, uOk, Value.oneCell', Nat.reducePow, Int.reducePow, Nat.reduceAdd, Nat.reduceMul, Nat.reduceSub, Nat.reduceLT, Nat.reduceLeDiff, Nat.reduceEqDiff, Nat.reduceBEq, Nat.reduceDiv, Nat.reduceMod, ↓reduceIte, reduceCtorEq, Int.reduceToNat, Int.reduceLT, Int.reduceLE, drawNF, drawNF1, drawNTF, nvc, xst, chF, chS, mkV, splitH, calleeV, putE, hdel, TFBlR, SeqQ, BlkQ, LoopQ, BodyQ, k1, k2, FR.out])
        | (refine WP.seq fun K hK => ?_)
        | (refine WP.region (rvc_sound _ _ (Sm.out ?_)))
        | (refine WP.drawNT (cs := [5,11]) (k := 12) mixed (by decide +kernel) (by decide +kernel) (by decide +kernel) (by decide +kernel) (Sm.out ?_))
        | (refine WP.drawK rfl mixed (by decide +kernel) (Sm.out ?_))
        | (refine Ob.mk ?_; focus (first | assumption | omega | decide | trivial | (intro hob; simp only [hob, ZF]; done) | (intros; (repeat' refine And.intro ?_ ?_) <;> first | assumption | omega | trivial | decide) | (intros; simp only [ZE] at *; (repeat' refine And.intro ?_ ?_) <;> first | assumption | omega | trivial)))
        | (refine And.intro (Ob.out ?_) ?_)
        | (refine WP.block ?_)
        | (refine WP.cond rfl (fun hc => ?_) (fun hc => ?_) <;> (try simp only [ZC, reduceCtorEq, ZD] at hc) <;> (try (exact absurd hc (by decide))) <;> (try (exfalso; omega)))
        | ((first | refine WP.skip ?_ | refine WP.exit ?_); simp only [SeqQ, BlkQ, LoopQ, BodyQ, ↓reduceIte, Nat.reduceEqDiff, reduceCtorEq, look, true_and])
        | (refine WP.ret (Sm.out ?_))
        | (first | refine ExG.no (Sm.out ?_) | refine Or.inl (ExG.no (Sm.out ?_)) | refine Or.inl (And.intro (fun hg => absurd hg (by decide)) (ExG.no (Sm.out ?_))))
        | (refine Rt.mk ?_; refine And.intro ?_ ?_ <;> (intro hg; first | exact absurd hg (by decide) | refine Sm.out ?_))
        | (refine Nu.mk ?_; first | (fail_if_success (have := nb1)); intro nb1 | (fail_if_success (have := nb2)); intro nb2 | (fail_if_success (have := nb3)); intro nb3 | intro nbz)
        | (refine Fr.mk ?_; intro hfr; (first | (have hFRb : _ ≤ _ ∧ _ ≤ _ := And.intro hfr.1 hfr.2.1) | (have hFRb : _ ≤ _ := hfr.1) | skip); replace FR := Sm.mk (And.intro hfr FR.out); clear hfr; refine Sm.out ?_)
        | (refine Two.mk ?_ ?_)
        | (refine Cs.mk ?_; intro hcs; first | exact False.elim hcs | (exfalso; omega) | (refine Sm.out ?_))
        | (refine OutQ.all ?_ ?_; (focus (simp only [resv, ZK, look, loadv, loadn, loadnm, load1, load1m, hget, ↓reduceIte, Nat.reduceEqDiff, Nat.reduceAdd, Nat.reduceMul, Nat.reduceLeDiff, Nat.reduceLT, reduceCtorEq, TFBlR, k1, k2, FR.out])); (try simp only [resv, resA, Fn, ZK, look, loadv, loadn, loadnm, load1, load1m, hget, ↓reduceIte, Nat.reduceEqDiff, Nat.reduceAdd, Nat.reduceMul, Nat.reduceLeDiff, Nat.reduceLT, reduceCtorEq, TFBlR, k1, k2, FR.out]); (try simp [resA, Fn, look, k1, k2, FR.out]); done)
        | go_step
        | omega
        | (simp only [maxLen_eq]; omega)
        | (refine Or.inr (Rt.mk ?_); refine And.intro ?_ ?_ <;> (intro hg; first | exact absurd hg (by decide) | refine Sm.out ?_))
  · have k1 : decide ((i : Int) < (L.length : Int)) = false := by simp; omega
    first | (have FRx := FR; clear FRx) | (have FR : Sm (¬ ((1 : Nat) = 0)) := Sm.mk Nat.one_ne_zero)
    repeat' first
      | (refine Sm.mk ?_; try simp -dsimp only [ZK, rvc, drawF, headN, pureH, stp, dvc, calleeOf, gcall, pev, eff, newB, okd, og, ogs, ogo, ogp, slv, bltv, opd, litv, strip, one, both, putE, St.put, look, gdOf, gdv, picka, pickv, pickw, binv, bini, bins, binb, binp, binq, isSlT, bina, shp, eqCells, unv, convv, nilv, faddv, addp, idxav, idxp, load1, load1m, loadn, loadnm, loadv, hget, hset, hrep, hdel, slicev, bnd, shift1, lenv, capv, IntKind.bits, extractv, fieldv, indexv, min2v, max2v, mkiv, cellsA, fillA, buildv, stC, oneC, rowMB, intsA, plN, appE, appZ, appC, appNZ, appNC, VwL, srcC, srcZ, srcM, isBoolT, isPtrT, isSliceT, uOk, Value.oneCell', Nat.reducePow, Int.reducePow, Nat.reduceAdd, Nat.reduceMul, Nat.reduceSub, Nat.reduceLT, Nat.reduceLeDiff, Nat.reduceEqDiff, Nat.reduceBEq, Nat.reduceDiv, Nat.reduceMod, ↓reduceIte, reduceCtorEq, Int.reduceToNat, Int.reduceLT, Int.reduceLE, drawNF, drawNF1, drawNTF, nvc, xst, chF, chS, mkV, splitH, calleeV, putE, hdel, TFBlR, SeqQ, BlkQ, LoopQ, BodyQ, k1, FR.out])
      | (refine WP.seq fun K hK => ?_)
      | (refine WP.region (rvc_sound _ _ (Sm.out ?_)))
      | (refine WP.drawNT (cs := [5,11]) (k := 12) mixed (by decide +kernel) (by decide +kernel) (by decide +kernel) (by decide +kernel) (Sm.out ?_))
      | (refine WP.drawK rfl mixed (by decide +kernel) (Sm.out ?_))
      | (refine Ob.mk ?_; focus (first | assumption | omega | decide | trivial | (intro hob; simp only [hob, ZF]; done) | (intros; (repeat' refine And.intro ?_ ?_) <;> first | assumption | omega | trivial | decide) | (intros; simp only [ZE] at *; (repeat' refine And.intro ?_ ?_) <;> first | assumption | omega | trivial)))
      | (refine And.intro (Ob.out ?_) ?_)
      | (refine WP.block ?_)
      | (refine WP.cond rfl (fun hc => ?_) (fun hc => ?_) <;> (try simp only [ZC, reduceCtorEq, ZD] at hc) <;> (try (exact absurd hc (by decide))) <;> (try (exfalso; omega)))
      | ((first | refine WP.skip ?_ | refine WP.exit ?_); simp only [SeqQ, BlkQ, LoopQ, BodyQ, ↓reduceIte, Nat.reduceEqDiff, reduceCtorEq, look, true_and])
      | (refine WP.ret (Sm.out ?_))
      | (first | refine ExG.no (Sm.out ?_) | refine Or.inl (ExG.no (Sm.out ?_)) | refine Or.inl (And.intro (fun hg => absurd hg (by decide)) (ExG.no (Sm.out ?_))))
      | (refine Rt.mk ?_; refine And.intro ?_ ?_ <;> (intro hg; first | exact absurd hg (by decide) | refine Sm.out ?_))
      | (refine Nu.mk ?_; first | (fail_if_success (have := nb1)); intro nb1 | (fail_if_success (have := nb2)); intro nb2 | (fail_if_success (have := nb3)); intro nb3 | intro nbz)
      | (refine Fr.mk ?_; intro hfr; (first | (have hFRb : _ ≤ _ ∧ _ ≤ _ := And.intro hfr.1 hfr.2.1) | (have hFRb : _ ≤ _ := hfr.1) | skip); replace FR := Sm.mk (And.intro hfr FR.out); clear hfr; refine Sm.out ?_)
      | (refine Two.mk ?_ ?_)
      | (refine Cs.mk ?_; intro hcs; first | exact False.elim hcs | (exfalso; omega) | (refine Sm.out ?_))
      | (refine OutQ.all ?_ ?_; (focus (simp only [resv, ZK, look, loadv, loadn, loadnm, load1, load1m, hget, ↓reduceIte, Nat.reduceEqDiff, Nat.reduceAdd, Nat.reduceMul, Nat.reduceLeDiff, Nat.reduceLT, reduceCtorEq, TFBlR, k1, FR.out])); (try simp only [resv, resA, Fn, ZK, look, loadv, loadn, loadnm, load1, load1m, hget, ↓reduceIte, Nat.reduceEqDiff, Nat.reduceAdd, Nat.reduceMul, Nat.reduceLeDiff, Nat.reduceLT, reduceCtorEq, TFBlR, k1, FR.out]); (try simp [resA, Fn, look, k1, FR.out]); done)
      | go_step
      | omega
      | (simp only [maxLen_eq]; omega)
      | (refine Or.inr (Rt.mk ?_); refine And.intro ?_ ?_ <;> (intro hg; first | exact absurd hg (by decide) | refine Sm.out ?_))
theorem plays_law (B Z : Int) (hB : -9223372036854775808 ≤ B ∧ B ≤ 9223372036854775807) (hZ : -9223372036854775808 ≤ Z ∧ Z ≤ 9223372036854775807) {y : AV} (hy : Shp (.sl acTy) [y]) : ACt Try.prog 5 [iv .i64 B, iv .i64 Z, y] [] (fun r _ => r = bv true) := by
  simp only [Shp] at hy
  obtain ⟨rows, e, hr⟩ := hy
  obtain rfl : y = _ := (List.cons.inj e).1
  obtain ⟨L, l1, l2, l3⟩ := ac_rows rows hr
  rw [← l1, l2]
  exact plays_ct B Z L hB hZ l3
end Go.Proofs.Ytnhkohgamnchlaa
