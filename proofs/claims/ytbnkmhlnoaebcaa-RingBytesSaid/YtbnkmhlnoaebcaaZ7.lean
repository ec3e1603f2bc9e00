/-
  The walks and the laws that the statement leans on, part 7.
-/
import Derived.Test.YtbnkmhlnoaebcaaZ6
namespace Go.Proofs.Ytbnkmhlnoaebcaa
open Go
set_option linter.unusedVariables false
set_option linter.unusedSimpArgs false
theorem TFRgG : ((((((type_of% tyc0) ∧ ((type_of% tyc2) ∧ (type_of% zmb2))) ∧ ((type_of% tyc3) ∧ ((type_of% zmb3) ∧ (type_of% tyc4)))) ∧ (((type_of% zmb4) ∧ ((type_of% tyc35) ∧ (type_of% zmb35))) ∧ (((type_of% tyc36) ∧ (type_of% elt36)) ∧ ((type_of% mkz36) ∧ (type_of% mkc36))))) ∧ ((((type_of% apT36) ∧ ((type_of% elk36) ∧ (type_of% zmb36))) ∧ (((type_of% tyc38) ∧ (type_of% foff38_0)) ∧ ((type_of% fpart38_0) ∧ (type_of% foff38_1)))) ∧ (((type_of% fpart38_1) ∧ ((type_of% foff38_2) ∧ (type_of% fpart38_2))) ∧ (((type_of% foff38_3) ∧ (type_of% fpart38_3)) ∧ ((type_of% zmb38) ∧ (type_of% bldT38)))))) ∧ (((((type_of% tyc41) ∧ ((type_of% zmb41) ∧ (type_of% tyc43))) ∧ ((type_of% foff43_0) ∧ ((type_of% fpart43_0) ∧ (type_of% foff43_1)))) ∧ (((type_of% fpart43_1) ∧ ((type_of% fe43) ∧ (type_of% zmb43))) ∧ (((type_of% bldT43) ∧ (type_of% tyc70)) ∧ ((type_of% foff70_0) ∧ (type_of% fpart70_0))))) ∧ ((((type_of% foff70_1) ∧ ((type_of% fpart70_1) ∧ (type_of% zmb70))) ∧ (((type_of% bldT70) ∧ (type_of% Try.underlying0)) ∧ ((type_of% Try.underlying2) ∧ (type_of% Try.underlying3)))) ∧ (((type_of% Try.underlying4) ∧ ((type_of% Try.underlying35) ∧ (type_of% Try.underlying36))) ∧ (((type_of% Try.underlying38) ∧ (type_of% Try.underlying41)) ∧ ((type_of% Try.underlying43) ∧ (type_of% Try.underlying70))))))) :=
  ⟨⟨⟨⟨⟨tyc0, ⟨tyc2, zmb2⟩⟩, ⟨tyc3, ⟨zmb3, tyc4⟩⟩⟩, ⟨⟨zmb4, ⟨tyc35, zmb35⟩⟩, ⟨⟨tyc36, elt36⟩, ⟨mkz36, mkc36⟩⟩⟩⟩, ⟨⟨⟨apT36, ⟨elk36, zmb36⟩⟩, ⟨⟨tyc38, foff38_0⟩, ⟨fpart38_0, foff38_1⟩⟩⟩, ⟨⟨fpart38_1, ⟨foff38_2, fpart38_2⟩⟩, ⟨⟨foff38_3, fpart38_3⟩, ⟨zmb38, bldT38⟩⟩⟩⟩⟩, ⟨⟨⟨⟨tyc41, ⟨zmb41, tyc43⟩⟩, ⟨foff43_0, ⟨fpart43_0, foff43_1⟩⟩⟩, ⟨⟨fpart43_1, ⟨fe43, zmb43⟩⟩, ⟨⟨bldT43, tyc70⟩, ⟨foff70_0, fpart70_0⟩⟩⟩⟩, ⟨⟨⟨foff70_1, ⟨fpart70_1, zmb70⟩⟩, ⟨⟨bldT70, Try.underlying0⟩, ⟨Try.underlying2, Try.underlying3⟩⟩⟩, ⟨⟨Try.underlying4, ⟨Try.underlying35, Try.underlying36⟩⟩, ⟨⟨Try.underlying38, Try.underlying41⟩, ⟨Try.underlying43, Try.underlying70⟩⟩⟩⟩⟩⟩
structure Ev where
  at_ : Nat
  g : Nat
  t : Nat
def evC : List Ev → List AV
  | [] => []
  | e :: r => iv .i64 e.at_ :: nu e.g :: nu e.t :: evC r
theorem evC_len : ∀ l, (evC l).length = l.length * 3
  | [] => rfl
  | e :: r => by simp [evC, evC_len r]; omega
theorem evC_app : ∀ l m, evC (l ++ m) = evC l ++ evC m
  | [], m => rfl
  | e :: r, m => by simp [evC, evC_app r m]
theorem evC_drop : ∀ (l : List Ev) (i : Nat) (h : i < l.length), (evC l).drop (i * 3) = iv .i64 l[i].at_ :: nu l[i].g :: nu l[i].t :: evC (l.drop (i + 1))
  | e :: r, 0, _ => rfl
  | e :: r, i + 1, h => by
    have := evC_drop r i (by simpa using h)
    rw [show (i + 1) * 3 = i * 3 + 1 + 1 + 1 by omega]
    simpa [evC] using this
/-- the sums of the events that p picks -/
def sG (p : Nat → Bool) : List Ev → Nat
  | [] => 0
  | e :: r => (if p e.at_ then e.g else 0) + sG p r
def sT (p : Nat → Bool) : List Ev → Nat
  | [] => 0
  | e :: r => (if p e.at_ then e.t else 0) + sT p r
theorem sG_app (p : Nat → Bool) : ∀ l m, sG p (l ++ m) = sG p l + sG p m
  | [], m => by simp [sG]
  | e :: r, m => by simp [sG, sG_app p r m]; omega
theorem sT_app (p : Nat → Bool) : ∀ l m, sT p (l ++ m) = sT p l + sT p m
  | [], m => by simp [sT]
  | e :: r, m => by simp [sT, sT_app p r m]; omega
theorem sG_take (p : Nat → Bool) (l : List Ev) (i : Nat) (h : i < l.length) : sG p (l.take (i + 1)) = sG p (l.take i) + (if p l[i].at_ then l[i].g else 0) := by
  rw [List.take_add_one, List.getElem?_eq_getElem h, Option.toList_some, sG_app]; simp [sG]
theorem sT_take (p : Nat → Bool) (l : List Ev) (i : Nat) (h : i < l.length) : sT p (l.take (i + 1)) = sT p (l.take i) + (if p l[i].at_ then l[i].t else 0) := by
  rw [List.take_add_one, List.getElem?_eq_getElem h, Option.toList_some, sT_app]; simp [sT]
theorem sG_le (p : Nat → Bool) (l : List Ev) (i : Nat) : sG p (l.take i) ≤ sG p l := by
  have := sG_app p (l.take i) (l.drop i); rw [List.take_append_drop] at this; omega
theorem sT_le (p : Nat → Bool) (l : List Ev) (i : Nat) : sT p (l.take i) ≤ sT p l := by
  have := sT_app p (l.take i) (l.drop i); rw [List.take_append_drop] at this; omega
/-- the document's ring, seen -/
abbrev mV (W G now : Nat) (E : List Ev) : AV := .ip [iv .i64 W, iv .i64 G, iv .i64 now, .sl E.length (evC E)]
structure JG where
  i : Nat
set_option maxRecDepth 8000 in
set_option maxHeartbeats 2000000 in
theorem refSum_ct (W G k w now : Nat) (E : List Ev) (hg : goP W G) (h : GoOk W G k w) (hn : now ≤ 253402300799) (hE : ∀ e ∈ E, e.at_ ≤ 253402300799) (hl : E.length ≤ 1000)
    (hG : sG (fun a => decide (now / w < a / w + k)) E < 18446744073709551616) (hT : sT (fun a => decide (now / w < a / w + k)) E < 18446744073709551616) :
    ACt Try.prog 18 [mV W G now E] [] (Fn (cnt (sG (fun a => decide (now / w < a / w + k)) E) (sT (fun a => decide (now / w < a / w + k)) E))) := by
  refine ACt.intro Try.func18 rfl (by kernel_rfl) (by simp [Try.ntmps18]) (fun cx => ?_)
  simp only [argE, Try.ntmps18, Try.results18]
  obtain ⟨p, hp⟩ : ∃ p, p = fun a => decide (now / w < a / w + k) := ⟨_, rfl⟩
  rw [← hp] at hG hT ⊢
  obtain ⟨C, hC⟩ : ∃ C, C = evC E := ⟨_, rfl⟩
  have hCl : C.length = E.length * 3 := by rw [hC, evC_len]
  have hdr : ∀ (i : Nat) (hi : i < E.length), C.drop (i * 3) = iv .i64 E[i].at_ :: nu E[i].g :: nu E[i].t :: evC (E.drop (i + 1)) := fun i hi => by rw [hC]; exact evC_drop E i hi
  unfold mV
  rw [← hC]
  first | (have FRx := FR; clear FRx) | (have FR : ¬ ((1 : Nat) = 0) := Nat.one_ne_zero)
  repeat' first
    | (refine Sm.mk ?_; try simp -dsimp only [ZK, rvc, drawF, headN, pureH, stp, dvc, calleeOf, gcall, pev, eff, newB, okd, og, ogs, ogo, ogp, slv, bltv, opd, litv, strip, one, both, putE, St.put, look, gdOf, gdv, picka, pickv, pickw, binv, bini, bins, binb, binp, bina, shp, eqCells, unv, convv, nilv, faddv, addp, idxav, idxp, load1, load1m, loadn, loadnm, loadv, hget, hset, hrep, hdel, slicev, bnd, shift1, lenv, IntKind.bits, extractv, fieldv, indexv, min2v, max2v, mkiv, cellsA, fillA, buildv, stC, oneC, rowMB, intsA, plN, appE, appZ, appC, appNZ, appNC, VwL, srcC, srcZ, srcM, isBoolT, isPtrT, isSliceT, uOk, Value.oneCell', Nat.reducePow, Int.reducePow, Nat.reduceAdd, Nat.reduceMul, Nat.reduceSub, Nat.reduceLT, Nat.reduceLeDiff, Nat.reduceEqDiff, Nat.reduceBEq, Nat.reduceDiv, Nat.reduceMod, ↓reduceIte, reduceCtorEq, Int.reduceToNat, Int.reduceLT, Int.reduceLE, TFRgG, SeqQ, BlkQ, LoopQ, BodyQ, FR])
    | (refine WP.seq fun K hK => ?_)
    | (refine WP.region (rvc_sound _ _ (Sm.out ?_)))
    | (refine WP.drawK rfl mixed (by decide +kernel) (Sm.out ?_))
    | (refine Ob.mk ?_; focus (first | assumption | omega | decide | trivial | (intro hob; simp only [hob, ZF]; done) | (intros; (repeat' refine And.intro ?_ ?_) <;> first | assumption | omega | trivial | decide) | (intros; simp only [ZE] at *; (repeat' refine And.intro ?_ ?_) <;> first | assumption | omega | trivial)))
    | (refine And.intro (Ob.out ?_) ?_)
    | (refine WP.block ?_)
    | (refine WP.cond rfl (fun hc => ?_) (fun hc => ?_) <;> (try simp only [ZC, reduceCtorEq, ZD] at hc) <;> (try (exact absurd hc (by decide))) <;> (try (exfalso; omega)))
    | ((first | refine WP.skip ?_ | refine WP.exit ?_); simp only [SeqQ, BlkQ, LoopQ, BodyQ, ↓reduceIte, Nat.reduceEqDiff, reduceCtorEq, look, true_and])
    | (refine WP.ret (Sm.out ?_))
    | (first | refine ExG.no (Sm.out ?_) | refine Or.inl (ExG.no (Sm.out ?_)) | refine Or.inl (And.intro (fun hg => absurd hg (by decide)) (ExG.no (Sm.out ?_))))
    | (refine Rt.mk ?_; refine And.intro ?_ ?_ <;> (intro hg; first | exact absurd hg (by decide) | refine Sm.out ?_))
    | (refine Nu.mk ?_; first | (fail_if_success (have := nb1)); intro nb1 | (fail_if_success (have := nb2)); intro nb2 | (fail_if_success (have := nb3)); intro nb3 | intro nbz)
    | (refine Fr.mk ?_; intro hfr; replace FR := And.intro hfr FR; clear hfr; refine Sm.out ?_)
    | (refine Two.mk ?_ ?_)
    | (refine Cs.mk ?_; intro hcs; first | exact False.elim hcs | (exfalso; omega) | (refine Sm.out ?_))
    | go_step
    | omega
    | (simp only [maxLen_eq]; omega)
  refine WP.loop (Γ := JG) (fun q => ⟨[(4, iv .i64 q.i), (0, .ip [iv .i64 W, iv .i64 G, iv .i64 now, .sl E.length C]), (3, pt nb2 0), (2, pt nb1 0)], [(nb2, .cells [nu (sG p (E.take q.i)), nu (sT p (E.take q.i))] 2 43), (nb1, .cells [nu 0, nu 0] 2 43)]⟩)
    (fun q => q.i ≤ E.length) (fun q => E.length - q.i) ⟨0⟩ (by simp) (Sub.pick (by simp [pickB, hget, hdel, FR, List.take_zero, sG, sT]) (by simp [look, List.take_zero, sG, sT])) ?_
  intro ⟨i⟩ hi
  simp only at hi ⊢
  (refine WP.nd fun hnd => ?_; simp only [ndF, fresh_cons, fresh_nil, and_true, ne_eq] at hnd; replace FR := And.intro hnd FR; clear hnd)
  by_cases hlt : i < E.length
  · have k1 : decide ((i : Int) < (E.length : Int)) = true := by simp; omega
    have hd := hdr i hlt
    obtain ⟨e, he⟩ : ∃ e, e = E[i] := ⟨_, rfl⟩
    obtain ⟨TR, hTR⟩ : ∃ TR, TR = evC (E.drop (i + 1)) := ⟨_, rfl⟩
    rw [← he, ← hTR] at hd
    have hat : e.at_ ≤ 253402300799 := hE e (by rw [he]; exact List.getElem_mem hlt)
    have cW := Within_ct W G k w now e.at_ hg h hn hat
    have gT := sG_take p E i hlt
    have tT := sT_take p E i hlt
    rw [← he] at gT tT
    have gl := sG_le p E (i + 1)
    have tl := sT_le p E (i + 1)
    have q1 : i * 3 + 3 ≤ C.length := by omega
    have w1 : IntKind.i64.wrap ((i : Int) + 1) = ((i + 1 : Nat) : Int) := by rw [wrap_i64 (by omega) (by omega)]; omega
    obtain ⟨b, hb⟩ : ∃ b, b = p e.at_ := ⟨_, rfl⟩
    have hb' : decide (now / w < e.at_ / w + k) = b := by rw [hb, hp]
    rw [hb'] at cW
    rw [← hb] at gT tT
    obtain ⟨A, hA⟩ : ∃ A, A = sG p (E.take i) := ⟨_, rfl⟩
    obtain ⟨B, hB⟩ : ∃ B, B = sT p (E.take i) := ⟨_, rfl⟩
    rw [← hA] at gT ⊢
    rw [← hB] at tT ⊢
    clear hdr hp
    cases b
    · simp only [Bool.false_eq_true, if_false, Nat.add_zero] at gT tT
      first | (have FRx := FR; clear FRx) | (have FR : ¬ ((1 : Nat) = 0) := Nat.one_ne_zero)
      repeat' first
        | (refine Sm.mk ?_; try simp -dsimp only [ZK, rvc, drawF, headN, pureH, stp, dvc, calleeOf, gcall, pev, eff, newB, okd, og, ogs, ogo, ogp, slv, bltv, opd, litv, strip, one, both, putE, St.put, look, gdOf, gdv, picka, pickv, pickw, binv, bini, bins, binb, binp, bina, shp, eqCells, unv, convv, nilv, faddv, addp, idxav, idxp, load1, load1m, loadn, loadnm, loadv, hget, hset, hrep, hdel, slicev, bnd, shift1, lenv, IntKind.bits, extractv, fieldv, indexv, min2v, max2v, mkiv, cellsA, fillA, buildv, stC, oneC, rowMB, intsA, plN, appE, appZ, appC, appNZ, appNC, VwL, srcC, srcZ, srcM, isBoolT, isPtrT, isSliceT, uOk, Value.oneCell', Nat.reducePow, Int.reducePow, Nat.reduceAdd, Nat.reduceMul, Nat.reduceSub, Nat.reduceLT, Nat.reduceLeDiff, Nat.reduceEqDiff, Nat.reduceBEq, Nat.reduceDiv, Nat.reduceMod, ↓reduceIte, reduceCtorEq, Int.reduceToNat, Int.reduceLT, Int.reduceLE, TFRgG, SeqQ, BlkQ, LoopQ, BodyQ, k1, hd, q1, w1, FR])
        | (first | refine CallV.fn (cW) (Sm.out ?_) | refine ExF.mk (cW) (Sm.out ?_) | refine ExG.mk (fun _ => cW) (Sm.out ?_) | refine ExG.mkJ (fun _ => cW) (Sm.out ?_) | refine ExG.mkI (Ob.out ?_) (fun _ => cW) (Sm.out ?_))
        | (refine WP.seq fun K hK => ?_)
        | (refine WP.region (rvc_sound _ _ (Sm.out ?_)))
        | (refine WP.drawK rfl mixed (by decide +kernel) (Sm.out ?_))
        | (refine Ob.mk ?_; focus (first | assumption | omega | decide | trivial | (intro hob; simp only [hob, ZF]; done) | (intros; (repeat' refine And.intro ?_ ?_) <;> first | assumption | omega | trivial | decide) | (intros; simp only [ZE] at *; (repeat' refine And.intro ?_ ?_) <;> first | assumption | omega | trivial)))
        | (refine And.intro (Ob.out ?_) ?_)
        | (refine WP.block ?_)
        | (refine WP.cond rfl (fun hc => ?_) (fun hc => ?_) <;> (try simp only [ZC, reduceCtorEq, ZD] at hc) <;> (try (exact absurd hc (by decide))) <;> (try (exfalso; omega)))
        | ((first | refine WP.skip ?_ | refine WP.exit ?_); simp only [SeqQ, BlkQ, LoopQ, BodyQ, ↓reduceIte, Nat.reduceEqDiff, reduceCtorEq, look, true_and])
        | (refine WP.ret (Sm.out ?_))
        | (first | refine ExG.no (Sm.out ?_) | refine Or.inl (ExG.no (Sm.out ?_)) | refine Or.inl (And.intro (fun hg => absurd hg (by decide)) (ExG.no (Sm.out ?_))))
        | (refine Rt.mk ?_; refine And.intro ?_ ?_ <;> (intro hg; first | exact absurd hg (by decide) | refine Sm.out ?_))
        | (refine Nu.mk ?_; first | (fail_if_success (have := nb1)); intro nb1 | (fail_if_success (have := nb2)); intro nb2 | (fail_if_success (have := nb3)); intro nb3 | intro nbz)
        | (refine Fr.mk ?_; intro hfr; replace FR := And.intro hfr FR; clear hfr; refine Sm.out ?_)
        | (refine Two.mk ?_ ?_)
        | (refine Cs.mk ?_; intro hcs; first | exact False.elim hcs | (exfalso; omega) | (refine Sm.out ?_))
        | go_step
        | omega
        | (simp only [maxLen_eq]; omega)
      exact ⟨⟨i + 1⟩, by simp only; omega, by simp only; omega, (Sub.pick (by simp [pickB, hget, hdel, FR, gT, tT]) (by simp [look, gT, tT]))⟩
    · simp only [if_true] at gT tT
      have a1 : IntKind.u64.wrap ((A : Int) + (e.g : Int)) = ((A + e.g : Nat) : Int) := by rw [wrap_u64 (by omega) (by omega)]; omega
      have a2 : IntKind.u64.wrap ((B : Int) + (e.t : Int)) = ((B + e.t : Nat) : Int) := by rw [wrap_u64 (by omega) (by omega)]; omega
      first | (have FRx := FR; clear FRx) | (have FR : ¬ ((1 : Nat) = 0) := Nat.one_ne_zero)
      repeat' first
        | (refine Sm.mk ?_; try simp -dsimp only [ZK, rvc, drawF, headN, pureH, stp, dvc, calleeOf, gcall, pev, eff, newB, okd, og, ogs, ogo, ogp, slv, bltv, opd, litv, strip, one, both, putE, St.put, look, gdOf, gdv, picka, pickv, pickw, binv, bini, bins, binb, binp, bina, shp, eqCells, unv, convv, nilv, faddv, addp, idxav, idxp, load1, load1m, loadn, loadnm, loadv, hget, hset, hrep, hdel, slicev, bnd, shift1, lenv, IntKind.bits, extractv, fieldv, indexv, min2v, max2v, mkiv, cellsA, fillA, buildv, stC, oneC, rowMB, intsA, plN, appE, appZ, appC, appNZ, appNC, VwL, srcC, srcZ, srcM, isBoolT, isPtrT, isSliceT, uOk, Value.oneCell', Nat.reducePow, Int.reducePow, Nat.reduceAdd, Nat.reduceMul, Nat.reduceSub, Nat.reduceLT, Nat.reduceLeDiff, Nat.reduceEqDiff, Nat.reduceBEq, Nat.reduceDiv, Nat.reduceMod, ↓reduceIte, reduceCtorEq, Int.reduceToNat, Int.reduceLT, Int.reduceLE, TFRgG, SeqQ, BlkQ, LoopQ, BodyQ, k1, hd, q1, w1, a1, a2, FR])
        | (first | refine CallV.fn (cW) (Sm.out ?_) | refine ExF.mk (cW) (Sm.out ?_) | refine ExG.mk (fun _ => cW) (Sm.out ?_) | refine ExG.mkJ (fun _ => cW) (Sm.out ?_) | refine ExG.mkI (Ob.out ?_) (fun _ => cW) (Sm.out ?_))
        | (refine WP.seq fun K hK => ?_)
        | (refine WP.region (rvc_sound _ _ (Sm.out ?_)))
        | (refine WP.drawK rfl mixed (by decide +kernel) (Sm.out ?_))
        | (refine Ob.mk ?_; focus (first | assumption | omega | decide | trivial | (intro hob; simp only [hob, ZF]; done) | (intros; (repeat' refine And.intro ?_ ?_) <;> first | assumption | omega | trivial | decide) | (intros; simp only [ZE] at *; (repeat' refine And.intro ?_ ?_) <;> first | assumption | omega | trivial)))
        | (refine And.intro (Ob.out ?_) ?_)
        | (refine WP.block ?_)
        | (refine WP.cond rfl (fun hc => ?_) (fun hc => ?_) <;> (try simp only [ZC, reduceCtorEq, ZD] at hc) <;> (try (exact absurd hc (by decide))) <;> (try (exfalso; omega)))
        | ((first | refine WP.skip ?_ | refine WP.exit ?_); simp only [SeqQ, BlkQ, LoopQ, BodyQ, ↓reduceIte, Nat.reduceEqDiff, reduceCtorEq, look, true_and])
        | (refine WP.ret (Sm.out ?_))
        | (first | refine ExG.no (Sm.out ?_) | refine Or.inl (ExG.no (Sm.out ?_)) | refine Or.inl (And.intro (fun hg => absurd hg (by decide)) (ExG.no (Sm.out ?_))))
        | (refine Rt.mk ?_; refine And.intro ?_ ?_ <;> (intro hg; first | exact absurd hg (by decide) | refine Sm.out ?_))
        | (refine Nu.mk ?_; first | (fail_if_success (have := nb1)); intro nb1 | (fail_if_success (have := nb2)); intro nb2 | (fail_if_success (have := nb3)); intro nb3 | intro nbz)
        | (refine Fr.mk ?_; intro hfr; replace FR := And.intro hfr FR; clear hfr; refine Sm.out ?_)
        | (refine Two.mk ?_ ?_)
        | (refine Cs.mk ?_; intro hcs; first | exact False.elim hcs | (exfalso; omega) | (refine Sm.out ?_))
        | go_step
        | omega
        | (simp only [maxLen_eq]; omega)
      exact ⟨⟨i + 1⟩, by simp only; omega, by simp only; omega, (Sub.pick (by simp [pickB, hget, hdel, FR, gT, tT]) (by simp [look, gT, tT]))⟩
  · obtain rfl : i = E.length := by omega
    have k1 : decide ((E.length : Int) < (E.length : Int)) = false := by simp
    first | (have FRx := FR; clear FRx) | (have FR : ¬ ((1 : Nat) = 0) := Nat.one_ne_zero)
    repeat' first
      | (refine Sm.mk ?_; try simp -dsimp only [ZK, rvc, drawF, headN, pureH, stp, dvc, calleeOf, gcall, pev, eff, newB, okd, og, ogs, ogo, ogp, slv, bltv, opd, litv, strip, one, both, putE, St.put, look, gdOf, gdv, picka, pickv, pickw, binv, bini, bins, binb, binp, bina, shp, eqCells, unv, convv, nilv, faddv, addp, idxav, idxp, load1, load1m, loadn, loadnm, loadv, hget, hset, hrep, hdel, slicev, bnd, shift1, lenv, IntKind.bits, extractv, fieldv, indexv, min2v, max2v, mkiv, cellsA, fillA, buildv, stC, oneC, rowMB, intsA, plN, appE, appZ, appC, appNZ, appNC, VwL, srcC, srcZ, srcM, isBoolT, isPtrT, isSliceT, uOk, Value.oneCell', Nat.reducePow, Int.reducePow, Nat.reduceAdd, Nat.reduceMul, Nat.reduceSub, Nat.reduceLT, Nat.reduceLeDiff, Nat.reduceEqDiff, Nat.reduceBEq, Nat.reduceDiv, Nat.reduceMod, ↓reduceIte, reduceCtorEq, Int.reduceToNat, Int.reduceLT, Int.reduceLE, TFRgG, SeqQ, BlkQ, LoopQ, BodyQ, k1, List.take_length, FR])
      | (refine WP.seq fun K hK => ?_)
      | (refine WP.region (rvc_sound _ _ (Sm.out ?_)))
      | (refine WP.drawK rfl mixed (by decide +kernel) (Sm.out ?_))
      | (refine Ob.mk ?_; focus (first | assumption | omega | decide | trivial | (intro hob; simp only [hob, ZF]; done) | (intros; (repeat' refine And.intro ?_ ?_) <;> first | assumption | omega | trivial | decide) | (intros; simp only [ZE] at *; (repeat' refine And.intro ?_ ?_) <;> first | assumption | omega | trivial)))
      | (refine And.intro (Ob.out ?_) ?_)
      | (refine WP.block ?_)
      | (refine WP.cond rfl (fun hc => ?_) (fun hc => ?_) <;> (try simp only [ZC, reduceCtorEq, ZD] at hc) <;> (try (exact absurd hc (by decide))) <;> (try (exfalso; omega)))
      | ((first | refine WP.skip ?_ | refine WP.exit ?_); simp only [SeqQ, BlkQ, LoopQ, BodyQ, ↓reduceIte, Nat.reduceEqDiff, reduceCtorEq, look, true_and])
      | (refine WP.ret (Sm.out ?_))
      | (first | refine ExG.no (Sm.out ?_) | refine Or.inl (ExG.no (Sm.out ?_)) | refine Or.inl (And.intro (fun hg => absurd hg (by decide)) (ExG.no (Sm.out ?_))))
      | (refine Rt.mk ?_; refine And.intro ?_ ?_ <;> (intro hg; first | exact absurd hg (by decide) | refine Sm.out ?_))
      | (refine Nu.mk ?_; first | (fail_if_success (have := nb1)); intro nb1 | (fail_if_success (have := nb2)); intro nb2 | (fail_if_success (have := nb3)); intro nb3 | intro nbz)
      | (refine Fr.mk ?_; intro hfr; replace FR := And.intro hfr FR; clear hfr; refine Sm.out ?_)
      | (refine Two.mk ?_ ?_)
      | (refine Cs.mk ?_; intro hcs; first | exact False.elim hcs | (exfalso; omega) | (refine Sm.out ?_))
      | (refine OutQ.all ?_ ?_; (focus (simp only [resv, ZK, look, loadv, loadn, loadnm, load1, load1m, hget, ↓reduceIte, Nat.reduceEqDiff, Nat.reduceAdd, Nat.reduceMul, Nat.reduceLeDiff, Nat.reduceLT, reduceCtorEq, TFRgG, k1, List.take_length, FR])); (try simp only [resv, resA, Fn, ZK, look, loadv, loadn, loadnm, load1, load1m, hget, ↓reduceIte, Nat.reduceEqDiff, Nat.reduceAdd, Nat.reduceMul, Nat.reduceLeDiff, Nat.reduceLT, reduceCtorEq, TFRgG, k1, List.take_length, FR]); (try simp [resA, Fn, look, k1, List.take_length, FR]); done)
      | go_step
      | omega
      | (simp only [maxLen_eq]; omega)
end Go.Proofs.Ytbnkmhlnoaebcaa
namespace Go.Proofs.Ytbnkmhlnoaebcaa
open Go
set_option linter.unusedVariables false
set_option linter.unusedSimpArgs false
theorem TFRgH : ((((((type_of% tyc0) ∧ ((type_of% tyc2) ∧ (type_of% zmb2))) ∧ ((type_of% tyc3) ∧ ((type_of% zmb3) ∧ (type_of% tyc4)))) ∧ (((type_of% zmb4) ∧ ((type_of% tyc26) ∧ (type_of% mth26_30))) ∧ (((type_of% mth26_39) ∧ (type_of% mth26_38)) ∧ ((type_of% con26) ∧ (type_of% zmb26))))) ∧ ((((type_of% tyc32) ∧ ((type_of% elt32) ∧ (type_of% mkz32))) ∧ ((type_of% mkc32) ∧ ((type_of% apT32) ∧ (type_of% elk32)))) ∧ (((type_of% zmb32) ∧ ((type_of% tyc43) ∧ (type_of% foff43_0))) ∧ (((type_of% fpart43_0) ∧ (type_of% foff43_1)) ∧ ((type_of% fpart43_1) ∧ (type_of% fe43)))))) ∧ (((((type_of% zmb43) ∧ ((type_of% bldT43) ∧ (type_of% tyc64))) ∧ ((type_of% foff64_0) ∧ ((type_of% fpart64_0) ∧ (type_of% foff64_1)))) ∧ (((type_of% fpart64_1) ∧ ((type_of% foff64_2) ∧ (type_of% fpart64_2))) ∧ (((type_of% foff64_3) ∧ (type_of% fpart64_3)) ∧ ((type_of% foff64_4) ∧ (type_of% fpart64_4))))) ∧ ((((type_of% zmb64) ∧ ((type_of% bldT64) ∧ (type_of% tyc65))) ∧ ((type_of% zmb65) ∧ ((type_of% Try.underlying0) ∧ (type_of% Try.underlying2)))) ∧ (((type_of% Try.underlying3) ∧ ((type_of% Try.underlying4) ∧ (type_of% Try.underlying26))) ∧ (((type_of% Try.underlying32) ∧ (type_of% Try.underlying43)) ∧ ((type_of% Try.underlying64) ∧ (type_of% Try.underlying65))))))) :=
  ⟨⟨⟨⟨⟨tyc0, ⟨tyc2, zmb2⟩⟩, ⟨tyc3, ⟨zmb3, tyc4⟩⟩⟩, ⟨⟨zmb4, ⟨tyc26, mth26_30⟩⟩, ⟨⟨mth26_39, mth26_38⟩, ⟨con26, zmb26⟩⟩⟩⟩, ⟨⟨⟨tyc32, ⟨elt32, mkz32⟩⟩, ⟨mkc32, ⟨apT32, elk32⟩⟩⟩, ⟨⟨zmb32, ⟨tyc43, foff43_0⟩⟩, ⟨⟨fpart43_0, foff43_1⟩, ⟨fpart43_1, fe43⟩⟩⟩⟩⟩, ⟨⟨⟨⟨zmb43, ⟨bldT43, tyc64⟩⟩, ⟨foff64_0, ⟨fpart64_0, foff64_1⟩⟩⟩, ⟨⟨fpart64_1, ⟨foff64_2, fpart64_2⟩⟩, ⟨⟨foff64_3, fpart64_3⟩, ⟨foff64_4, fpart64_4⟩⟩⟩⟩, ⟨⟨⟨zmb64, ⟨bldT64, tyc65⟩⟩, ⟨zmb65, ⟨Try.underlying0, Try.underlying2⟩⟩⟩, ⟨⟨Try.underlying3, ⟨Try.underlying4, Try.underlying26⟩⟩, ⟨⟨Try.underlying32, Try.underlying43⟩, ⟨Try.underlying64, Try.underlying65⟩⟩⟩⟩⟩⟩
abbrev lC (k : Nat) (A B : Nat → Nat) : List AV := (lL k A B).map (iv .u64)
theorem lC_len (A B : Nat → Nat) (k : Nat) : (lC k A B).length = k * 2 := by simp [lL_len]
theorem lL_drop (A B : Nat → Nat) (k i : Nat) (h : i < k) : ∃ r, (lL k A B).drop (i * 2) = (A i : Int) :: (B i : Int) :: r := by
  have hl := lL_len A B k
  refine ⟨(lL k A B).drop (i * 2 + 2), ?_⟩
  have h0 := (lL_get A B k i h).1
  have h1 := (lL_get A B k i h).2
  rw [List.drop_eq_getElem_cons (by omega), List.drop_eq_getElem_cons (by omega)]
  have e0 : (lL k A B)[i * 2]'(by omega) = (A i : Int) := by simpa [List.getD, show i * 2 < (lL k A B).length by omega] using h0
  have e1 : (lL k A B)[i * 2 + 1]'(by omega) = (B i : Int) := by simpa [List.getD, show i * 2 + 1 < (lL k A B).length by omega] using h1
  rw [e0, e1]
theorem lC_drop (A B : Nat → Nat) (k i : Nat) (h : i < k) : ∃ r, (lC k A B).drop (i * 2) = nu (A i) :: nu (B i) :: r := by
  obtain ⟨r, hr⟩ := lL_drop A B k i h
  exact ⟨r.map (iv .u64), by unfold lC; rw [← List.map_drop, hr]; rfl⟩
theorem lC_set2 {A B : Nat → Nat} {k j x y : Nat} (h : j < k) : (lC k A B).take (j * 2) ++ [nu x, nu y] ++ (lC k A B).drop (j * 2 + 2) = lC k (upd A j x) (upd B j y) := by
  have hl := lL_len A B k
  have e : (lL k A B).take (j * 2) ++ ([(x : Int), (y : Int)] ++ (lL k A B).drop (j * 2 + 2)) = lL k (upd A j x) (upd B j y) := by
    rw [set2_eq (by omega), lL_set0 h, lL_set1 h]
  unfold lC
  rw [← e, ← List.map_take, ← List.map_drop, List.append_assoc]
  simp
theorem Same_ct (k : Nat) (A B : Nat → Nat) (hk : k ≤ 1000) : ACt Try.prog 31 [.sl k (lC k A B), .sl k (lC k A B)] [] (Fn (bv true)) := by
  refine ACt.intro Try.func31 rfl (by kernel_rfl) (by simp [Try.ntmps31]) (fun cx => ?_)
  simp only [argE, Try.ntmps31, Try.results31]
  have hdr := lC_drop A B k
  obtain ⟨C, hC⟩ : ∃ C, C = lC k A B := ⟨_, rfl⟩
  have hl : C.length = k * 2 := by rw [hC]; exact lC_len A B k
  rw [← hC] at hdr
  rw [← hC]
  have z : ((k : Int) != (k : Int)) = false := by simp
  first | (have FRx := FR; clear FRx) | (have FR : ¬ ((1 : Nat) = 0) := Nat.one_ne_zero)
  repeat' first
    | (refine Sm.mk ?_; try simp -dsimp only [ZK, rvc, drawF, headN, pureH, stp, dvc, calleeOf, gcall, pev, eff, newB, okd, og, ogs, ogo, ogp, slv, bltv, opd, litv, strip, one, both, putE, St.put, look, gdOf, gdv, picka, pickv, pickw, binv, bini, bins, binb, binp, bina, shp, eqCells, unv, convv, nilv, faddv, addp, idxav, idxp, load1, load1m, loadn, loadnm, loadv, hget, hset, hrep, hdel, slicev, bnd, shift1, lenv, IntKind.bits, extractv, fieldv, indexv, min2v, max2v, mkiv, cellsA, fillA, buildv, stC, oneC, rowMB, intsA, plN, appE, appZ, appC, appNZ, appNC, VwL, srcC, srcZ, srcM, isBoolT, isPtrT, isSliceT, uOk, Value.oneCell', Nat.reducePow, Int.reducePow, Nat.reduceAdd, Nat.reduceMul, Nat.reduceSub, Nat.reduceLT, Nat.reduceLeDiff, Nat.reduceEqDiff, Nat.reduceBEq, Nat.reduceDiv, Nat.reduceMod, ↓reduceIte, reduceCtorEq, Int.reduceToNat, Int.reduceLT, Int.reduceLE, drawCF, xvc, xst, splitH, calleeV, putE, hdel, TFRgH, SeqQ, BlkQ, LoopQ, BodyQ, z, FR])
    | (refine WP.seq fun K hK => ?_)
    | (refine WP.region (rvc_sound _ _ (Sm.out ?_)))
    | (refine WP.drawC (c := 9) (ws := []) (ls := []) (bs := []) mixed (by decide +kernel) (by decide +kernel) (by decide +kernel) (Sm.out ?_))
    | (refine WP.drawK rfl mixed (by decide +kernel) (Sm.out ?_))
    | (refine Ob.mk ?_; focus (first | assumption | omega | decide | trivial | (intro hob; simp only [hob, ZF]; done) | (intros; (repeat' refine And.intro ?_ ?_) <;> first | assumption | omega | trivial | decide) | (intros; simp only [ZE] at *; (repeat' refine And.intro ?_ ?_) <;> first | assumption | omega | trivial)))
    | (refine And.intro (Ob.out ?_) ?_)
    | (refine WP.block ?_)
    | (refine WP.cond rfl (fun hc => ?_) (fun hc => ?_) <;> (try simp only [ZC, reduceCtorEq, ZD] at hc) <;> (try (exact absurd hc (by decide))) <;> (try (exfalso; omega)))
    | ((first | refine WP.skip ?_ | refine WP.exit ?_); simp only [SeqQ, BlkQ, LoopQ, BodyQ, ↓reduceIte, Nat.reduceEqDiff, reduceCtorEq, look, true_and])
    | (refine WP.ret (Sm.out ?_))
    | (first | refine ExG.no (Sm.out ?_) | refine Or.inl (ExG.no (Sm.out ?_)) | refine Or.inl (And.intro (fun hg => absurd hg (by decide)) (ExG.no (Sm.out ?_))))
    | (refine Rt.mk ?_; refine And.intro ?_ ?_ <;> (intro hg; first | exact absurd hg (by decide) | refine Sm.out ?_))
    | (refine Nu.mk ?_; first | (fail_if_success (have := nb1)); intro nb1 | (fail_if_success (have := nb2)); intro nb2 | (fail_if_success (have := nb3)); intro nb3 | intro nbz)
    | (refine Fr.mk ?_; intro hfr; replace FR := And.intro hfr FR; clear hfr; refine Sm.out ?_)
    | (refine Two.mk ?_ ?_)
    | (refine Cs.mk ?_; intro hcs; first | exact False.elim hcs | (exfalso; omega) | (refine Sm.out ?_))
    | go_step
    | omega
    | (simp only [maxLen_eq]; omega)
  refine WP.loop (Γ := JG) (fun q => ⟨[(5, iv .i64 q.i), (0, .sl k C), (1, .sl k C)], []⟩) (fun q => q.i ≤ k) (fun q => k - q.i) ⟨0⟩ (by simp) (Sub.pick (by simp [pickB, hget, hdel, FR]) (by simp [look])) ?_
  intro ⟨i⟩ hi
  simp only at hi ⊢
  by_cases hlt : i < k
  · have k1 : decide ((i : Int) < (k : Int)) = true := by simp; omega
    obtain ⟨r, hd⟩ := hdr i hlt
    have w1 : IntKind.i64.wrap ((i : Int) + 1) = ((i + 1 : Nat) : Int) := by rw [wrap_i64 (by omega) (by omega)]; omega
    have q1 : i * 2 + 2 ≤ C.length := by omega
    have z1 : ((A i : Int) == (A i : Int)) = true := beq_self_eq_true _
    have z2 : ((B i : Int) == (B i : Int)) = true := beq_self_eq_true _
    first | (have FRx := FR; clear FRx) | (have FR : ¬ ((1 : Nat) = 0) := Nat.one_ne_zero)
    repeat' first
      | (refine Sm.mk ?_; try simp -dsimp only [ZK, rvc, drawF, headN, pureH, stp, dvc, calleeOf, gcall, pev, eff, newB, okd, og, ogs, ogo, ogp, slv, bltv, opd, litv, strip, one, both, putE, St.put, look, gdOf, gdv, picka, pickv, pickw, binv, bini, bins, binb, binp, bina, shp, eqCells, unv, convv, nilv, faddv, addp, idxav, idxp, load1, load1m, loadn, loadnm, loadv, hget, hset, hrep, hdel, slicev, bnd, shift1, lenv, IntKind.bits, extractv, fieldv, indexv, min2v, max2v, mkiv, cellsA, fillA, buildv, stC, oneC, rowMB, intsA, plN, appE, appZ, appC, appNZ, appNC, VwL, srcC, srcZ, srcM, isBoolT, isPtrT, isSliceT, uOk, Value.oneCell', Nat.reducePow, Int.reducePow, Nat.reduceAdd, Nat.reduceMul, Nat.reduceSub, Nat.reduceLT, Nat.reduceLeDiff, Nat.reduceEqDiff, Nat.reduceBEq, Nat.reduceDiv, Nat.reduceMod, ↓reduceIte, reduceCtorEq, Int.reduceToNat, Int.reduceLT, Int.reduceLE, drawCF, xvc, xst, splitH, calleeV, putE, hdel, TFRgH, SeqQ, BlkQ, LoopQ, BodyQ, k1, hd, w1, q1, z1, z2, fe43, hl, FR])
      | (refine WP.seq fun K hK => ?_)
      | (refine WP.region (rvc_sound _ _ (Sm.out ?_)))
      | (refine WP.drawC (c := 9) (ws := []) (ls := []) (bs := []) mixed (by decide +kernel) (by decide +kernel) (by decide +kernel) (Sm.out ?_))
      | (refine WP.drawK rfl mixed (by decide +kernel) (Sm.out ?_))
      | (refine Ob.mk ?_; focus (first | assumption | omega | decide | trivial | (intro hob; simp only [hob, ZF]; done) | (intros; (repeat' refine And.intro ?_ ?_) <;> first | assumption | omega | trivial | decide) | (intros; simp only [ZE] at *; (repeat' refine And.intro ?_ ?_) <;> first | assumption | omega | trivial)))
      | (refine And.intro (Ob.out ?_) ?_)
      | (refine WP.block ?_)
      | (refine WP.cond rfl (fun hc => ?_) (fun hc => ?_) <;> (try simp only [ZC, reduceCtorEq, ZD] at hc) <;> (try (exact absurd hc (by decide))) <;> (try (exfalso; omega)))
      | ((first | refine WP.skip ?_ | refine WP.exit ?_); simp only [SeqQ, BlkQ, LoopQ, BodyQ, ↓reduceIte, Nat.reduceEqDiff, reduceCtorEq, look, true_and])
      | (refine WP.ret (Sm.out ?_))
      | (first | refine ExG.no (Sm.out ?_) | refine Or.inl (ExG.no (Sm.out ?_)) | refine Or.inl (And.intro (fun hg => absurd hg (by decide)) (ExG.no (Sm.out ?_))))
      | (refine Rt.mk ?_; refine And.intro ?_ ?_ <;> (intro hg; first | exact absurd hg (by decide) | refine Sm.out ?_))
      | (refine Nu.mk ?_; first | (fail_if_success (have := nb1)); intro nb1 | (fail_if_success (have := nb2)); intro nb2 | (fail_if_success (have := nb3)); intro nb3 | intro nbz)
      | (refine Fr.mk ?_; intro hfr; replace FR := And.intro hfr FR; clear hfr; refine Sm.out ?_)
      | (refine Two.mk ?_ ?_)
      | (refine Cs.mk ?_; intro hcs; first | exact False.elim hcs | (exfalso; omega) | (refine Sm.out ?_))
      | go_step
      | omega
      | (simp only [maxLen_eq]; omega)
    exact ⟨⟨i + 1⟩, by simp only; omega, by simp only; omega, (Sub.pick (by simp [pickB, hget, hdel, FR]) (by simp [look]))⟩
  · obtain rfl : i = k := by omega
    have k1 : decide ((i : Int) < (i : Int)) = false := by simp
    first | (have FRx := FR; clear FRx) | (have FR : ¬ ((1 : Nat) = 0) := Nat.one_ne_zero)
    repeat' first
      | (refine Sm.mk ?_; try simp -dsimp only [ZK, rvc, drawF, headN, pureH, stp, dvc, calleeOf, gcall, pev, eff, newB, okd, og, ogs, ogo, ogp, slv, bltv, opd, litv, strip, one, both, putE, St.put, look, gdOf, gdv, picka, pickv, pickw, binv, bini, bins, binb, binp, bina, shp, eqCells, unv, convv, nilv, faddv, addp, idxav, idxp, load1, load1m, loadn, loadnm, loadv, hget, hset, hrep, hdel, slicev, bnd, shift1, lenv, IntKind.bits, extractv, fieldv, indexv, min2v, max2v, mkiv, cellsA, fillA, buildv, stC, oneC, rowMB, intsA, plN, appE, appZ, appC, appNZ, appNC, VwL, srcC, srcZ, srcM, isBoolT, isPtrT, isSliceT, uOk, Value.oneCell', Nat.reducePow, Int.reducePow, Nat.reduceAdd, Nat.reduceMul, Nat.reduceSub, Nat.reduceLT, Nat.reduceLeDiff, Nat.reduceEqDiff, Nat.reduceBEq, Nat.reduceDiv, Nat.reduceMod, ↓reduceIte, reduceCtorEq, Int.reduceToNat, Int.reduceLT, Int.reduceLE, drawCF, xvc, xst, splitH, calleeV, putE, hdel, TFRgH, SeqQ, BlkQ, LoopQ, BodyQ, k1, FR])
      | (refine WP.seq fun K hK => ?_)
      | (refine WP.region (rvc_sound _ _ (Sm.out ?_)))
      | (refine WP.drawC (c := 9) (ws := []) (ls := []) (bs := []) mixed (by decide +kernel) (by decide +kernel) (by decide +kernel) (Sm.out ?_))
      | (refine WP.drawK rfl mixed (by decide +kernel) (Sm.out ?_))
      | (refine Ob.mk ?_; focus (first | assumption | omega | decide | trivial | (intro hob; simp only [hob, ZF]; done) | (intros; (repeat' refine And.intro ?_ ?_) <;> first | assumption | omega | trivial | decide) | (intros; simp only [ZE] at *; (repeat' refine And.intro ?_ ?_) <;> first | assumption | omega | trivial)))
      | (refine And.intro (Ob.out ?_) ?_)
      | (refine WP.block ?_)
      | (refine WP.cond rfl (fun hc => ?_) (fun hc => ?_) <;> (try simp only [ZC, reduceCtorEq, ZD] at hc) <;> (try (exact absurd hc (by decide))) <;> (try (exfalso; omega)))
      | ((first | refine WP.skip ?_ | refine WP.exit ?_); simp only [SeqQ, BlkQ, LoopQ, BodyQ, ↓reduceIte, Nat.reduceEqDiff, reduceCtorEq, look, true_and])
      | (refine WP.ret (Sm.out ?_))
      | (first | refine ExG.no (Sm.out ?_) | refine Or.inl (ExG.no (Sm.out ?_)) | refine Or.inl (And.intro (fun hg => absurd hg (by decide)) (ExG.no (Sm.out ?_))))
      | (refine Rt.mk ?_; refine And.intro ?_ ?_ <;> (intro hg; first | exact absurd hg (by decide) | refine Sm.out ?_))
      | (refine Nu.mk ?_; first | (fail_if_success (have := nb1)); intro nb1 | (fail_if_success (have := nb2)); intro nb2 | (fail_if_success (have := nb3)); intro nb3 | intro nbz)
      | (refine Fr.mk ?_; intro hfr; replace FR := And.intro hfr FR; clear hfr; refine Sm.out ?_)
      | (refine Two.mk ?_ ?_)
      | (refine Cs.mk ?_; intro hcs; first | exact False.elim hcs | (exfalso; omega) | (refine Sm.out ?_))
      | (refine OutQ.all ?_ ?_; (focus (simp only [resv, ZK, look, loadv, loadn, loadnm, load1, load1m, hget, ↓reduceIte, Nat.reduceEqDiff, Nat.reduceAdd, Nat.reduceMul, Nat.reduceLeDiff, Nat.reduceLT, reduceCtorEq, TFRgH, k1, FR])); (try simp only [resv, resA, Fn, ZK, look, loadv, loadn, loadnm, load1, load1m, hget, ↓reduceIte, Nat.reduceEqDiff, Nat.reduceAdd, Nat.reduceMul, Nat.reduceLeDiff, Nat.reduceLT, reduceCtorEq, TFRgH, k1, FR]); (try simp [resA, Fn, look, k1, FR]); done)
      | go_step
      | omega
      | (simp only [maxLen_eq]; omega)
/-- what stands in the i-th place of the row -/
def bkA (G : Nat → Nat) (k ne i : Nat) : Nat := if k ≤ ne + 1 + i then G ((ne + 1 + i - k) % k) else 0
def ptl (F : Nat → Nat) (i : Nat) : Nat → Nat := fun j => if j < i then F j else 0
theorem ptl_upd (F : Nat → Nat) (i : Nat) : upd (ptl F i) i (F i) = ptl F (i + 1) := by
  funext j; unfold upd ptl
  by_cases h : j = i
  · subst h; simp
  · rw [if_neg h]
    by_cases h2 : j < i
    · rw [if_pos h2, if_pos (by omega)]
    · rw [if_neg h2, if_neg (by omega)]
theorem ptl_zero (F : Nat → Nat) (i : Nat) (h : F i = 0) : ptl F (i + 1) = ptl F i := by
  funext j; unfold ptl
  by_cases h2 : j < i
  · rw [if_pos h2, if_pos (by omega)]
  · rw [if_neg h2]
    by_cases h3 : j = i
    · subst h3; rw [if_pos (by omega), h]
    · rw [if_neg (by omega)]
theorem lC_ptl {F G : Nat → Nat} {k : Nat} : lC k (ptl F k) (ptl G k) = lC k F G := by
  unfold lC; congr 1
  refine lL_ext (k := k) (lL_len _ _ _) (lL_len _ _ _) fun j hj => ?_
  rw [(lL_get _ _ _ _ hj).1, (lL_get _ _ _ _ hj).2, (lL_get _ _ _ _ hj).1, (lL_get _ _ _ _ hj).2]
  unfold ptl; rw [if_pos hj, if_pos hj]; exact ⟨rfl, rfl⟩
set_option maxRecDepth 8000 in
set_option maxHeartbeats 2000000 in
theorem Buckets_row (rb lb w k ne now sg st : Nat) (G T : Nat → Nat) (hne : rb ≠ lb ∧ lb ≠ rb) (hk1 : 1 ≤ k) (hk2 : k ≤ 60) (hn : ne ≤ 253402300799) :
    ACt Try.prog 14 [pt rb 0] [(rb, rbM lb w k ne now sg st), (lb, lbM k G T)] (fun r F' => r = .sl k (lC k (bkA G k ne) (bkA T k ne)) ∧ F' = [(rb, rbM lb w k ne now sg st), (lb, lbM k G T)]) := by
  refine ACt.intro Try.func14 rfl (by kernel_rfl) (by simp [Try.ntmps14]) (fun cx => ?_)
  simp only [argE, Try.ntmps14, Try.results14]
  have e1 := repA_lL k
  first | (have FRx := FR; clear FRx) | (have FR : ¬ ((1 : Nat) = 0) := Nat.one_ne_zero)
  repeat' first
    | (refine Sm.mk ?_; try simp -dsimp only [ZK, rvc, drawF, headN, pureH, stp, dvc, calleeOf, gcall, pev, eff, newB, okd, og, ogs, ogo, ogp, slv, bltv, opd, litv, strip, one, both, putE, St.put, look, gdOf, gdv, picka, pickv, pickw, binv, bini, bins, binb, binp, bina, shp, eqCells, unv, convv, nilv, faddv, addp, idxav, idxp, load1, load1m, loadn, loadnm, loadv, hget, hset, hrep, hdel, slicev, bnd, shift1, lenv, IntKind.bits, extractv, fieldv, indexv, min2v, max2v, mkiv, cellsA, fillA, buildv, stC, oneC, rowMB, intsA, plN, appE, appZ, appC, appNZ, appNC, VwL, srcC, srcZ, srcM, isBoolT, isPtrT, isSliceT, uOk, Value.oneCell', Nat.reducePow, Int.reducePow, Nat.reduceAdd, Nat.reduceMul, Nat.reduceSub, Nat.reduceLT, Nat.reduceLeDiff, Nat.reduceEqDiff, Nat.reduceBEq, Nat.reduceDiv, Nat.reduceMod, ↓reduceIte, reduceCtorEq, Int.reduceToNat, Int.reduceLT, Int.reduceLE, drawCF, xvc, xst, splitH, calleeV, putE, hdel, TFRgH, SeqQ, BlkQ, LoopQ, BodyQ, e1, hne, FR])
    | (refine WP.seq fun K hK => ?_)
    | (refine WP.region (rvc_sound _ _ (Sm.out ?_)))
    | (refine WP.drawC (c := 9) (ws := []) (ls := []) (bs := []) mixed (by decide +kernel) (by decide +kernel) (by decide +kernel) (Sm.out ?_))
    | (refine WP.drawK rfl mixed (by decide +kernel) (Sm.out ?_))
    | (refine Ob.mk ?_; focus (first | assumption | omega | decide | trivial | (intro hob; simp only [hob, ZF]; done) | (intros; (repeat' refine And.intro ?_ ?_) <;> first | assumption | omega | trivial | decide) | (intros; simp only [ZE] at *; (repeat' refine And.intro ?_ ?_) <;> first | assumption | omega | trivial)))
    | (refine And.intro (Ob.out ?_) ?_)
    | (refine WP.block ?_)
    | (refine WP.cond rfl (fun hc => ?_) (fun hc => ?_) <;> (try simp only [ZC, reduceCtorEq, ZD] at hc) <;> (try (exact absurd hc (by decide))) <;> (try (exfalso; omega)))
    | ((first | refine WP.skip ?_ | refine WP.exit ?_); simp only [SeqQ, BlkQ, LoopQ, BodyQ, ↓reduceIte, Nat.reduceEqDiff, reduceCtorEq, look, true_and])
    | (refine WP.ret (Sm.out ?_))
    | (first | refine ExG.no (Sm.out ?_) | refine Or.inl (ExG.no (Sm.out ?_)) | refine Or.inl (And.intro (fun hg => absurd hg (by decide)) (ExG.no (Sm.out ?_))))
    | (refine Rt.mk ?_; refine And.intro ?_ ?_ <;> (intro hg; first | exact absurd hg (by decide) | refine Sm.out ?_))
    | (refine Nu.mk ?_; first | (fail_if_success (have := nb1)); intro nb1 | (fail_if_success (have := nb2)); intro nb2 | (fail_if_success (have := nb3)); intro nb3 | intro nbz)
    | (refine Fr.mk ?_; intro hfr; replace FR := And.intro hfr FR; clear hfr; refine Sm.out ?_)
    | (refine Two.mk ?_ ?_)
    | (refine Cs.mk ?_; intro hcs; first | exact False.elim hcs | (exfalso; omega) | (refine Sm.out ?_))
    | go_step
    | omega
    | (simp only [maxLen_eq]; omega)
  have hz : lC k (ptl (bkA G k ne) 0) (ptl (bkA T k ne) 0) = (lL k z0 z0).map (iv .u64) := by
    unfold lC; congr 1
  refine WP.loop (Γ := JG) (fun q => ⟨[(16, iv .i64 q.i), (15, iv .i64 k), (3, ms nb1 0 k k), (0, pt rb 0)], [(nb1, .cells (lC k (ptl (bkA G k ne) q.i) (ptl (bkA T k ne) q.i)) (k * 2) 43), (rb, rbM lb w k ne now sg st), (lb, lbM k G T)]⟩)
    (fun q => q.i ≤ k) (fun q => k - q.i) ⟨0⟩ (by simp) (Sub.pick (by simp [pickB, hget, hdel, FR, hz, hne]) (by simp [look, hz, hne])) ?_
  intro ⟨i⟩ hi
  simp only at hi ⊢
  (refine WP.nd fun hnd => ?_; simp only [ndF, fresh_cons, fresh_nil, and_true, ne_eq] at hnd; replace FR := And.intro hnd FR; clear hnd)
  obtain ⟨A, hA⟩ : ∃ A, A = ptl (bkA G k ne) i := ⟨_, rfl⟩
  obtain ⟨B, hB⟩ : ∃ B, B = ptl (bkA T k ne) i := ⟨_, rfl⟩
  by_cases hlt : i < k
  · have k1 : decide ((i : Int) < (k : Int)) = true := by simp; omega
    have w1 : IntKind.i64.wrap ((i : Int) + 1) = ((i + 1 : Nat) : Int) := by rw [wrap_i64 (by omega) (by omega)]; omega
    have w2 : IntKind.i64.wrap ((k : Int) - 1) = (k : Int) - 1 := wrap_i64 (by omega) (by omega)
    have w3 : IntKind.i64.wrap ((k : Int) - 1 - (i : Int)) = (k : Int) - 1 - (i : Int) := wrap_i64 (by omega) (by omega)
    have w4 : IntKind.i64.wrap ((ne : Int) - ((k : Int) - 1 - (i : Int))) = (ne : Int) + 1 + i - k := by rw [wrap_i64 (by omega) (by omega)]; omega
    have hlc := lC_len A B k
    by_cases hge : k ≤ ne + 1 + i
    · have k2 : decide ((ne : Int) + 1 + i - k ≥ 0) = true := by simp; omega
      obtain ⟨m, hm⟩ : ∃ m, m = ne + 1 + i - k := ⟨_, rfl⟩
      have w5 : (ne : Int) + 1 + i - k = (m : Int) := by omega
      rw [w5] at w4 k2
      have cA := at_ct rb lb w k ne now sg st m hk1 hk2 (by omega)
      have hj : m % k < k := Nat.mod_lt _ (by omega)
      have eG : bkA G k ne i = G (m % k) := by unfold bkA; rw [if_pos hge, ← hm]
      have eT : bkA T k ne i = T (m % k) := by unfold bkA; rw [if_pos hge, ← hm]
      obtain ⟨j, hjj⟩ : ∃ j, j = m % k := ⟨_, rfl⟩
      rw [← hjj] at cA hj eG eT
      obtain ⟨r, hd⟩ := lL_drop G T k j hj
      have s2 := lC_set2 (A := A) (B := B) (x := G j) (y := T j) hlt
      have s3 : lC k (upd A i (G j)) (upd B i (T j)) = lC k (ptl (bkA G k ne) (i + 1)) (ptl (bkA T k ne) (i + 1)) := by
        rw [hA, hB, ← eG, ← eT, ptl_upd, ptl_upd]
      have s4 : (lC k A B).take (i * 2) ++ (nu (G j) :: nu (T j) :: (lC k A B).drop (i * 2 + 2)) = lC k (upd A i (G j)) (upd B i (T j)) := by rw [← s2, List.append_assoc]; rfl
      obtain ⟨D, hD⟩ : ∃ D, D = lC k A B := ⟨_, rfl⟩
      obtain ⟨D', hD'⟩ : ∃ D', D' = lC k (upd A i (G j)) (upd B i (T j)) := ⟨_, rfl⟩
      rw [← hD, ← hD'] at s2 s4
      rw [← hD'] at s3
      rw [← hD] at hlc
      rw [← hA, ← hB, ← hD]
      first | (have FRx := FR; clear FRx) | (have FR : ¬ ((1 : Nat) = 0) := Nat.one_ne_zero)
      repeat' first
        | (refine Sm.mk ?_; try simp -dsimp only [ZK, rvc, drawF, headN, pureH, stp, dvc, calleeOf, gcall, pev, eff, newB, okd, og, ogs, ogo, ogp, slv, bltv, opd, litv, strip, one, both, putE, St.put, look, gdOf, gdv, picka, pickv, pickw, binv, bini, bins, binb, binp, bina, shp, eqCells, unv, convv, nilv, faddv, addp, idxav, idxp, load1, load1m, loadn, loadnm, loadv, hget, hset, hrep, hdel, slicev, bnd, shift1, lenv, IntKind.bits, extractv, fieldv, indexv, min2v, max2v, mkiv, cellsA, fillA, buildv, stC, oneC, rowMB, intsA, plN, appE, appZ, appC, appNZ, appNC, VwL, srcC, srcZ, srcM, isBoolT, isPtrT, isSliceT, uOk, Value.oneCell', Nat.reducePow, Int.reducePow, Nat.reduceAdd, Nat.reduceMul, Nat.reduceSub, Nat.reduceLT, Nat.reduceLeDiff, Nat.reduceEqDiff, Nat.reduceBEq, Nat.reduceDiv, Nat.reduceMod, ↓reduceIte, reduceCtorEq, Int.reduceToNat, Int.reduceLT, Int.reduceLE, drawCF, xvc, xst, splitH, calleeV, putE, hdel, TFRgH, SeqQ, BlkQ, LoopQ, BodyQ, k1, w1, w2, w3, w4, k2, hd, s2, s4, lL_len, hlc, hne, FR])
        | (refine CallV.updM (cA) (perm1 (by simp only [hget, hdel, ↓reduceIte, FR, k1, w1, w2, w3, w4, k2, hd, s2, s4, lL_len, hlc, hne]; first | done | rfl)) (Sm.out ?_))
        | ((first | refine ExF.up ?_ (cA) (Sm.out ?_) | refine ExG.up ?_ (fun _ => cA) (Sm.out ?_) | refine ExG.upJ ?_ (fun _ => cA) (Sm.out ?_) | refine ExG.upI ?_ (fun _ => cA) (Ob.out ?_) (Sm.out ?_)); focus (exact ⟨_, (perm1 (by simp only [hget, hdel, ↓reduceIte, FR, k1, w1, w2, w3, w4, k2, hd, s2, s4, lL_len, hlc, hne]; first | done | rfl))⟩))
        | (refine WP.seq fun K hK => ?_)
        | (refine WP.region (rvc_sound _ _ (Sm.out ?_)))
        | (refine WP.drawC (c := 9) (ws := []) (ls := []) (bs := []) mixed (by decide +kernel) (by decide +kernel) (by decide +kernel) (Sm.out ?_))
        | (refine WP.drawK rfl mixed (by decide +kernel) (Sm.out ?_))
        | (refine Ob.mk ?_; focus (first | assumption | omega | decide | trivial | (intro hob; simp only [hob, ZF]; done) | (intros; (repeat' refine And.intro ?_ ?_) <;> first | assumption | omega | trivial | decide) | (intros; simp only [ZE] at *; (repeat' refine And.intro ?_ ?_) <;> first | assumption | omega | trivial)))
        | (refine And.intro (Ob.out ?_) ?_)
        | (refine WP.block ?_)
        | (refine WP.cond rfl (fun hc => ?_) (fun hc => ?_) <;> (try simp only [ZC, reduceCtorEq, ZD] at hc) <;> (try (exact absurd hc (by decide))) <;> (try (exfalso; omega)))
        | ((first | refine WP.skip ?_ | refine WP.exit ?_); simp only [SeqQ, BlkQ, LoopQ, BodyQ, ↓reduceIte, Nat.reduceEqDiff, reduceCtorEq, look, true_and])
        | (refine WP.ret (Sm.out ?_))
        | (first | refine ExG.no (Sm.out ?_) | refine Or.inl (ExG.no (Sm.out ?_)) | refine Or.inl (And.intro (fun hg => absurd hg (by decide)) (ExG.no (Sm.out ?_))))
        | (refine Rt.mk ?_; refine And.intro ?_ ?_ <;> (intro hg; first | exact absurd hg (by decide) | refine Sm.out ?_))
        | (refine Nu.mk ?_; first | (fail_if_success (have := nb1)); intro nb1 | (fail_if_success (have := nb2)); intro nb2 | (fail_if_success (have := nb3)); intro nb3 | intro nbz)
        | (refine Fr.mk ?_; intro hfr; replace FR := And.intro hfr FR; clear hfr; refine Sm.out ?_)
        | (refine Two.mk ?_ ?_)
        | (refine Cs.mk ?_; intro hcs; first | exact False.elim hcs | (exfalso; omega) | (refine Sm.out ?_))
        | go_step
        | omega
        | (simp only [maxLen_eq]; omega)
      exact ⟨⟨i + 1⟩, by simp only; omega, by simp only; omega, (Sub.pick (by simp [pickB, hget, hdel, FR, s3, hne]) (by simp [look, s3, hne]))⟩
    · have k2 : decide ((ne : Int) + 1 + i - k ≥ 0) = false := by simp; omega
      have eG : bkA G k ne i = 0 := by unfold bkA; rw [if_neg hge]
      have eT : bkA T k ne i = 0 := by unfold bkA; rw [if_neg hge]
      have s3 : lC k A B = lC k (ptl (bkA G k ne) (i + 1)) (ptl (bkA T k ne) (i + 1)) := by rw [ptl_zero _ _ eG, ptl_zero _ _ eT, hA, hB]
      rw [← hA, ← hB]
      first | (have FRx := FR; clear FRx) | (have FR : ¬ ((1 : Nat) = 0) := Nat.one_ne_zero)
      repeat' first
        | (refine Sm.mk ?_; try simp -dsimp only [ZK, rvc, drawF, headN, pureH, stp, dvc, calleeOf, gcall, pev, eff, newB, okd, og, ogs, ogo, ogp, slv, bltv, opd, litv, strip, one, both, putE, St.put, look, gdOf, gdv, picka, pickv, pickw, binv, bini, bins, binb, binp, bina, shp, eqCells, unv, convv, nilv, faddv, addp, idxav, idxp, load1, load1m, loadn, loadnm, loadv, hget, hset, hrep, hdel, slicev, bnd, shift1, lenv, IntKind.bits, extractv, fieldv, indexv, min2v, max2v, mkiv, cellsA, fillA, buildv, stC, oneC, rowMB, intsA, plN, appE, appZ, appC, appNZ, appNC, VwL, srcC, srcZ, srcM, isBoolT, isPtrT, isSliceT, uOk, Value.oneCell', Nat.reducePow, Int.reducePow, Nat.reduceAdd, Nat.reduceMul, Nat.reduceSub, Nat.reduceLT, Nat.reduceLeDiff, Nat.reduceEqDiff, Nat.reduceBEq, Nat.reduceDiv, Nat.reduceMod, ↓reduceIte, reduceCtorEq, Int.reduceToNat, Int.reduceLT, Int.reduceLE, drawCF, xvc, xst, splitH, calleeV, putE, hdel, TFRgH, SeqQ, BlkQ, LoopQ, BodyQ, k1, w1, w2, w3, w4, k2, hne, FR])
        | (refine WP.seq fun K hK => ?_)
        | (refine WP.region (rvc_sound _ _ (Sm.out ?_)))
        | (refine WP.drawC (c := 9) (ws := []) (ls := []) (bs := []) mixed (by decide +kernel) (by decide +kernel) (by decide +kernel) (Sm.out ?_))
        | (refine WP.drawK rfl mixed (by decide +kernel) (Sm.out ?_))
        | (refine Ob.mk ?_; focus (first | assumption | omega | decide | trivial | (intro hob; simp only [hob, ZF]; done) | (intros; (repeat' refine And.intro ?_ ?_) <;> first | assumption | omega | trivial | decide) | (intros; simp only [ZE] at *; (repeat' refine And.intro ?_ ?_) <;> first | assumption | omega | trivial)))
        | (refine And.intro (Ob.out ?_) ?_)
        | (refine WP.block ?_)
        | (refine WP.cond rfl (fun hc => ?_) (fun hc => ?_) <;> (try simp only [ZC, reduceCtorEq, ZD] at hc) <;> (try (exact absurd hc (by decide))) <;> (try (exfalso; omega)))
        | ((first | refine WP.skip ?_ | refine WP.exit ?_); simp only [SeqQ, BlkQ, LoopQ, BodyQ, ↓reduceIte, Nat.reduceEqDiff, reduceCtorEq, look, true_and])
        | (refine WP.ret (Sm.out ?_))
        | (first | refine ExG.no (Sm.out ?_) | refine Or.inl (ExG.no (Sm.out ?_)) | refine Or.inl (And.intro (fun hg => absurd hg (by decide)) (ExG.no (Sm.out ?_))))
        | (refine Rt.mk ?_; refine And.intro ?_ ?_ <;> (intro hg; first | exact absurd hg (by decide) | refine Sm.out ?_))
        | (refine Nu.mk ?_; first | (fail_if_success (have := nb1)); intro nb1 | (fail_if_success (have := nb2)); intro nb2 | (fail_if_success (have := nb3)); intro nb3 | intro nbz)
        | (refine Fr.mk ?_; intro hfr; replace FR := And.intro hfr FR; clear hfr; refine Sm.out ?_)
        | (refine Two.mk ?_ ?_)
        | (refine Cs.mk ?_; intro hcs; first | exact False.elim hcs | (exfalso; omega) | (refine Sm.out ?_))
        | go_step
        | omega
        | (simp only [maxLen_eq]; omega)
      exact ⟨⟨i + 1⟩, by simp only; omega, by simp only; omega, (Sub.pick (by simp [pickB, hget, hdel, FR, s3, hne]) (by simp [look, s3, hne]))⟩
  · obtain rfl : i = k := by omega
    have k1 : decide ((i : Int) < (i : Int)) = false := by simp
    have hp : lC i (ptl (bkA G i ne) i) (ptl (bkA T i ne) i) = lC i (bkA G i ne) (bkA T i ne) := lC_ptl
    rw [hp]
    obtain ⟨D, hD⟩ : ∃ D, D = lC i (bkA G i ne) (bkA T i ne) := ⟨_, rfl⟩
    rw [← hD]
    have hDl : D.length = i * 2 := by rw [hD]; exact lC_len _ _ _
    first | (have FRx := FR; clear FRx) | (have FR : ¬ ((1 : Nat) = 0) := Nat.one_ne_zero)
    repeat' first
      | (refine Sm.mk ?_; try simp -dsimp only [ZK, rvc, drawF, headN, pureH, stp, dvc, calleeOf, gcall, pev, eff, newB, okd, og, ogs, ogo, ogp, slv, bltv, opd, litv, strip, one, both, putE, St.put, look, gdOf, gdv, picka, pickv, pickw, binv, bini, bins, binb, binp, bina, shp, eqCells, unv, convv, nilv, faddv, addp, idxav, idxp, load1, load1m, loadn, loadnm, loadv, hget, hset, hrep, hdel, slicev, bnd, shift1, lenv, IntKind.bits, extractv, fieldv, indexv, min2v, max2v, mkiv, cellsA, fillA, buildv, stC, oneC, rowMB, intsA, plN, appE, appZ, appC, appNZ, appNC, VwL, srcC, srcZ, srcM, isBoolT, isPtrT, isSliceT, uOk, Value.oneCell', Nat.reducePow, Int.reducePow, Nat.reduceAdd, Nat.reduceMul, Nat.reduceSub, Nat.reduceLT, Nat.reduceLeDiff, Nat.reduceEqDiff, Nat.reduceBEq, Nat.reduceDiv, Nat.reduceMod, ↓reduceIte, reduceCtorEq, Int.reduceToNat, Int.reduceLT, Int.reduceLE, drawCF, xvc, xst, splitH, calleeV, putE, hdel, TFRgH, SeqQ, BlkQ, LoopQ, BodyQ, k1, hne, FR])
      | (refine WP.seq fun K hK => ?_)
      | (refine WP.region (rvc_sound _ _ (Sm.out ?_)))
      | (refine WP.drawC (c := 9) (ws := []) (ls := []) (bs := []) mixed (by decide +kernel) (by decide +kernel) (by decide +kernel) (Sm.out ?_))
      | (refine WP.drawK rfl mixed (by decide +kernel) (Sm.out ?_))
      | (refine Ob.mk ?_; focus (first | assumption | omega | decide | trivial | (intro hob; simp only [hob, ZF]; done) | (intros; (repeat' refine And.intro ?_ ?_) <;> first | assumption | omega | trivial | decide) | (intros; simp only [ZE] at *; (repeat' refine And.intro ?_ ?_) <;> first | assumption | omega | trivial)))
      | (refine And.intro (Ob.out ?_) ?_)
      | (refine WP.block ?_)
      | (refine WP.cond rfl (fun hc => ?_) (fun hc => ?_) <;> (try simp only [ZC, reduceCtorEq, ZD] at hc) <;> (try (exact absurd hc (by decide))) <;> (try (exfalso; omega)))
      | ((first | refine WP.skip ?_ | refine WP.exit ?_); simp only [SeqQ, BlkQ, LoopQ, BodyQ, ↓reduceIte, Nat.reduceEqDiff, reduceCtorEq, look, true_and])
      | (refine WP.ret (Sm.out ?_))
      | (first | refine ExG.no (Sm.out ?_) | refine Or.inl (ExG.no (Sm.out ?_)) | refine Or.inl (And.intro (fun hg => absurd hg (by decide)) (ExG.no (Sm.out ?_))))
      | (refine Rt.mk ?_; refine And.intro ?_ ?_ <;> (intro hg; first | exact absurd hg (by decide) | refine Sm.out ?_))
      | (refine Nu.mk ?_; first | (fail_if_success (have := nb1)); intro nb1 | (fail_if_success (have := nb2)); intro nb2 | (fail_if_success (have := nb3)); intro nb3 | intro nbz)
      | (refine Fr.mk ?_; intro hfr; replace FR := And.intro hfr FR; clear hfr; refine Sm.out ?_)
      | (refine Two.mk ?_ ?_)
      | (refine Cs.mk ?_; intro hcs; first | exact False.elim hcs | (exfalso; omega) | (refine Sm.out ?_))
      | go_step
      | omega
      | (simp only [maxLen_eq]; omega)
    have f1 : (i * 2 ≤ D.length ∧ i ≤ 9223372036854775807) = True := by rw [hDl]; simp; omega
    have f2 : D.take (i * 2) = D := List.take_of_length_le (by omega)
    rw [← hD]
    (refine OutQ.wk (Wk.freezeC (nb1) (2) (by simp only [ZK, rvc, drawF, headN, pureH, stp, dvc, calleeOf, gcall, pev, eff, newB, okd, og, ogs, ogo, ogp, slv, bltv, opd, litv, strip, one, both, putE, St.put, look, gdOf, gdv, picka, pickv, pickw, binv, bini, bins, binb, binp, bina, shp, eqCells, unv, convv, nilv, faddv, addp, idxav, idxp, load1, load1m, loadn, loadnm, loadv, hget, hset, hrep, hdel, slicev, bnd, shift1, lenv, IntKind.bits, extractv, fieldv, indexv, min2v, max2v, mkiv, cellsA, fillA, buildv, stC, oneC, rowMB, intsA, plN, appE, appZ, appC, appNZ, appNC, VwL, srcC, srcZ, srcM, isBoolT, isPtrT, isSliceT, uOk, Value.oneCell', Nat.reducePow, Int.reducePow, Nat.reduceAdd, Nat.reduceMul, Nat.reduceSub, Nat.reduceLT, Nat.reduceLeDiff, Nat.reduceEqDiff, Nat.reduceBEq, Nat.reduceDiv, Nat.reduceMod, ↓reduceIte, reduceCtorEq, Int.reduceToNat, Int.reduceLT, Int.reduceLE, drawCF, xvc, xst, splitH, calleeV, putE, hdel, TFRgH, SeqQ, BlkQ, LoopQ, BodyQ, hne, FR]; first | done | rfl)) ?_; simp only [frzCE, frzC, ZK, rvc, drawF, headN, pureH, stp, dvc, calleeOf, gcall, pev, eff, newB, okd, og, ogs, ogo, ogp, slv, bltv, opd, litv, strip, one, both, putE, St.put, look, gdOf, gdv, picka, pickv, pickw, binv, bini, bins, binb, binp, bina, shp, eqCells, unv, convv, nilv, faddv, addp, idxav, idxp, load1, load1m, loadn, loadnm, loadv, hget, hset, hrep, hdel, slicev, bnd, shift1, lenv, IntKind.bits, extractv, fieldv, indexv, min2v, max2v, mkiv, cellsA, fillA, buildv, stC, oneC, rowMB, intsA, plN, appE, appZ, appC, appNZ, appNC, VwL, srcC, srcZ, srcM, isBoolT, isPtrT, isSliceT, uOk, Value.oneCell', Nat.reducePow, Int.reducePow, Nat.reduceAdd, Nat.reduceMul, Nat.reduceSub, Nat.reduceLT, Nat.reduceLeDiff, Nat.reduceEqDiff, Nat.reduceBEq, Nat.reduceDiv, Nat.reduceMod, ↓reduceIte, reduceCtorEq, Int.reduceToNat, Int.reduceLT, Int.reduceLE, drawCF, xvc, xst, splitH, calleeV, putE, hdel, TFRgH, SeqQ, BlkQ, LoopQ, BodyQ, hne, FR])
    (refine OutQ.drop _ _ (perm2 (by simp only [hget, hdel, ↓reduceIte, if_true, if_false, FR, hne, f1, f2, if_true]; first | done | rfl) (by simp only [hget, hdel, ↓reduceIte, if_true, if_false, FR, hne, f1, f2, if_true]; first | done | rfl)) (by simp only [resv, ZK, look, loadv, loadn, loadnm, load1, load1m, hget, ↓reduceIte, Nat.reduceEqDiff, Nat.reduceAdd, Nat.reduceMul, Nat.reduceLeDiff, Nat.reduceLT, reduceCtorEq, TFRgH, FR, hne, f1, f2, if_true]) ⟨(by simp only [resv, resA, ZK, look, loadv, loadn, loadnm, load1, load1m, hget, ↓reduceIte, Nat.reduceEqDiff, Nat.reduceAdd, Nat.reduceMul, Nat.reduceLeDiff, Nat.reduceLT, reduceCtorEq, TFRgH, FR, hne, f1, f2, if_true]; first | done | rfl), rfl⟩)
end Go.Proofs.Ytbnkmhlnoaebcaa
namespace Go.Proofs.Ytbnkmhlnoaebcaa
open Go
set_option linter.unusedVariables false
set_option linter.unusedSimpArgs false
theorem TFRgI : (((((((type_of% tyc0) ∧ (type_of% tyc2)) ∧ ((type_of% zmb2) ∧ (type_of% tyc3))) ∧ (((type_of% zmb3) ∧ (type_of% tyc4)) ∧ ((type_of% zmb4) ∧ (type_of% tyc23)))) ∧ ((((type_of% zmb23) ∧ (type_of% tyc32)) ∧ ((type_of% elt32) ∧ (type_of% mkz32))) ∧ (((type_of% mkc32) ∧ (type_of% apT32)) ∧ ((type_of% elk32) ∧ (type_of% zmb32))))) ∧ (((((type_of% tyc35) ∧ (type_of% zmb35)) ∧ ((type_of% tyc36) ∧ (type_of% elt36))) ∧ (((type_of% mkz36) ∧ (type_of% mkc36)) ∧ ((type_of% apT36) ∧ (type_of% elk36)))) ∧ ((((type_of% zmb36) ∧ (type_of% tyc38)) ∧ ((type_of% foff38_0) ∧ (type_of% fpart38_0))) ∧ (((type_of% foff38_1) ∧ (type_of% fpart38_1)) ∧ ((type_of% foff38_2) ∧ (type_of% fpart38_2)))))) ∧ ((((((type_of% foff38_3) ∧ (type_of% fpart38_3)) ∧ ((type_of% zmb38) ∧ (type_of% bldT38))) ∧ (((type_of% tyc41) ∧ (type_of% zmb41)) ∧ ((type_of% tyc43) ∧ (type_of% foff43_0)))) ∧ ((((type_of% fpart43_0) ∧ (type_of% foff43_1)) ∧ ((type_of% fpart43_1) ∧ (type_of% fe43))) ∧ (((type_of% zmb43) ∧ (type_of% bldT43)) ∧ ((type_of% tyc70) ∧ (type_of% foff70_0))))) ∧ (((((type_of% fpart70_0) ∧ (type_of% foff70_1)) ∧ ((type_of% fpart70_1) ∧ (type_of% zmb70))) ∧ (((type_of% bldT70) ∧ (type_of% Try.underlying0)) ∧ ((type_of% Try.underlying2) ∧ (type_of% Try.underlying3)))) ∧ ((((type_of% Try.underlying4) ∧ (type_of% Try.underlying23)) ∧ ((type_of% Try.underlying32) ∧ (type_of% Try.underlying35))) ∧ (((type_of% Try.underlying36) ∧ (type_of% Try.underlying38)) ∧ ((type_of% Try.underlying41) ∧ ((type_of% Try.underlying43) ∧ (type_of% Try.underlying70)))))))) :=
  ⟨⟨⟨⟨⟨⟨tyc0, tyc2⟩, ⟨zmb2, tyc3⟩⟩, ⟨⟨zmb3, tyc4⟩, ⟨zmb4, tyc23⟩⟩⟩, ⟨⟨⟨zmb23, tyc32⟩, ⟨elt32, mkz32⟩⟩, ⟨⟨mkc32, apT32⟩, ⟨elk32, zmb32⟩⟩⟩⟩, ⟨⟨⟨⟨tyc35, zmb35⟩, ⟨tyc36, elt36⟩⟩, ⟨⟨mkz36, mkc36⟩, ⟨apT36, elk36⟩⟩⟩, ⟨⟨⟨zmb36, tyc38⟩, ⟨foff38_0, fpart38_0⟩⟩, ⟨⟨foff38_1, fpart38_1⟩, ⟨foff38_2, fpart38_2⟩⟩⟩⟩⟩, ⟨⟨⟨⟨⟨foff38_3, fpart38_3⟩, ⟨zmb38, bldT38⟩⟩, ⟨⟨tyc41, zmb41⟩, ⟨tyc43, foff43_0⟩⟩⟩, ⟨⟨⟨fpart43_0, foff43_1⟩, ⟨fpart43_1, fe43⟩⟩, ⟨⟨zmb43, bldT43⟩, ⟨tyc70, foff70_0⟩⟩⟩⟩, ⟨⟨⟨⟨fpart70_0, foff70_1⟩, ⟨fpart70_1, zmb70⟩⟩, ⟨⟨bldT70, Try.underlying0⟩, ⟨Try.underlying2, Try.underlying3⟩⟩⟩, ⟨⟨⟨Try.underlying4, Try.underlying23⟩, ⟨Try.underlying32, Try.underlying35⟩⟩, ⟨⟨Try.underlying36, Try.underlying38⟩, ⟨Try.underlying41, ⟨Try.underlying43, Try.underlying70⟩⟩⟩⟩⟩⟩⟩
def pB (n : Int) (w : Nat) : Nat → Bool := fun a => decide (0 ≤ n) && decide (((a / w : Nat) : Int) = n)
set_option maxRecDepth 8000 in
set_option maxHeartbeats 2000000 in
theorem refBucket_ct (W G k w now : Nat) (n : Int) (E : List Ev) (hg : goP W G) (h : GoOk W G k w) (hE : ∀ e ∈ E, e.at_ ≤ 253402300799) (hl : E.length ≤ 1000)
    (hG : sG (pB n w) E < 18446744073709551616) (hT : sT (pB n w) E < 18446744073709551616) :
    ACt Try.prog 47 [mV W G now E, iv .i64 n] [] (Fn (cnt (sG (pB n w) E) (sT (pB n w) E))) := by
  refine ACt.intro Try.func47 rfl (by kernel_rfl) (by simp [Try.ntmps47]) (fun cx => ?_)
  simp only [argE, Try.ntmps47, Try.results47]
  have cB := Buckets_ct W G hg
  rw [← h.hk] at cB
  have hk1 := h.k1
  have hk2 := h.k2
  have hw1 := h.w0
  have hW := h.w2
  have n1 : ¬ (k : Int) = 0 := by omega
  have n2 : ¬ (w : Int) = 0 := by omega
  have e1 : (W : Int).tdiv (k : Int) = (w : Int) := by rw [h.hw, Int.tdiv_eq_ediv_of_nonneg (by omega)]; simp
  have hwW : w ≤ W := by rw [h.hw]; exact Nat.div_le_self _ _
  have e2 : IntKind.i64.wrap (w : Int) = (w : Int) := wrap_i64_nat (by omega)
  obtain ⟨C, hC⟩ : ∃ C, C = evC E := ⟨_, rfl⟩
  have hCl : C.length = E.length * 3 := by rw [hC, evC_len]
  have hdr : ∀ (i : Nat) (hi : i < E.length), C.drop (i * 3) = iv .i64 E[i].at_ :: nu E[i].g :: nu E[i].t :: evC (E.drop (i + 1)) := fun i hi => by rw [hC]; exact evC_drop E i hi
  unfold mV
  rw [← hC]
  first | (have FRx := FR; clear FRx) | (have FR : ¬ ((1 : Nat) = 0) := Nat.one_ne_zero)
  repeat' first
    | (refine Sm.mk ?_; try simp -dsimp only [ZK, rvc, drawF, headN, pureH, stp, dvc, calleeOf, gcall, pev, eff, newB, okd, og, ogs, ogo, ogp, slv, bltv, opd, litv, strip, one, both, putE, St.put, look, gdOf, gdv, picka, pickv, pickw, binv, bini, bins, binb, binp, bina, shp, eqCells, unv, convv, nilv, faddv, addp, idxav, idxp, load1, load1m, loadn, loadnm, loadv, hget, hset, hrep, hdel, slicev, bnd, shift1, lenv, IntKind.bits, extractv, fieldv, indexv, min2v, max2v, mkiv, cellsA, fillA, buildv, stC, oneC, rowMB, intsA, plN, appE, appZ, appC, appNZ, appNC, VwL, srcC, srcZ, srcM, isBoolT, isPtrT, isSliceT, uOk, Value.oneCell', Nat.reducePow, Int.reducePow, Nat.reduceAdd, Nat.reduceMul, Nat.reduceSub, Nat.reduceLT, Nat.reduceLeDiff, Nat.reduceEqDiff, Nat.reduceBEq, Nat.reduceDiv, Nat.reduceMod, ↓reduceIte, reduceCtorEq, Int.reduceToNat, Int.reduceLT, Int.reduceLE, drawMF, mkS, TFRgI, SeqQ, BlkQ, LoopQ, BodyQ, e1, e2, n1, FR])
    | (first | refine CallV.fn (cB) (Sm.out ?_) | refine ExF.mk (cB) (Sm.out ?_) | refine ExG.mk (fun _ => cB) (Sm.out ?_) | refine ExG.mkJ (fun _ => cB) (Sm.out ?_) | refine ExG.mkI (Ob.out ?_) (fun _ => cB) (Sm.out ?_))
    | (refine WP.seq fun K hK => ?_)
    | (refine WP.region (rvc_sound _ _ (Sm.out ?_)))
    | (refine WP.drawMk (ia := 8) (k := 9) mixed (by decide +kernel) (by decide +kernel) (by decide +kernel) (by decide +kernel) (Sm.out ?_))
    | (refine WP.drawK rfl mixed (by decide +kernel) (Sm.out ?_))
    | (refine Ob.mk ?_; focus (first | assumption | omega | decide | trivial | (intro hob; simp only [hob, ZF]; done) | (intros; (repeat' refine And.intro ?_ ?_) <;> first | assumption | omega | trivial | decide) | (intros; simp only [ZE] at *; (repeat' refine And.intro ?_ ?_) <;> first | assumption | omega | trivial)))
    | (refine And.intro (Ob.out ?_) ?_)
    | (refine WP.block ?_)
    | (refine WP.cond rfl (fun hc => ?_) (fun hc => ?_) <;> (try simp only [ZC, reduceCtorEq, ZD] at hc) <;> (try (exact absurd hc (by decide))) <;> (try (exfalso; omega)))
    | ((first | refine WP.skip ?_ | refine WP.exit ?_); simp only [SeqQ, BlkQ, LoopQ, BodyQ, ↓reduceIte, Nat.reduceEqDiff, reduceCtorEq, look, true_and])
    | (refine WP.ret (Sm.out ?_))
    | (first | refine ExG.no (Sm.out ?_) | refine Or.inl (ExG.no (Sm.out ?_)) | refine Or.inl (And.intro (fun hg => absurd hg (by decide)) (ExG.no (Sm.out ?_))))
    | (refine Rt.mk ?_; refine And.intro ?_ ?_ <;> (intro hg; first | exact absurd hg (by decide) | refine Sm.out ?_))
    | (refine Nu.mk ?_; first | (fail_if_success (have := nb1)); intro nb1 | (fail_if_success (have := nb2)); intro nb2 | (fail_if_success (have := nb3)); intro nb3 | (fail_if_success (have := nb4)); intro nb4 | intro nbz)
    | (refine Fr.mk ?_; intro hfr; replace FR := And.intro hfr FR; clear hfr; refine Sm.out ?_)
    | (refine Two.mk ?_ ?_)
    | (refine Cs.mk ?_; intro hcs; first | exact False.elim hcs | (exfalso; omega) | (refine Sm.out ?_))
    | go_step
    | omega
    | (simp only [maxLen_eq]; omega)
  refine WP.loop (Γ := JG) (fun q => ⟨[(7, iv .i64 q.i), (5, iv .i64 w), (1, iv .i64 n), (0, .ip [iv .i64 W, iv .i64 G, iv .i64 now, .sl E.length C]), (6, pt nb2 0), (4, pt nb1 0)], [(nb2, .cells [nu (sG (pB n w) (E.take q.i)), nu (sT (pB n w) (E.take q.i))] 2 43), (nb1, .cells [nu 0, nu 0] 2 43)]⟩)
    (fun q => q.i ≤ E.length) (fun q => E.length - q.i) ⟨0⟩ (by simp) (Sub.pick (by simp [pickB, hget, hdel, FR, List.take_zero, sG, sT]) (by simp [look, List.take_zero, sG, sT])) ?_
  intro ⟨i⟩ hi
  simp only at hi ⊢
  (refine WP.nd fun hnd => ?_; simp only [ndF, fresh_cons, fresh_nil, and_true, ne_eq] at hnd; replace FR := And.intro hnd FR; clear hnd)
  by_cases hlt : i < E.length
  · have k1 : decide ((i : Int) < (E.length : Int)) = true := by simp; omega
    have hd := hdr i hlt
    obtain ⟨e, he⟩ : ∃ e, e = E[i] := ⟨_, rfl⟩
    obtain ⟨TR, hTR⟩ : ∃ TR, TR = evC (E.drop (i + 1)) := ⟨_, rfl⟩
    rw [← he, ← hTR] at hd
    have hat : e.at_ ≤ 253402300799 := hE e (by rw [he]; exact List.getElem_mem hlt)
    have gT := sG_take (pB n w) E i hlt
    have tT := sT_take (pB n w) E i hlt
    rw [← he] at gT tT
    have gl := sG_le (pB n w) E (i + 1)
    have tl := sT_le (pB n w) E (i + 1)
    have q1 : i * 3 + 3 ≤ C.length := by omega
    have w1 : IntKind.i64.wrap ((i : Int) + 1) = ((i + 1 : Nat) : Int) := by rw [wrap_i64 (by omega) (by omega)]; omega
    obtain ⟨Q, hQ⟩ : ∃ Q, Q = e.at_ / w := ⟨_, rfl⟩
    have hQl : Q ≤ e.at_ := by rw [hQ]; exact Nat.div_le_self _ _
    have e3 : (e.at_ : Int).tdiv (w : Int) = (Q : Int) := by rw [hQ, Int.tdiv_eq_ediv_of_nonneg (by omega)]; simp
    have e4 : IntKind.i64.wrap (Q : Int) = (Q : Int) := wrap_i64_nat (by omega)
    obtain ⟨b, hb⟩ : ∃ b, b = pB n w e.at_ := ⟨_, rfl⟩
    have hb' : (decide (0 ≤ n) && decide ((Q : Int) = n)) = b := by rw [hb, hQ]; rfl
    rw [← hb] at gT tT
    have k2 : decide (n ≥ 0) = decide (0 ≤ n) := rfl
    have k3 : ((Q : Int) == n) = decide ((Q : Int) = n) := by rw [Bool.eq_iff_iff]; simp
    obtain ⟨A, hA⟩ : ∃ A, A = sG (pB n w) (E.take i) := ⟨_, rfl⟩
    obtain ⟨B, hB⟩ : ∃ B, B = sT (pB n w) (E.take i) := ⟨_, rfl⟩
    rw [← hA] at gT ⊢
    rw [← hB] at tT ⊢
    clear hdr hQ hb
    by_cases hn0 : 0 ≤ n
    · have k4 : decide (n ≥ 0) = true := by simp; omega
      rw [decide_eq_true hn0, Bool.true_and] at hb'
      cases b
      · simp only [Bool.false_eq_true, if_false, Nat.add_zero] at gT tT
        rw [hb'] at k3
        first | (have FRx := FR; clear FRx) | (have FR : ¬ ((1 : Nat) = 0) := Nat.one_ne_zero)
        repeat' first
          | (refine Sm.mk ?_; try simp -dsimp only [ZK, rvc, drawF, headN, pureH, stp, dvc, calleeOf, gcall, pev, eff, newB, okd, og, ogs, ogo, ogp, slv, bltv, opd, litv, strip, one, both, putE, St.put, look, gdOf, gdv, picka, pickv, pickw, binv, bini, bins, binb, binp, bina, shp, eqCells, unv, convv, nilv, faddv, addp, idxav, idxp, load1, load1m, loadn, loadnm, loadv, hget, hset, hrep, hdel, slicev, bnd, shift1, lenv, IntKind.bits, extractv, fieldv, indexv, min2v, max2v, mkiv, cellsA, fillA, buildv, stC, oneC, rowMB, intsA, plN, appE, appZ, appC, appNZ, appNC, VwL, srcC, srcZ, srcM, isBoolT, isPtrT, isSliceT, uOk, Value.oneCell', Nat.reducePow, Int.reducePow, Nat.reduceAdd, Nat.reduceMul, Nat.reduceSub, Nat.reduceLT, Nat.reduceLeDiff, Nat.reduceEqDiff, Nat.reduceBEq, Nat.reduceDiv, Nat.reduceMod, ↓reduceIte, reduceCtorEq, Int.reduceToNat, Int.reduceLT, Int.reduceLE, drawMF, mkS, TFRgI, SeqQ, BlkQ, LoopQ, BodyQ, k1, hd, q1, w1, e3, e4, n2, k3, k4, FR])
          | (refine WP.seq fun K hK => ?_)
          | (refine WP.region (rvc_sound _ _ (Sm.out ?_)))
          | (refine WP.drawMk (ia := 8) (k := 9) mixed (by decide +kernel) (by decide +kernel) (by decide +kernel) (by decide +kernel) (Sm.out ?_))
          | (refine WP.drawK rfl mixed (by decide +kernel) (Sm.out ?_))
          | (refine Ob.mk ?_; focus (first | assumption | omega | decide | trivial | (intro hob; simp only [hob, ZF]; done) | (intros; (repeat' refine And.intro ?_ ?_) <;> first | assumption | omega | trivial | decide) | (intros; simp only [ZE] at *; (repeat' refine And.intro ?_ ?_) <;> first | assumption | omega | trivial)))
          | (refine And.intro (Ob.out ?_) ?_)
          | (refine WP.block ?_)
          | (refine WP.cond rfl (fun hc => ?_) (fun hc => ?_) <;> (try simp only [ZC, reduceCtorEq, ZD] at hc) <;> (try (exact absurd hc (by decide))) <;> (try (exfalso; omega)))
          | ((first | refine WP.skip ?_ | refine WP.exit ?_); simp only [SeqQ, BlkQ, LoopQ, BodyQ, ↓reduceIte, Nat.reduceEqDiff, reduceCtorEq, look, true_and])
          | (refine WP.ret (Sm.out ?_))
          | (first | refine ExG.no (Sm.out ?_) | refine Or.inl (ExG.no (Sm.out ?_)) | refine Or.inl (And.intro (fun hg => absurd hg (by decide)) (ExG.no (Sm.out ?_))))
          | (refine Rt.mk ?_; refine And.intro ?_ ?_ <;> (intro hg; first | exact absurd hg (by decide) | refine Sm.out ?_))
          | (refine Nu.mk ?_; first | (fail_if_success (have := nb1)); intro nb1 | (fail_if_success (have := nb2)); intro nb2 | (fail_if_success (have := nb3)); intro nb3 | (fail_if_success (have := nb4)); intro nb4 | intro nbz)
          | (refine Fr.mk ?_; intro hfr; replace FR := And.intro hfr FR; clear hfr; refine Sm.out ?_)
          | (refine Two.mk ?_ ?_)
          | (refine Cs.mk ?_; intro hcs; first | exact False.elim hcs | (exfalso; omega) | (refine Sm.out ?_))
          | go_step
          | omega
          | (simp only [maxLen_eq]; omega)
        exact ⟨⟨i + 1⟩, by simp only; omega, by simp only; omega, (Sub.pick (by simp [pickB, hget, hdel, FR, gT, tT]) (by simp [look, gT, tT]))⟩
      · simp only [if_true] at gT tT
        rw [hb'] at k3
        have a1 : IntKind.u64.wrap ((A : Int) + (e.g : Int)) = ((A + e.g : Nat) : Int) := by rw [wrap_u64 (by omega) (by omega)]; omega
        have a2 : IntKind.u64.wrap ((B : Int) + (e.t : Int)) = ((B + e.t : Nat) : Int) := by rw [wrap_u64 (by omega) (by omega)]; omega
        first | (have FRx := FR; clear FRx) | (have FR : ¬ ((1 : Nat) = 0) := Nat.one_ne_zero)
        repeat' first
          | (refine Sm.mk ?_; try simp -dsimp only [ZK, rvc, drawF, headN, pureH, stp, dvc, calleeOf, gcall, pev, eff, newB, okd, og, ogs, ogo, ogp, slv, bltv, opd, litv, strip, one, both, putE, St.put, look, gdOf, gdv, picka, pickv, pickw, binv, bini, bins, binb, binp, bina, shp, eqCells, unv, convv, nilv, faddv, addp, idxav, idxp, load1, load1m, loadn, loadnm, loadv, hget, hset, hrep, hdel, slicev, bnd, shift1, lenv, IntKind.bits, extractv, fieldv, indexv, min2v, max2v, mkiv, cellsA, fillA, buildv, stC, oneC, rowMB, intsA, plN, appE, appZ, appC, appNZ, appNC, VwL, srcC, srcZ, srcM, isBoolT, isPtrT, isSliceT, uOk, Value.oneCell', Nat.reducePow, Int.reducePow, Nat.reduceAdd, Nat.reduceMul, Nat.reduceSub, Nat.reduceLT, Nat.reduceLeDiff, Nat.reduceEqDiff, Nat.reduceBEq, Nat.reduceDiv, Nat.reduceMod, ↓reduceIte, reduceCtorEq, Int.reduceToNat, Int.reduceLT, Int.reduceLE, drawMF, mkS, TFRgI, SeqQ, BlkQ, LoopQ, BodyQ, k1, hd, q1, w1, a1, a2, e3, e4, n2, k3, k4, FR])
          | (refine WP.seq fun K hK => ?_)
          | (refine WP.region (rvc_sound _ _ (Sm.out ?_)))
          | (refine WP.drawMk (ia := 8) (k := 9) mixed (by decide +kernel) (by decide +kernel) (by decide +kernel) (by decide +kernel) (Sm.out ?_))
          | (refine WP.drawK rfl mixed (by decide +kernel) (Sm.out ?_))
          | (refine Ob.mk ?_; focus (first | assumption | omega | decide | trivial | (intro hob; simp only [hob, ZF]; done) | (intros; (repeat' refine And.intro ?_ ?_) <;> first | assumption | omega | trivial | decide) | (intros; simp only [ZE] at *; (repeat' refine And.intro ?_ ?_) <;> first | assumption | omega | trivial)))
          | (refine And.intro (Ob.out ?_) ?_)
          | (refine WP.block ?_)
          | (refine WP.cond rfl (fun hc => ?_) (fun hc => ?_) <;> (try simp only [ZC, reduceCtorEq, ZD] at hc) <;> (try (exact absurd hc (by decide))) <;> (try (exfalso; omega)))
          | ((first | refine WP.skip ?_ | refine WP.exit ?_); simp only [SeqQ, BlkQ, LoopQ, BodyQ, ↓reduceIte, Nat.reduceEqDiff, reduceCtorEq, look, true_and])
          | (refine WP.ret (Sm.out ?_))
          | (first | refine ExG.no (Sm.out ?_) | refine Or.inl (ExG.no (Sm.out ?_)) | refine Or.inl (And.intro (fun hg => absurd hg (by decide)) (ExG.no (Sm.out ?_))))
          | (refine Rt.mk ?_; refine And.intro ?_ ?_ <;> (intro hg; first | exact absurd hg (by decide) | refine Sm.out ?_))
          | (refine Nu.mk ?_; first | (fail_if_success (have := nb1)); intro nb1 | (fail_if_success (have := nb2)); intro nb2 | (fail_if_success (have := nb3)); intro nb3 | (fail_if_success (have := nb4)); intro nb4 | intro nbz)
          | (refine Fr.mk ?_; intro hfr; replace FR := And.intro hfr FR; clear hfr; refine Sm.out ?_)
          | (refine Two.mk ?_ ?_)
          | (refine Cs.mk ?_; intro hcs; first | exact False.elim hcs | (exfalso; omega) | (refine Sm.out ?_))
          | go_step
          | omega
          | (simp only [maxLen_eq]; omega)
        exact ⟨⟨i + 1⟩, by simp only; omega, by simp only; omega, (Sub.pick (by simp [pickB, hget, hdel, FR, gT, tT]) (by simp [look, gT, tT]))⟩
    · have k4 : decide (n ≥ 0) = false := by simp; omega
      rw [decide_eq_false hn0, Bool.false_and] at hb'
      subst hb'
      simp only [Bool.false_eq_true, if_false, Nat.add_zero] at gT tT
      obtain ⟨v, k5⟩ : ∃ v, ((Q : Int) == n) = v := ⟨_, rfl⟩
      first | (have FRx := FR; clear FRx) | (have FR : ¬ ((1 : Nat) = 0) := Nat.one_ne_zero)
      repeat' first
        | (refine Sm.mk ?_; try simp -dsimp only [ZK, rvc, drawF, headN, pureH, stp, dvc, calleeOf, gcall, pev, eff, newB, okd, og, ogs, ogo, ogp, slv, bltv, opd, litv, strip, one, both, putE, St.put, look, gdOf, gdv, picka, pickv, pickw, binv, bini, bins, binb, binp, bina, shp, eqCells, unv, convv, nilv, faddv, addp, idxav, idxp, load1, load1m, loadn, loadnm, loadv, hget, hset, hrep, hdel, slicev, bnd, shift1, lenv, IntKind.bits, extractv, fieldv, indexv, min2v, max2v, mkiv, cellsA, fillA, buildv, stC, oneC, rowMB, intsA, plN, appE, appZ, appC, appNZ, appNC, VwL, srcC, srcZ, srcM, isBoolT, isPtrT, isSliceT, uOk, Value.oneCell', Nat.reducePow, Int.reducePow, Nat.reduceAdd, Nat.reduceMul, Nat.reduceSub, Nat.reduceLT, Nat.reduceLeDiff, Nat.reduceEqDiff, Nat.reduceBEq, Nat.reduceDiv, Nat.reduceMod, ↓reduceIte, reduceCtorEq, Int.reduceToNat, Int.reduceLT, Int.reduceLE, drawMF, mkS, TFRgI, SeqQ, BlkQ, LoopQ, BodyQ, k1, hd, q1, w1, e3, e4, n2, k4, k5, FR])
        | (refine WP.seq fun K hK => ?_)
        | (refine WP.region (rvc_sound _ _ (Sm.out ?_)))
        | (refine WP.drawMk (ia := 8) (k := 9) mixed (by decide +kernel) (by decide +kernel) (by decide +kernel) (by decide +kernel) (Sm.out ?_))
        | (refine WP.drawK rfl mixed (by decide +kernel) (Sm.out ?_))
        | (refine Ob.mk ?_; focus (first | assumption | omega | decide | trivial | (intro hob; simp only [hob, ZF]; done) | (intros; (repeat' refine And.intro ?_ ?_) <;> first | assumption | omega | trivial | decide) | (intros; simp only [ZE] at *; (repeat' refine And.intro ?_ ?_) <;> first | assumption | omega | trivial)))
        | (refine And.intro (Ob.out ?_) ?_)
        | (refine WP.block ?_)
        | (refine WP.cond rfl (fun hc => ?_) (fun hc => ?_) <;> (try simp only [ZC, reduceCtorEq, ZD] at hc) <;> (try (exact absurd hc (by decide))) <;> (try (exfalso; omega)))
        | ((first | refine WP.skip ?_ | refine WP.exit ?_); simp only [SeqQ, BlkQ, LoopQ, BodyQ, ↓reduceIte, Nat.reduceEqDiff, reduceCtorEq, look, true_and])
        | (refine WP.ret (Sm.out ?_))
        | (first | refine ExG.no (Sm.out ?_) | refine Or.inl (ExG.no (Sm.out ?_)) | refine Or.inl (And.intro (fun hg => absurd hg (by decide)) (ExG.no (Sm.out ?_))))
        | (refine Rt.mk ?_; refine And.intro ?_ ?_ <;> (intro hg; first | exact absurd hg (by decide) | refine Sm.out ?_))
        | (refine Nu.mk ?_; first | (fail_if_success (have := nb1)); intro nb1 | (fail_if_success (have := nb2)); intro nb2 | (fail_if_success (have := nb3)); intro nb3 | (fail_if_success (have := nb4)); intro nb4 | intro nbz)
        | (refine Fr.mk ?_; intro hfr; replace FR := And.intro hfr FR; clear hfr; refine Sm.out ?_)
        | (refine Two.mk ?_ ?_)
        | (refine Cs.mk ?_; intro hcs; first | exact False.elim hcs | (exfalso; omega) | (refine Sm.out ?_))
        | go_step
        | omega
        | (simp only [maxLen_eq]; omega)
      exact ⟨⟨i + 1⟩, by simp only; omega, by simp only; omega, (Sub.pick (by simp [pickB, hget, hdel, FR, gT, tT]) (by simp [look, gT, tT]))⟩
  · obtain rfl : i = E.length := by omega
    have k1 : decide ((E.length : Int) < (E.length : Int)) = false := by simp
    first | (have FRx := FR; clear FRx) | (have FR : ¬ ((1 : Nat) = 0) := Nat.one_ne_zero)
    repeat' first
      | (refine Sm.mk ?_; try simp -dsimp only [ZK, rvc, drawF, headN, pureH, stp, dvc, calleeOf, gcall, pev, eff, newB, okd, og, ogs, ogo, ogp, slv, bltv, opd, litv, strip, one, both, putE, St.put, look, gdOf, gdv, picka, pickv, pickw, binv, bini, bins, binb, binp, bina, shp, eqCells, unv, convv, nilv, faddv, addp, idxav, idxp, load1, load1m, loadn, loadnm, loadv, hget, hset, hrep, hdel, slicev, bnd, shift1, lenv, IntKind.bits, extractv, fieldv, indexv, min2v, max2v, mkiv, cellsA, fillA, buildv, stC, oneC, rowMB, intsA, plN, appE, appZ, appC, appNZ, appNC, VwL, srcC, srcZ, srcM, isBoolT, isPtrT, isSliceT, uOk, Value.oneCell', Nat.reducePow, Int.reducePow, Nat.reduceAdd, Nat.reduceMul, Nat.reduceSub, Nat.reduceLT, Nat.reduceLeDiff, Nat.reduceEqDiff, Nat.reduceBEq, Nat.reduceDiv, Nat.reduceMod, ↓reduceIte, reduceCtorEq, Int.reduceToNat, Int.reduceLT, Int.reduceLE, drawMF, mkS, TFRgI, SeqQ, BlkQ, LoopQ, BodyQ, k1, List.take_length, FR])
      | (refine WP.seq fun K hK => ?_)
      | (refine WP.region (rvc_sound _ _ (Sm.out ?_)))
      | (refine WP.drawMk (ia := 8) (k := 9) mixed (by decide +kernel) (by decide +kernel) (by decide +kernel) (by decide +kernel) (Sm.out ?_))
      | (refine WP.drawK rfl mixed (by decide +kernel) (Sm.out ?_))
      | (refine Ob.mk ?_; focus (first | assumption | omega | decide | trivial | (intro hob; simp only [hob, ZF]; done) | (intros; (repeat' refine And.intro ?_ ?_) <;> first | assumption | omega | trivial | decide) | (intros; simp only [ZE] at *; (repeat' refine And.intro ?_ ?_) <;> first | assumption | omega | trivial)))
      | (refine And.intro (Ob.out ?_) ?_)
      | (refine WP.block ?_)
      | (refine WP.cond rfl (fun hc => ?_) (fun hc => ?_) <;> (try simp only [ZC, reduceCtorEq, ZD] at hc) <;> (try (exact absurd hc (by decide))) <;> (try (exfalso; omega)))
      | ((first | refine WP.skip ?_ | refine WP.exit ?_); simp only [SeqQ, BlkQ, LoopQ, BodyQ, ↓reduceIte, Nat.reduceEqDiff, reduceCtorEq, look, true_and])
      | (refine WP.ret (Sm.out ?_))
      | (first | refine ExG.no (Sm.out ?_) | refine Or.inl (ExG.no (Sm.out ?_)) | refine Or.inl (And.intro (fun hg => absurd hg (by decide)) (ExG.no (Sm.out ?_))))
      | (refine Rt.mk ?_; refine And.intro ?_ ?_ <;> (intro hg; first | exact absurd hg (by decide) | refine Sm.out ?_))
      | (refine Nu.mk ?_; first | (fail_if_success (have := nb1)); intro nb1 | (fail_if_success (have := nb2)); intro nb2 | (fail_if_success (have := nb3)); intro nb3 | (fail_if_success (have := nb4)); intro nb4 | intro nbz)
      | (refine Fr.mk ?_; intro hfr; replace FR := And.intro hfr FR; clear hfr; refine Sm.out ?_)
      | (refine Two.mk ?_ ?_)
      | (refine Cs.mk ?_; intro hcs; first | exact False.elim hcs | (exfalso; omega) | (refine Sm.out ?_))
      | (refine OutQ.all ?_ ?_; (focus (simp only [resv, ZK, look, loadv, loadn, loadnm, load1, load1m, hget, ↓reduceIte, Nat.reduceEqDiff, Nat.reduceAdd, Nat.reduceMul, Nat.reduceLeDiff, Nat.reduceLT, reduceCtorEq, TFRgI, k1, List.take_length, FR])); (try simp only [resv, resA, Fn, ZK, look, loadv, loadn, loadnm, load1, load1m, hget, ↓reduceIte, Nat.reduceEqDiff, Nat.reduceAdd, Nat.reduceMul, Nat.reduceLeDiff, Nat.reduceLT, reduceCtorEq, TFRgI, k1, List.take_length, FR]); (try simp [resA, Fn, look, k1, List.take_length, FR]); done)
      | go_step
      | omega
      | (simp only [maxLen_eq]; omega)
structure LG where
  i : Nat
  b : Nat
  cap : Nat
/-! ### It moves on, and is added to -/
abbrev mM (W G now : Nat) (l : AV) : MB := .cells [iv .i64 W, iv .i64 G, iv .i64 now, l] 4 38
abbrev nilS : AV := .lit (.slice none 0 0)
theorem refMove_bad (mb W G now : Nat) (l : AV) (n : Int) (h : ¬ (0 ≤ n ∧ n ≤ 253402300799)) : ACt Try.prog 33 [pt mb 0, iv .i64 n] [(mb, mM W G now l)] (fun r F' => r = iv .i64 8 ∧ F' = [(mb, mM W G now l)]) := by
  refine ACt.intro Try.func33 rfl (by kernel_rfl) (by simp [Try.ntmps33]) (fun cx => ?_)
  simp only [argE, Try.ntmps33, Try.results33]
  have c1 := Tick_ct n
  rw [show (decide (n ≥ 0) && decide (n ≤ 253402300799)) = false by simp; omega] at c1
  first | (have FRx := FR; clear FRx) | (have FR : ¬ ((1 : Nat) = 0) := Nat.one_ne_zero)
  repeat' first
    | (refine Sm.mk ?_; try simp -dsimp only [ZK, rvc, drawF, headN, pureH, stp, dvc, calleeOf, gcall, pev, eff, newB, okd, og, ogs, ogo, ogp, slv, bltv, opd, litv, strip, one, both, putE, St.put, look, gdOf, gdv, picka, pickv, pickw, binv, bini, bins, binb, binp, bina, shp, eqCells, unv, convv, nilv, faddv, addp, idxav, idxp, load1, load1m, loadn, loadnm, loadv, hget, hset, hrep, hdel, slicev, bnd, shift1, lenv, IntKind.bits, extractv, fieldv, indexv, min2v, max2v, mkiv, cellsA, fillA, buildv, stC, oneC, rowMB, intsA, plN, appE, appZ, appC, appNZ, appNC, VwL, srcC, srcZ, srcM, isBoolT, isPtrT, isSliceT, uOk, Value.oneCell', Nat.reducePow, Int.reducePow, Nat.reduceAdd, Nat.reduceMul, Nat.reduceSub, Nat.reduceLT, Nat.reduceLeDiff, Nat.reduceEqDiff, Nat.reduceBEq, Nat.reduceDiv, Nat.reduceMod, ↓reduceIte, reduceCtorEq, Int.reduceToNat, Int.reduceLT, Int.reduceLE, drawMF, mkS, TFRgI, SeqQ, BlkQ, LoopQ, BodyQ, FR])
    | (first | refine CallV.fn (c1) (Sm.out ?_) | refine ExF.mk (c1) (Sm.out ?_) | refine ExG.mk (fun _ => c1) (Sm.out ?_) | refine ExG.mkJ (fun _ => c1) (Sm.out ?_) | refine ExG.mkI (Ob.out ?_) (fun _ => c1) (Sm.out ?_))
    | (refine WP.seq fun K hK => ?_)
    | (refine WP.region (rvc_sound _ _ (Sm.out ?_)))
    | (refine WP.drawMk (ia := 8) (k := 9) mixed (by decide +kernel) (by decide +kernel) (by decide +kernel) (by decide +kernel) (Sm.out ?_))
    | (refine WP.drawK rfl mixed (by decide +kernel) (Sm.out ?_))
    | (refine Ob.mk ?_; focus (first | assumption | omega | decide | trivial | (intro hob; simp only [hob, ZF]; done) | (intros; (repeat' refine And.intro ?_ ?_) <;> first | assumption | omega | trivial | decide) | (intros; simp only [ZE] at *; (repeat' refine And.intro ?_ ?_) <;> first | assumption | omega | trivial)))
    | (refine And.intro (Ob.out ?_) ?_)
    | (refine WP.block ?_)
    | (refine WP.cond rfl (fun hc => ?_) (fun hc => ?_) <;> (try simp only [ZC, reduceCtorEq, ZD] at hc) <;> (try (exact absurd hc (by decide))) <;> (try (exfalso; omega)))
    | ((first | refine WP.skip ?_ | refine WP.exit ?_); simp only [SeqQ, BlkQ, LoopQ, BodyQ, ↓reduceIte, Nat.reduceEqDiff, reduceCtorEq, look, true_and])
    | (refine WP.ret (Sm.out ?_))
    | (first | refine ExG.no (Sm.out ?_) | refine Or.inl (ExG.no (Sm.out ?_)) | refine Or.inl (And.intro (fun hg => absurd hg (by decide)) (ExG.no (Sm.out ?_))))
    | (refine Rt.mk ?_; refine And.intro ?_ ?_ <;> (intro hg; first | exact absurd hg (by decide) | refine Sm.out ?_))
    | (refine Nu.mk ?_; first | (fail_if_success (have := nb1)); intro nb1 | (fail_if_success (have := nb2)); intro nb2 | (fail_if_success (have := nb3)); intro nb3 | (fail_if_success (have := nb4)); intro nb4 | intro nbz)
    | (refine Fr.mk ?_; intro hfr; replace FR := And.intro hfr FR; clear hfr; refine Sm.out ?_)
    | (refine Two.mk ?_ ?_)
    | (refine Cs.mk ?_; intro hcs; first | exact False.elim hcs | (exfalso; omega) | (refine Sm.out ?_))
    | go_step
    | omega
    | (simp only [maxLen_eq]; omega)
  (refine OutQ.drop _ _ (perm1 (by simp only [hget, hdel, ↓reduceIte, if_true, if_false, FR]; first | done | rfl)) (by simp only [resv, ZK, look, loadv, loadn, loadnm, load1, load1m, hget, ↓reduceIte, Nat.reduceEqDiff, Nat.reduceAdd, Nat.reduceMul, Nat.reduceLeDiff, Nat.reduceLT, reduceCtorEq, TFRgI, FR]) ⟨(by simp only [resv, resA, ZK, look, loadv, loadn, loadnm, load1, load1m, hget, ↓reduceIte, Nat.reduceEqDiff, Nat.reduceAdd, Nat.reduceMul, Nat.reduceLeDiff, Nat.reduceLT, reduceCtorEq, TFRgI, FR]; first | done | rfl), rfl⟩)
theorem refMove_late (mb W G now : Nat) (l : AV) (n : Nat) (hn : n ≤ 253402300799) (hl : n < now) : ACt Try.prog 33 [pt mb 0, iv .i64 n] [(mb, mM W G now l)] (fun r F' => r = iv .i64 13 ∧ F' = [(mb, mM W G now l)]) := by
  refine ACt.intro Try.func33 rfl (by kernel_rfl) (by simp [Try.ntmps33]) (fun cx => ?_)
  simp only [argE, Try.ntmps33, Try.results33]
  have c1 := Tick_ct n
  rw [show (decide ((n : Int) ≥ 0) && decide ((n : Int) ≤ 253402300799)) = true by simp; omega] at c1
  have d : decide ((n : Int) < (now : Int)) = true := by simp; omega
  first | (have FRx := FR; clear FRx) | (have FR : ¬ ((1 : Nat) = 0) := Nat.one_ne_zero)
  repeat' first
    | (refine Sm.mk ?_; try simp -dsimp only [ZK, rvc, drawF, headN, pureH, stp, dvc, calleeOf, gcall, pev, eff, newB, okd, og, ogs, ogo, ogp, slv, bltv, opd, litv, strip, one, both, putE, St.put, look, gdOf, gdv, picka, pickv, pickw, binv, bini, bins, binb, binp, bina, shp, eqCells, unv, convv, nilv, faddv, addp, idxav, idxp, load1, load1m, loadn, loadnm, loadv, hget, hset, hrep, hdel, slicev, bnd, shift1, lenv, IntKind.bits, extractv, fieldv, indexv, min2v, max2v, mkiv, cellsA, fillA, buildv, stC, oneC, rowMB, intsA, plN, appE, appZ, appC, appNZ, appNC, VwL, srcC, srcZ, srcM, isBoolT, isPtrT, isSliceT, uOk, Value.oneCell', Nat.reducePow, Int.reducePow, Nat.reduceAdd, Nat.reduceMul, Nat.reduceSub, Nat.reduceLT, Nat.reduceLeDiff, Nat.reduceEqDiff, Nat.reduceBEq, Nat.reduceDiv, Nat.reduceMod, ↓reduceIte, reduceCtorEq, Int.reduceToNat, Int.reduceLT, Int.reduceLE, drawMF, mkS, TFRgI, SeqQ, BlkQ, LoopQ, BodyQ, d, FR])
    | (first | refine CallV.fn (c1) (Sm.out ?_) | refine ExF.mk (c1) (Sm.out ?_) | refine ExG.mk (fun _ => c1) (Sm.out ?_) | refine ExG.mkJ (fun _ => c1) (Sm.out ?_) | refine ExG.mkI (Ob.out ?_) (fun _ => c1) (Sm.out ?_))
    | (refine WP.seq fun K hK => ?_)
    | (refine WP.region (rvc_sound _ _ (Sm.out ?_)))
    | (refine WP.drawMk (ia := 8) (k := 9) mixed (by decide +kernel) (by decide +kernel) (by decide +kernel) (by decide +kernel) (Sm.out ?_))
    | (refine WP.drawK rfl mixed (by decide +kernel) (Sm.out ?_))
    | (refine Ob.mk ?_; focus (first | assumption | omega | decide | trivial | (intro hob; simp only [hob, ZF]; done) | (intros; (repeat' refine And.intro ?_ ?_) <;> first | assumption | omega | trivial | decide) | (intros; simp only [ZE] at *; (repeat' refine And.intro ?_ ?_) <;> first | assumption | omega | trivial)))
    | (refine And.intro (Ob.out ?_) ?_)
    | (refine WP.block ?_)
    | (refine WP.cond rfl (fun hc => ?_) (fun hc => ?_) <;> (try simp only [ZC, reduceCtorEq, ZD] at hc) <;> (try (exact absurd hc (by decide))) <;> (try (exfalso; omega)))
    | ((first | refine WP.skip ?_ | refine WP.exit ?_); simp only [SeqQ, BlkQ, LoopQ, BodyQ, ↓reduceIte, Nat.reduceEqDiff, reduceCtorEq, look, true_and])
    | (refine WP.ret (Sm.out ?_))
    | (first | refine ExG.no (Sm.out ?_) | refine Or.inl (ExG.no (Sm.out ?_)) | refine Or.inl (And.intro (fun hg => absurd hg (by decide)) (ExG.no (Sm.out ?_))))
    | (refine Rt.mk ?_; refine And.intro ?_ ?_ <;> (intro hg; first | exact absurd hg (by decide) | refine Sm.out ?_))
    | (refine Nu.mk ?_; first | (fail_if_success (have := nb1)); intro nb1 | (fail_if_success (have := nb2)); intro nb2 | (fail_if_success (have := nb3)); intro nb3 | (fail_if_success (have := nb4)); intro nb4 | intro nbz)
    | (refine Fr.mk ?_; intro hfr; replace FR := And.intro hfr FR; clear hfr; refine Sm.out ?_)
    | (refine Two.mk ?_ ?_)
    | (refine Cs.mk ?_; intro hcs; first | exact False.elim hcs | (exfalso; omega) | (refine Sm.out ?_))
    | go_step
    | omega
    | (simp only [maxLen_eq]; omega)
  (refine OutQ.drop _ _ (perm1 (by simp only [hget, hdel, ↓reduceIte, if_true, if_false, FR]; first | done | rfl)) (by simp only [resv, ZK, look, loadv, loadn, loadnm, load1, load1m, hget, ↓reduceIte, Nat.reduceEqDiff, Nat.reduceAdd, Nat.reduceMul, Nat.reduceLeDiff, Nat.reduceLT, reduceCtorEq, TFRgI, FR]) ⟨(by simp only [resv, resA, ZK, look, loadv, loadn, loadnm, load1, load1m, hget, ↓reduceIte, Nat.reduceEqDiff, Nat.reduceAdd, Nat.reduceMul, Nat.reduceLeDiff, Nat.reduceLT, reduceCtorEq, TFRgI, FR]; first | done | rfl), rfl⟩)
theorem refMove_ok (mb W G now : Nat) (l : AV) (n : Nat) (hn : n ≤ 253402300799) (hl : now ≤ n) : ACt Try.prog 33 [pt mb 0, iv .i64 n] [(mb, mM W G now l)] (fun r F' => r = iv .i64 0 ∧ F' = [(mb, mM W G n l)]) := by
  refine ACt.intro Try.func33 rfl (by kernel_rfl) (by simp [Try.ntmps33]) (fun cx => ?_)
  simp only [argE, Try.ntmps33, Try.results33]
  have c1 := Tick_ct n
  rw [show (decide ((n : Int) ≥ 0) && decide ((n : Int) ≤ 253402300799)) = true by simp; omega] at c1
  have d : decide ((n : Int) < (now : Int)) = false := by simp; omega
  first | (have FRx := FR; clear FRx) | (have FR : ¬ ((1 : Nat) = 0) := Nat.one_ne_zero)
  repeat' first
    | (refine Sm.mk ?_; try simp -dsimp only [ZK, rvc, drawF, headN, pureH, stp, dvc, calleeOf, gcall, pev, eff, newB, okd, og, ogs, ogo, ogp, slv, bltv, opd, litv, strip, one, both, putE, St.put, look, gdOf, gdv, picka, pickv, pickw, binv, bini, bins, binb, binp, bina, shp, eqCells, unv, convv, nilv, faddv, addp, idxav, idxp, load1, load1m, loadn, loadnm, loadv, hget, hset, hrep, hdel, slicev, bnd, shift1, lenv, IntKind.bits, extractv, fieldv, indexv, min2v, max2v, mkiv, cellsA, fillA, buildv, stC, oneC, rowMB, intsA, plN, appE, appZ, appC, appNZ, appNC, VwL, srcC, srcZ, srcM, isBoolT, isPtrT, isSliceT, uOk, Value.oneCell', Nat.reducePow, Int.reducePow, Nat.reduceAdd, Nat.reduceMul, Nat.reduceSub, Nat.reduceLT, Nat.reduceLeDiff, Nat.reduceEqDiff, Nat.reduceBEq, Nat.reduceDiv, Nat.reduceMod, ↓reduceIte, reduceCtorEq, Int.reduceToNat, Int.reduceLT, Int.reduceLE, drawMF, mkS, TFRgI, SeqQ, BlkQ, LoopQ, BodyQ, d, FR])
    | (first | refine CallV.fn (c1) (Sm.out ?_) | refine ExF.mk (c1) (Sm.out ?_) | refine ExG.mk (fun _ => c1) (Sm.out ?_) | refine ExG.mkJ (fun _ => c1) (Sm.out ?_) | refine ExG.mkI (Ob.out ?_) (fun _ => c1) (Sm.out ?_))
    | (refine WP.seq fun K hK => ?_)
    | (refine WP.region (rvc_sound _ _ (Sm.out ?_)))
    | (refine WP.drawMk (ia := 8) (k := 9) mixed (by decide +kernel) (by decide +kernel) (by decide +kernel) (by decide +kernel) (Sm.out ?_))
    | (refine WP.drawK rfl mixed (by decide +kernel) (Sm.out ?_))
    | (refine Ob.mk ?_; focus (first | assumption | omega | decide | trivial | (intro hob; simp only [hob, ZF]; done) | (intros; (repeat' refine And.intro ?_ ?_) <;> first | assumption | omega | trivial | decide) | (intros; simp only [ZE] at *; (repeat' refine And.intro ?_ ?_) <;> first | assumption | omega | trivial)))
    | (refine And.intro (Ob.out ?_) ?_)
    | (refine WP.block ?_)
    | (refine WP.cond rfl (fun hc => ?_) (fun hc => ?_) <;> (try simp only [ZC, reduceCtorEq, ZD] at hc) <;> (try (exact absurd hc (by decide))) <;> (try (exfalso; omega)))
    | ((first | refine WP.skip ?_ | refine WP.exit ?_); simp only [SeqQ, BlkQ, LoopQ, BodyQ, ↓reduceIte, Nat.reduceEqDiff, reduceCtorEq, look, true_and])
    | (refine WP.ret (Sm.out ?_))
    | (first | refine ExG.no (Sm.out ?_) | refine Or.inl (ExG.no (Sm.out ?_)) | refine Or.inl (And.intro (fun hg => absurd hg (by decide)) (ExG.no (Sm.out ?_))))
    | (refine Rt.mk ?_; refine And.intro ?_ ?_ <;> (intro hg; first | exact absurd hg (by decide) | refine Sm.out ?_))
    | (refine Nu.mk ?_; first | (fail_if_success (have := nb1)); intro nb1 | (fail_if_success (have := nb2)); intro nb2 | (fail_if_success (have := nb3)); intro nb3 | (fail_if_success (have := nb4)); intro nb4 | intro nbz)
    | (refine Fr.mk ?_; intro hfr; replace FR := And.intro hfr FR; clear hfr; refine Sm.out ?_)
    | (refine Two.mk ?_ ?_)
    | (refine Cs.mk ?_; intro hcs; first | exact False.elim hcs | (exfalso; omega) | (refine Sm.out ?_))
    | go_step
    | omega
    | (simp only [maxLen_eq]; omega)
  (refine OutQ.drop _ _ (perm1 (by simp only [hget, hdel, ↓reduceIte, if_true, if_false, FR]; first | done | rfl)) (by simp only [resv, ZK, look, loadv, loadn, loadnm, load1, load1m, hget, ↓reduceIte, Nat.reduceEqDiff, Nat.reduceAdd, Nat.reduceMul, Nat.reduceLeDiff, Nat.reduceLT, reduceCtorEq, TFRgI, FR]) ⟨(by simp only [resv, resA, ZK, look, loadv, loadn, loadnm, load1, load1m, hget, ↓reduceIte, Nat.reduceEqDiff, Nat.reduceAdd, Nat.reduceMul, Nat.reduceLeDiff, Nat.reduceLT, reduceCtorEq, TFRgI, FR]; first | done | rfl), rfl⟩)
/-- the list's block, if there is one -/
def evB (E : List Ev) : Option (Nat × Nat) → Hp
  | none => []
  | some (b, cap) => [(b, .cells (evC E) (cap * 3) 70)]
def evL (E : List Ev) : Option (Nat × Nat) → AV
  | none => nilS
  | some (b, cap) => ms b 0 E.length cap
def evOk (E : List Ev) : Option (Nat × Nat) → Prop
  | none => E = []
  | some (b, cap) => E.length ≤ cap ∧ cap ≤ 9223372036854775807
theorem look_m {f : FuncId} {W G now mb : Nat} {E : List Ev} {rs : List AV} {x : AV} {o : Option (Nat × Nat)} (h : ACt Try.prog f (mV W G now E :: rs) [] (Fn x)) (hc : clA x = true) (ho : evOk E o) (hne : ∀ p ∈ evB E o, p.1 ≠ mb) :
    ACt Try.prog f (pt mb 0 :: rs) ((mb, mM W G now (evL E o)) :: evB E o) (fun r F' => r = x ∧ F' = (mb, mM W G now (evL E o)) :: evB E o) := by
  refine h.view hc ⟨?_, ?_⟩
  · refine Vw.ptc' (b := mb) (off := 0) (cs := [iv .i64 W, iv .i64 G, iv .i64 now, evL E o]) (sz := 4) (ty := 38) (by simp [hget]) (by simp) ?_
    refine ⟨.same _, .same _, .same _, ?_, trivial⟩
    cases o with
    | none => cases ho; exact Vw.nils
    | some p =>
      obtain ⟨b, cap⟩ := p
      have hb : b ≠ mb := hne (b, .cells (evC E) (cap * 3) 70) (by simp [evB])
      exact Vw.rowc' (cs := evC E) (sz := cap * 3) (ty := 70) (by simp [hget, evB, hb]) (by simp) ho.1 ho.2 (VwC.refl _)
  · have key : ∀ l : List AV, VwL ((mb, mM W G now (evL E o)) :: evB E o) l l := by
      intro l
      induction l with
      | nil => trivial
      | cons x r ih => exact ⟨.same _, ih⟩
    exact key rs
end Go.Proofs.Ytbnkmhlnoaebcaa
namespace Go.Proofs.Ytbnkmhlnoaebcaa
open Go
set_option linter.unusedVariables false
set_option linter.unusedSimpArgs false
theorem TFRgJ : ((((((type_of% tyc2) ∧ (type_of% zmb2)) ∧ ((type_of% tyc3) ∧ ((type_of% zmb3) ∧ (type_of% tyc4)))) ∧ (((type_of% zmb4) ∧ (type_of% tyc23)) ∧ ((type_of% zmb23) ∧ ((type_of% tyc24) ∧ (type_of% tyc26))))) ∧ ((((type_of% mth26_30) ∧ (type_of% mth26_39)) ∧ ((type_of% mth26_38) ∧ ((type_of% con26) ∧ (type_of% zmb26)))) ∧ (((type_of% tyc27) ∧ (type_of% tyc32)) ∧ ((type_of% elt32) ∧ ((type_of% mkz32) ∧ (type_of% mkc32)))))) ∧ (((((type_of% apT32) ∧ (type_of% elk32)) ∧ ((type_of% zmb32) ∧ ((type_of% tyc43) ∧ (type_of% foff43_0)))) ∧ (((type_of% fpart43_0) ∧ (type_of% foff43_1)) ∧ ((type_of% fpart43_1) ∧ ((type_of% fe43) ∧ (type_of% zmb43))))) ∧ ((((type_of% bldT43) ∧ (type_of% Try.underlying2)) ∧ ((type_of% Try.underlying3) ∧ ((type_of% Try.underlying4) ∧ (type_of% Try.underlying23)))) ∧ (((type_of% Try.underlying24) ∧ (type_of% Try.underlying26)) ∧ ((type_of% Try.underlying27) ∧ ((type_of% Try.underlying32) ∧ (type_of% Try.underlying43))))))) :=
  ⟨⟨⟨⟨⟨tyc2, zmb2⟩, ⟨tyc3, ⟨zmb3, tyc4⟩⟩⟩, ⟨⟨zmb4, tyc23⟩, ⟨zmb23, ⟨tyc24, tyc26⟩⟩⟩⟩, ⟨⟨⟨mth26_30, mth26_39⟩, ⟨mth26_38, ⟨con26, zmb26⟩⟩⟩, ⟨⟨tyc27, tyc32⟩, ⟨elt32, ⟨mkz32, mkc32⟩⟩⟩⟩⟩, ⟨⟨⟨⟨apT32, elk32⟩, ⟨zmb32, ⟨tyc43, foff43_0⟩⟩⟩, ⟨⟨fpart43_0, foff43_1⟩, ⟨fpart43_1, ⟨fe43, zmb43⟩⟩⟩⟩, ⟨⟨⟨bldT43, Try.underlying2⟩, ⟨Try.underlying3, ⟨Try.underlying4, Try.underlying23⟩⟩⟩, ⟨⟨Try.underlying24, Try.underlying26⟩, ⟨Try.underlying27, ⟨Try.underlying32, Try.underlying43⟩⟩⟩⟩⟩⟩
set_option maxRecDepth 8000 in
set_option maxHeartbeats 2000000 in
theorem awake_ct : ACt Try.prog 8 [] [] (Fn (bv true)) := by
  refine ACt.intro Try.func8 rfl (by kernel_rfl) (by simp [Try.ntmps8]) (fun cx => ?_)
  simp only [argE, Try.ntmps8, Try.results8]
  have p1 : goP (3600 : Nat) (10 : Nat) := by unfold goP; decide
  have p2 : goP (70 : Nat) (10 : Nat) := by unfold goP; decide
  have c1 : ACt Try.prog 9 [iv .i64 3600, iv .i64 10] [] (Fn (.tup [iv .i64 60, iv .i64 60, iv .i64 0])) := by
    have := Shape_ok 3600 10 p1
    rw [show bkN 3600 10 = 60 by decide +kernel] at this
    exact this
  have c2 : ACt Try.prog 9 [iv .i64 70, iv .i64 10] [] (Fn (.tup [iv .i64 7, iv .i64 10, iv .i64 0])) := by
    have := Shape_ok 70 10 p2
    rw [show bkN 70 10 = 7 by decide +kernel] at this
    exact this
  have hg := goOk p2
  rw [show bkN 70 10 = 7 by decide +kernel] at hg
  have c3 : ACt Try.prog 10 [iv .i64 70, iv .i64 10] [] (fun r F' => ∃ b c, r = .tup [pt b 0, iv .i64 0] ∧ F' = [(b, rbM c 10 7 0 0 0 0), (c, lbM 7 z0 z0)]) := New_ok 70 10 7 10 p2 hg
  have c4 : ∀ rb lb, (rb ≠ lb ∧ lb ≠ rb) → ACt Try.prog 21 [pt rb 0, iv .i64 0, cnt 1 3] [(rb, rbM lb 10 7 0 0 0 0), (lb, lbM 7 z0 z0)]
      (fun r F' => r = iv .i64 0 ∧ F' = [(rb, rbM lb 10 7 0 0 1 3), (lb, lbM 7 (upd z0 0 (z0 0 + 1)) (upd z0 0 (z0 0 + 3)))]) := fun rb lb hne =>
    Add_ok rb lb 10 7 0 0 0 0 1 3 0 0 z0 z0 hne (by omega) (by omega) (by omega) (by omega) (by omega) (by omega) (by decide) (by simp) (by simp) (by decide)
  have c5 := fun rb lb => sum_ct rb lb 10 7 0 0 1 3
  have z1 : ((60 : Int) == 60) = true := by decide
  have z2 : ((0 : Int) == 0) = true := by decide
  have z3 : ((7 : Int) == 7) = true := by decide
  have z4 : ((10 : Int) == 10) = true := by decide
  have z5 : ((1 : Int) == 1) = true := by decide
  have z6 : ((3 : Int) == 3) = true := by decide
  have y1 : ((1 : Nat) : Int) = 1 := rfl
  have y3 : ((3 : Nat) : Int) = 3 := rfl
  first | (have FRx := FR; clear FRx) | (have FR : ¬ ((1 : Nat) = 0) := Nat.one_ne_zero)
  repeat' first
    | (refine Sm.mk ?_; try simp -dsimp only [ZK, rvc, drawF, headN, pureH, stp, dvc, calleeOf, gcall, pev, eff, newB, okd, og, ogs, ogo, ogp, slv, bltv, opd, litv, strip, one, both, putE, St.put, look, gdOf, gdv, picka, pickv, pickw, binv, bini, bins, binb, binp, bina, shp, eqCells, unv, convv, nilv, faddv, addp, idxav, idxp, load1, load1m, loadn, loadnm, loadv, hget, hset, hrep, hdel, slicev, bnd, shift1, lenv, IntKind.bits, extractv, fieldv, indexv, min2v, max2v, mkiv, cellsA, fillA, buildv, stC, oneC, rowMB, intsA, plN, appE, appZ, appC, appNZ, appNC, VwL, srcC, srcZ, srcM, isBoolT, isPtrT, isSliceT, uOk, Value.oneCell', Nat.reducePow, Int.reducePow, Nat.reduceAdd, Nat.reduceMul, Nat.reduceSub, Nat.reduceLT, Nat.reduceLeDiff, Nat.reduceEqDiff, Nat.reduceBEq, Nat.reduceDiv, Nat.reduceMod, ↓reduceIte, reduceCtorEq, Int.reduceToNat, Int.reduceLT, Int.reduceLE, TFRgJ, SeqQ, BlkQ, LoopQ, BodyQ, z1, z2, z3, z4, z5, z6, fe43, FR])
    | (first | refine CallV.fn (c1) (Sm.out ?_) | refine ExF.mk (c1) (Sm.out ?_) | refine ExG.mk (fun _ => c1) (Sm.out ?_) | refine ExG.mkJ (fun _ => c1) (Sm.out ?_) | refine ExG.mkI (Ob.out ?_) (fun _ => c1) (Sm.out ?_))
    | (first | refine CallV.fn (c2) (Sm.out ?_) | refine ExF.mk (c2) (Sm.out ?_) | refine ExG.mk (fun _ => c2) (Sm.out ?_) | refine ExG.mkJ (fun _ => c2) (Sm.out ?_) | refine ExG.mkI (Ob.out ?_) (fun _ => c2) (Sm.out ?_))
    | (refine CallV.new2 (F := []) (List.Perm.refl _) (c3) rfl (Sm.out ?_))
    | (refine CallV.updM (c4 nb1 nb2 (by omega)) (perm2 (by simp only [hget, hdel, ↓reduceIte, FR, z1, z2, z3, z4, z5, z6, fe43]; first | done | rfl) (by simp only [hget, hdel, ↓reduceIte, FR, z1, z2, z3, z4, z5, z6, fe43]; first | done | rfl)) (Sm.out ?_))
    | (refine CallV.updM (c5 nb1 nb2) (perm1 (by simp only [hget, hdel, ↓reduceIte, FR, z1, z2, z3, z4, z5, z6, fe43]; first | done | rfl)) (Sm.out ?_))
    | ((first | refine ExF.up ?_ (c5 nb1 nb2) (Sm.out ?_) | refine ExG.up ?_ (fun _ => c5 nb1 nb2) (Sm.out ?_) | refine ExG.upJ ?_ (fun _ => c5 nb1 nb2) (Sm.out ?_) | refine ExG.upI ?_ (fun _ => c5 nb1 nb2) (Ob.out ?_) (Sm.out ?_)); focus (exact ⟨_, (perm1 (by simp only [hget, hdel, ↓reduceIte, FR, z1, z2, z3, z4, z5, z6, fe43]; first | done | rfl))⟩))
    | (refine WP.seq fun K hK => ?_)
    | (refine WP.region (rvc_sound _ _ (Sm.out ?_)))
    | (refine WP.drawK rfl mixed (by decide +kernel) (Sm.out ?_))
    | (refine Ob.mk ?_; focus (first | assumption | omega | decide | trivial | (intro hob; simp only [hob, ZF]; done) | (intros; (repeat' refine And.intro ?_ ?_) <;> first | assumption | omega | trivial | decide) | (intros; simp only [ZE] at *; (repeat' refine And.intro ?_ ?_) <;> first | assumption | omega | trivial)))
    | (refine And.intro (Ob.out ?_) ?_)
    | (refine WP.block ?_)
    | (refine WP.cond rfl (fun hc => ?_) (fun hc => ?_) <;> (try simp only [ZC, reduceCtorEq, ZD] at hc) <;> (try (exact absurd hc (by decide))) <;> (try (exfalso; omega)))
    | ((first | refine WP.skip ?_ | refine WP.exit ?_); simp only [SeqQ, BlkQ, LoopQ, BodyQ, ↓reduceIte, Nat.reduceEqDiff, reduceCtorEq, look, true_and])
    | (refine WP.ret (Sm.out ?_))
    | (first | refine ExG.no (Sm.out ?_) | refine Or.inl (ExG.no (Sm.out ?_)) | refine Or.inl (And.intro (fun hg => absurd hg (by decide)) (ExG.no (Sm.out ?_))))
    | (refine Rt.mk ?_; refine And.intro ?_ ?_ <;> (intro hg; first | exact absurd hg (by decide) | refine Sm.out ?_))
    | (refine Nu.mk ?_; first | (fail_if_success (have := nb1)); intro nb1 | (fail_if_success (have := nb2)); intro nb2 | (fail_if_success (have := nb3)); intro nb3 | intro nbz)
    | (refine Fr.mk ?_; intro hfr; replace FR := And.intro hfr FR; clear hfr; refine Sm.out ?_)
    | (refine Two.mk ?_ ?_)
    | (refine Cs.mk ?_; intro hcs; first | exact False.elim hcs | (exfalso; omega) | (refine Sm.out ?_))
    | (refine OutQ.all ?_ ?_; (focus (simp only [resv, ZK, look, loadv, loadn, loadnm, load1, load1m, hget, ↓reduceIte, Nat.reduceEqDiff, Nat.reduceAdd, Nat.reduceMul, Nat.reduceLeDiff, Nat.reduceLT, reduceCtorEq, TFRgJ, z1, z2, z3, z4, z5, z6, fe43, FR])); (try simp only [resv, resA, Fn, ZK, look, loadv, loadn, loadnm, load1, load1m, hget, ↓reduceIte, Nat.reduceEqDiff, Nat.reduceAdd, Nat.reduceMul, Nat.reduceLeDiff, Nat.reduceLT, reduceCtorEq, TFRgJ, z1, z2, z3, z4, z5, z6, fe43, FR]); (try simp [resA, Fn, look, z1, z2, z3, z4, z5, z6, fe43, FR]); done)
    | go_step
    | omega
    | (simp only [maxLen_eq]; omega)
end Go.Proofs.Ytbnkmhlnoaebcaa
