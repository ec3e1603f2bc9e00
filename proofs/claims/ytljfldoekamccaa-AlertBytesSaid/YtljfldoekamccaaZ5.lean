/-
  The walks and the laws that the statement leans on, part 5.
-/
import Derived.Test.YtljfldoekamccaaZ4
namespace Go.Proofs.Ytljfldoekamccaa
open Go
set_option linter.unusedVariables false
set_option linter.unusedSimpArgs false
theorem TFAlA : (((((((type_of% tyc0) ∧ (type_of% tyc2)) ∧ ((type_of% zmb2) ∧ ((type_of% tyc3) ∧ (type_of% zmb3)))) ∧ (((type_of% tyc4) ∧ (type_of% zmb4)) ∧ ((type_of% tyc22) ∧ ((type_of% zmb22) ∧ (type_of% tyc24))))) ∧ ((((type_of% foff24_0) ∧ (type_of% fpart24_0)) ∧ ((type_of% foff24_1) ∧ ((type_of% fpart24_1) ∧ (type_of% foff24_2)))) ∧ (((type_of% fpart24_2) ∧ ((type_of% foff24_3) ∧ (type_of% fpart24_3))) ∧ ((type_of% foff24_4) ∧ ((type_of% fpart24_4) ∧ (type_of% foff24_5)))))) ∧ (((((type_of% fpart24_5) ∧ (type_of% foff24_6)) ∧ ((type_of% fpart24_6) ∧ ((type_of% fe24) ∧ (type_of% zmb24)))) ∧ (((type_of% bldT24) ∧ ((type_of% tyc32) ∧ (type_of% foff32_0))) ∧ ((type_of% fpart32_0) ∧ ((type_of% foff32_1) ∧ (type_of% fpart32_1))))) ∧ ((((type_of% foff32_2) ∧ (type_of% fpart32_2)) ∧ ((type_of% foff32_3) ∧ ((type_of% fpart32_3) ∧ (type_of% fe32)))) ∧ (((type_of% zmb32) ∧ ((type_of% bldT32) ∧ (type_of% tyc33))) ∧ ((type_of% tyc57) ∧ ((type_of% zmb57) ∧ (type_of% tyc74))))))) ∧ ((((((type_of% foff74_0) ∧ (type_of% fpart74_0)) ∧ ((type_of% mth74_56) ∧ ((type_of% mth74_57) ∧ (type_of% con74)))) ∧ (((type_of% fe74) ∧ ((type_of% zmb74) ∧ (type_of% bldT74))) ∧ ((type_of% tyc76) ∧ ((type_of% foff76_0) ∧ (type_of% fpart76_0))))) ∧ ((((type_of% mth76_59) ∧ (type_of% mth76_60)) ∧ ((type_of% con76) ∧ ((type_of% zmb76) ∧ (type_of% bldT76)))) ∧ (((type_of% tyc77) ∧ ((type_of% foff77_0) ∧ (type_of% fpart77_0))) ∧ ((type_of% mth77_61) ∧ ((type_of% mth77_62) ∧ (type_of% con77)))))) ∧ (((((type_of% zmb77) ∧ (type_of% bldT77)) ∧ ((type_of% tyc79) ∧ ((type_of% mth79_63) ∧ (type_of% mth79_64)))) ∧ (((type_of% con79) ∧ ((type_of% fe79) ∧ (type_of% zmb79))) ∧ ((type_of% bldT79) ∧ ((type_of% Try.underlying0) ∧ (type_of% Try.underlying2))))) ∧ ((((type_of% Try.underlying3) ∧ (type_of% Try.underlying4)) ∧ ((type_of% Try.underlying22) ∧ ((type_of% Try.underlying24) ∧ (type_of% Try.underlying32)))) ∧ (((type_of% Try.underlying33) ∧ ((type_of% Try.underlying57) ∧ (type_of% Try.underlying74))) ∧ ((type_of% Try.underlying76) ∧ ((type_of% Try.underlying77) ∧ (type_of% Try.underlying79)))))))) :=
  ⟨⟨⟨⟨⟨⟨tyc0, tyc2⟩, ⟨zmb2, ⟨tyc3, zmb3⟩⟩⟩, ⟨⟨tyc4, zmb4⟩, ⟨tyc22, ⟨zmb22, tyc24⟩⟩⟩⟩, ⟨⟨⟨foff24_0, fpart24_0⟩, ⟨foff24_1, ⟨fpart24_1, foff24_2⟩⟩⟩, ⟨⟨fpart24_2, ⟨foff24_3, fpart24_3⟩⟩, ⟨foff24_4, ⟨fpart24_4, foff24_5⟩⟩⟩⟩⟩, ⟨⟨⟨⟨fpart24_5, foff24_6⟩, ⟨fpart24_6, ⟨fe24, zmb24⟩⟩⟩, ⟨⟨bldT24, ⟨tyc32, foff32_0⟩⟩, ⟨fpart32_0, ⟨foff32_1, fpart32_1⟩⟩⟩⟩, ⟨⟨⟨foff32_2, fpart32_2⟩, ⟨foff32_3, ⟨fpart32_3, fe32⟩⟩⟩, ⟨⟨zmb32, ⟨bldT32, tyc33⟩⟩, ⟨tyc57, ⟨zmb57, tyc74⟩⟩⟩⟩⟩⟩, ⟨⟨⟨⟨⟨foff74_0, fpart74_0⟩, ⟨mth74_56, ⟨mth74_57, con74⟩⟩⟩, ⟨⟨fe74, ⟨zmb74, bldT74⟩⟩, ⟨tyc76, ⟨foff76_0, fpart76_0⟩⟩⟩⟩, ⟨⟨⟨mth76_59, mth76_60⟩, ⟨con76, ⟨zmb76, bldT76⟩⟩⟩, ⟨⟨tyc77, ⟨foff77_0, fpart77_0⟩⟩, ⟨mth77_61, ⟨mth77_62, con77⟩⟩⟩⟩⟩, ⟨⟨⟨⟨zmb77, bldT77⟩, ⟨tyc79, ⟨mth79_63, mth79_64⟩⟩⟩, ⟨⟨con79, ⟨fe79, zmb79⟩⟩, ⟨bldT79, ⟨Try.underlying0, Try.underlying2⟩⟩⟩⟩, ⟨⟨⟨Try.underlying3, Try.underlying4⟩, ⟨Try.underlying22, ⟨Try.underlying24, Try.underlying32⟩⟩⟩, ⟨⟨Try.underlying33, ⟨Try.underlying57, Try.underlying74⟩⟩, ⟨Try.underlying76, ⟨Try.underlying77, Try.underlying79⟩⟩⟩⟩⟩⟩⟩
abbrev alA (p s c e : Int) : AV := .agg [iv .i64 p, iv .i64 s, iv .i64 c, iv .u64 e]
abbrev ruleA (nm : ByteArray) (pg : Bool) (lg sh fa fr kp : Int) : AV := .agg [.lit (.string nm), bv pg, iv .i64 lg, iv .i64 sh, iv .u64 fa, iv .i64 fr, iv .i64 kp]
def tickP (n : Int) : Bool := decide (n ≥ 0) && decide (n ≤ 253402300799)
def numP (e : Int) : Bool := decide (e ≥ 1) && decide (e ≤ 4611686018427387904)
def rightP (p s c e : Int) : Bool :=
  if p = 0 then s == 0 && (c == 0 && e == 0)
  else if p = 1 then e == 0 && c == 0 && tickP s
  else if p = 2 then numP e && c == 0 && tickP s
  else if p = 3 then numP e && tickP s && tickP c && decide (c ≥ s)
  else false
def fireP (s now ep : Int) : (Int × Int × Int × Int) × Int := if numP ep then ((2, now, 0, ep), 1) else ((1, s, 0, 0), 0)
def nextP (fr kp p s c e now : Int) (h : Bool) (ep : Int) : (Int × Int × Int × Int) × Int :=
  if rightP p s c e ∧ tickP now ∧ s ≤ now ∧ c ≤ now ∧ 0 ≤ fr ∧ 0 ≤ kp then
    if h then
      if p = 1 then (if fr ≤ now - s then fireP s now ep else ((1, s, 0, 0), 0))
      else if p = 2 then ((p, s, c, e), 0)
      else if p = 3 then ((2, s, 0, e), 0)
      else if fr ≤ 0 then fireP now now ep else ((1, now, 0, 0), 0)
    else
      if p = 1 then ((0, 0, 0, 0), 0)
      else if p = 2 then (if kp ≤ 0 then ((0, 0, 0, 0), 2) else ((3, s, now, e), 0))
      else if p = 3 then (if kp ≤ now - c then ((0, 0, 0, 0), 2) else ((p, s, c, e), 0))
      else ((0, 0, 0, 0), 0)
  else ((p, s, c, e), 0)
abbrev stepA (r : (Int × Int × Int × Int) × Int) : AV := .tup [alA r.1.1 r.1.2.1 r.1.2.2.1 r.1.2.2.2, iv .i64 r.2]
theorem tick_ct (n : Int) : ACt Try.prog 24 [iv .i64 n] [] (Fn (bv (tickP n))) := by
  refine ACt.intro Try.func24 rfl (by kernel_rfl) (by simp [Try.ntmps24]) (fun cx => ?_)
  simp only [argE, Try.ntmps24, Try.results24]
  first | (have FRx := FR; clear FRx) | (have FR : ¬ ((1 : Nat) = 0) := Nat.one_ne_zero)
  repeat' first
    | (refine Sm.mk ?_; try simp -dsimp only [ZK, rvc, drawF, headN, pureH, stp, dvc, calleeOf, gcall, pev, eff, newB, okd, og, ogs, ogo, ogp, slv, bltv, opd, litv, strip, one, both, putE, St.put, look, gdOf, gdv, picka, pickv, pickw, binv, bini, bins, binb, binp, bina, shp, eqCells, unv, convv, nilv, faddv, addp, idxav, idxp, load1, load1m, loadn, loadnm, loadv, hget, hset, hrep, hdel, slicev, bnd, shift1, lenv, IntKind.bits, extractv, fieldv, indexv, min2v, max2v, mkiv, cellsA, fillA, buildv, stC, oneC, rowMB, intsA, plN, appE, appZ, appC, appNZ, appNC, VwL, srcC, srcZ, srcM, isBoolT, isPtrT, isSliceT, uOk, Value.oneCell', Nat.reducePow, Int.reducePow, Nat.reduceAdd, Nat.reduceMul, Nat.reduceSub, Nat.reduceLT, Nat.reduceLeDiff, Nat.reduceEqDiff, Nat.reduceBEq, Nat.reduceDiv, Nat.reduceMod, ↓reduceIte, reduceCtorEq, Int.reduceToNat, Int.reduceLT, Int.reduceLE, TFAlA, SeqQ, BlkQ, LoopQ, BodyQ, tickP, FR])
    | (refine WP.seq fun K hK => ?_)
    | (refine WP.region (rvc_sound _ _ (Sm.out ?_)))
    | (refine WP.drawK rfl mixed (by decide +kernel) (Sm.out ?_))
    | (refine Ob.mk ?_; focus (first | assumption | omega | decide | trivial | (intro hob; simp only [hob, ZF]; done) | (intros; (repeat' refine And.intro ?_ ?_) <;> first | assumption | omega | trivial | decide) | (intros; simp only [ZE] at *; (repeat' refine And.intro ?_ ?_) <;> first | assumption | omega | trivial)))
    | (refine And.intro (Ob.out ?_) ?_)
    | (refine WP.block ?_)
    | (refine WP.cond rfl (fun hc => ?_) (fun hc => ?_) <;> (try simp only [ZC, reduceCtorEq, ZD] at hc) <;> (try (exact absurd hc (by decide))) <;> (try (exfalso; omega)))
    | ((first | refine WP.skip ?_ | refine WP.exit ?_); simp only [SeqQ, BlkQ, LoopQ, BodyQ, ↓reduceIte, Nat.reduceEqDiff, reduceCtorEq, look, true_and])
    | (refine WP.ret (Sm.out ?_))
    | (first | refine ExG.no (Sm.out ?_) | refine Or.inl (ExG.no (Sm.out ?_)) | refine Or.inl (And.intro (fun hg => absurd hg (by decide)) (ExG.no (Sm.out ?_))))
    | (refine Rt.mk ?_; refine And.intro ?_ ?_ <;> (intro hg; first | exact absurd hg (by decide) | refine Sm.out ?_))
    | (refine Nu.mk ?_; first | (fail_if_success (have := nb1)); intro nb1 | (fail_if_success (have := nb2)); intro nb2 | (fail_if_success (have := nb3)); intro nb3 | intro nbz)
    | (refine Fr.mk ?_; intro hfr; replace FR := And.intro hfr FR; clear hfr; refine Sm.out ?_)
    | (refine Two.mk ?_ ?_)
    | (refine Cs.mk ?_; intro hcs; first | exact False.elim hcs | (exfalso; omega) | (refine Sm.out ?_))
    | (refine OutQ.all ?_ ?_; (focus (simp only [resv, ZK, look, loadv, loadn, loadnm, load1, load1m, hget, ↓reduceIte, Nat.reduceEqDiff, Nat.reduceAdd, Nat.reduceMul, Nat.reduceLeDiff, Nat.reduceLT, reduceCtorEq, TFAlA, tickP, FR])); (try simp only [resv, resA, Fn, ZK, look, loadv, loadn, loadnm, load1, load1m, hget, ↓reduceIte, Nat.reduceEqDiff, Nat.reduceAdd, Nat.reduceMul, Nat.reduceLeDiff, Nat.reduceLT, reduceCtorEq, TFAlA, tickP, FR]); (try simp [resA, Fn, look, tickP, FR]); done)
    | go_step
    | omega
    | (simp only [maxLen_eq]; omega)
theorem tickR_ct (n : Int) : ACt Try.prog 26 [iv .i64 n] [] (Fn (bv (tickP n))) := by
  refine ACt.intro Try.func26 rfl (by kernel_rfl) (by simp [Try.ntmps26]) (fun cx => ?_)
  simp only [argE, Try.ntmps26, Try.results26]
  first | (have FRx := FR; clear FRx) | (have FR : ¬ ((1 : Nat) = 0) := Nat.one_ne_zero)
  repeat' first
    | (refine Sm.mk ?_; try simp -dsimp only [ZK, rvc, drawF, headN, pureH, stp, dvc, calleeOf, gcall, pev, eff, newB, okd, og, ogs, ogo, ogp, slv, bltv, opd, litv, strip, one, both, putE, St.put, look, gdOf, gdv, picka, pickv, pickw, binv, bini, bins, binb, binp, bina, shp, eqCells, unv, convv, nilv, faddv, addp, idxav, idxp, load1, load1m, loadn, loadnm, loadv, hget, hset, hrep, hdel, slicev, bnd, shift1, lenv, IntKind.bits, extractv, fieldv, indexv, min2v, max2v, mkiv, cellsA, fillA, buildv, stC, oneC, rowMB, intsA, plN, appE, appZ, appC, appNZ, appNC, VwL, srcC, srcZ, srcM, isBoolT, isPtrT, isSliceT, uOk, Value.oneCell', Nat.reducePow, Int.reducePow, Nat.reduceAdd, Nat.reduceMul, Nat.reduceSub, Nat.reduceLT, Nat.reduceLeDiff, Nat.reduceEqDiff, Nat.reduceBEq, Nat.reduceDiv, Nat.reduceMod, ↓reduceIte, reduceCtorEq, Int.reduceToNat, Int.reduceLT, Int.reduceLE, TFAlA, SeqQ, BlkQ, LoopQ, BodyQ, tickP, FR])
    | (refine WP.seq fun K hK => ?_)
    | (refine WP.region (rvc_sound _ _ (Sm.out ?_)))
    | (refine WP.drawK rfl mixed (by decide +kernel) (Sm.out ?_))
    | (refine Ob.mk ?_; focus (first | assumption | omega | decide | trivial | (intro hob; simp only [hob, ZF]; done) | (intros; (repeat' refine And.intro ?_ ?_) <;> first | assumption | omega | trivial | decide) | (intros; simp only [ZE] at *; (repeat' refine And.intro ?_ ?_) <;> first | assumption | omega | trivial)))
    | (refine And.intro (Ob.out ?_) ?_)
    | (refine WP.block ?_)
    | (refine WP.cond rfl (fun hc => ?_) (fun hc => ?_) <;> (try simp only [ZC, reduceCtorEq, ZD] at hc) <;> (try (exact absurd hc (by decide))) <;> (try (exfalso; omega)))
    | ((first | refine WP.skip ?_ | refine WP.exit ?_); simp only [SeqQ, BlkQ, LoopQ, BodyQ, ↓reduceIte, Nat.reduceEqDiff, reduceCtorEq, look, true_and])
    | (refine WP.ret (Sm.out ?_))
    | (first | refine ExG.no (Sm.out ?_) | refine Or.inl (ExG.no (Sm.out ?_)) | refine Or.inl (And.intro (fun hg => absurd hg (by decide)) (ExG.no (Sm.out ?_))))
    | (refine Rt.mk ?_; refine And.intro ?_ ?_ <;> (intro hg; first | exact absurd hg (by decide) | refine Sm.out ?_))
    | (refine Nu.mk ?_; first | (fail_if_success (have := nb1)); intro nb1 | (fail_if_success (have := nb2)); intro nb2 | (fail_if_success (have := nb3)); intro nb3 | intro nbz)
    | (refine Fr.mk ?_; intro hfr; replace FR := And.intro hfr FR; clear hfr; refine Sm.out ?_)
    | (refine Two.mk ?_ ?_)
    | (refine Cs.mk ?_; intro hcs; first | exact False.elim hcs | (exfalso; omega) | (refine Sm.out ?_))
    | (refine OutQ.all ?_ ?_; (focus (simp only [resv, ZK, look, loadv, loadn, loadnm, load1, load1m, hget, ↓reduceIte, Nat.reduceEqDiff, Nat.reduceAdd, Nat.reduceMul, Nat.reduceLeDiff, Nat.reduceLT, reduceCtorEq, TFAlA, tickP, FR])); (try simp only [resv, resA, Fn, ZK, look, loadv, loadn, loadnm, load1, load1m, hget, ↓reduceIte, Nat.reduceEqDiff, Nat.reduceAdd, Nat.reduceMul, Nat.reduceLeDiff, Nat.reduceLT, reduceCtorEq, TFAlA, tickP, FR]); (try simp [resA, Fn, look, tickP, FR]); done)
    | go_step
    | omega
    | (simp only [maxLen_eq]; omega)
set_option maxHeartbeats 1000000 in
theorem right_ct (p s c e : Int) : ACt Try.prog 13 [alA p s c e] [] (Fn (bv (rightP p s c e))) := by
  refine ACt.intro Try.func13 rfl (by kernel_rfl) (by simp [Try.ntmps13]) (fun cx => ?_)
  simp only [argE, Try.ntmps13, Try.results13]
  first | (have FRx := FR; clear FRx) | (have FR : ¬ ((1 : Nat) = 0) := Nat.one_ne_zero)
  repeat' first
    | (refine Sm.mk ?_; try simp -dsimp only [ZK, rvc, drawF, headN, pureH, stp, dvc, calleeOf, gcall, pev, eff, newB, okd, og, ogs, ogo, ogp, slv, bltv, opd, litv, strip, one, both, putE, St.put, look, gdOf, gdv, picka, pickv, pickw, binv, bini, bins, binb, binp, bina, shp, eqCells, unv, convv, nilv, faddv, addp, idxav, idxp, load1, load1m, loadn, loadnm, loadv, hget, hset, hrep, hdel, slicev, bnd, shift1, lenv, IntKind.bits, extractv, fieldv, indexv, min2v, max2v, mkiv, cellsA, fillA, buildv, stC, oneC, rowMB, intsA, plN, appE, appZ, appC, appNZ, appNC, VwL, srcC, srcZ, srcM, isBoolT, isPtrT, isSliceT, uOk, Value.oneCell', Nat.reducePow, Int.reducePow, Nat.reduceAdd, Nat.reduceMul, Nat.reduceSub, Nat.reduceLT, Nat.reduceLeDiff, Nat.reduceEqDiff, Nat.reduceBEq, Nat.reduceDiv, Nat.reduceMod, ↓reduceIte, reduceCtorEq, Int.reduceToNat, Int.reduceLT, Int.reduceLE, TFAlA, SeqQ, BlkQ, LoopQ, BodyQ, FR])
    | (first | refine CallV.fn (tick_ct _) (Sm.out ?_) | refine ExF.mk (tick_ct _) (Sm.out ?_) | refine ExG.mk (fun _ => tick_ct _) (Sm.out ?_) | refine ExG.mkJ (fun _ => tick_ct _) (Sm.out ?_) | refine ExG.mkI (Ob.out ?_) (fun _ => tick_ct _) (Sm.out ?_))
    | (refine WP.seq fun K hK => ?_)
    | (refine WP.region (rvc_sound _ _ (Sm.out ?_)))
    | (refine WP.drawK rfl mixed (by decide +kernel) (Sm.out ?_))
    | (refine Ob.mk ?_; focus (first | assumption | omega | decide | trivial | (intro hob; simp only [hob, ZF]; done) | (intros; (repeat' refine And.intro ?_ ?_) <;> first | assumption | omega | trivial | decide) | (intros; simp only [ZE] at *; (repeat' refine And.intro ?_ ?_) <;> first | assumption | omega | trivial)))
    | (refine And.intro (Ob.out ?_) ?_)
    | (refine WP.block ?_)
    | (refine WP.cond rfl (fun hc => ?_) (fun hc => ?_) <;> (try simp only [ZC, reduceCtorEq, ZD] at hc) <;> (try (exact absurd hc (by decide))) <;> (try (exfalso; omega)))
    | ((first | refine WP.skip ?_ | refine WP.exit ?_); simp only [SeqQ, BlkQ, LoopQ, BodyQ, ↓reduceIte, Nat.reduceEqDiff, reduceCtorEq, look, true_and])
    | (refine WP.ret (Sm.out ?_))
    | (first | refine ExG.no (Sm.out ?_) | refine Or.inl (ExG.no (Sm.out ?_)) | refine Or.inl (And.intro (fun hg => absurd hg (by decide)) (ExG.no (Sm.out ?_))))
    | (refine Rt.mk ?_; refine And.intro ?_ ?_ <;> (intro hg; first | exact absurd hg (by decide) | refine Sm.out ?_))
    | (refine Nu.mk ?_; first | (fail_if_success (have := nb1)); intro nb1 | (fail_if_success (have := nb2)); intro nb2 | (fail_if_success (have := nb3)); intro nb3 | intro nbz)
    | (refine Fr.mk ?_; intro hfr; replace FR := And.intro hfr FR; clear hfr; refine Sm.out ?_)
    | (refine Two.mk ?_ ?_)
    | (refine Cs.mk ?_; intro hcs; first | exact False.elim hcs | (exfalso; omega) | (refine Sm.out ?_))
    | go_step
    | omega
    | (simp only [maxLen_eq]; omega)
  · subst hc
    (refine OutQ.all ?_ ?_; (focus (simp only [resv, ZK, look, loadv, loadn, loadnm, load1, load1m, hget, ↓reduceIte, Nat.reduceEqDiff, Nat.reduceAdd, Nat.reduceMul, Nat.reduceLeDiff, Nat.reduceLT, reduceCtorEq, TFAlA, rightP])); (try simp only [resv, resA, Fn, ZK, look, loadv, loadn, loadnm, load1, load1m, hget, ↓reduceIte, Nat.reduceEqDiff, Nat.reduceAdd, Nat.reduceMul, Nat.reduceLeDiff, Nat.reduceLT, reduceCtorEq, TFAlA, rightP]); (try simp [resA, Fn, look, rightP]))
  · subst hc
    (refine OutQ.all ?_ ?_; (focus (simp only [resv, ZK, look, loadv, loadn, loadnm, load1, load1m, hget, ↓reduceIte, Nat.reduceEqDiff, Nat.reduceAdd, Nat.reduceMul, Nat.reduceLeDiff, Nat.reduceLT, reduceCtorEq, TFAlA, rightP])); (try simp only [resv, resA, Fn, ZK, look, loadv, loadn, loadnm, load1, load1m, hget, ↓reduceIte, Nat.reduceEqDiff, Nat.reduceAdd, Nat.reduceMul, Nat.reduceLeDiff, Nat.reduceLT, reduceCtorEq, TFAlA, rightP]); (try simp [resA, Fn, look, rightP]))
  · subst hc
    (refine OutQ.all ?_ ?_; (focus (simp only [resv, ZK, look, loadv, loadn, loadnm, load1, load1m, hget, ↓reduceIte, Nat.reduceEqDiff, Nat.reduceAdd, Nat.reduceMul, Nat.reduceLeDiff, Nat.reduceLT, reduceCtorEq, TFAlA, rightP, numP])); (try simp only [resv, resA, Fn, ZK, look, loadv, loadn, loadnm, load1, load1m, hget, ↓reduceIte, Nat.reduceEqDiff, Nat.reduceAdd, Nat.reduceMul, Nat.reduceLeDiff, Nat.reduceLT, reduceCtorEq, TFAlA, rightP, numP]); (try simp [resA, Fn, look, rightP, numP]))
  · subst hc
    (refine OutQ.all ?_ ?_; (focus (simp only [resv, ZK, look, loadv, loadn, loadnm, load1, load1m, hget, ↓reduceIte, Nat.reduceEqDiff, Nat.reduceAdd, Nat.reduceMul, Nat.reduceLeDiff, Nat.reduceLT, reduceCtorEq, TFAlA, rightP, numP])); (try simp only [resv, resA, Fn, ZK, look, loadv, loadn, loadnm, load1, load1m, hget, ↓reduceIte, Nat.reduceEqDiff, Nat.reduceAdd, Nat.reduceMul, Nat.reduceLeDiff, Nat.reduceLT, reduceCtorEq, TFAlA, rightP, numP]); (try simp [resA, Fn, look, rightP, numP]))
  · rename_i h0 h1 h2
    (refine OutQ.all ?_ ?_; (focus (simp only [resv, ZK, look, loadv, loadn, loadnm, load1, load1m, hget, ↓reduceIte, Nat.reduceEqDiff, Nat.reduceAdd, Nat.reduceMul, Nat.reduceLeDiff, Nat.reduceLT, reduceCtorEq, TFAlA, rightP, hc, h0, h1, h2])); (try simp only [resv, resA, Fn, ZK, look, loadv, loadn, loadnm, load1, load1m, hget, ↓reduceIte, Nat.reduceEqDiff, Nat.reduceAdd, Nat.reduceMul, Nat.reduceLeDiff, Nat.reduceLT, reduceCtorEq, TFAlA, rightP, hc, h0, h1, h2]); (try simp [resA, Fn, look, rightP, hc, h0, h1, h2]))
theorem fire_ct (s now ep : Int) : ACt Try.prog 58 [iv .i64 s, iv .i64 now, iv .u64 ep] [] (Fn (stepA (fireP s now ep))) := by
  refine ACt.intro Try.func58 rfl (by kernel_rfl) (by simp [Try.ntmps58]) (fun cx => ?_)
  simp only [argE, Try.ntmps58, Try.results58]
  first | (have FRx := FR; clear FRx) | (have FR : ¬ ((1 : Nat) = 0) := Nat.one_ne_zero)
  repeat' first
    | (refine Sm.mk ?_; try simp -dsimp only [ZK, rvc, drawF, headN, pureH, stp, dvc, calleeOf, gcall, pev, eff, newB, okd, og, ogs, ogo, ogp, slv, bltv, opd, litv, strip, one, both, putE, St.put, look, gdOf, gdv, picka, pickv, pickw, binv, bini, bins, binb, binp, bina, shp, eqCells, unv, convv, nilv, faddv, addp, idxav, idxp, load1, load1m, loadn, loadnm, loadv, hget, hset, hrep, hdel, slicev, bnd, shift1, lenv, IntKind.bits, extractv, fieldv, indexv, min2v, max2v, mkiv, cellsA, fillA, buildv, stC, oneC, rowMB, intsA, plN, appE, appZ, appC, appNZ, appNC, VwL, srcC, srcZ, srcM, isBoolT, isPtrT, isSliceT, uOk, Value.oneCell', Nat.reducePow, Int.reducePow, Nat.reduceAdd, Nat.reduceMul, Nat.reduceSub, Nat.reduceLT, Nat.reduceLeDiff, Nat.reduceEqDiff, Nat.reduceBEq, Nat.reduceDiv, Nat.reduceMod, ↓reduceIte, reduceCtorEq, Int.reduceToNat, Int.reduceLT, Int.reduceLE, TFAlA, SeqQ, BlkQ, LoopQ, BodyQ, FR])
    | (refine WP.seq fun K hK => ?_)
    | (refine WP.region (rvc_sound _ _ (Sm.out ?_)))
    | (refine WP.drawK rfl mixed (by decide +kernel) (Sm.out ?_))
    | (refine Ob.mk ?_; focus (first | assumption | omega | decide | trivial | (intro hob; simp only [hob, ZF]; done) | (intros; (repeat' refine And.intro ?_ ?_) <;> first | assumption | omega | trivial | decide) | (intros; simp only [ZE] at *; (repeat' refine And.intro ?_ ?_) <;> first | assumption | omega | trivial)))
    | (refine And.intro (Ob.out ?_) ?_)
    | (refine WP.block ?_)
    | (refine WP.cond rfl (fun hc => ?_) (fun hc => ?_) <;> (try simp only [ZC, reduceCtorEq, ZD] at hc) <;> (try (exact absurd hc (by decide))) <;> (try (exfalso; omega)))
    | ((first | refine WP.skip ?_ | refine WP.exit ?_); simp only [SeqQ, BlkQ, LoopQ, BodyQ, ↓reduceIte, Nat.reduceEqDiff, reduceCtorEq, look, true_and])
    | (refine WP.ret (Sm.out ?_))
    | (first | refine ExG.no (Sm.out ?_) | refine Or.inl (ExG.no (Sm.out ?_)) | refine Or.inl (And.intro (fun hg => absurd hg (by decide)) (ExG.no (Sm.out ?_))))
    | (refine Rt.mk ?_; refine And.intro ?_ ?_ <;> (intro hg; first | exact absurd hg (by decide) | refine Sm.out ?_))
    | (refine Nu.mk ?_; first | (fail_if_success (have := nb1)); intro nb1 | (fail_if_success (have := nb2)); intro nb2 | (fail_if_success (have := nb3)); intro nb3 | intro nbz)
    | (refine Fr.mk ?_; intro hfr; replace FR := And.intro hfr FR; clear hfr; refine Sm.out ?_)
    | (refine Two.mk ?_ ?_)
    | (refine Cs.mk ?_; intro hcs; first | exact False.elim hcs | (exfalso; omega) | (refine Sm.out ?_))
    | go_step
    | omega
    | (simp only [maxLen_eq]; omega)
  · have e : numP ep = false := by unfold numP; simp; omega
    (refine OutQ.all ?_ ?_; (focus (simp only [resv, ZK, look, loadv, loadn, loadnm, load1, load1m, hget, ↓reduceIte, Nat.reduceEqDiff, Nat.reduceAdd, Nat.reduceMul, Nat.reduceLeDiff, Nat.reduceLT, reduceCtorEq, TFAlA, fireP, e])); (try simp only [resv, resA, Fn, ZK, look, loadv, loadn, loadnm, load1, load1m, hget, ↓reduceIte, Nat.reduceEqDiff, Nat.reduceAdd, Nat.reduceMul, Nat.reduceLeDiff, Nat.reduceLT, reduceCtorEq, TFAlA, fireP, e]); (try simp [resA, Fn, look, fireP, e]))
  · have e : numP ep = true := by unfold numP; simp; omega
    (refine OutQ.all ?_ ?_; (focus (simp only [resv, ZK, look, loadv, loadn, loadnm, load1, load1m, hget, ↓reduceIte, Nat.reduceEqDiff, Nat.reduceAdd, Nat.reduceMul, Nat.reduceLeDiff, Nat.reduceLT, reduceCtorEq, TFAlA, fireP, e])); (try simp only [resv, resA, Fn, ZK, look, loadv, loadn, loadnm, load1, load1m, hget, ↓reduceIte, Nat.reduceEqDiff, Nat.reduceAdd, Nat.reduceMul, Nat.reduceLeDiff, Nat.reduceLT, reduceCtorEq, TFAlA, fireP, e]); (try simp [resA, Fn, look, fireP, e]))
theorem pHolds_ct (s : Int) (nm : ByteArray) (pg : Bool) (lg sh fa fr kp now ep : Int) (h0 : -9223372036854775808 ≤ now - s) (h1 : now - s ≤ 9223372036854775807) : ACt Try.prog 57 [.agg [iv .i64 s], ruleA nm pg lg sh fa fr kp, iv .i64 now, iv .u64 ep] []
    (Fn (stepA (if fr ≤ now - s then fireP s now ep else ((1, s, 0, 0), 0)))) := by
  refine ACt.intro Try.func57 rfl (by kernel_rfl) (by simp [Try.ntmps57]) (fun cx => ?_)
  simp only [argE, Try.ntmps57, Try.results57]
  have e := wrap_i64 h0 h1
  first | (have FRx := FR; clear FRx) | (have FR : ¬ ((1 : Nat) = 0) := Nat.one_ne_zero)
  repeat' first
    | (refine Sm.mk ?_; try simp -dsimp only [ZK, rvc, drawF, headN, pureH, stp, dvc, calleeOf, gcall, pev, eff, newB, okd, og, ogs, ogo, ogp, slv, bltv, opd, litv, strip, one, both, putE, St.put, look, gdOf, gdv, picka, pickv, pickw, binv, bini, bins, binb, binp, bina, shp, eqCells, unv, convv, nilv, faddv, addp, idxav, idxp, load1, load1m, loadn, loadnm, loadv, hget, hset, hrep, hdel, slicev, bnd, shift1, lenv, IntKind.bits, extractv, fieldv, indexv, min2v, max2v, mkiv, cellsA, fillA, buildv, stC, oneC, rowMB, intsA, plN, appE, appZ, appC, appNZ, appNC, VwL, srcC, srcZ, srcM, isBoolT, isPtrT, isSliceT, uOk, Value.oneCell', Nat.reducePow, Int.reducePow, Nat.reduceAdd, Nat.reduceMul, Nat.reduceSub, Nat.reduceLT, Nat.reduceLeDiff, Nat.reduceEqDiff, Nat.reduceBEq, Nat.reduceDiv, Nat.reduceMod, ↓reduceIte, reduceCtorEq, Int.reduceToNat, Int.reduceLT, Int.reduceLE, TFAlA, SeqQ, BlkQ, LoopQ, BodyQ, e, FR])
    | (first | refine CallV.fn (fire_ct _ _ _) (Sm.out ?_) | refine ExF.mk (fire_ct _ _ _) (Sm.out ?_) | refine ExG.mk (fun _ => fire_ct _ _ _) (Sm.out ?_) | refine ExG.mkJ (fun _ => fire_ct _ _ _) (Sm.out ?_) | refine ExG.mkI (Ob.out ?_) (fun _ => fire_ct _ _ _) (Sm.out ?_))
    | (refine WP.seq fun K hK => ?_)
    | (refine WP.region (rvc_sound _ _ (Sm.out ?_)))
    | (refine WP.drawK rfl mixed (by decide +kernel) (Sm.out ?_))
    | (refine Ob.mk ?_; focus (first | assumption | omega | decide | trivial | (intro hob; simp only [hob, ZF]; done) | (intros; (repeat' refine And.intro ?_ ?_) <;> first | assumption | omega | trivial | decide) | (intros; simp only [ZE] at *; (repeat' refine And.intro ?_ ?_) <;> first | assumption | omega | trivial)))
    | (refine And.intro (Ob.out ?_) ?_)
    | (refine WP.block ?_)
    | (refine WP.cond rfl (fun hc => ?_) (fun hc => ?_) <;> (try simp only [ZC, reduceCtorEq, ZD] at hc) <;> (try (exact absurd hc (by decide))) <;> (try (exfalso; omega)))
    | ((first | refine WP.skip ?_ | refine WP.exit ?_); simp only [SeqQ, BlkQ, LoopQ, BodyQ, ↓reduceIte, Nat.reduceEqDiff, reduceCtorEq, look, true_and])
    | (refine WP.ret (Sm.out ?_))
    | (first | refine ExG.no (Sm.out ?_) | refine Or.inl (ExG.no (Sm.out ?_)) | refine Or.inl (And.intro (fun hg => absurd hg (by decide)) (ExG.no (Sm.out ?_))))
    | (refine Rt.mk ?_; refine And.intro ?_ ?_ <;> (intro hg; first | exact absurd hg (by decide) | refine Sm.out ?_))
    | (refine Nu.mk ?_; first | (fail_if_success (have := nb1)); intro nb1 | (fail_if_success (have := nb2)); intro nb2 | (fail_if_success (have := nb3)); intro nb3 | intro nbz)
    | (refine Fr.mk ?_; intro hfr; replace FR := And.intro hfr FR; clear hfr; refine Sm.out ?_)
    | (refine Two.mk ?_ ?_)
    | (refine Cs.mk ?_; intro hcs; first | exact False.elim hcs | (exfalso; omega) | (refine Sm.out ?_))
    | go_step
    | omega
    | (simp only [maxLen_eq]; omega)
  · rw [if_pos (by omega)]
    (refine OutQ.all ?_ ?_; (focus (simp only [resv, ZK, look, loadv, loadn, loadnm, load1, load1m, hget, ↓reduceIte, Nat.reduceEqDiff, Nat.reduceAdd, Nat.reduceMul, Nat.reduceLeDiff, Nat.reduceLT, reduceCtorEq, TFAlA, e])); (try simp only [resv, resA, Fn, ZK, look, loadv, loadn, loadnm, load1, load1m, hget, ↓reduceIte, Nat.reduceEqDiff, Nat.reduceAdd, Nat.reduceMul, Nat.reduceLeDiff, Nat.reduceLT, reduceCtorEq, TFAlA, e]); (try simp [resA, Fn, look, e]))
  · rw [if_neg (by omega)]
    (refine OutQ.all ?_ ?_; (focus (simp only [resv, ZK, look, loadv, loadn, loadnm, load1, load1m, hget, ↓reduceIte, Nat.reduceEqDiff, Nat.reduceAdd, Nat.reduceMul, Nat.reduceLeDiff, Nat.reduceLT, reduceCtorEq, TFAlA, e])); (try simp only [resv, resA, Fn, ZK, look, loadv, loadn, loadnm, load1, load1m, hget, ↓reduceIte, Nat.reduceEqDiff, Nat.reduceAdd, Nat.reduceMul, Nat.reduceLeDiff, Nat.reduceLT, reduceCtorEq, TFAlA, e]); (try simp [resA, Fn, look, e]))
theorem pFails_ct (s : Int) (R : AV) (now : Int) (hR : ∃ l, R = .agg l) : ACt Try.prog 56 [.agg [iv .i64 s], R, iv .i64 now] [] (Fn (stepA ((0, 0, 0, 0), 0))) := by
  obtain ⟨l, rfl⟩ := hR
  refine ACt.intro Try.func56 rfl (by kernel_rfl) (by simp [Try.ntmps56]) (fun cx => ?_)
  simp only [argE, Try.ntmps56, Try.results56]
  first | (have FRx := FR; clear FRx) | (have FR : ¬ ((1 : Nat) = 0) := Nat.one_ne_zero)
  repeat' first
    | (refine Sm.mk ?_; try simp -dsimp only [ZK, rvc, drawF, headN, pureH, stp, dvc, calleeOf, gcall, pev, eff, newB, okd, og, ogs, ogo, ogp, slv, bltv, opd, litv, strip, one, both, putE, St.put, look, gdOf, gdv, picka, pickv, pickw, binv, bini, bins, binb, binp, bina, shp, eqCells, unv, convv, nilv, faddv, addp, idxav, idxp, load1, load1m, loadn, loadnm, loadv, hget, hset, hrep, hdel, slicev, bnd, shift1, lenv, IntKind.bits, extractv, fieldv, indexv, min2v, max2v, mkiv, cellsA, fillA, buildv, stC, oneC, rowMB, intsA, plN, appE, appZ, appC, appNZ, appNC, VwL, srcC, srcZ, srcM, isBoolT, isPtrT, isSliceT, uOk, Value.oneCell', Nat.reducePow, Int.reducePow, Nat.reduceAdd, Nat.reduceMul, Nat.reduceSub, Nat.reduceLT, Nat.reduceLeDiff, Nat.reduceEqDiff, Nat.reduceBEq, Nat.reduceDiv, Nat.reduceMod, ↓reduceIte, reduceCtorEq, Int.reduceToNat, Int.reduceLT, Int.reduceLE, TFAlA, SeqQ, BlkQ, LoopQ, BodyQ, FR])
    | (refine WP.seq fun K hK => ?_)
    | (refine WP.region (rvc_sound _ _ (Sm.out ?_)))
    | (refine WP.drawK rfl mixed (by decide +kernel) (Sm.out ?_))
    | (refine Ob.mk ?_; focus (first | assumption | omega | decide | trivial | (intro hob; simp only [hob, ZF]; done) | (intros; (repeat' refine And.intro ?_ ?_) <;> first | assumption | omega | trivial | decide) | (intros; simp only [ZE] at *; (repeat' refine And.intro ?_ ?_) <;> first | assumption | omega | trivial)))
    | (refine And.intro (Ob.out ?_) ?_)
    | (refine WP.block ?_)
    | (refine WP.cond rfl (fun hc => ?_) (fun hc => ?_) <;> (try simp only [ZC, reduceCtorEq, ZD] at hc) <;> (try (exact absurd hc (by decide))) <;> (try (exfalso; omega)))
    | ((first | refine WP.skip ?_ | refine WP.exit ?_); simp only [SeqQ, BlkQ, LoopQ, BodyQ, ↓reduceIte, Nat.reduceEqDiff, reduceCtorEq, look, true_and])
    | (refine WP.ret (Sm.out ?_))
    | (first | refine ExG.no (Sm.out ?_) | refine Or.inl (ExG.no (Sm.out ?_)) | refine Or.inl (And.intro (fun hg => absurd hg (by decide)) (ExG.no (Sm.out ?_))))
    | (refine Rt.mk ?_; refine And.intro ?_ ?_ <;> (intro hg; first | exact absurd hg (by decide) | refine Sm.out ?_))
    | (refine Nu.mk ?_; first | (fail_if_success (have := nb1)); intro nb1 | (fail_if_success (have := nb2)); intro nb2 | (fail_if_success (have := nb3)); intro nb3 | intro nbz)
    | (refine Fr.mk ?_; intro hfr; replace FR := And.intro hfr FR; clear hfr; refine Sm.out ?_)
    | (refine Two.mk ?_ ?_)
    | (refine Cs.mk ?_; intro hcs; first | exact False.elim hcs | (exfalso; omega) | (refine Sm.out ?_))
    | (refine OutQ.all ?_ ?_; (focus (simp only [resv, ZK, look, loadv, loadn, loadnm, load1, load1m, hget, ↓reduceIte, Nat.reduceEqDiff, Nat.reduceAdd, Nat.reduceMul, Nat.reduceLeDiff, Nat.reduceLT, reduceCtorEq, TFAlA, FR])); (try simp only [resv, resA, Fn, ZK, look, loadv, loadn, loadnm, load1, load1m, hget, ↓reduceIte, Nat.reduceEqDiff, Nat.reduceAdd, Nat.reduceMul, Nat.reduceLeDiff, Nat.reduceLT, reduceCtorEq, TFAlA, FR]); (try simp [resA, Fn, look, FR]); done)
    | go_step
    | omega
    | (simp only [maxLen_eq]; omega)
theorem iFails_ct (R : AV) (now : Int) (hR : ∃ l, R = .agg l) : ACt Try.prog 63 [.agg [], R, iv .i64 now] [] (Fn (stepA ((0, 0, 0, 0), 0))) := by
  obtain ⟨l, rfl⟩ := hR
  refine ACt.intro Try.func63 rfl (by kernel_rfl) (by simp [Try.ntmps63]) (fun cx => ?_)
  simp only [argE, Try.ntmps63, Try.results63]
  first | (have FRx := FR; clear FRx) | (have FR : ¬ ((1 : Nat) = 0) := Nat.one_ne_zero)
  repeat' first
    | (refine Sm.mk ?_; try simp -dsimp only [ZK, rvc, drawF, headN, pureH, stp, dvc, calleeOf, gcall, pev, eff, newB, okd, og, ogs, ogo, ogp, slv, bltv, opd, litv, strip, one, both, putE, St.put, look, gdOf, gdv, picka, pickv, pickw, binv, bini, bins, binb, binp, bina, shp, eqCells, unv, convv, nilv, faddv, addp, idxav, idxp, load1, load1m, loadn, loadnm, loadv, hget, hset, hrep, hdel, slicev, bnd, shift1, lenv, IntKind.bits, extractv, fieldv, indexv, min2v, max2v, mkiv, cellsA, fillA, buildv, stC, oneC, rowMB, intsA, plN, appE, appZ, appC, appNZ, appNC, VwL, srcC, srcZ, srcM, isBoolT, isPtrT, isSliceT, uOk, Value.oneCell', Nat.reducePow, Int.reducePow, Nat.reduceAdd, Nat.reduceMul, Nat.reduceSub, Nat.reduceLT, Nat.reduceLeDiff, Nat.reduceEqDiff, Nat.reduceBEq, Nat.reduceDiv, Nat.reduceMod, ↓reduceIte, reduceCtorEq, Int.reduceToNat, Int.reduceLT, Int.reduceLE, TFAlA, SeqQ, BlkQ, LoopQ, BodyQ, FR])
    | (refine WP.seq fun K hK => ?_)
    | (refine WP.region (rvc_sound _ _ (Sm.out ?_)))
    | (refine WP.drawK rfl mixed (by decide +kernel) (Sm.out ?_))
    | (refine Ob.mk ?_; focus (first | assumption | omega | decide | trivial | (intro hob; simp only [hob, ZF]; done) | (intros; (repeat' refine And.intro ?_ ?_) <;> first | assumption | omega | trivial | decide) | (intros; simp only [ZE] at *; (repeat' refine And.intro ?_ ?_) <;> first | assumption | omega | trivial)))
    | (refine And.intro (Ob.out ?_) ?_)
    | (refine WP.block ?_)
    | (refine WP.cond rfl (fun hc => ?_) (fun hc => ?_) <;> (try simp only [ZC, reduceCtorEq, ZD] at hc) <;> (try (exact absurd hc (by decide))) <;> (try (exfalso; omega)))
    | ((first | refine WP.skip ?_ | refine WP.exit ?_); simp only [SeqQ, BlkQ, LoopQ, BodyQ, ↓reduceIte, Nat.reduceEqDiff, reduceCtorEq, look, true_and])
    | (refine WP.ret (Sm.out ?_))
    | (first | refine ExG.no (Sm.out ?_) | refine Or.inl (ExG.no (Sm.out ?_)) | refine Or.inl (And.intro (fun hg => absurd hg (by decide)) (ExG.no (Sm.out ?_))))
    | (refine Rt.mk ?_; refine And.intro ?_ ?_ <;> (intro hg; first | exact absurd hg (by decide) | refine Sm.out ?_))
    | (refine Nu.mk ?_; first | (fail_if_success (have := nb1)); intro nb1 | (fail_if_success (have := nb2)); intro nb2 | (fail_if_success (have := nb3)); intro nb3 | intro nbz)
    | (refine Fr.mk ?_; intro hfr; replace FR := And.intro hfr FR; clear hfr; refine Sm.out ?_)
    | (refine Two.mk ?_ ?_)
    | (refine Cs.mk ?_; intro hcs; first | exact False.elim hcs | (exfalso; omega) | (refine Sm.out ?_))
    | (refine OutQ.all ?_ ?_; (focus (simp only [resv, ZK, look, loadv, loadn, loadnm, load1, load1m, hget, ↓reduceIte, Nat.reduceEqDiff, Nat.reduceAdd, Nat.reduceMul, Nat.reduceLeDiff, Nat.reduceLT, reduceCtorEq, TFAlA, FR])); (try simp only [resv, resA, Fn, ZK, look, loadv, loadn, loadnm, load1, load1m, hget, ↓reduceIte, Nat.reduceEqDiff, Nat.reduceAdd, Nat.reduceMul, Nat.reduceLeDiff, Nat.reduceLT, reduceCtorEq, TFAlA, FR]); (try simp [resA, Fn, look, FR]); done)
    | go_step
    | omega
    | (simp only [maxLen_eq]; omega)
theorem iHolds_ct (nm : ByteArray) (pg : Bool) (lg sh fa fr kp now ep : Int) : ACt Try.prog 64 [.agg [], ruleA nm pg lg sh fa fr kp, iv .i64 now, iv .u64 ep] []
    (Fn (stepA (if fr ≤ 0 then fireP now now ep else ((1, now, 0, 0), 0)))) := by
  refine ACt.intro Try.func64 rfl (by kernel_rfl) (by simp [Try.ntmps64]) (fun cx => ?_)
  simp only [argE, Try.ntmps64, Try.results64]
  have h := pHolds_ct now nm pg lg sh fa fr kp now ep (by omega) (by omega)
  rw [Int.sub_self] at h
  first | (have FRx := FR; clear FRx) | (have FR : ¬ ((1 : Nat) = 0) := Nat.one_ne_zero)
  repeat' first
    | (refine Sm.mk ?_; try simp -dsimp only [ZK, rvc, drawF, headN, pureH, stp, dvc, calleeOf, gcall, pev, eff, newB, okd, og, ogs, ogo, ogp, slv, bltv, opd, litv, strip, one, both, putE, St.put, look, gdOf, gdv, picka, pickv, pickw, binv, bini, bins, binb, binp, bina, shp, eqCells, unv, convv, nilv, faddv, addp, idxav, idxp, load1, load1m, loadn, loadnm, loadv, hget, hset, hrep, hdel, slicev, bnd, shift1, lenv, IntKind.bits, extractv, fieldv, indexv, min2v, max2v, mkiv, cellsA, fillA, buildv, stC, oneC, rowMB, intsA, plN, appE, appZ, appC, appNZ, appNC, VwL, srcC, srcZ, srcM, isBoolT, isPtrT, isSliceT, uOk, Value.oneCell', Nat.reducePow, Int.reducePow, Nat.reduceAdd, Nat.reduceMul, Nat.reduceSub, Nat.reduceLT, Nat.reduceLeDiff, Nat.reduceEqDiff, Nat.reduceBEq, Nat.reduceDiv, Nat.reduceMod, ↓reduceIte, reduceCtorEq, Int.reduceToNat, Int.reduceLT, Int.reduceLE, TFAlA, SeqQ, BlkQ, LoopQ, BodyQ, FR])
    | (first | refine CallV.fn (h) (Sm.out ?_) | refine ExF.mk (h) (Sm.out ?_) | refine ExG.mk (fun _ => h) (Sm.out ?_) | refine ExG.mkJ (fun _ => h) (Sm.out ?_) | refine ExG.mkI (Ob.out ?_) (fun _ => h) (Sm.out ?_))
    | (refine WP.seq fun K hK => ?_)
    | (refine WP.region (rvc_sound _ _ (Sm.out ?_)))
    | (refine WP.drawK rfl mixed (by decide +kernel) (Sm.out ?_))
    | (refine Ob.mk ?_; focus (first | assumption | omega | decide | trivial | (intro hob; simp only [hob, ZF]; done) | (intros; (repeat' refine And.intro ?_ ?_) <;> first | assumption | omega | trivial | decide) | (intros; simp only [ZE] at *; (repeat' refine And.intro ?_ ?_) <;> first | assumption | omega | trivial)))
    | (refine And.intro (Ob.out ?_) ?_)
    | (refine WP.block ?_)
    | (refine WP.cond rfl (fun hc => ?_) (fun hc => ?_) <;> (try simp only [ZC, reduceCtorEq, ZD] at hc) <;> (try (exact absurd hc (by decide))) <;> (try (exfalso; omega)))
    | ((first | refine WP.skip ?_ | refine WP.exit ?_); simp only [SeqQ, BlkQ, LoopQ, BodyQ, ↓reduceIte, Nat.reduceEqDiff, reduceCtorEq, look, true_and])
    | (refine WP.ret (Sm.out ?_))
    | (first | refine ExG.no (Sm.out ?_) | refine Or.inl (ExG.no (Sm.out ?_)) | refine Or.inl (And.intro (fun hg => absurd hg (by decide)) (ExG.no (Sm.out ?_))))
    | (refine Rt.mk ?_; refine And.intro ?_ ?_ <;> (intro hg; first | exact absurd hg (by decide) | refine Sm.out ?_))
    | (refine Nu.mk ?_; first | (fail_if_success (have := nb1)); intro nb1 | (fail_if_success (have := nb2)); intro nb2 | (fail_if_success (have := nb3)); intro nb3 | intro nbz)
    | (refine Fr.mk ?_; intro hfr; replace FR := And.intro hfr FR; clear hfr; refine Sm.out ?_)
    | (refine Two.mk ?_ ?_)
    | (refine Cs.mk ?_; intro hcs; first | exact False.elim hcs | (exfalso; omega) | (refine Sm.out ?_))
    | (refine OutQ.all ?_ ?_; (focus (simp only [resv, ZK, look, loadv, loadn, loadnm, load1, load1m, hget, ↓reduceIte, Nat.reduceEqDiff, Nat.reduceAdd, Nat.reduceMul, Nat.reduceLeDiff, Nat.reduceLT, reduceCtorEq, TFAlA, FR])); (try simp only [resv, resA, Fn, ZK, look, loadv, loadn, loadnm, load1, load1m, hget, ↓reduceIte, Nat.reduceEqDiff, Nat.reduceAdd, Nat.reduceMul, Nat.reduceLeDiff, Nat.reduceLT, reduceCtorEq, TFAlA, FR]); (try simp [resA, Fn, look, FR]); done)
    | go_step
    | omega
    | (simp only [maxLen_eq]; omega)
theorem fHolds_ct (p s c e : Int) (R : AV) (now ep : Int) (hR : ∃ l, R = .agg l) : ACt Try.prog 60 [alA p s c e, R, iv .i64 now, iv .u64 ep] [] (Fn (stepA ((p, s, c, e), 0))) := by
  obtain ⟨l, rfl⟩ := hR
  refine ACt.intro Try.func60 rfl (by kernel_rfl) (by simp [Try.ntmps60]) (fun cx => ?_)
  simp only [argE, Try.ntmps60, Try.results60]
  first | (have FRx := FR; clear FRx) | (have FR : ¬ ((1 : Nat) = 0) := Nat.one_ne_zero)
  repeat' first
    | (refine Sm.mk ?_; try simp -dsimp only [ZK, rvc, drawF, headN, pureH, stp, dvc, calleeOf, gcall, pev, eff, newB, okd, og, ogs, ogo, ogp, slv, bltv, opd, litv, strip, one, both, putE, St.put, look, gdOf, gdv, picka, pickv, pickw, binv, bini, bins, binb, binp, bina, shp, eqCells, unv, convv, nilv, faddv, addp, idxav, idxp, load1, load1m, loadn, loadnm, loadv, hget, hset, hrep, hdel, slicev, bnd, shift1, lenv, IntKind.bits, extractv, fieldv, indexv, min2v, max2v, mkiv, cellsA, fillA, buildv, stC, oneC, rowMB, intsA, plN, appE, appZ, appC, appNZ, appNC, VwL, srcC, srcZ, srcM, isBoolT, isPtrT, isSliceT, uOk, Value.oneCell', Nat.reducePow, Int.reducePow, Nat.reduceAdd, Nat.reduceMul, Nat.reduceSub, Nat.reduceLT, Nat.reduceLeDiff, Nat.reduceEqDiff, Nat.reduceBEq, Nat.reduceDiv, Nat.reduceMod, ↓reduceIte, reduceCtorEq, Int.reduceToNat, Int.reduceLT, Int.reduceLE, TFAlA, SeqQ, BlkQ, LoopQ, BodyQ, FR])
    | (refine WP.seq fun K hK => ?_)
    | (refine WP.region (rvc_sound _ _ (Sm.out ?_)))
    | (refine WP.drawK rfl mixed (by decide +kernel) (Sm.out ?_))
    | (refine Ob.mk ?_; focus (first | assumption | omega | decide | trivial | (intro hob; simp only [hob, ZF]; done) | (intros; (repeat' refine And.intro ?_ ?_) <;> first | assumption | omega | trivial | decide) | (intros; simp only [ZE] at *; (repeat' refine And.intro ?_ ?_) <;> first | assumption | omega | trivial)))
    | (refine And.intro (Ob.out ?_) ?_)
    | (refine WP.block ?_)
    | (refine WP.cond rfl (fun hc => ?_) (fun hc => ?_) <;> (try simp only [ZC, reduceCtorEq, ZD] at hc) <;> (try (exact absurd hc (by decide))) <;> (try (exfalso; omega)))
    | ((first | refine WP.skip ?_ | refine WP.exit ?_); simp only [SeqQ, BlkQ, LoopQ, BodyQ, ↓reduceIte, Nat.reduceEqDiff, reduceCtorEq, look, true_and])
    | (refine WP.ret (Sm.out ?_))
    | (first | refine ExG.no (Sm.out ?_) | refine Or.inl (ExG.no (Sm.out ?_)) | refine Or.inl (And.intro (fun hg => absurd hg (by decide)) (ExG.no (Sm.out ?_))))
    | (refine Rt.mk ?_; refine And.intro ?_ ?_ <;> (intro hg; first | exact absurd hg (by decide) | refine Sm.out ?_))
    | (refine Nu.mk ?_; first | (fail_if_success (have := nb1)); intro nb1 | (fail_if_success (have := nb2)); intro nb2 | (fail_if_success (have := nb3)); intro nb3 | intro nbz)
    | (refine Fr.mk ?_; intro hfr; replace FR := And.intro hfr FR; clear hfr; refine Sm.out ?_)
    | (refine Two.mk ?_ ?_)
    | (refine Cs.mk ?_; intro hcs; first | exact False.elim hcs | (exfalso; omega) | (refine Sm.out ?_))
    | (refine OutQ.all ?_ ?_; (focus (simp only [resv, ZK, look, loadv, loadn, loadnm, load1, load1m, hget, ↓reduceIte, Nat.reduceEqDiff, Nat.reduceAdd, Nat.reduceMul, Nat.reduceLeDiff, Nat.reduceLT, reduceCtorEq, TFAlA, FR])); (try simp only [resv, resA, Fn, ZK, look, loadv, loadn, loadnm, load1, load1m, hget, ↓reduceIte, Nat.reduceEqDiff, Nat.reduceAdd, Nat.reduceMul, Nat.reduceLeDiff, Nat.reduceLT, reduceCtorEq, TFAlA, FR]); (try simp [resA, Fn, look, FR]); done)
    | go_step
    | omega
    | (simp only [maxLen_eq]; omega)
theorem cHolds_ct (p s c e : Int) (R : AV) (now ep : Int) (hR : ∃ l, R = .agg l) : ACt Try.prog 62 [alA p s c e, R, iv .i64 now, iv .u64 ep] [] (Fn (stepA ((2, s, 0, e), 0))) := by
  obtain ⟨l, rfl⟩ := hR
  refine ACt.intro Try.func62 rfl (by kernel_rfl) (by simp [Try.ntmps62]) (fun cx => ?_)
  simp only [argE, Try.ntmps62, Try.results62]
  first | (have FRx := FR; clear FRx) | (have FR : ¬ ((1 : Nat) = 0) := Nat.one_ne_zero)
  repeat' first
    | (refine Sm.mk ?_; try simp -dsimp only [ZK, rvc, drawF, headN, pureH, stp, dvc, calleeOf, gcall, pev, eff, newB, okd, og, ogs, ogo, ogp, slv, bltv, opd, litv, strip, one, both, putE, St.put, look, gdOf, gdv, picka, pickv, pickw, binv, bini, bins, binb, binp, bina, shp, eqCells, unv, convv, nilv, faddv, addp, idxav, idxp, load1, load1m, loadn, loadnm, loadv, hget, hset, hrep, hdel, slicev, bnd, shift1, lenv, IntKind.bits, extractv, fieldv, indexv, min2v, max2v, mkiv, cellsA, fillA, buildv, stC, oneC, rowMB, intsA, plN, appE, appZ, appC, appNZ, appNC, VwL, srcC, srcZ, srcM, isBoolT, isPtrT, isSliceT, uOk, Value.oneCell', Nat.reducePow, Int.reducePow, Nat.reduceAdd, Nat.reduceMul, Nat.reduceSub, Nat.reduceLT, Nat.reduceLeDiff, Nat.reduceEqDiff, Nat.reduceBEq, Nat.reduceDiv, Nat.reduceMod, ↓reduceIte, reduceCtorEq, Int.reduceToNat, Int.reduceLT, Int.reduceLE, TFAlA, SeqQ, BlkQ, LoopQ, BodyQ, FR])
    | (refine WP.seq fun K hK => ?_)
    | (refine WP.region (rvc_sound _ _ (Sm.out ?_)))
    | (refine WP.drawK rfl mixed (by decide +kernel) (Sm.out ?_))
    | (refine Ob.mk ?_; focus (first | assumption | omega | decide | trivial | (intro hob; simp only [hob, ZF]; done) | (intros; (repeat' refine And.intro ?_ ?_) <;> first | assumption | omega | trivial | decide) | (intros; simp only [ZE] at *; (repeat' refine And.intro ?_ ?_) <;> first | assumption | omega | trivial)))
    | (refine And.intro (Ob.out ?_) ?_)
    | (refine WP.block ?_)
    | (refine WP.cond rfl (fun hc => ?_) (fun hc => ?_) <;> (try simp only [ZC, reduceCtorEq, ZD] at hc) <;> (try (exact absurd hc (by decide))) <;> (try (exfalso; omega)))
    | ((first | refine WP.skip ?_ | refine WP.exit ?_); simp only [SeqQ, BlkQ, LoopQ, BodyQ, ↓reduceIte, Nat.reduceEqDiff, reduceCtorEq, look, true_and])
    | (refine WP.ret (Sm.out ?_))
    | (first | refine ExG.no (Sm.out ?_) | refine Or.inl (ExG.no (Sm.out ?_)) | refine Or.inl (And.intro (fun hg => absurd hg (by decide)) (ExG.no (Sm.out ?_))))
    | (refine Rt.mk ?_; refine And.intro ?_ ?_ <;> (intro hg; first | exact absurd hg (by decide) | refine Sm.out ?_))
    | (refine Nu.mk ?_; first | (fail_if_success (have := nb1)); intro nb1 | (fail_if_success (have := nb2)); intro nb2 | (fail_if_success (have := nb3)); intro nb3 | intro nbz)
    | (refine Fr.mk ?_; intro hfr; replace FR := And.intro hfr FR; clear hfr; refine Sm.out ?_)
    | (refine Two.mk ?_ ?_)
    | (refine Cs.mk ?_; intro hcs; first | exact False.elim hcs | (exfalso; omega) | (refine Sm.out ?_))
    | (refine OutQ.all ?_ ?_; (focus (simp only [resv, ZK, look, loadv, loadn, loadnm, load1, load1m, hget, ↓reduceIte, Nat.reduceEqDiff, Nat.reduceAdd, Nat.reduceMul, Nat.reduceLeDiff, Nat.reduceLT, reduceCtorEq, TFAlA, FR])); (try simp only [resv, resA, Fn, ZK, look, loadv, loadn, loadnm, load1, load1m, hget, ↓reduceIte, Nat.reduceEqDiff, Nat.reduceAdd, Nat.reduceMul, Nat.reduceLeDiff, Nat.reduceLT, reduceCtorEq, TFAlA, FR]); (try simp [resA, Fn, look, FR]); done)
    | go_step
    | omega
    | (simp only [maxLen_eq]; omega)
theorem cFails_ct (p s c e : Int) (nm : ByteArray) (pg : Bool) (lg sh fa fr kp now : Int) (h0 : -9223372036854775808 ≤ now - c) (h1 : now - c ≤ 9223372036854775807) : ACt Try.prog 61 [alA p s c e, ruleA nm pg lg sh fa fr kp, iv .i64 now] []
    (Fn (stepA (if kp ≤ now - c then ((0, 0, 0, 0), 2) else ((p, s, c, e), 0)))) := by
  refine ACt.intro Try.func61 rfl (by kernel_rfl) (by simp [Try.ntmps61]) (fun cx => ?_)
  simp only [argE, Try.ntmps61, Try.results61]
  have e := wrap_i64 h0 h1
  first | (have FRx := FR; clear FRx) | (have FR : ¬ ((1 : Nat) = 0) := Nat.one_ne_zero)
  repeat' first
    | (refine Sm.mk ?_; try simp -dsimp only [ZK, rvc, drawF, headN, pureH, stp, dvc, calleeOf, gcall, pev, eff, newB, okd, og, ogs, ogo, ogp, slv, bltv, opd, litv, strip, one, both, putE, St.put, look, gdOf, gdv, picka, pickv, pickw, binv, bini, bins, binb, binp, bina, shp, eqCells, unv, convv, nilv, faddv, addp, idxav, idxp, load1, load1m, loadn, loadnm, loadv, hget, hset, hrep, hdel, slicev, bnd, shift1, lenv, IntKind.bits, extractv, fieldv, indexv, min2v, max2v, mkiv, cellsA, fillA, buildv, stC, oneC, rowMB, intsA, plN, appE, appZ, appC, appNZ, appNC, VwL, srcC, srcZ, srcM, isBoolT, isPtrT, isSliceT, uOk, Value.oneCell', Nat.reducePow, Int.reducePow, Nat.reduceAdd, Nat.reduceMul, Nat.reduceSub, Nat.reduceLT, Nat.reduceLeDiff, Nat.reduceEqDiff, Nat.reduceBEq, Nat.reduceDiv, Nat.reduceMod, ↓reduceIte, reduceCtorEq, Int.reduceToNat, Int.reduceLT, Int.reduceLE, TFAlA, SeqQ, BlkQ, LoopQ, BodyQ, e, FR])
    | (refine WP.seq fun K hK => ?_)
    | (refine WP.region (rvc_sound _ _ (Sm.out ?_)))
    | (refine WP.drawK rfl mixed (by decide +kernel) (Sm.out ?_))
    | (refine Ob.mk ?_; focus (first | assumption | omega | decide | trivial | (intro hob; simp only [hob, ZF]; done) | (intros; (repeat' refine And.intro ?_ ?_) <;> first | assumption | omega | trivial | decide) | (intros; simp only [ZE] at *; (repeat' refine And.intro ?_ ?_) <;> first | assumption | omega | trivial)))
    | (refine And.intro (Ob.out ?_) ?_)
    | (refine WP.block ?_)
    | (refine WP.cond rfl (fun hc => ?_) (fun hc => ?_) <;> (try simp only [ZC, reduceCtorEq, ZD] at hc) <;> (try (exact absurd hc (by decide))) <;> (try (exfalso; omega)))
    | ((first | refine WP.skip ?_ | refine WP.exit ?_); simp only [SeqQ, BlkQ, LoopQ, BodyQ, ↓reduceIte, Nat.reduceEqDiff, reduceCtorEq, look, true_and])
    | (refine WP.ret (Sm.out ?_))
    | (first | refine ExG.no (Sm.out ?_) | refine Or.inl (ExG.no (Sm.out ?_)) | refine Or.inl (And.intro (fun hg => absurd hg (by decide)) (ExG.no (Sm.out ?_))))
    | (refine Rt.mk ?_; refine And.intro ?_ ?_ <;> (intro hg; first | exact absurd hg (by decide) | refine Sm.out ?_))
    | (refine Nu.mk ?_; first | (fail_if_success (have := nb1)); intro nb1 | (fail_if_success (have := nb2)); intro nb2 | (fail_if_success (have := nb3)); intro nb3 | intro nbz)
    | (refine Fr.mk ?_; intro hfr; replace FR := And.intro hfr FR; clear hfr; refine Sm.out ?_)
    | (refine Two.mk ?_ ?_)
    | (refine Cs.mk ?_; intro hcs; first | exact False.elim hcs | (exfalso; omega) | (refine Sm.out ?_))
    | go_step
    | omega
    | (simp only [maxLen_eq]; omega)
  · rw [if_pos (by omega)]
    (refine OutQ.all ?_ ?_; (focus (simp only [resv, ZK, look, loadv, loadn, loadnm, load1, load1m, hget, ↓reduceIte, Nat.reduceEqDiff, Nat.reduceAdd, Nat.reduceMul, Nat.reduceLeDiff, Nat.reduceLT, reduceCtorEq, TFAlA, e])); (try simp only [resv, resA, Fn, ZK, look, loadv, loadn, loadnm, load1, load1m, hget, ↓reduceIte, Nat.reduceEqDiff, Nat.reduceAdd, Nat.reduceMul, Nat.reduceLeDiff, Nat.reduceLT, reduceCtorEq, TFAlA, e]); (try simp [resA, Fn, look, e]))
  · rw [if_neg (by omega)]
    (refine OutQ.all ?_ ?_; (focus (simp only [resv, ZK, look, loadv, loadn, loadnm, load1, load1m, hget, ↓reduceIte, Nat.reduceEqDiff, Nat.reduceAdd, Nat.reduceMul, Nat.reduceLeDiff, Nat.reduceLT, reduceCtorEq, TFAlA, e])); (try simp only [resv, resA, Fn, ZK, look, loadv, loadn, loadnm, load1, load1m, hget, ↓reduceIte, Nat.reduceEqDiff, Nat.reduceAdd, Nat.reduceMul, Nat.reduceLeDiff, Nat.reduceLT, reduceCtorEq, TFAlA, e]); (try simp [resA, Fn, look, e]))
theorem fFails_ct (p s c e : Int) (nm : ByteArray) (pg : Bool) (lg sh fa fr kp now : Int) : ACt Try.prog 59 [alA p s c e, ruleA nm pg lg sh fa fr kp, iv .i64 now] []
    (Fn (stepA (if kp ≤ 0 then ((0, 0, 0, 0), 2) else ((3, s, now, e), 0)))) := by
  refine ACt.intro Try.func59 rfl (by kernel_rfl) (by simp [Try.ntmps59]) (fun cx => ?_)
  simp only [argE, Try.ntmps59, Try.results59]
  have h := cFails_ct 3 s now e nm pg lg sh fa fr kp now (by omega) (by omega)
  rw [Int.sub_self] at h
  first | (have FRx := FR; clear FRx) | (have FR : ¬ ((1 : Nat) = 0) := Nat.one_ne_zero)
  repeat' first
    | (refine Sm.mk ?_; try simp -dsimp only [ZK, rvc, drawF, headN, pureH, stp, dvc, calleeOf, gcall, pev, eff, newB, okd, og, ogs, ogo, ogp, slv, bltv, opd, litv, strip, one, both, putE, St.put, look, gdOf, gdv, picka, pickv, pickw, binv, bini, bins, binb, binp, bina, shp, eqCells, unv, convv, nilv, faddv, addp, idxav, idxp, load1, load1m, loadn, loadnm, loadv, hget, hset, hrep, hdel, slicev, bnd, shift1, lenv, IntKind.bits, extractv, fieldv, indexv, min2v, max2v, mkiv, cellsA, fillA, buildv, stC, oneC, rowMB, intsA, plN, appE, appZ, appC, appNZ, appNC, VwL, srcC, srcZ, srcM, isBoolT, isPtrT, isSliceT, uOk, Value.oneCell', Nat.reducePow, Int.reducePow, Nat.reduceAdd, Nat.reduceMul, Nat.reduceSub, Nat.reduceLT, Nat.reduceLeDiff, Nat.reduceEqDiff, Nat.reduceBEq, Nat.reduceDiv, Nat.reduceMod, ↓reduceIte, reduceCtorEq, Int.reduceToNat, Int.reduceLT, Int.reduceLE, TFAlA, SeqQ, BlkQ, LoopQ, BodyQ, FR])
    | (first | refine CallV.fn (h) (Sm.out ?_) | refine ExF.mk (h) (Sm.out ?_) | refine ExG.mk (fun _ => h) (Sm.out ?_) | refine ExG.mkJ (fun _ => h) (Sm.out ?_) | refine ExG.mkI (Ob.out ?_) (fun _ => h) (Sm.out ?_))
    | (refine WP.seq fun K hK => ?_)
    | (refine WP.region (rvc_sound _ _ (Sm.out ?_)))
    | (refine WP.drawK rfl mixed (by decide +kernel) (Sm.out ?_))
    | (refine Ob.mk ?_; focus (first | assumption | omega | decide | trivial | (intro hob; simp only [hob, ZF]; done) | (intros; (repeat' refine And.intro ?_ ?_) <;> first | assumption | omega | trivial | decide) | (intros; simp only [ZE] at *; (repeat' refine And.intro ?_ ?_) <;> first | assumption | omega | trivial)))
    | (refine And.intro (Ob.out ?_) ?_)
    | (refine WP.block ?_)
    | (refine WP.cond rfl (fun hc => ?_) (fun hc => ?_) <;> (try simp only [ZC, reduceCtorEq, ZD] at hc) <;> (try (exact absurd hc (by decide))) <;> (try (exfalso; omega)))
    | ((first | refine WP.skip ?_ | refine WP.exit ?_); simp only [SeqQ, BlkQ, LoopQ, BodyQ, ↓reduceIte, Nat.reduceEqDiff, reduceCtorEq, look, true_and])
    | (refine WP.ret (Sm.out ?_))
    | (first | refine ExG.no (Sm.out ?_) | refine Or.inl (ExG.no (Sm.out ?_)) | refine Or.inl (And.intro (fun hg => absurd hg (by decide)) (ExG.no (Sm.out ?_))))
    | (refine Rt.mk ?_; refine And.intro ?_ ?_ <;> (intro hg; first | exact absurd hg (by decide) | refine Sm.out ?_))
    | (refine Nu.mk ?_; first | (fail_if_success (have := nb1)); intro nb1 | (fail_if_success (have := nb2)); intro nb2 | (fail_if_success (have := nb3)); intro nb3 | intro nbz)
    | (refine Fr.mk ?_; intro hfr; replace FR := And.intro hfr FR; clear hfr; refine Sm.out ?_)
    | (refine Two.mk ?_ ?_)
    | (refine Cs.mk ?_; intro hcs; first | exact False.elim hcs | (exfalso; omega) | (refine Sm.out ?_))
    | (refine OutQ.all ?_ ?_; (focus (simp only [resv, ZK, look, loadv, loadn, loadnm, load1, load1m, hget, ↓reduceIte, Nat.reduceEqDiff, Nat.reduceAdd, Nat.reduceMul, Nat.reduceLeDiff, Nat.reduceLT, reduceCtorEq, TFAlA, FR])); (try simp only [resv, resA, Fn, ZK, look, loadv, loadn, loadnm, load1, load1m, hget, ↓reduceIte, Nat.reduceEqDiff, Nat.reduceAdd, Nat.reduceMul, Nat.reduceLeDiff, Nat.reduceLT, reduceCtorEq, TFAlA, FR]); (try simp [resA, Fn, look, FR]); done)
    | go_step
    | omega
    | (simp only [maxLen_eq]; omega)
theorem phaseOf_ct (p s c e : Int) : ACt Try.prog 25 [alA p s c e] [] (Fn (if p = 1 then .ifc 74 (.agg [iv .i64 s]) else if p = 2 then .ifc 76 (alA p s c e) else if p = 3 then .ifc 77 (alA p s c e) else .ifc 79 (.agg []))) := by
  refine ACt.intro Try.func25 rfl (by kernel_rfl) (by simp [Try.ntmps25]) (fun cx => ?_)
  simp only [argE, Try.ntmps25, Try.results25]
  first | (have FRx := FR; clear FRx) | (have FR : ¬ ((1 : Nat) = 0) := Nat.one_ne_zero)
  repeat' first
    | (refine Sm.mk ?_; try simp -dsimp only [ZK, rvc, drawF, headN, pureH, stp, dvc, calleeOf, gcall, pev, eff, newB, okd, og, ogs, ogo, ogp, slv, bltv, opd, litv, strip, one, both, putE, St.put, look, gdOf, gdv, picka, pickv, pickw, binv, bini, bins, binb, binp, bina, shp, eqCells, unv, convv, nilv, faddv, addp, idxav, idxp, load1, load1m, loadn, loadnm, loadv, hget, hset, hrep, hdel, slicev, bnd, shift1, lenv, IntKind.bits, extractv, fieldv, indexv, min2v, max2v, mkiv, cellsA, fillA, buildv, stC, oneC, rowMB, intsA, plN, appE, appZ, appC, appNZ, appNC, VwL, srcC, srcZ, srcM, isBoolT, isPtrT, isSliceT, uOk, Value.oneCell', Nat.reducePow, Int.reducePow, Nat.reduceAdd, Nat.reduceMul, Nat.reduceSub, Nat.reduceLT, Nat.reduceLeDiff, Nat.reduceEqDiff, Nat.reduceBEq, Nat.reduceDiv, Nat.reduceMod, ↓reduceIte, reduceCtorEq, Int.reduceToNat, Int.reduceLT, Int.reduceLE, TFAlA, SeqQ, BlkQ, LoopQ, BodyQ, FR])
    | (refine WP.seq fun K hK => ?_)
    | (refine WP.region (rvc_sound _ _ (Sm.out ?_)))
    | (refine WP.drawK rfl mixed (by decide +kernel) (Sm.out ?_))
    | (refine Ob.mk ?_; focus (first | assumption | omega | decide | trivial | (intro hob; simp only [hob, ZF]; done) | (intros; (repeat' refine And.intro ?_ ?_) <;> first | assumption | omega | trivial | decide) | (intros; simp only [ZE] at *; (repeat' refine And.intro ?_ ?_) <;> first | assumption | omega | trivial)))
    | (refine And.intro (Ob.out ?_) ?_)
    | (refine WP.block ?_)
    | (refine WP.cond rfl (fun hc => ?_) (fun hc => ?_) <;> (try simp only [ZC, reduceCtorEq, ZD] at hc) <;> (try (exact absurd hc (by decide))) <;> (try (exfalso; omega)))
    | ((first | refine WP.skip ?_ | refine WP.exit ?_); simp only [SeqQ, BlkQ, LoopQ, BodyQ, ↓reduceIte, Nat.reduceEqDiff, reduceCtorEq, look, true_and])
    | (refine WP.ret (Sm.out ?_))
    | (first | refine ExG.no (Sm.out ?_) | refine Or.inl (ExG.no (Sm.out ?_)) | refine Or.inl (And.intro (fun hg => absurd hg (by decide)) (ExG.no (Sm.out ?_))))
    | (refine Rt.mk ?_; refine And.intro ?_ ?_ <;> (intro hg; first | exact absurd hg (by decide) | refine Sm.out ?_))
    | (refine Nu.mk ?_; first | (fail_if_success (have := nb1)); intro nb1 | (fail_if_success (have := nb2)); intro nb2 | (fail_if_success (have := nb3)); intro nb3 | intro nbz)
    | (refine Fr.mk ?_; intro hfr; replace FR := And.intro hfr FR; clear hfr; refine Sm.out ?_)
    | (refine Two.mk ?_ ?_)
    | (refine Cs.mk ?_; intro hcs; first | exact False.elim hcs | (exfalso; omega) | (refine Sm.out ?_))
    | go_step
    | omega
    | (simp only [maxLen_eq]; omega)
  · rw [if_pos hc]
    (refine OutQ.all ?_ ?_; (focus (simp only [resv, ZK, look, loadv, loadn, loadnm, load1, load1m, hget, ↓reduceIte, Nat.reduceEqDiff, Nat.reduceAdd, Nat.reduceMul, Nat.reduceLeDiff, Nat.reduceLT, reduceCtorEq, TFAlA])); (try simp only [resv, resA, Fn, ZK, look, loadv, loadn, loadnm, load1, load1m, hget, ↓reduceIte, Nat.reduceEqDiff, Nat.reduceAdd, Nat.reduceMul, Nat.reduceLeDiff, Nat.reduceLT, reduceCtorEq, TFAlA]); (try simp [resA, Fn, look]))
  · rename_i h1
    rw [if_neg h1, if_pos hc]
    (refine OutQ.all ?_ ?_; (focus (simp only [resv, ZK, look, loadv, loadn, loadnm, load1, load1m, hget, ↓reduceIte, Nat.reduceEqDiff, Nat.reduceAdd, Nat.reduceMul, Nat.reduceLeDiff, Nat.reduceLT, reduceCtorEq, TFAlA])); (try simp only [resv, resA, Fn, ZK, look, loadv, loadn, loadnm, load1, load1m, hget, ↓reduceIte, Nat.reduceEqDiff, Nat.reduceAdd, Nat.reduceMul, Nat.reduceLeDiff, Nat.reduceLT, reduceCtorEq, TFAlA]); (try simp [resA, Fn, look]))
  · rename_i h1 h2
    rw [if_neg h1, if_neg h2, if_pos hc]
    (refine OutQ.all ?_ ?_; (focus (simp only [resv, ZK, look, loadv, loadn, loadnm, load1, load1m, hget, ↓reduceIte, Nat.reduceEqDiff, Nat.reduceAdd, Nat.reduceMul, Nat.reduceLeDiff, Nat.reduceLT, reduceCtorEq, TFAlA])); (try simp only [resv, resA, Fn, ZK, look, loadv, loadn, loadnm, load1, load1m, hget, ↓reduceIte, Nat.reduceEqDiff, Nat.reduceAdd, Nat.reduceMul, Nat.reduceLeDiff, Nat.reduceLT, reduceCtorEq, TFAlA]); (try simp [resA, Fn, look]))
  · rename_i h1 h2
    rw [if_neg h1, if_neg h2, if_neg hc]
    (refine OutQ.all ?_ ?_; (focus (simp only [resv, ZK, look, loadv, loadn, loadnm, load1, load1m, hget, ↓reduceIte, Nat.reduceEqDiff, Nat.reduceAdd, Nat.reduceMul, Nat.reduceLeDiff, Nat.reduceLT, reduceCtorEq, TFAlA])); (try simp only [resv, resA, Fn, ZK, look, loadv, loadn, loadnm, load1, load1m, hget, ↓reduceIte, Nat.reduceEqDiff, Nat.reduceAdd, Nat.reduceMul, Nat.reduceLeDiff, Nat.reduceLT, reduceCtorEq, TFAlA]); (try simp [resA, Fn, look]))
end Go.Proofs.Ytljfldoekamccaa
namespace Go.Proofs.Ytljfldoekamccaa
open Go
set_option linter.unusedVariables false
set_option linter.unusedSimpArgs false
theorem TFAlB : (((((((type_of% tyc0) ∧ ((type_of% tyc2) ∧ (type_of% zmb2))) ∧ ((type_of% tyc3) ∧ ((type_of% zmb3) ∧ (type_of% tyc4)))) ∧ (((type_of% zmb4) ∧ ((type_of% tyc9) ∧ (type_of% zmb9))) ∧ ((type_of% tyc22) ∧ ((type_of% zmb22) ∧ (type_of% tyc24))))) ∧ ((((type_of% foff24_0) ∧ ((type_of% fpart24_0) ∧ (type_of% foff24_1))) ∧ ((type_of% fpart24_1) ∧ ((type_of% foff24_2) ∧ (type_of% fpart24_2)))) ∧ (((type_of% foff24_3) ∧ ((type_of% fpart24_3) ∧ (type_of% foff24_4))) ∧ ((type_of% fpart24_4) ∧ ((type_of% foff24_5) ∧ (type_of% fpart24_5)))))) ∧ (((((type_of% foff24_6) ∧ ((type_of% fpart24_6) ∧ (type_of% fe24))) ∧ ((type_of% zmb24) ∧ ((type_of% bldT24) ∧ (type_of% tyc32)))) ∧ (((type_of% foff32_0) ∧ ((type_of% fpart32_0) ∧ (type_of% foff32_1))) ∧ ((type_of% fpart32_1) ∧ ((type_of% foff32_2) ∧ (type_of% fpart32_2))))) ∧ ((((type_of% foff32_3) ∧ ((type_of% fpart32_3) ∧ (type_of% fe32))) ∧ ((type_of% zmb32) ∧ ((type_of% bldT32) ∧ (type_of% tyc33)))) ∧ (((type_of% tyc57) ∧ ((type_of% zmb57) ∧ (type_of% tyc61))) ∧ ((type_of% elt61) ∧ ((type_of% zmb61) ∧ (type_of% bldT61))))))) ∧ ((((((type_of% tyc74) ∧ ((type_of% foff74_0) ∧ (type_of% fpart74_0))) ∧ ((type_of% mth74_56) ∧ ((type_of% mth74_57) ∧ (type_of% con74)))) ∧ (((type_of% fe74) ∧ ((type_of% zmb74) ∧ (type_of% bldT74))) ∧ ((type_of% tyc76) ∧ ((type_of% foff76_0) ∧ (type_of% fpart76_0))))) ∧ ((((type_of% mth76_59) ∧ ((type_of% mth76_60) ∧ (type_of% con76))) ∧ ((type_of% zmb76) ∧ ((type_of% bldT76) ∧ (type_of% tyc77)))) ∧ (((type_of% foff77_0) ∧ ((type_of% fpart77_0) ∧ (type_of% mth77_61))) ∧ ((type_of% mth77_62) ∧ ((type_of% con77) ∧ (type_of% zmb77)))))) ∧ (((((type_of% bldT77) ∧ ((type_of% tyc79) ∧ (type_of% mth79_63))) ∧ ((type_of% mth79_64) ∧ ((type_of% con79) ∧ (type_of% fe79)))) ∧ (((type_of% zmb79) ∧ ((type_of% bldT79) ∧ (type_of% arr161))) ∧ ((type_of% Try.underlying0) ∧ ((type_of% Try.underlying2) ∧ (type_of% Try.underlying3))))) ∧ ((((type_of% Try.underlying4) ∧ ((type_of% Try.underlying9) ∧ (type_of% Try.underlying22))) ∧ ((type_of% Try.underlying24) ∧ ((type_of% Try.underlying32) ∧ (type_of% Try.underlying33)))) ∧ (((type_of% Try.underlying57) ∧ ((type_of% Try.underlying61) ∧ (type_of% Try.underlying74))) ∧ ((type_of% Try.underlying76) ∧ ((type_of% Try.underlying77) ∧ (type_of% Try.underlying79)))))))) :=
  ⟨⟨⟨⟨⟨⟨tyc0, ⟨tyc2, zmb2⟩⟩, ⟨tyc3, ⟨zmb3, tyc4⟩⟩⟩, ⟨⟨zmb4, ⟨tyc9, zmb9⟩⟩, ⟨tyc22, ⟨zmb22, tyc24⟩⟩⟩⟩, ⟨⟨⟨foff24_0, ⟨fpart24_0, foff24_1⟩⟩, ⟨fpart24_1, ⟨foff24_2, fpart24_2⟩⟩⟩, ⟨⟨foff24_3, ⟨fpart24_3, foff24_4⟩⟩, ⟨fpart24_4, ⟨foff24_5, fpart24_5⟩⟩⟩⟩⟩, ⟨⟨⟨⟨foff24_6, ⟨fpart24_6, fe24⟩⟩, ⟨zmb24, ⟨bldT24, tyc32⟩⟩⟩, ⟨⟨foff32_0, ⟨fpart32_0, foff32_1⟩⟩, ⟨fpart32_1, ⟨foff32_2, fpart32_2⟩⟩⟩⟩, ⟨⟨⟨foff32_3, ⟨fpart32_3, fe32⟩⟩, ⟨zmb32, ⟨bldT32, tyc33⟩⟩⟩, ⟨⟨tyc57, ⟨zmb57, tyc61⟩⟩, ⟨elt61, ⟨zmb61, bldT61⟩⟩⟩⟩⟩⟩, ⟨⟨⟨⟨⟨tyc74, ⟨foff74_0, fpart74_0⟩⟩, ⟨mth74_56, ⟨mth74_57, con74⟩⟩⟩, ⟨⟨fe74, ⟨zmb74, bldT74⟩⟩, ⟨tyc76, ⟨foff76_0, fpart76_0⟩⟩⟩⟩, ⟨⟨⟨mth76_59, ⟨mth76_60, con76⟩⟩, ⟨zmb76, ⟨bldT76, tyc77⟩⟩⟩, ⟨⟨foff77_0, ⟨fpart77_0, mth77_61⟩⟩, ⟨mth77_62, ⟨con77, zmb77⟩⟩⟩⟩⟩, ⟨⟨⟨⟨bldT77, ⟨tyc79, mth79_63⟩⟩, ⟨mth79_64, ⟨con79, fe79⟩⟩⟩, ⟨⟨zmb79, ⟨bldT79, arr161⟩⟩, ⟨Try.underlying0, ⟨Try.underlying2, Try.underlying3⟩⟩⟩⟩, ⟨⟨⟨Try.underlying4, ⟨Try.underlying9, Try.underlying22⟩⟩, ⟨Try.underlying24, ⟨Try.underlying32, Try.underlying33⟩⟩⟩, ⟨⟨Try.underlying57, ⟨Try.underlying61, Try.underlying74⟩⟩, ⟨Try.underlying76, ⟨Try.underlying77, Try.underlying79⟩⟩⟩⟩⟩⟩⟩
theorem tickP_iff (n : Int) : tickP n = true ↔ 0 ≤ n ∧ n ≤ 253402300799 := by unfold tickP; simp
theorem right_bd {p s c e : Int} (h : rightP p s c e = true) : (p = 0 ∨ p = 1 ∨ p = 2 ∨ p = 3) ∧ 0 ≤ s ∧ s ≤ 253402300799 ∧ 0 ≤ c ∧ c ≤ 253402300799 := by
  unfold rightP at h
  split at h
  · simp at h; omega
  · split at h
    · simp [tickP] at h; omega
    · split at h
      · simp [tickP] at h; omega
      · split at h
        · simp [tickP] at h; omega
        · cases h
set_option maxHeartbeats 2000000 in
theorem next_ct (nm : ByteArray) (pg : Bool) (lg sh fa fr kp p s c e now : Int) (h : Bool) (ep : Int) : ACt Try.prog 9 [ruleA nm pg lg sh fa fr kp, alA p s c e, iv .i64 now, bv h, iv .u64 ep] [] (Fn (stepA (nextP fr kp p s c e now h ep))) := by
  refine ACt.intro Try.func9 rfl (by kernel_rfl) (by simp [Try.ntmps9]) (fun cx => ?_)
  simp only [argE, Try.ntmps9, Try.results9]
  by_cases g : rightP p s c e ∧ tickP now ∧ s ≤ now ∧ c ≤ now ∧ 0 ≤ fr ∧ 0 ≤ kp
  · obtain ⟨g1, g2, g3, g4, g5, g6⟩ := g
    obtain ⟨hp, b1, b2, b3, b4⟩ := right_bd g1
    obtain ⟨b5, b6⟩ := (tickP_iff now).1 g2
    have hn : nextP fr kp p s c e now h ep = if h then
        if p = 1 then (if fr ≤ now - s then fireP s now ep else ((1, s, 0, 0), 0))
        else if p = 2 then ((p, s, c, e), 0)
        else if p = 3 then ((2, s, 0, e), 0)
        else if fr ≤ 0 then fireP now now ep else ((1, now, 0, 0), 0)
      else
        if p = 1 then ((0, 0, 0, 0), 0)
        else if p = 2 then (if kp ≤ 0 then ((0, 0, 0, 0), 2) else ((3, s, now, e), 0))
        else if p = 3 then (if kp ≤ now - c then ((0, 0, 0, 0), 2) else ((p, s, c, e), 0))
        else ((0, 0, 0, 0), 0) := if_pos ⟨g1, g2, g3, g4, g5, g6⟩
    have k1 : decide (now < if s < c then c else s) = false := by simp; split <;> omega
    have k2 : decide (fr < 0) = false := by simp; omega
    have k3 : decide (kp < 0) = false := by simp; omega
    rw [hn]
    have hph := phaseOf_ct p s c e
    rcases hp with rfl | rfl | rfl | rfl
    · simp only [Int.reduceEq, if_false, if_true] at hph ⊢
      cases h
      · simp only [Bool.false_eq_true, if_false]
        first | (have FRx := FR; clear FRx) | (have FR : ¬ ((1 : Nat) = 0) := Nat.one_ne_zero)
        repeat' first
          | (refine Sm.mk ?_; try simp -dsimp only [ZK, rvc, drawF, headN, pureH, stp, dvc, calleeOf, gcall, pev, eff, newB, okd, og, ogs, ogo, ogp, slv, bltv, opd, litv, strip, one, both, putE, St.put, look, gdOf, gdv, picka, pickv, pickw, binv, bini, bins, binb, binp, bina, shp, eqCells, unv, convv, nilv, faddv, addp, idxav, idxp, load1, load1m, loadn, loadnm, loadv, hget, hset, hrep, hdel, slicev, bnd, shift1, lenv, IntKind.bits, extractv, fieldv, indexv, min2v, max2v, mkiv, cellsA, fillA, buildv, stC, oneC, rowMB, intsA, plN, appE, appZ, appC, appNZ, appNC, VwL, srcC, srcZ, srcM, isBoolT, isPtrT, isSliceT, uOk, Value.oneCell', Nat.reducePow, Int.reducePow, Nat.reduceAdd, Nat.reduceMul, Nat.reduceSub, Nat.reduceLT, Nat.reduceLeDiff, Nat.reduceEqDiff, Nat.reduceBEq, Nat.reduceDiv, Nat.reduceMod, ↓reduceIte, reduceCtorEq, Int.reduceToNat, Int.reduceLT, Int.reduceLE, TFAlB, SeqQ, BlkQ, LoopQ, BodyQ, k1, k2, k3, g1, g2, FR])
          | (first | refine CallV.fn (right_ct _ _ _ _) (Sm.out ?_) | refine ExF.mk (right_ct _ _ _ _) (Sm.out ?_) | refine ExG.mk (fun _ => right_ct _ _ _ _) (Sm.out ?_) | refine ExG.mkJ (fun _ => right_ct _ _ _ _) (Sm.out ?_) | refine ExG.mkI (Ob.out ?_) (fun _ => right_ct _ _ _ _) (Sm.out ?_))
          | (first | refine CallV.fn (tick_ct _) (Sm.out ?_) | refine ExF.mk (tick_ct _) (Sm.out ?_) | refine ExG.mk (fun _ => tick_ct _) (Sm.out ?_) | refine ExG.mkJ (fun _ => tick_ct _) (Sm.out ?_) | refine ExG.mkI (Ob.out ?_) (fun _ => tick_ct _) (Sm.out ?_))
          | (first | refine CallV.fn (hph) (Sm.out ?_) | refine ExF.mk (hph) (Sm.out ?_) | refine ExG.mk (fun _ => hph) (Sm.out ?_) | refine ExG.mkJ (fun _ => hph) (Sm.out ?_) | refine ExG.mkI (Ob.out ?_) (fun _ => hph) (Sm.out ?_))
          | (first | refine CallV.fn (iFails_ct _ _ ⟨_, rfl⟩) (Sm.out ?_) | refine ExF.mk (iFails_ct _ _ ⟨_, rfl⟩) (Sm.out ?_) | refine ExG.mk (fun _ => iFails_ct _ _ ⟨_, rfl⟩) (Sm.out ?_) | refine ExG.mkJ (fun _ => iFails_ct _ _ ⟨_, rfl⟩) (Sm.out ?_) | refine ExG.mkI (Ob.out ?_) (fun _ => iFails_ct _ _ ⟨_, rfl⟩) (Sm.out ?_))
          | (refine WP.seq fun K hK => ?_)
          | (refine WP.region (rvc_sound _ _ (Sm.out ?_)))
          | (refine WP.drawK rfl mixed (by decide +kernel) (Sm.out ?_))
          | (refine Ob.mk ?_; focus (first | assumption | omega | decide | trivial | (intro hob; simp only [hob, ZF]; done) | (intros; (repeat' refine And.intro ?_ ?_) <;> first | assumption | omega | trivial | decide) | (intros; simp only [ZE] at *; (repeat' refine And.intro ?_ ?_) <;> first | assumption | omega | trivial)))
          | (refine And.intro (Ob.out ?_) ?_)
          | (refine WP.block ?_)
          | (refine WP.cond rfl (fun hc => ?_) (fun hc => ?_) <;> (try simp only [ZC, reduceCtorEq, ZD] at hc) <;> (try (exact absurd hc (by decide))) <;> (try (exfalso; omega)))
          | ((first | refine WP.skip ?_ | refine WP.exit ?_); simp only [SeqQ, BlkQ, LoopQ, BodyQ, ↓reduceIte, Nat.reduceEqDiff, reduceCtorEq, look, true_and])
          | (refine WP.ret (Sm.out ?_))
          | (first | refine ExG.no (Sm.out ?_) | refine Or.inl (ExG.no (Sm.out ?_)) | refine Or.inl (And.intro (fun hg => absurd hg (by decide)) (ExG.no (Sm.out ?_))))
          | (refine Rt.mk ?_; refine And.intro ?_ ?_ <;> (intro hg; first | exact absurd hg (by decide) | refine Sm.out ?_))
          | (refine Nu.mk ?_; first | (fail_if_success (have := nb1)); intro nb1 | (fail_if_success (have := nb2)); intro nb2 | (fail_if_success (have := nb3)); intro nb3 | intro nbz)
          | (refine Fr.mk ?_; intro hfr; replace FR := And.intro hfr FR; clear hfr; refine Sm.out ?_)
          | (refine Two.mk ?_ ?_)
          | (refine Cs.mk ?_; intro hcs; first | exact False.elim hcs | (exfalso; omega) | (refine Sm.out ?_))
          | (refine OutQ.all ?_ ?_; (focus (simp only [resv, ZK, look, loadv, loadn, loadnm, load1, load1m, hget, ↓reduceIte, Nat.reduceEqDiff, Nat.reduceAdd, Nat.reduceMul, Nat.reduceLeDiff, Nat.reduceLT, reduceCtorEq, TFAlB, k1, k2, k3, g1, g2, FR])); (try simp only [resv, resA, Fn, ZK, look, loadv, loadn, loadnm, load1, load1m, hget, ↓reduceIte, Nat.reduceEqDiff, Nat.reduceAdd, Nat.reduceMul, Nat.reduceLeDiff, Nat.reduceLT, reduceCtorEq, TFAlB, k1, k2, k3, g1, g2, FR]); (try simp [resA, Fn, look, k1, k2, k3, g1, g2, FR]); done)
          | go_step
          | omega
          | (simp only [maxLen_eq]; omega)
      · simp only [if_true]
        first | (have FRx := FR; clear FRx) | (have FR : ¬ ((1 : Nat) = 0) := Nat.one_ne_zero)
        repeat' first
          | (refine Sm.mk ?_; try simp -dsimp only [ZK, rvc, drawF, headN, pureH, stp, dvc, calleeOf, gcall, pev, eff, newB, okd, og, ogs, ogo, ogp, slv, bltv, opd, litv, strip, one, both, putE, St.put, look, gdOf, gdv, picka, pickv, pickw, binv, bini, bins, binb, binp, bina, shp, eqCells, unv, convv, nilv, faddv, addp, idxav, idxp, load1, load1m, loadn, loadnm, loadv, hget, hset, hrep, hdel, slicev, bnd, shift1, lenv, IntKind.bits, extractv, fieldv, indexv, min2v, max2v, mkiv, cellsA, fillA, buildv, stC, oneC, rowMB, intsA, plN, appE, appZ, appC, appNZ, appNC, VwL, srcC, srcZ, srcM, isBoolT, isPtrT, isSliceT, uOk, Value.oneCell', Nat.reducePow, Int.reducePow, Nat.reduceAdd, Nat.reduceMul, Nat.reduceSub, Nat.reduceLT, Nat.reduceLeDiff, Nat.reduceEqDiff, Nat.reduceBEq, Nat.reduceDiv, Nat.reduceMod, ↓reduceIte, reduceCtorEq, Int.reduceToNat, Int.reduceLT, Int.reduceLE, TFAlB, SeqQ, BlkQ, LoopQ, BodyQ, k1, k2, k3, g1, g2, FR])
          | (first | refine CallV.fn (right_ct _ _ _ _) (Sm.out ?_) | refine ExF.mk (right_ct _ _ _ _) (Sm.out ?_) | refine ExG.mk (fun _ => right_ct _ _ _ _) (Sm.out ?_) | refine ExG.mkJ (fun _ => right_ct _ _ _ _) (Sm.out ?_) | refine ExG.mkI (Ob.out ?_) (fun _ => right_ct _ _ _ _) (Sm.out ?_))
          | (first | refine CallV.fn (tick_ct _) (Sm.out ?_) | refine ExF.mk (tick_ct _) (Sm.out ?_) | refine ExG.mk (fun _ => tick_ct _) (Sm.out ?_) | refine ExG.mkJ (fun _ => tick_ct _) (Sm.out ?_) | refine ExG.mkI (Ob.out ?_) (fun _ => tick_ct _) (Sm.out ?_))
          | (first | refine CallV.fn (hph) (Sm.out ?_) | refine ExF.mk (hph) (Sm.out ?_) | refine ExG.mk (fun _ => hph) (Sm.out ?_) | refine ExG.mkJ (fun _ => hph) (Sm.out ?_) | refine ExG.mkI (Ob.out ?_) (fun _ => hph) (Sm.out ?_))
          | (first | refine CallV.fn (iHolds_ct _ _ _ _ _ _ _ _ _) (Sm.out ?_) | refine ExF.mk (iHolds_ct _ _ _ _ _ _ _ _ _) (Sm.out ?_) | refine ExG.mk (fun _ => iHolds_ct _ _ _ _ _ _ _ _ _) (Sm.out ?_) | refine ExG.mkJ (fun _ => iHolds_ct _ _ _ _ _ _ _ _ _) (Sm.out ?_) | refine ExG.mkI (Ob.out ?_) (fun _ => iHolds_ct _ _ _ _ _ _ _ _ _) (Sm.out ?_))
          | (refine WP.seq fun K hK => ?_)
          | (refine WP.region (rvc_sound _ _ (Sm.out ?_)))
          | (refine WP.drawK rfl mixed (by decide +kernel) (Sm.out ?_))
          | (refine Ob.mk ?_; focus (first | assumption | omega | decide | trivial | (intro hob; simp only [hob, ZF]; done) | (intros; (repeat' refine And.intro ?_ ?_) <;> first | assumption | omega | trivial | decide) | (intros; simp only [ZE] at *; (repeat' refine And.intro ?_ ?_) <;> first | assumption | omega | trivial)))
          | (refine And.intro (Ob.out ?_) ?_)
          | (refine WP.block ?_)
          | (refine WP.cond rfl (fun hc => ?_) (fun hc => ?_) <;> (try simp only [ZC, reduceCtorEq, ZD] at hc) <;> (try (exact absurd hc (by decide))) <;> (try (exfalso; omega)))
          | ((first | refine WP.skip ?_ | refine WP.exit ?_); simp only [SeqQ, BlkQ, LoopQ, BodyQ, ↓reduceIte, Nat.reduceEqDiff, reduceCtorEq, look, true_and])
          | (refine WP.ret (Sm.out ?_))
          | (first | refine ExG.no (Sm.out ?_) | refine Or.inl (ExG.no (Sm.out ?_)) | refine Or.inl (And.intro (fun hg => absurd hg (by decide)) (ExG.no (Sm.out ?_))))
          | (refine Rt.mk ?_; refine And.intro ?_ ?_ <;> (intro hg; first | exact absurd hg (by decide) | refine Sm.out ?_))
          | (refine Nu.mk ?_; first | (fail_if_success (have := nb1)); intro nb1 | (fail_if_success (have := nb2)); intro nb2 | (fail_if_success (have := nb3)); intro nb3 | intro nbz)
          | (refine Fr.mk ?_; intro hfr; replace FR := And.intro hfr FR; clear hfr; refine Sm.out ?_)
          | (refine Two.mk ?_ ?_)
          | (refine Cs.mk ?_; intro hcs; first | exact False.elim hcs | (exfalso; omega) | (refine Sm.out ?_))
          | (refine OutQ.all ?_ ?_; (focus (simp only [resv, ZK, look, loadv, loadn, loadnm, load1, load1m, hget, ↓reduceIte, Nat.reduceEqDiff, Nat.reduceAdd, Nat.reduceMul, Nat.reduceLeDiff, Nat.reduceLT, reduceCtorEq, TFAlB, k1, k2, k3, g1, g2, FR])); (try simp only [resv, resA, Fn, ZK, look, loadv, loadn, loadnm, load1, load1m, hget, ↓reduceIte, Nat.reduceEqDiff, Nat.reduceAdd, Nat.reduceMul, Nat.reduceLeDiff, Nat.reduceLT, reduceCtorEq, TFAlB, k1, k2, k3, g1, g2, FR]); (try simp [resA, Fn, look, k1, k2, k3, g1, g2, FR]); done)
          | go_step
          | omega
          | (simp only [maxLen_eq]; omega)
    · simp only [Int.reduceEq, if_false, if_true] at hph ⊢
      cases h
      · simp only [Bool.false_eq_true, if_false]
        first | (have FRx := FR; clear FRx) | (have FR : ¬ ((1 : Nat) = 0) := Nat.one_ne_zero)
        repeat' first
          | (refine Sm.mk ?_; try simp -dsimp only [ZK, rvc, drawF, headN, pureH, stp, dvc, calleeOf, gcall, pev, eff, newB, okd, og, ogs, ogo, ogp, slv, bltv, opd, litv, strip, one, both, putE, St.put, look, gdOf, gdv, picka, pickv, pickw, binv, bini, bins, binb, binp, bina, shp, eqCells, unv, convv, nilv, faddv, addp, idxav, idxp, load1, load1m, loadn, loadnm, loadv, hget, hset, hrep, hdel, slicev, bnd, shift1, lenv, IntKind.bits, extractv, fieldv, indexv, min2v, max2v, mkiv, cellsA, fillA, buildv, stC, oneC, rowMB, intsA, plN, appE, appZ, appC, appNZ, appNC, VwL, srcC, srcZ, srcM, isBoolT, isPtrT, isSliceT, uOk, Value.oneCell', Nat.reducePow, Int.reducePow, Nat.reduceAdd, Nat.reduceMul, Nat.reduceSub, Nat.reduceLT, Nat.reduceLeDiff, Nat.reduceEqDiff, Nat.reduceBEq, Nat.reduceDiv, Nat.reduceMod, ↓reduceIte, reduceCtorEq, Int.reduceToNat, Int.reduceLT, Int.reduceLE, TFAlB, SeqQ, BlkQ, LoopQ, BodyQ, k1, k2, k3, g1, g2, FR])
          | (first | refine CallV.fn (right_ct _ _ _ _) (Sm.out ?_) | refine ExF.mk (right_ct _ _ _ _) (Sm.out ?_) | refine ExG.mk (fun _ => right_ct _ _ _ _) (Sm.out ?_) | refine ExG.mkJ (fun _ => right_ct _ _ _ _) (Sm.out ?_) | refine ExG.mkI (Ob.out ?_) (fun _ => right_ct _ _ _ _) (Sm.out ?_))
          | (first | refine CallV.fn (tick_ct _) (Sm.out ?_) | refine ExF.mk (tick_ct _) (Sm.out ?_) | refine ExG.mk (fun _ => tick_ct _) (Sm.out ?_) | refine ExG.mkJ (fun _ => tick_ct _) (Sm.out ?_) | refine ExG.mkI (Ob.out ?_) (fun _ => tick_ct _) (Sm.out ?_))
          | (first | refine CallV.fn (hph) (Sm.out ?_) | refine ExF.mk (hph) (Sm.out ?_) | refine ExG.mk (fun _ => hph) (Sm.out ?_) | refine ExG.mkJ (fun _ => hph) (Sm.out ?_) | refine ExG.mkI (Ob.out ?_) (fun _ => hph) (Sm.out ?_))
          | (first | refine CallV.fn (pFails_ct _ _ _ ⟨_, rfl⟩) (Sm.out ?_) | refine ExF.mk (pFails_ct _ _ _ ⟨_, rfl⟩) (Sm.out ?_) | refine ExG.mk (fun _ => pFails_ct _ _ _ ⟨_, rfl⟩) (Sm.out ?_) | refine ExG.mkJ (fun _ => pFails_ct _ _ _ ⟨_, rfl⟩) (Sm.out ?_) | refine ExG.mkI (Ob.out ?_) (fun _ => pFails_ct _ _ _ ⟨_, rfl⟩) (Sm.out ?_))
          | (refine WP.seq fun K hK => ?_)
          | (refine WP.region (rvc_sound _ _ (Sm.out ?_)))
          | (refine WP.drawK rfl mixed (by decide +kernel) (Sm.out ?_))
          | (refine Ob.mk ?_; focus (first | assumption | omega | decide | trivial | (intro hob; simp only [hob, ZF]; done) | (intros; (repeat' refine And.intro ?_ ?_) <;> first | assumption | omega | trivial | decide) | (intros; simp only [ZE] at *; (repeat' refine And.intro ?_ ?_) <;> first | assumption | omega | trivial)))
          | (refine And.intro (Ob.out ?_) ?_)
          | (refine WP.block ?_)
          | (refine WP.cond rfl (fun hc => ?_) (fun hc => ?_) <;> (try simp only [ZC, reduceCtorEq, ZD] at hc) <;> (try (exact absurd hc (by decide))) <;> (try (exfalso; omega)))
          | ((first | refine WP.skip ?_ | refine WP.exit ?_); simp only [SeqQ, BlkQ, LoopQ, BodyQ, ↓reduceIte, Nat.reduceEqDiff, reduceCtorEq, look, true_and])
          | (refine WP.ret (Sm.out ?_))
          | (first | refine ExG.no (Sm.out ?_) | refine Or.inl (ExG.no (Sm.out ?_)) | refine Or.inl (And.intro (fun hg => absurd hg (by decide)) (ExG.no (Sm.out ?_))))
          | (refine Rt.mk ?_; refine And.intro ?_ ?_ <;> (intro hg; first | exact absurd hg (by decide) | refine Sm.out ?_))
          | (refine Nu.mk ?_; first | (fail_if_success (have := nb1)); intro nb1 | (fail_if_success (have := nb2)); intro nb2 | (fail_if_success (have := nb3)); intro nb3 | intro nbz)
          | (refine Fr.mk ?_; intro hfr; replace FR := And.intro hfr FR; clear hfr; refine Sm.out ?_)
          | (refine Two.mk ?_ ?_)
          | (refine Cs.mk ?_; intro hcs; first | exact False.elim hcs | (exfalso; omega) | (refine Sm.out ?_))
          | (refine OutQ.all ?_ ?_; (focus (simp only [resv, ZK, look, loadv, loadn, loadnm, load1, load1m, hget, ↓reduceIte, Nat.reduceEqDiff, Nat.reduceAdd, Nat.reduceMul, Nat.reduceLeDiff, Nat.reduceLT, reduceCtorEq, TFAlB, k1, k2, k3, g1, g2, FR])); (try simp only [resv, resA, Fn, ZK, look, loadv, loadn, loadnm, load1, load1m, hget, ↓reduceIte, Nat.reduceEqDiff, Nat.reduceAdd, Nat.reduceMul, Nat.reduceLeDiff, Nat.reduceLT, reduceCtorEq, TFAlB, k1, k2, k3, g1, g2, FR]); (try simp [resA, Fn, look, k1, k2, k3, g1, g2, FR]); done)
          | go_step
          | omega
          | (simp only [maxLen_eq]; omega)
      · simp only [if_true]
        first | (have FRx := FR; clear FRx) | (have FR : ¬ ((1 : Nat) = 0) := Nat.one_ne_zero)
        repeat' first
          | (refine Sm.mk ?_; try simp -dsimp only [ZK, rvc, drawF, headN, pureH, stp, dvc, calleeOf, gcall, pev, eff, newB, okd, og, ogs, ogo, ogp, slv, bltv, opd, litv, strip, one, both, putE, St.put, look, gdOf, gdv, picka, pickv, pickw, binv, bini, bins, binb, binp, bina, shp, eqCells, unv, convv, nilv, faddv, addp, idxav, idxp, load1, load1m, loadn, loadnm, loadv, hget, hset, hrep, hdel, slicev, bnd, shift1, lenv, IntKind.bits, extractv, fieldv, indexv, min2v, max2v, mkiv, cellsA, fillA, buildv, stC, oneC, rowMB, intsA, plN, appE, appZ, appC, appNZ, appNC, VwL, srcC, srcZ, srcM, isBoolT, isPtrT, isSliceT, uOk, Value.oneCell', Nat.reducePow, Int.reducePow, Nat.reduceAdd, Nat.reduceMul, Nat.reduceSub, Nat.reduceLT, Nat.reduceLeDiff, Nat.reduceEqDiff, Nat.reduceBEq, Nat.reduceDiv, Nat.reduceMod, ↓reduceIte, reduceCtorEq, Int.reduceToNat, Int.reduceLT, Int.reduceLE, TFAlB, SeqQ, BlkQ, LoopQ, BodyQ, k1, k2, k3, g1, g2, FR])
          | (first | refine CallV.fn (right_ct _ _ _ _) (Sm.out ?_) | refine ExF.mk (right_ct _ _ _ _) (Sm.out ?_) | refine ExG.mk (fun _ => right_ct _ _ _ _) (Sm.out ?_) | refine ExG.mkJ (fun _ => right_ct _ _ _ _) (Sm.out ?_) | refine ExG.mkI (Ob.out ?_) (fun _ => right_ct _ _ _ _) (Sm.out ?_))
          | (first | refine CallV.fn (tick_ct _) (Sm.out ?_) | refine ExF.mk (tick_ct _) (Sm.out ?_) | refine ExG.mk (fun _ => tick_ct _) (Sm.out ?_) | refine ExG.mkJ (fun _ => tick_ct _) (Sm.out ?_) | refine ExG.mkI (Ob.out ?_) (fun _ => tick_ct _) (Sm.out ?_))
          | (first | refine CallV.fn (hph) (Sm.out ?_) | refine ExF.mk (hph) (Sm.out ?_) | refine ExG.mk (fun _ => hph) (Sm.out ?_) | refine ExG.mkJ (fun _ => hph) (Sm.out ?_) | refine ExG.mkI (Ob.out ?_) (fun _ => hph) (Sm.out ?_))
          | (first | refine CallV.fn (pHolds_ct _ _ _ _ _ _ _ _ _ _ (by omega) (by omega)) (Sm.out ?_) | refine ExF.mk (pHolds_ct _ _ _ _ _ _ _ _ _ _ (by omega) (by omega)) (Sm.out ?_) | refine ExG.mk (fun _ => pHolds_ct _ _ _ _ _ _ _ _ _ _ (by omega) (by omega)) (Sm.out ?_) | refine ExG.mkJ (fun _ => pHolds_ct _ _ _ _ _ _ _ _ _ _ (by omega) (by omega)) (Sm.out ?_) | refine ExG.mkI (Ob.out ?_) (fun _ => pHolds_ct _ _ _ _ _ _ _ _ _ _ (by omega) (by omega)) (Sm.out ?_))
          | (refine WP.seq fun K hK => ?_)
          | (refine WP.region (rvc_sound _ _ (Sm.out ?_)))
          | (refine WP.drawK rfl mixed (by decide +kernel) (Sm.out ?_))
          | (refine Ob.mk ?_; focus (first | assumption | omega | decide | trivial | (intro hob; simp only [hob, ZF]; done) | (intros; (repeat' refine And.intro ?_ ?_) <;> first | assumption | omega | trivial | decide) | (intros; simp only [ZE] at *; (repeat' refine And.intro ?_ ?_) <;> first | assumption | omega | trivial)))
          | (refine And.intro (Ob.out ?_) ?_)
          | (refine WP.block ?_)
          | (refine WP.cond rfl (fun hc => ?_) (fun hc => ?_) <;> (try simp only [ZC, reduceCtorEq, ZD] at hc) <;> (try (exact absurd hc (by decide))) <;> (try (exfalso; omega)))
          | ((first | refine WP.skip ?_ | refine WP.exit ?_); simp only [SeqQ, BlkQ, LoopQ, BodyQ, ↓reduceIte, Nat.reduceEqDiff, reduceCtorEq, look, true_and])
          | (refine WP.ret (Sm.out ?_))
          | (first | refine ExG.no (Sm.out ?_) | refine Or.inl (ExG.no (Sm.out ?_)) | refine Or.inl (And.intro (fun hg => absurd hg (by decide)) (ExG.no (Sm.out ?_))))
          | (refine Rt.mk ?_; refine And.intro ?_ ?_ <;> (intro hg; first | exact absurd hg (by decide) | refine Sm.out ?_))
          | (refine Nu.mk ?_; first | (fail_if_success (have := nb1)); intro nb1 | (fail_if_success (have := nb2)); intro nb2 | (fail_if_success (have := nb3)); intro nb3 | intro nbz)
          | (refine Fr.mk ?_; intro hfr; replace FR := And.intro hfr FR; clear hfr; refine Sm.out ?_)
          | (refine Two.mk ?_ ?_)
          | (refine Cs.mk ?_; intro hcs; first | exact False.elim hcs | (exfalso; omega) | (refine Sm.out ?_))
          | (refine OutQ.all ?_ ?_; (focus (simp only [resv, ZK, look, loadv, loadn, loadnm, load1, load1m, hget, ↓reduceIte, Nat.reduceEqDiff, Nat.reduceAdd, Nat.reduceMul, Nat.reduceLeDiff, Nat.reduceLT, reduceCtorEq, TFAlB, k1, k2, k3, g1, g2, FR])); (try simp only [resv, resA, Fn, ZK, look, loadv, loadn, loadnm, load1, load1m, hget, ↓reduceIte, Nat.reduceEqDiff, Nat.reduceAdd, Nat.reduceMul, Nat.reduceLeDiff, Nat.reduceLT, reduceCtorEq, TFAlB, k1, k2, k3, g1, g2, FR]); (try simp [resA, Fn, look, k1, k2, k3, g1, g2, FR]); done)
          | go_step
          | omega
          | (simp only [maxLen_eq]; omega)
    · simp only [Int.reduceEq, if_false, if_true] at hph ⊢
      cases h
      · simp only [Bool.false_eq_true, if_false]
        first | (have FRx := FR; clear FRx) | (have FR : ¬ ((1 : Nat) = 0) := Nat.one_ne_zero)
        repeat' first
          | (refine Sm.mk ?_; try simp -dsimp only [ZK, rvc, drawF, headN, pureH, stp, dvc, calleeOf, gcall, pev, eff, newB, okd, og, ogs, ogo, ogp, slv, bltv, opd, litv, strip, one, both, putE, St.put, look, gdOf, gdv, picka, pickv, pickw, binv, bini, bins, binb, binp, bina, shp, eqCells, unv, convv, nilv, faddv, addp, idxav, idxp, load1, load1m, loadn, loadnm, loadv, hget, hset, hrep, hdel, slicev, bnd, shift1, lenv, IntKind.bits, extractv, fieldv, indexv, min2v, max2v, mkiv, cellsA, fillA, buildv, stC, oneC, rowMB, intsA, plN, appE, appZ, appC, appNZ, appNC, VwL, srcC, srcZ, srcM, isBoolT, isPtrT, isSliceT, uOk, Value.oneCell', Nat.reducePow, Int.reducePow, Nat.reduceAdd, Nat.reduceMul, Nat.reduceSub, Nat.reduceLT, Nat.reduceLeDiff, Nat.reduceEqDiff, Nat.reduceBEq, Nat.reduceDiv, Nat.reduceMod, ↓reduceIte, reduceCtorEq, Int.reduceToNat, Int.reduceLT, Int.reduceLE, TFAlB, SeqQ, BlkQ, LoopQ, BodyQ, k1, k2, k3, g1, g2, FR])
          | (first | refine CallV.fn (right_ct _ _ _ _) (Sm.out ?_) | refine ExF.mk (right_ct _ _ _ _) (Sm.out ?_) | refine ExG.mk (fun _ => right_ct _ _ _ _) (Sm.out ?_) | refine ExG.mkJ (fun _ => right_ct _ _ _ _) (Sm.out ?_) | refine ExG.mkI (Ob.out ?_) (fun _ => right_ct _ _ _ _) (Sm.out ?_))
          | (first | refine CallV.fn (tick_ct _) (Sm.out ?_) | refine ExF.mk (tick_ct _) (Sm.out ?_) | refine ExG.mk (fun _ => tick_ct _) (Sm.out ?_) | refine ExG.mkJ (fun _ => tick_ct _) (Sm.out ?_) | refine ExG.mkI (Ob.out ?_) (fun _ => tick_ct _) (Sm.out ?_))
          | (first | refine CallV.fn (hph) (Sm.out ?_) | refine ExF.mk (hph) (Sm.out ?_) | refine ExG.mk (fun _ => hph) (Sm.out ?_) | refine ExG.mkJ (fun _ => hph) (Sm.out ?_) | refine ExG.mkI (Ob.out ?_) (fun _ => hph) (Sm.out ?_))
          | (first | refine CallV.fn (fFails_ct _ _ _ _ _ _ _ _ _ _ _ _) (Sm.out ?_) | refine ExF.mk (fFails_ct _ _ _ _ _ _ _ _ _ _ _ _) (Sm.out ?_) | refine ExG.mk (fun _ => fFails_ct _ _ _ _ _ _ _ _ _ _ _ _) (Sm.out ?_) | refine ExG.mkJ (fun _ => fFails_ct _ _ _ _ _ _ _ _ _ _ _ _) (Sm.out ?_) | refine ExG.mkI (Ob.out ?_) (fun _ => fFails_ct _ _ _ _ _ _ _ _ _ _ _ _) (Sm.out ?_))
          | (refine WP.seq fun K hK => ?_)
          | (refine WP.region (rvc_sound _ _ (Sm.out ?_)))
          | (refine WP.drawK rfl mixed (by decide +kernel) (Sm.out ?_))
          | (refine Ob.mk ?_; focus (first | assumption | omega | decide | trivial | (intro hob; simp only [hob, ZF]; done) | (intros; (repeat' refine And.intro ?_ ?_) <;> first | assumption | omega | trivial | decide) | (intros; simp only [ZE] at *; (repeat' refine And.intro ?_ ?_) <;> first | assumption | omega | trivial)))
          | (refine And.intro (Ob.out ?_) ?_)
          | (refine WP.block ?_)
          | (refine WP.cond rfl (fun hc => ?_) (fun hc => ?_) <;> (try simp only [ZC, reduceCtorEq, ZD] at hc) <;> (try (exact absurd hc (by decide))) <;> (try (exfalso; omega)))
          | ((first | refine WP.skip ?_ | refine WP.exit ?_); simp only [SeqQ, BlkQ, LoopQ, BodyQ, ↓reduceIte, Nat.reduceEqDiff, reduceCtorEq, look, true_and])
          | (refine WP.ret (Sm.out ?_))
          | (first | refine ExG.no (Sm.out ?_) | refine Or.inl (ExG.no (Sm.out ?_)) | refine Or.inl (And.intro (fun hg => absurd hg (by decide)) (ExG.no (Sm.out ?_))))
          | (refine Rt.mk ?_; refine And.intro ?_ ?_ <;> (intro hg; first | exact absurd hg (by decide) | refine Sm.out ?_))
          | (refine Nu.mk ?_; first | (fail_if_success (have := nb1)); intro nb1 | (fail_if_success (have := nb2)); intro nb2 | (fail_if_success (have := nb3)); intro nb3 | intro nbz)
          | (refine Fr.mk ?_; intro hfr; replace FR := And.intro hfr FR; clear hfr; refine Sm.out ?_)
          | (refine Two.mk ?_ ?_)
          | (refine Cs.mk ?_; intro hcs; first | exact False.elim hcs | (exfalso; omega) | (refine Sm.out ?_))
          | (refine OutQ.all ?_ ?_; (focus (simp only [resv, ZK, look, loadv, loadn, loadnm, load1, load1m, hget, ↓reduceIte, Nat.reduceEqDiff, Nat.reduceAdd, Nat.reduceMul, Nat.reduceLeDiff, Nat.reduceLT, reduceCtorEq, TFAlB, k1, k2, k3, g1, g2, FR])); (try simp only [resv, resA, Fn, ZK, look, loadv, loadn, loadnm, load1, load1m, hget, ↓reduceIte, Nat.reduceEqDiff, Nat.reduceAdd, Nat.reduceMul, Nat.reduceLeDiff, Nat.reduceLT, reduceCtorEq, TFAlB, k1, k2, k3, g1, g2, FR]); (try simp [resA, Fn, look, k1, k2, k3, g1, g2, FR]); done)
          | go_step
          | omega
          | (simp only [maxLen_eq]; omega)
      · simp only [if_true]
        first | (have FRx := FR; clear FRx) | (have FR : ¬ ((1 : Nat) = 0) := Nat.one_ne_zero)
        repeat' first
          | (refine Sm.mk ?_; try simp -dsimp only [ZK, rvc, drawF, headN, pureH, stp, dvc, calleeOf, gcall, pev, eff, newB, okd, og, ogs, ogo, ogp, slv, bltv, opd, litv, strip, one, both, putE, St.put, look, gdOf, gdv, picka, pickv, pickw, binv, bini, bins, binb, binp, bina, shp, eqCells, unv, convv, nilv, faddv, addp, idxav, idxp, load1, load1m, loadn, loadnm, loadv, hget, hset, hrep, hdel, slicev, bnd, shift1, lenv, IntKind.bits, extractv, fieldv, indexv, min2v, max2v, mkiv, cellsA, fillA, buildv, stC, oneC, rowMB, intsA, plN, appE, appZ, appC, appNZ, appNC, VwL, srcC, srcZ, srcM, isBoolT, isPtrT, isSliceT, uOk, Value.oneCell', Nat.reducePow, Int.reducePow, Nat.reduceAdd, Nat.reduceMul, Nat.reduceSub, Nat.reduceLT, Nat.reduceLeDiff, Nat.reduceEqDiff, Nat.reduceBEq, Nat.reduceDiv, Nat.reduceMod, ↓reduceIte, reduceCtorEq, Int.reduceToNat, Int.reduceLT, Int.reduceLE, TFAlB, SeqQ, BlkQ, LoopQ, BodyQ, k1, k2, k3, g1, g2, FR])
          | (first | refine CallV.fn (right_ct _ _ _ _) (Sm.out ?_) | refine ExF.mk (right_ct _ _ _ _) (Sm.out ?_) | refine ExG.mk (fun _ => right_ct _ _ _ _) (Sm.out ?_) | refine ExG.mkJ (fun _ => right_ct _ _ _ _) (Sm.out ?_) | refine ExG.mkI (Ob.out ?_) (fun _ => right_ct _ _ _ _) (Sm.out ?_))
          | (first | refine CallV.fn (tick_ct _) (Sm.out ?_) | refine ExF.mk (tick_ct _) (Sm.out ?_) | refine ExG.mk (fun _ => tick_ct _) (Sm.out ?_) | refine ExG.mkJ (fun _ => tick_ct _) (Sm.out ?_) | refine ExG.mkI (Ob.out ?_) (fun _ => tick_ct _) (Sm.out ?_))
          | (first | refine CallV.fn (hph) (Sm.out ?_) | refine ExF.mk (hph) (Sm.out ?_) | refine ExG.mk (fun _ => hph) (Sm.out ?_) | refine ExG.mkJ (fun _ => hph) (Sm.out ?_) | refine ExG.mkI (Ob.out ?_) (fun _ => hph) (Sm.out ?_))
          | (first | refine CallV.fn (fHolds_ct _ _ _ _ _ _ _ ⟨_, rfl⟩) (Sm.out ?_) | refine ExF.mk (fHolds_ct _ _ _ _ _ _ _ ⟨_, rfl⟩) (Sm.out ?_) | refine ExG.mk (fun _ => fHolds_ct _ _ _ _ _ _ _ ⟨_, rfl⟩) (Sm.out ?_) | refine ExG.mkJ (fun _ => fHolds_ct _ _ _ _ _ _ _ ⟨_, rfl⟩) (Sm.out ?_) | refine ExG.mkI (Ob.out ?_) (fun _ => fHolds_ct _ _ _ _ _ _ _ ⟨_, rfl⟩) (Sm.out ?_))
          | (refine WP.seq fun K hK => ?_)
          | (refine WP.region (rvc_sound _ _ (Sm.out ?_)))
          | (refine WP.drawK rfl mixed (by decide +kernel) (Sm.out ?_))
          | (refine Ob.mk ?_; focus (first | assumption | omega | decide | trivial | (intro hob; simp only [hob, ZF]; done) | (intros; (repeat' refine And.intro ?_ ?_) <;> first | assumption | omega | trivial | decide) | (intros; simp only [ZE] at *; (repeat' refine And.intro ?_ ?_) <;> first | assumption | omega | trivial)))
          | (refine And.intro (Ob.out ?_) ?_)
          | (refine WP.block ?_)
          | (refine WP.cond rfl (fun hc => ?_) (fun hc => ?_) <;> (try simp only [ZC, reduceCtorEq, ZD] at hc) <;> (try (exact absurd hc (by decide))) <;> (try (exfalso; omega)))
          | ((first | refine WP.skip ?_ | refine WP.exit ?_); simp only [SeqQ, BlkQ, LoopQ, BodyQ, ↓reduceIte, Nat.reduceEqDiff, reduceCtorEq, look, true_and])
          | (refine WP.ret (Sm.out ?_))
          | (first | refine ExG.no (Sm.out ?_) | refine Or.inl (ExG.no (Sm.out ?_)) | refine Or.inl (And.intro (fun hg => absurd hg (by decide)) (ExG.no (Sm.out ?_))))
          | (refine Rt.mk ?_; refine And.intro ?_ ?_ <;> (intro hg; first | exact absurd hg (by decide) | refine Sm.out ?_))
          | (refine Nu.mk ?_; first | (fail_if_success (have := nb1)); intro nb1 | (fail_if_success (have := nb2)); intro nb2 | (fail_if_success (have := nb3)); intro nb3 | intro nbz)
          | (refine Fr.mk ?_; intro hfr; replace FR := And.intro hfr FR; clear hfr; refine Sm.out ?_)
          | (refine Two.mk ?_ ?_)
          | (refine Cs.mk ?_; intro hcs; first | exact False.elim hcs | (exfalso; omega) | (refine Sm.out ?_))
          | (refine OutQ.all ?_ ?_; (focus (simp only [resv, ZK, look, loadv, loadn, loadnm, load1, load1m, hget, ↓reduceIte, Nat.reduceEqDiff, Nat.reduceAdd, Nat.reduceMul, Nat.reduceLeDiff, Nat.reduceLT, reduceCtorEq, TFAlB, k1, k2, k3, g1, g2, FR])); (try simp only [resv, resA, Fn, ZK, look, loadv, loadn, loadnm, load1, load1m, hget, ↓reduceIte, Nat.reduceEqDiff, Nat.reduceAdd, Nat.reduceMul, Nat.reduceLeDiff, Nat.reduceLT, reduceCtorEq, TFAlB, k1, k2, k3, g1, g2, FR]); (try simp [resA, Fn, look, k1, k2, k3, g1, g2, FR]); done)
          | go_step
          | omega
          | (simp only [maxLen_eq]; omega)
    · simp only [Int.reduceEq, if_false, if_true] at hph ⊢
      cases h
      · simp only [Bool.false_eq_true, if_false]
        first | (have FRx := FR; clear FRx) | (have FR : ¬ ((1 : Nat) = 0) := Nat.one_ne_zero)
        repeat' first
          | (refine Sm.mk ?_; try simp -dsimp only [ZK, rvc, drawF, headN, pureH, stp, dvc, calleeOf, gcall, pev, eff, newB, okd, og, ogs, ogo, ogp, slv, bltv, opd, litv, strip, one, both, putE, St.put, look, gdOf, gdv, picka, pickv, pickw, binv, bini, bins, binb, binp, bina, shp, eqCells, unv, convv, nilv, faddv, addp, idxav, idxp, load1, load1m, loadn, loadnm, loadv, hget, hset, hrep, hdel, slicev, bnd, shift1, lenv, IntKind.bits, extractv, fieldv, indexv, min2v, max2v, mkiv, cellsA, fillA, buildv, stC, oneC, rowMB, intsA, plN, appE, appZ, appC, appNZ, appNC, VwL, srcC, srcZ, srcM, isBoolT, isPtrT, isSliceT, uOk, Value.oneCell', Nat.reducePow, Int.reducePow, Nat.reduceAdd, Nat.reduceMul, Nat.reduceSub, Nat.reduceLT, Nat.reduceLeDiff, Nat.reduceEqDiff, Nat.reduceBEq, Nat.reduceDiv, Nat.reduceMod, ↓reduceIte, reduceCtorEq, Int.reduceToNat, Int.reduceLT, Int.reduceLE, TFAlB, SeqQ, BlkQ, LoopQ, BodyQ, k1, k2, k3, g1, g2, FR])
          | (first | refine CallV.fn (right_ct _ _ _ _) (Sm.out ?_) | refine ExF.mk (right_ct _ _ _ _) (Sm.out ?_) | refine ExG.mk (fun _ => right_ct _ _ _ _) (Sm.out ?_) | refine ExG.mkJ (fun _ => right_ct _ _ _ _) (Sm.out ?_) | refine ExG.mkI (Ob.out ?_) (fun _ => right_ct _ _ _ _) (Sm.out ?_))
          | (first | refine CallV.fn (tick_ct _) (Sm.out ?_) | refine ExF.mk (tick_ct _) (Sm.out ?_) | refine ExG.mk (fun _ => tick_ct _) (Sm.out ?_) | refine ExG.mkJ (fun _ => tick_ct _) (Sm.out ?_) | refine ExG.mkI (Ob.out ?_) (fun _ => tick_ct _) (Sm.out ?_))
          | (first | refine CallV.fn (hph) (Sm.out ?_) | refine ExF.mk (hph) (Sm.out ?_) | refine ExG.mk (fun _ => hph) (Sm.out ?_) | refine ExG.mkJ (fun _ => hph) (Sm.out ?_) | refine ExG.mkI (Ob.out ?_) (fun _ => hph) (Sm.out ?_))
          | (first | refine CallV.fn (cFails_ct _ _ _ _ _ _ _ _ _ _ _ _ (by omega) (by omega)) (Sm.out ?_) | refine ExF.mk (cFails_ct _ _ _ _ _ _ _ _ _ _ _ _ (by omega) (by omega)) (Sm.out ?_) | refine ExG.mk (fun _ => cFails_ct _ _ _ _ _ _ _ _ _ _ _ _ (by omega) (by omega)) (Sm.out ?_) | refine ExG.mkJ (fun _ => cFails_ct _ _ _ _ _ _ _ _ _ _ _ _ (by omega) (by omega)) (Sm.out ?_) | refine ExG.mkI (Ob.out ?_) (fun _ => cFails_ct _ _ _ _ _ _ _ _ _ _ _ _ (by omega) (by omega)) (Sm.out ?_))
          | (refine WP.seq fun K hK => ?_)
          | (refine WP.region (rvc_sound _ _ (Sm.out ?_)))
          | (refine WP.drawK rfl mixed (by decide +kernel) (Sm.out ?_))
          | (refine Ob.mk ?_; focus (first | assumption | omega | decide | trivial | (intro hob; simp only [hob, ZF]; done) | (intros; (repeat' refine And.intro ?_ ?_) <;> first | assumption | omega | trivial | decide) | (intros; simp only [ZE] at *; (repeat' refine And.intro ?_ ?_) <;> first | assumption | omega | trivial)))
          | (refine And.intro (Ob.out ?_) ?_)
          | (refine WP.block ?_)
          | (refine WP.cond rfl (fun hc => ?_) (fun hc => ?_) <;> (try simp only [ZC, reduceCtorEq, ZD] at hc) <;> (try (exact absurd hc (by decide))) <;> (try (exfalso; omega)))
          | ((first | refine WP.skip ?_ | refine WP.exit ?_); simp only [SeqQ, BlkQ, LoopQ, BodyQ, ↓reduceIte, Nat.reduceEqDiff, reduceCtorEq, look, true_and])
          | (refine WP.ret (Sm.out ?_))
          | (first | refine ExG.no (Sm.out ?_) | refine Or.inl (ExG.no (Sm.out ?_)) | refine Or.inl (And.intro (fun hg => absurd hg (by decide)) (ExG.no (Sm.out ?_))))
          | (refine Rt.mk ?_; refine And.intro ?_ ?_ <;> (intro hg; first | exact absurd hg (by decide) | refine Sm.out ?_))
          | (refine Nu.mk ?_; first | (fail_if_success (have := nb1)); intro nb1 | (fail_if_success (have := nb2)); intro nb2 | (fail_if_success (have := nb3)); intro nb3 | intro nbz)
          | (refine Fr.mk ?_; intro hfr; replace FR := And.intro hfr FR; clear hfr; refine Sm.out ?_)
          | (refine Two.mk ?_ ?_)
          | (refine Cs.mk ?_; intro hcs; first | exact False.elim hcs | (exfalso; omega) | (refine Sm.out ?_))
          | (refine OutQ.all ?_ ?_; (focus (simp only [resv, ZK, look, loadv, loadn, loadnm, load1, load1m, hget, ↓reduceIte, Nat.reduceEqDiff, Nat.reduceAdd, Nat.reduceMul, Nat.reduceLeDiff, Nat.reduceLT, reduceCtorEq, TFAlB, k1, k2, k3, g1, g2, FR])); (try simp only [resv, resA, Fn, ZK, look, loadv, loadn, loadnm, load1, load1m, hget, ↓reduceIte, Nat.reduceEqDiff, Nat.reduceAdd, Nat.reduceMul, Nat.reduceLeDiff, Nat.reduceLT, reduceCtorEq, TFAlB, k1, k2, k3, g1, g2, FR]); (try simp [resA, Fn, look, k1, k2, k3, g1, g2, FR]); done)
          | go_step
          | omega
          | (simp only [maxLen_eq]; omega)
      · simp only [if_true]
        first | (have FRx := FR; clear FRx) | (have FR : ¬ ((1 : Nat) = 0) := Nat.one_ne_zero)
        repeat' first
          | (refine Sm.mk ?_; try simp -dsimp only [ZK, rvc, drawF, headN, pureH, stp, dvc, calleeOf, gcall, pev, eff, newB, okd, og, ogs, ogo, ogp, slv, bltv, opd, litv, strip, one, both, putE, St.put, look, gdOf, gdv, picka, pickv, pickw, binv, bini, bins, binb, binp, bina, shp, eqCells, unv, convv, nilv, faddv, addp, idxav, idxp, load1, load1m, loadn, loadnm, loadv, hget, hset, hrep, hdel, slicev, bnd, shift1, lenv, IntKind.bits, extractv, fieldv, indexv, min2v, max2v, mkiv, cellsA, fillA, buildv, stC, oneC, rowMB, intsA, plN, appE, appZ, appC, appNZ, appNC, VwL, srcC, srcZ, srcM, isBoolT, isPtrT, isSliceT, uOk, Value.oneCell', Nat.reducePow, Int.reducePow, Nat.reduceAdd, Nat.reduceMul, Nat.reduceSub, Nat.reduceLT, Nat.reduceLeDiff, Nat.reduceEqDiff, Nat.reduceBEq, Nat.reduceDiv, Nat.reduceMod, ↓reduceIte, reduceCtorEq, Int.reduceToNat, Int.reduceLT, Int.reduceLE, TFAlB, SeqQ, BlkQ, LoopQ, BodyQ, k1, k2, k3, g1, g2, FR])
          | (first | refine CallV.fn (right_ct _ _ _ _) (Sm.out ?_) | refine ExF.mk (right_ct _ _ _ _) (Sm.out ?_) | refine ExG.mk (fun _ => right_ct _ _ _ _) (Sm.out ?_) | refine ExG.mkJ (fun _ => right_ct _ _ _ _) (Sm.out ?_) | refine ExG.mkI (Ob.out ?_) (fun _ => right_ct _ _ _ _) (Sm.out ?_))
          | (first | refine CallV.fn (tick_ct _) (Sm.out ?_) | refine ExF.mk (tick_ct _) (Sm.out ?_) | refine ExG.mk (fun _ => tick_ct _) (Sm.out ?_) | refine ExG.mkJ (fun _ => tick_ct _) (Sm.out ?_) | refine ExG.mkI (Ob.out ?_) (fun _ => tick_ct _) (Sm.out ?_))
          | (first | refine CallV.fn (hph) (Sm.out ?_) | refine ExF.mk (hph) (Sm.out ?_) | refine ExG.mk (fun _ => hph) (Sm.out ?_) | refine ExG.mkJ (fun _ => hph) (Sm.out ?_) | refine ExG.mkI (Ob.out ?_) (fun _ => hph) (Sm.out ?_))
          | (first | refine CallV.fn (cHolds_ct _ _ _ _ _ _ _ ⟨_, rfl⟩) (Sm.out ?_) | refine ExF.mk (cHolds_ct _ _ _ _ _ _ _ ⟨_, rfl⟩) (Sm.out ?_) | refine ExG.mk (fun _ => cHolds_ct _ _ _ _ _ _ _ ⟨_, rfl⟩) (Sm.out ?_) | refine ExG.mkJ (fun _ => cHolds_ct _ _ _ _ _ _ _ ⟨_, rfl⟩) (Sm.out ?_) | refine ExG.mkI (Ob.out ?_) (fun _ => cHolds_ct _ _ _ _ _ _ _ ⟨_, rfl⟩) (Sm.out ?_))
          | (refine WP.seq fun K hK => ?_)
          | (refine WP.region (rvc_sound _ _ (Sm.out ?_)))
          | (refine WP.drawK rfl mixed (by decide +kernel) (Sm.out ?_))
          | (refine Ob.mk ?_; focus (first | assumption | omega | decide | trivial | (intro hob; simp only [hob, ZF]; done) | (intros; (repeat' refine And.intro ?_ ?_) <;> first | assumption | omega | trivial | decide) | (intros; simp only [ZE] at *; (repeat' refine And.intro ?_ ?_) <;> first | assumption | omega | trivial)))
          | (refine And.intro (Ob.out ?_) ?_)
          | (refine WP.block ?_)
          | (refine WP.cond rfl (fun hc => ?_) (fun hc => ?_) <;> (try simp only [ZC, reduceCtorEq, ZD] at hc) <;> (try (exact absurd hc (by decide))) <;> (try (exfalso; omega)))
          | ((first | refine WP.skip ?_ | refine WP.exit ?_); simp only [SeqQ, BlkQ, LoopQ, BodyQ, ↓reduceIte, Nat.reduceEqDiff, reduceCtorEq, look, true_and])
          | (refine WP.ret (Sm.out ?_))
          | (first | refine ExG.no (Sm.out ?_) | refine Or.inl (ExG.no (Sm.out ?_)) | refine Or.inl (And.intro (fun hg => absurd hg (by decide)) (ExG.no (Sm.out ?_))))
          | (refine Rt.mk ?_; refine And.intro ?_ ?_ <;> (intro hg; first | exact absurd hg (by decide) | refine Sm.out ?_))
          | (refine Nu.mk ?_; first | (fail_if_success (have := nb1)); intro nb1 | (fail_if_success (have := nb2)); intro nb2 | (fail_if_success (have := nb3)); intro nb3 | intro nbz)
          | (refine Fr.mk ?_; intro hfr; replace FR := And.intro hfr FR; clear hfr; refine Sm.out ?_)
          | (refine Two.mk ?_ ?_)
          | (refine Cs.mk ?_; intro hcs; first | exact False.elim hcs | (exfalso; omega) | (refine Sm.out ?_))
          | (refine OutQ.all ?_ ?_; (focus (simp only [resv, ZK, look, loadv, loadn, loadnm, load1, load1m, hget, ↓reduceIte, Nat.reduceEqDiff, Nat.reduceAdd, Nat.reduceMul, Nat.reduceLeDiff, Nat.reduceLT, reduceCtorEq, TFAlB, k1, k2, k3, g1, g2, FR])); (try simp only [resv, resA, Fn, ZK, look, loadv, loadn, loadnm, load1, load1m, hget, ↓reduceIte, Nat.reduceEqDiff, Nat.reduceAdd, Nat.reduceMul, Nat.reduceLeDiff, Nat.reduceLT, reduceCtorEq, TFAlB, k1, k2, k3, g1, g2, FR]); (try simp [resA, Fn, look, k1, k2, k3, g1, g2, FR]); done)
          | go_step
          | omega
          | (simp only [maxLen_eq]; omega)
  · have hn : nextP fr kp p s c e now h ep = ((p, s, c, e), 0) := if_neg g
    rw [hn]
    have kk : (!rightP p s c e || !tickP now || decide (now < if s < c then c else s) || decide (fr < 0) || decide (kp < 0)) = true := by
      refine Classical.byContradiction fun hk => g ?_
      simp only [Bool.or_eq_true, Bool.not_eq_true', decide_eq_true_eq, not_or, Bool.not_eq_false, Int.not_lt] at hk
      obtain ⟨⟨⟨⟨h1, h2⟩, h3⟩, h4⟩, h5⟩ := hk
      split at h3 <;> exact ⟨h1, h2, by omega, by omega, h4, h5⟩
    first | (have FRx := FR; clear FRx) | (have FR : ¬ ((1 : Nat) = 0) := Nat.one_ne_zero)
    repeat' first
      | (refine Sm.mk ?_; try simp -dsimp only [ZK, rvc, drawF, headN, pureH, stp, dvc, calleeOf, gcall, pev, eff, newB, okd, og, ogs, ogo, ogp, slv, bltv, opd, litv, strip, one, both, putE, St.put, look, gdOf, gdv, picka, pickv, pickw, binv, bini, bins, binb, binp, bina, shp, eqCells, unv, convv, nilv, faddv, addp, idxav, idxp, load1, load1m, loadn, loadnm, loadv, hget, hset, hrep, hdel, slicev, bnd, shift1, lenv, IntKind.bits, extractv, fieldv, indexv, min2v, max2v, mkiv, cellsA, fillA, buildv, stC, oneC, rowMB, intsA, plN, appE, appZ, appC, appNZ, appNC, VwL, srcC, srcZ, srcM, isBoolT, isPtrT, isSliceT, uOk, Value.oneCell', Nat.reducePow, Int.reducePow, Nat.reduceAdd, Nat.reduceMul, Nat.reduceSub, Nat.reduceLT, Nat.reduceLeDiff, Nat.reduceEqDiff, Nat.reduceBEq, Nat.reduceDiv, Nat.reduceMod, ↓reduceIte, reduceCtorEq, Int.reduceToNat, Int.reduceLT, Int.reduceLE, TFAlB, SeqQ, BlkQ, LoopQ, BodyQ, kk, FR])
      | (first | refine CallV.fn (right_ct _ _ _ _) (Sm.out ?_) | refine ExF.mk (right_ct _ _ _ _) (Sm.out ?_) | refine ExG.mk (fun _ => right_ct _ _ _ _) (Sm.out ?_) | refine ExG.mkJ (fun _ => right_ct _ _ _ _) (Sm.out ?_) | refine ExG.mkI (Ob.out ?_) (fun _ => right_ct _ _ _ _) (Sm.out ?_))
      | (first | refine CallV.fn (tick_ct _) (Sm.out ?_) | refine ExF.mk (tick_ct _) (Sm.out ?_) | refine ExG.mk (fun _ => tick_ct _) (Sm.out ?_) | refine ExG.mkJ (fun _ => tick_ct _) (Sm.out ?_) | refine ExG.mkI (Ob.out ?_) (fun _ => tick_ct _) (Sm.out ?_))
      | (refine WP.seq fun K hK => ?_)
      | (refine WP.region (rvc_sound _ _ (Sm.out ?_)))
      | (refine WP.drawK rfl mixed (by decide +kernel) (Sm.out ?_))
      | (refine Ob.mk ?_; focus (first | assumption | omega | decide | trivial | (intro hob; simp only [hob, ZF]; done) | (intros; (repeat' refine And.intro ?_ ?_) <;> first | assumption | omega | trivial | decide) | (intros; simp only [ZE] at *; (repeat' refine And.intro ?_ ?_) <;> first | assumption | omega | trivial)))
      | (refine And.intro (Ob.out ?_) ?_)
      | (refine WP.block ?_)
      | (refine WP.cond rfl (fun hc => ?_) (fun hc => ?_) <;> (try simp only [ZC, reduceCtorEq, ZD] at hc) <;> (try (exact absurd hc (by decide))) <;> (try (exfalso; omega)))
      | ((first | refine WP.skip ?_ | refine WP.exit ?_); simp only [SeqQ, BlkQ, LoopQ, BodyQ, ↓reduceIte, Nat.reduceEqDiff, reduceCtorEq, look, true_and])
      | (refine WP.ret (Sm.out ?_))
      | (first | refine ExG.no (Sm.out ?_) | refine Or.inl (ExG.no (Sm.out ?_)) | refine Or.inl (And.intro (fun hg => absurd hg (by decide)) (ExG.no (Sm.out ?_))))
      | (refine Rt.mk ?_; refine And.intro ?_ ?_ <;> (intro hg; first | exact absurd hg (by decide) | refine Sm.out ?_))
      | (refine Nu.mk ?_; first | (fail_if_success (have := nb1)); intro nb1 | (fail_if_success (have := nb2)); intro nb2 | (fail_if_success (have := nb3)); intro nb3 | intro nbz)
      | (refine Fr.mk ?_; intro hfr; replace FR := And.intro hfr FR; clear hfr; refine Sm.out ?_)
      | (refine Two.mk ?_ ?_)
      | (refine Cs.mk ?_; intro hcs; first | exact False.elim hcs | (exfalso; omega) | (refine Sm.out ?_))
      | (refine OutQ.all ?_ ?_; (focus (simp only [resv, ZK, look, loadv, loadn, loadnm, load1, load1m, hget, ↓reduceIte, Nat.reduceEqDiff, Nat.reduceAdd, Nat.reduceMul, Nat.reduceLeDiff, Nat.reduceLT, reduceCtorEq, TFAlB, kk, FR])); (try simp only [resv, resA, Fn, ZK, look, loadv, loadn, loadnm, load1, load1m, hget, ↓reduceIte, Nat.reduceEqDiff, Nat.reduceAdd, Nat.reduceMul, Nat.reduceLeDiff, Nat.reduceLT, reduceCtorEq, TFAlB, kk, FR]); (try simp [resA, Fn, look, kk, FR]); done)
      | go_step
      | omega
      | (simp only [maxLen_eq]; omega)
end Go.Proofs.Ytljfldoekamccaa
namespace Go.Proofs.Ytljfldoekamccaa
open Go
set_option linter.unusedVariables false
set_option linter.unusedSimpArgs false
theorem TFAlC : ((((((type_of% tyc0) ∧ ((type_of% tyc2) ∧ (type_of% zmb2))) ∧ (((type_of% tyc3) ∧ (type_of% zmb3)) ∧ ((type_of% tyc4) ∧ (type_of% zmb4)))) ∧ ((((type_of% tyc9) ∧ (type_of% zmb9)) ∧ ((type_of% tyc22) ∧ (type_of% zmb22))) ∧ (((type_of% tyc24) ∧ (type_of% foff24_0)) ∧ ((type_of% fpart24_0) ∧ (type_of% foff24_1))))) ∧ ((((type_of% fpart24_1) ∧ ((type_of% foff24_2) ∧ (type_of% fpart24_2))) ∧ (((type_of% foff24_3) ∧ (type_of% fpart24_3)) ∧ ((type_of% foff24_4) ∧ (type_of% fpart24_4)))) ∧ ((((type_of% foff24_5) ∧ (type_of% fpart24_5)) ∧ ((type_of% foff24_6) ∧ (type_of% fpart24_6))) ∧ (((type_of% fe24) ∧ (type_of% zmb24)) ∧ ((type_of% bldT24) ∧ (type_of% tyc32)))))) ∧ (((((type_of% foff32_0) ∧ ((type_of% fpart32_0) ∧ (type_of% foff32_1))) ∧ (((type_of% fpart32_1) ∧ (type_of% foff32_2)) ∧ ((type_of% fpart32_2) ∧ (type_of% foff32_3)))) ∧ ((((type_of% fpart32_3) ∧ (type_of% fe32)) ∧ ((type_of% zmb32) ∧ (type_of% bldT32))) ∧ (((type_of% tyc33) ∧ (type_of% tyc57)) ∧ ((type_of% zmb57) ∧ (type_of% tyc61))))) ∧ ((((type_of% elt61) ∧ ((type_of% zmb61) ∧ (type_of% bldT61))) ∧ (((type_of% arr161) ∧ (type_of% Try.underlying0)) ∧ ((type_of% Try.underlying2) ∧ (type_of% Try.underlying3)))) ∧ ((((type_of% Try.underlying4) ∧ (type_of% Try.underlying9)) ∧ ((type_of% Try.underlying22) ∧ (type_of% Try.underlying24))) ∧ (((type_of% Try.underlying32) ∧ (type_of% Try.underlying33)) ∧ ((type_of% Try.underlying57) ∧ (type_of% Try.underlying61))))))) :=
  ⟨⟨⟨⟨⟨tyc0, ⟨tyc2, zmb2⟩⟩, ⟨⟨tyc3, zmb3⟩, ⟨tyc4, zmb4⟩⟩⟩, ⟨⟨⟨tyc9, zmb9⟩, ⟨tyc22, zmb22⟩⟩, ⟨⟨tyc24, foff24_0⟩, ⟨fpart24_0, foff24_1⟩⟩⟩⟩, ⟨⟨⟨fpart24_1, ⟨foff24_2, fpart24_2⟩⟩, ⟨⟨foff24_3, fpart24_3⟩, ⟨foff24_4, fpart24_4⟩⟩⟩, ⟨⟨⟨foff24_5, fpart24_5⟩, ⟨foff24_6, fpart24_6⟩⟩, ⟨⟨fe24, zmb24⟩, ⟨bldT24, tyc32⟩⟩⟩⟩⟩, ⟨⟨⟨⟨foff32_0, ⟨fpart32_0, foff32_1⟩⟩, ⟨⟨fpart32_1, foff32_2⟩, ⟨fpart32_2, foff32_3⟩⟩⟩, ⟨⟨⟨fpart32_3, fe32⟩, ⟨zmb32, bldT32⟩⟩, ⟨⟨tyc33, tyc57⟩, ⟨zmb57, tyc61⟩⟩⟩⟩, ⟨⟨⟨elt61, ⟨zmb61, bldT61⟩⟩, ⟨⟨arr161, Try.underlying0⟩, ⟨Try.underlying2, Try.underlying3⟩⟩⟩, ⟨⟨⟨Try.underlying4, Try.underlying9⟩, ⟨Try.underlying22, Try.underlying24⟩⟩, ⟨⟨Try.underlying32, Try.underlying33⟩, ⟨Try.underlying57, Try.underlying61⟩⟩⟩⟩⟩⟩
theorem rightP_iff (p s c e : Int) : rightP p s c e = true ↔ 0 ≤ p ∧ p ≤ 3 ∧ 0 ≤ s ∧ s ≤ 253402300799 ∧ 0 ≤ c ∧ c ≤ 253402300799 ∧ (p = 0 → s = 0) ∧ (p < 3 → c = 0) ∧ (p < 2 → e = 0) ∧ (p ≥ 2 → 1 ≤ e ∧ e ≤ 4611686018427387904) ∧ (p = 3 → s ≤ c) := by
  unfold rightP tickP numP
  split
  · simp; omega
  · split
    · simp; omega
    · split
      · simp; omega
      · split
        · simp; omega
        · simp; omega
theorem rightP_no {p s c e : Int} (h : ¬ (0 ≤ p ∧ p ≤ 3 ∧ 0 ≤ s ∧ s ≤ 253402300799 ∧ 0 ≤ c ∧ c ≤ 253402300799 ∧ (p = 0 → s = 0) ∧ (p < 3 → c = 0) ∧ (p < 2 → e = 0) ∧ (p ≥ 2 → 1 ≤ e ∧ e ≤ 4611686018427387904) ∧ (p = 3 → s ≤ c))) : rightP p s c e = false := by
  rw [← rightP_iff] at h
  simpa using h
theorem tickR' (n : Int) : ACt Try.prog 26 [iv .i64 n] [] (Fn (bv (decide (n ≥ 0) && decide (n ≤ 253402300799)))) := tickR_ct n
theorem refRight_ct (p s c e : Int) : ACt Try.prog 12 [alA p s c e] [] (Fn (bv (rightP p s c e))) := by
  refine ACt.intro Try.func12 rfl (by kernel_rfl) (by simp [Try.ntmps12]) (fun cx => ?_)
  simp only [argE, Try.ntmps12, Try.results12]
  first | (have FRx := FR; clear FRx) | (have FR : ¬ ((1 : Nat) = 0) := Nat.one_ne_zero)
  repeat' first
    | (refine Sm.mk ?_; try simp -dsimp only [ZK, rvc, drawF, headN, pureH, stp, dvc, calleeOf, gcall, pev, eff, newB, okd, og, ogs, ogo, ogp, slv, bltv, opd, litv, strip, one, both, putE, St.put, look, gdOf, gdv, picka, pickv, pickw, binv, bini, bins, binb, binp, bina, shp, eqCells, unv, convv, nilv, faddv, addp, idxav, idxp, load1, load1m, loadn, loadnm, loadv, hget, hset, hrep, hdel, slicev, bnd, shift1, lenv, IntKind.bits, extractv, fieldv, indexv, min2v, max2v, mkiv, cellsA, fillA, buildv, stC, oneC, rowMB, intsA, plN, appE, appZ, appC, appNZ, appNC, VwL, srcC, srcZ, srcM, isBoolT, isPtrT, isSliceT, uOk, Value.oneCell', Nat.reducePow, Int.reducePow, Nat.reduceAdd, Nat.reduceMul, Nat.reduceSub, Nat.reduceLT, Nat.reduceLeDiff, Nat.reduceEqDiff, Nat.reduceBEq, Nat.reduceDiv, Nat.reduceMod, ↓reduceIte, reduceCtorEq, Int.reduceToNat, Int.reduceLT, Int.reduceLE, TFAlC, SeqQ, BlkQ, LoopQ, BodyQ, FR])
    | (first | refine CallV.fn (tickR' _) (Sm.out ?_) | refine ExF.mk (tickR' _) (Sm.out ?_) | refine ExG.mk (fun _ => tickR' _) (Sm.out ?_) | refine ExG.mkJ (fun _ => tickR' _) (Sm.out ?_) | refine ExG.mkI (Ob.out ?_) (fun _ => tickR' _) (Sm.out ?_))
    | (refine WP.seq fun K hK => ?_)
    | (refine WP.region (rvc_sound _ _ (Sm.out ?_)))
    | (refine WP.drawK rfl mixed (by decide +kernel) (Sm.out ?_))
    | (refine Ob.mk ?_; focus (first | assumption | omega | decide | trivial | (intro hob; simp only [hob, ZF]; done) | (intros; (repeat' refine And.intro ?_ ?_) <;> first | assumption | omega | trivial | decide) | (intros; simp only [ZE] at *; (repeat' refine And.intro ?_ ?_) <;> first | assumption | omega | trivial)))
    | (refine And.intro (Ob.out ?_) ?_)
    | (refine WP.block ?_)
    | (refine WP.cond rfl (fun hc => ?_) (fun hc => ?_) <;> (try simp only [ZC, reduceCtorEq, ZD] at hc) <;> (try (exact absurd hc (by decide))) <;> (try (exfalso; omega)))
    | ((first | refine WP.skip ?_ | refine WP.exit ?_); simp only [SeqQ, BlkQ, LoopQ, BodyQ, ↓reduceIte, Nat.reduceEqDiff, reduceCtorEq, look, true_and])
    | (refine WP.ret (Sm.out ?_))
    | (first | refine ExG.no (Sm.out ?_) | refine Or.inl (ExG.no (Sm.out ?_)) | refine Or.inl (And.intro (fun hg => absurd hg (by decide)) (ExG.no (Sm.out ?_))))
    | (refine Rt.mk ?_; refine And.intro ?_ ?_ <;> (intro hg; first | exact absurd hg (by decide) | refine Sm.out ?_))
    | (refine Nu.mk ?_; first | (fail_if_success (have := nb1)); intro nb1 | (fail_if_success (have := nb2)); intro nb2 | (fail_if_success (have := nb3)); intro nb3 | intro nbz)
    | (refine Fr.mk ?_; intro hfr; replace FR := And.intro hfr FR; clear hfr; refine Sm.out ?_)
    | (refine Two.mk ?_ ?_)
    | (refine Cs.mk ?_; intro hcs; first | exact False.elim hcs | (exfalso; omega) | (refine Sm.out ?_))
    | go_step
    | omega
    | (simp only [maxLen_eq]; omega)
  · rw [rightP_no (by omega)]
    (refine OutQ.all ?_ ?_; (focus (simp only [resv, ZK, look, loadv, loadn, loadnm, load1, load1m, hget, ↓reduceIte, Nat.reduceEqDiff, Nat.reduceAdd, Nat.reduceMul, Nat.reduceLeDiff, Nat.reduceLT, reduceCtorEq, TFAlC])); (try simp only [resv, resA, Fn, ZK, look, loadv, loadn, loadnm, load1, load1m, hget, ↓reduceIte, Nat.reduceEqDiff, Nat.reduceAdd, Nat.reduceMul, Nat.reduceLeDiff, Nat.reduceLT, reduceCtorEq, TFAlC]); (try simp [resA, Fn, look]))
  · rw [rightP_no (by omega)]
    (refine OutQ.all ?_ ?_; (focus (simp only [resv, ZK, look, loadv, loadn, loadnm, load1, load1m, hget, ↓reduceIte, Nat.reduceEqDiff, Nat.reduceAdd, Nat.reduceMul, Nat.reduceLeDiff, Nat.reduceLT, reduceCtorEq, TFAlC])); (try simp only [resv, resA, Fn, ZK, look, loadv, loadn, loadnm, load1, load1m, hget, ↓reduceIte, Nat.reduceEqDiff, Nat.reduceAdd, Nat.reduceMul, Nat.reduceLeDiff, Nat.reduceLT, reduceCtorEq, TFAlC]); (try simp [resA, Fn, look]))
  · rw [rightP_no (by omega)]
    (refine OutQ.all ?_ ?_; (focus (simp only [resv, ZK, look, loadv, loadn, loadnm, load1, load1m, hget, ↓reduceIte, Nat.reduceEqDiff, Nat.reduceAdd, Nat.reduceMul, Nat.reduceLeDiff, Nat.reduceLT, reduceCtorEq, TFAlC])); (try simp only [resv, resA, Fn, ZK, look, loadv, loadn, loadnm, load1, load1m, hget, ↓reduceIte, Nat.reduceEqDiff, Nat.reduceAdd, Nat.reduceMul, Nat.reduceLeDiff, Nat.reduceLT, reduceCtorEq, TFAlC]); (try simp [resA, Fn, look]))
  · by_cases h3 : p = 3
    · subst h3
      by_cases h4 : s ≤ c
      · rw [(rightP_iff _ _ _ _).2 (by omega)]
        (refine OutQ.all ?_ ?_; (focus (simp only [resv, ZK, look, loadv, loadn, loadnm, load1, load1m, hget, ↓reduceIte, Nat.reduceEqDiff, Nat.reduceAdd, Nat.reduceMul, Nat.reduceLeDiff, Nat.reduceLT, reduceCtorEq, TFAlC, h4])); (try simp only [resv, resA, Fn, ZK, look, loadv, loadn, loadnm, load1, load1m, hget, ↓reduceIte, Nat.reduceEqDiff, Nat.reduceAdd, Nat.reduceMul, Nat.reduceLeDiff, Nat.reduceLT, reduceCtorEq, TFAlC, h4]); (try simp [resA, Fn, look, h4]))
      · rw [rightP_no (by omega)]
        have h5 : decide (c ≥ s) = false := by simp; omega
        (refine OutQ.all ?_ ?_; (focus (simp only [resv, ZK, look, loadv, loadn, loadnm, load1, load1m, hget, ↓reduceIte, Nat.reduceEqDiff, Nat.reduceAdd, Nat.reduceMul, Nat.reduceLeDiff, Nat.reduceLT, reduceCtorEq, TFAlC, h5])); (try simp only [resv, resA, Fn, ZK, look, loadv, loadn, loadnm, load1, load1m, hget, ↓reduceIte, Nat.reduceEqDiff, Nat.reduceAdd, Nat.reduceMul, Nat.reduceLeDiff, Nat.reduceLT, reduceCtorEq, TFAlC, h5]); (try simp [resA, Fn, look, h5]))
    · rw [(rightP_iff _ _ _ _).2 (by omega)]
      have h5 : (p != 3) = true := by simpa using h3
      (refine OutQ.all ?_ ?_; (focus (simp only [resv, ZK, look, loadv, loadn, loadnm, load1, load1m, hget, ↓reduceIte, Nat.reduceEqDiff, Nat.reduceAdd, Nat.reduceMul, Nat.reduceLeDiff, Nat.reduceLT, reduceCtorEq, TFAlC, h5])); (try simp only [resv, resA, Fn, ZK, look, loadv, loadn, loadnm, load1, load1m, hget, ↓reduceIte, Nat.reduceEqDiff, Nat.reduceAdd, Nat.reduceMul, Nat.reduceLeDiff, Nat.reduceLT, reduceCtorEq, TFAlC, h5]); (try simp [resA, Fn, look, h5]))
theorem awake_ct : ACt Try.prog 7 [] [] (Fn (bv true)) := by
  refine ACt.intro Try.func7 rfl (by kernel_rfl) (by simp [Try.ntmps7]) (fun cx => ?_)
  simp only [argE, Try.ntmps7, Try.results7]
  have n1 : nextP 60 0 0 0 0 0 0 true 1 = ((1, 0, 0, 0), 0) := by decide +kernel
  have n2 : nextP 60 0 1 0 0 0 30 true 1 = ((1, 0, 0, 0), 0) := by decide +kernel
  have n3 : nextP 60 0 1 0 0 0 60 true 1 = ((2, 60, 0, 1), 1) := by decide +kernel
  first | (have FRx := FR; clear FRx) | (have FR : ¬ ((1 : Nat) = 0) := Nat.one_ne_zero)
  repeat' first
    | (refine Sm.mk ?_; try simp -dsimp only [ZK, rvc, drawF, headN, pureH, stp, dvc, calleeOf, gcall, pev, eff, newB, okd, og, ogs, ogo, ogp, slv, bltv, opd, litv, strip, one, both, putE, St.put, look, gdOf, gdv, picka, pickv, pickw, binv, bini, bins, binb, binp, bina, shp, eqCells, unv, convv, nilv, faddv, addp, idxav, idxp, load1, load1m, loadn, loadnm, loadv, hget, hset, hrep, hdel, slicev, bnd, shift1, lenv, IntKind.bits, extractv, fieldv, indexv, min2v, max2v, mkiv, cellsA, fillA, buildv, stC, oneC, rowMB, intsA, plN, appE, appZ, appC, appNZ, appNC, VwL, srcC, srcZ, srcM, isBoolT, isPtrT, isSliceT, uOk, Value.oneCell', Nat.reducePow, Int.reducePow, Nat.reduceAdd, Nat.reduceMul, Nat.reduceSub, Nat.reduceLT, Nat.reduceLeDiff, Nat.reduceEqDiff, Nat.reduceBEq, Nat.reduceDiv, Nat.reduceMod, ↓reduceIte, reduceCtorEq, Int.reduceToNat, Int.reduceLT, Int.reduceLE, TFAlC, SeqQ, BlkQ, LoopQ, BodyQ, n1, n2, n3, FR])
    | (first | refine CallV.fn (next_ct _ _ _ _ _ _ _ _ _ _ _ _ _ _) (Sm.out ?_) | refine ExF.mk (next_ct _ _ _ _ _ _ _ _ _ _ _ _ _ _) (Sm.out ?_) | refine ExG.mk (fun _ => next_ct _ _ _ _ _ _ _ _ _ _ _ _ _ _) (Sm.out ?_) | refine ExG.mkJ (fun _ => next_ct _ _ _ _ _ _ _ _ _ _ _ _ _ _) (Sm.out ?_) | refine ExG.mkI (Ob.out ?_) (fun _ => next_ct _ _ _ _ _ _ _ _ _ _ _ _ _ _) (Sm.out ?_))
    | (refine WP.seq fun K hK => ?_)
    | (refine WP.region (rvc_sound _ _ (Sm.out ?_)))
    | (refine WP.drawK rfl mixed (by decide +kernel) (Sm.out ?_))
    | (refine Ob.mk ?_; focus (first | assumption | omega | decide | trivial | (intro hob; simp only [hob, ZF]; done) | (intros; (repeat' refine And.intro ?_ ?_) <;> first | assumption | omega | trivial | decide) | (intros; simp only [ZE] at *; (repeat' refine And.intro ?_ ?_) <;> first | assumption | omega | trivial)))
    | (refine And.intro (Ob.out ?_) ?_)
    | (refine WP.block ?_)
    | (refine WP.cond rfl (fun hc => ?_) (fun hc => ?_) <;> (try simp only [ZC, reduceCtorEq, ZD] at hc) <;> (try (exact absurd hc (by decide))) <;> (try (exfalso; omega)))
    | ((first | refine WP.skip ?_ | refine WP.exit ?_); simp only [SeqQ, BlkQ, LoopQ, BodyQ, ↓reduceIte, Nat.reduceEqDiff, reduceCtorEq, look, true_and])
    | (refine WP.ret (Sm.out ?_))
    | (first | refine ExG.no (Sm.out ?_) | refine Or.inl (ExG.no (Sm.out ?_)) | refine Or.inl (And.intro (fun hg => absurd hg (by decide)) (ExG.no (Sm.out ?_))))
    | (refine Rt.mk ?_; refine And.intro ?_ ?_ <;> (intro hg; first | exact absurd hg (by decide) | refine Sm.out ?_))
    | (refine Nu.mk ?_; first | (fail_if_success (have := nb1)); intro nb1 | (fail_if_success (have := nb2)); intro nb2 | (fail_if_success (have := nb3)); intro nb3 | intro nbz)
    | (refine Fr.mk ?_; intro hfr; replace FR := And.intro hfr FR; clear hfr; refine Sm.out ?_)
    | (refine Two.mk ?_ ?_)
    | (refine Cs.mk ?_; intro hcs; first | exact False.elim hcs | (exfalso; omega) | (refine Sm.out ?_))
    | (refine OutQ.all ?_ ?_; (focus (simp only [resv, ZK, look, loadv, loadn, loadnm, load1, load1m, hget, ↓reduceIte, Nat.reduceEqDiff, Nat.reduceAdd, Nat.reduceMul, Nat.reduceLeDiff, Nat.reduceLT, reduceCtorEq, TFAlC, n1, n2, n3, FR])); (try simp only [resv, resA, Fn, ZK, look, loadv, loadn, loadnm, load1, load1m, hget, ↓reduceIte, Nat.reduceEqDiff, Nat.reduceAdd, Nat.reduceMul, Nat.reduceLeDiff, Nat.reduceLT, reduceCtorEq, TFAlC, n1, n2, n3, FR]); (try simp [resA, Fn, look, n1, n2, n3, FR]); done)
    | go_step
    | omega
    | (simp only [maxLen_eq]; omega)
end Go.Proofs.Ytljfldoekamccaa
namespace Go.Proofs.Ytljfldoekamccaa
open Go
set_option linter.unusedVariables false
set_option linter.unusedSimpArgs false
abbrev alTy : Ty := .st [.int .i64, .int .i64, .int .i64, .int .u64]
theorem al_shp {xs : List AV} (h : Shp alTy xs) : ∃ p s c e, AV.agg xs = alA p s c e := by
  simp only [Shp, ShpL] at h
  obtain ⟨_, _, rfl, ⟨p, rfl, _⟩, _, _, rfl, ⟨s, rfl, _⟩, _, _, rfl, ⟨c, rfl, _⟩, _, _, rfl, ⟨e, rfl, _⟩, rfl⟩ := h
  exact ⟨p, s, c, e, rfl⟩
end Go.Proofs.Ytljfldoekamccaa
namespace Go.Proofs.Ytljfldoekamccaa.Wi
open Go
def lenN (q : Nat) : Nat := if q = 0 then 0 else Nat.log2 q + 1
theorem lenN_le {q d : Nat} : lenN q ≤ d ↔ q < 2 ^ d := by
  unfold lenN
  by_cases h : q = 0
  · subst h; simp [Nat.two_pow_pos]
  · rw [if_neg h, ← Nat.log2_lt h]; omega
theorem wrap_u64_nat {n : Nat} (h : n < 18446744073709551616) : IntKind.u64.wrap (n : Int) = (n : Int) := wrap_u64 (by omega) (by omega)
theorem wrap_i64_nat {n : Nat} (h : n < 9223372036854775808) : IntKind.i64.wrap (n : Int) = (n : Int) := wrap_i64 (by omega) (by omega)
theorem ofInt_nat (n : Nat) : BitVec.ofInt 64 (n : Int) = BitVec.ofNat 64 n := by
  apply BitVec.eq_of_toNat_eq; simp
end Go.Proofs.Ytljfldoekamccaa.Wi
