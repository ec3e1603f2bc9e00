/-
  The walks and the laws that the statement leans on, part 10.
-/
import Derived.Test.YtbnkmhlnoaebcaaZ9
namespace Go.Proofs.Ytbnkmhlnoaebcaa.Wi
open Go
set_option linter.unusedVariables false
set_option linter.unusedSimpArgs false
theorem TFWiW : ((((((type_of% tyc0) ∧ (type_of% tyc3)) ∧ ((type_of% zmb3) ∧ ((type_of% tyc4) ∧ (type_of% zmb4)))) ∧ (((type_of% tyc5) ∧ (type_of% zmb5)) ∧ ((type_of% tyc23) ∧ ((type_of% zmb23) ∧ (type_of% tyc41))))) ∧ ((((type_of% zmb41) ∧ (type_of% tyc50)) ∧ ((type_of% elt50) ∧ ((type_of% mkz50) ∧ (type_of% apT50)))) ∧ (((type_of% elk50) ∧ (type_of% zmb50)) ∧ ((type_of% tyc54) ∧ ((type_of% mth54_53) ∧ (type_of% mth54_50)))))) ∧ (((((type_of% mth54_54) ∧ (type_of% con54)) ∧ ((type_of% zmb54) ∧ ((type_of% tyc78) ∧ (type_of% foff78_0)))) ∧ (((type_of% fpart78_0) ∧ (type_of% foff78_1)) ∧ ((type_of% fpart78_1) ∧ ((type_of% zmb78) ∧ (type_of% bldT78))))) ∧ ((((type_of% tyc87) ∧ (type_of% Try.underlying0)) ∧ ((type_of% Try.underlying3) ∧ ((type_of% Try.underlying4) ∧ (type_of% Try.underlying5)))) ∧ (((type_of% Try.underlying23) ∧ ((type_of% Try.underlying41) ∧ (type_of% Try.underlying50))) ∧ ((type_of% Try.underlying54) ∧ ((type_of% Try.underlying78) ∧ (type_of% Try.underlying87))))))) :=
  ⟨⟨⟨⟨⟨tyc0, tyc3⟩, ⟨zmb3, ⟨tyc4, zmb4⟩⟩⟩, ⟨⟨tyc5, zmb5⟩, ⟨tyc23, ⟨zmb23, tyc41⟩⟩⟩⟩, ⟨⟨⟨zmb41, tyc50⟩, ⟨elt50, ⟨mkz50, apT50⟩⟩⟩, ⟨⟨elk50, zmb50⟩, ⟨tyc54, ⟨mth54_53, mth54_50⟩⟩⟩⟩⟩, ⟨⟨⟨⟨mth54_54, con54⟩, ⟨zmb54, ⟨tyc78, foff78_0⟩⟩⟩, ⟨⟨fpart78_0, foff78_1⟩, ⟨fpart78_1, ⟨zmb78, bldT78⟩⟩⟩⟩, ⟨⟨⟨tyc87, Try.underlying0⟩, ⟨Try.underlying3, ⟨Try.underlying4, Try.underlying5⟩⟩⟩, ⟨⟨Try.underlying23, ⟨Try.underlying41, Try.underlying50⟩⟩, ⟨Try.underlying54, ⟨Try.underlying78, Try.underlying87⟩⟩⟩⟩⟩⟩
/-- what is left, or it is spoiled -/
def rO {α : Type} : Option (α × List Int) → MB
  | some p => rd p.2 false
  | none => rdN
def oE {α : Type} (d : AV) (f : α → AV) : Option (α × List Int) → AV
  | some p => f p.1
  | none => d
def nF (zs : List Int) : Option (Nat × List Int) := (gF 0 zs).map fun p => p.2
def iF (zs : List Int) : Option (Int × List Int) :=
  match gF 16 zs with
  | none => none
  | some (s, n, r) => if (s ≠ 0 ∧ (n = 0 ∨ 9223372036854775808 < n)) ∨ (s = 0 ∧ 9223372036854775807 < n) then none else some (if s ≠ 0 then -(n : Int) else (n : Int), r)
def cF (m : Int) (zs : List Int) : Option (Nat × List Int) :=
  match nF zs with
  | none => none
  | some (n, r) => if m < 0 ∨ m < (n : Int) then none else some (n, r)
def tF (m : Int) (zs : List Int) : Option (List Int × List Int) :=
  match cF m zs with
  | none => none
  | some (n, r) => if r.length < n then none else some (r.take n, r.drop n)
def fF : List Int → Option (Bool × List Int)
  | [] => none
  | h :: t => if 1 < h then none else some (h == 1, t)
theorem gF_bd {sgn : Int} {zs r : List Int} {s : Int} {n : Nat} (hb : By zs) (h : gF sgn zs = some (s, n, r)) : n < 18446744073709551616 ∧ By r ∧ r.length < zs.length ∧ (sgn = 16 ∨ sgn = 0 → s = 0 ∨ s = 16) ∧ r = zs.drop (zs.length - r.length) := by
  cases zs with
  | nil => cases h
  | cons c t =>
    simp only [gF] at h
    split at h
    · cases h
    · rename_i hn
      simp only [Option.some.injEq, Prod.mk.injEq] at h
      obtain ⟨rfl, rfl, rfl⟩ := h
      have hv := valL_lt (hb.tail.take (ibit .andNot .u8 c sgn).toNat)
      obtain ⟨K, hK⟩ : ∃ K, K = (ibit .andNot .u8 c sgn).toNat := ⟨_, rfl⟩
      rw [← hK] at hn hv ⊢
      have hb8 : (256 : Nat) ^ (t.take K).length ≤ 256 ^ 8 := Nat.pow_le_pow_right (by omega) (by simp; omega)
      refine ⟨by omega, hb.tail.drop _, by simp; omega, ?_, ?_⟩
      · have hh := hb c (List.mem_cons_self ..)
        obtain ⟨m, rfl⟩ := Int.eq_ofNat_of_zero_le hh.1
        obtain ⟨k, s, hk, a1, a2, _, a5, a3, a4⟩ := and256 m (by omega)
        rintro (rfl | rfl)
        · rw [a2, a5]; split <;> simp
        · exact .inl a4
      · simp only [List.length_cons, List.length_drop]
        rw [show t.length + 1 - (t.length - K) = K + 1 by omega, List.drop_succ_cons]
theorem numN (b : Nat) : ACt Try.prog 42 [pt b 0] [(b, rdN)] (fun r F' => r = nu 0 ∧ F' = [(b, rdN)]) := by
  refine ACt.intro Try.func42 rfl (by kernel_rfl) (by simp [Try.ntmps42]) (fun cx => ?_)
  simp only [argE, Try.ntmps42, Try.results42]
  first | (have FRx := FR; clear FRx) | (have FR : ¬ ((1 : Nat) = 0) := Nat.one_ne_zero)
  repeat' first
    | (refine Sm.mk ?_; try simp -dsimp only [ZK, rvc, drawF, headN, pureH, stp, dvc, calleeOf, gcall, pev, eff, newB, okd, og, ogs, ogo, ogp, slv, bltv, opd, litv, strip, one, both, putE, St.put, look, gdOf, gdv, picka, pickv, pickw, binv, bini, bins, binb, binp, bina, shp, eqCells, unv, convv, nilv, faddv, addp, idxav, idxp, load1, load1m, loadn, loadnm, loadv, hget, hset, hrep, hdel, slicev, bnd, shift1, lenv, IntKind.bits, extractv, fieldv, indexv, min2v, max2v, mkiv, cellsA, fillA, buildv, stC, oneC, rowMB, intsA, plN, appE, appZ, appC, appNZ, appNC, VwL, srcC, srcZ, srcM, isBoolT, isPtrT, isSliceT, uOk, Value.oneCell', Nat.reducePow, Int.reducePow, Nat.reduceAdd, Nat.reduceMul, Nat.reduceSub, Nat.reduceLT, Nat.reduceLeDiff, Nat.reduceEqDiff, Nat.reduceBEq, Nat.reduceDiv, Nat.reduceMod, ↓reduceIte, reduceCtorEq, Int.reduceToNat, Int.reduceLT, Int.reduceLE, TFWiW, SeqQ, BlkQ, LoopQ, BodyQ, FR])
    | (refine CallV.upd (by simp only [hget, ↓reduceIte, FR]; first | done | rfl) (getN b 0) (Sm.out ?_))
    | (refine WP.seq fun K hK => ?_)
    | (refine WP.region (rvc_sound _ _ (Sm.out ?_)))
    | (refine WP.drawK rfl mixed (by decide +kernel) (Sm.out ?_))
    | (refine Ob.mk ?_; focus (first | assumption | omega | decide | trivial | (intro hob; simp only [hob, ZF]; done) | (intros; (repeat' refine And.intro ?_ ?_) <;> first | assumption | omega | trivial | decide) | (intros; simp only [ZE] at *; (repeat' refine And.intro ?_ ?_) <;> first | assumption | omega | trivial)))
    | (refine And.intro (Ob.out ?_) ?_)
    | (refine WP.block ?_)
    | (refine WP.cond rfl (fun hc => ?_) (fun hc => ?_) <;> (try simp only [ZC, reduceCtorEq, ZD] at hc) <;> (try (exact absurd hc (by decide))) <;> (try (exfalso; omega)))
    | ((first | refine WP.skip ?_ | refine WP.exit ?_); simp only [SeqQ, BlkQ, LoopQ, BodyQ, ↓reduceIte, Nat.reduceEqDiff, reduceCtorEq, look, true_and])
    | (refine WP.ret (Sm.out ?_))
    | (first | refine ExG.no (Sm.out ?_) | refine Or.inl (ExG.no (Sm.out ?_)) | refine Or.inl (And.intro (fun hg => absurd hg (by decide)) (ExG.no (Sm.out ?_))))
    | (refine Rt.mk ?_; refine And.intro ?_ ?_ <;> (intro hg; first | exact absurd hg (by decide) | refine Sm.out ?_))
    | (refine Nu.mk ?_; first | (fail_if_success (have := nb1)); intro nb1 | (fail_if_success (have := nb2)); intro nb2 | intro nbz)
    | (refine Fr.mk ?_; intro hfr; replace FR := And.intro hfr FR; clear hfr; refine Sm.out ?_)
    | (refine Two.mk ?_ ?_)
    | (refine Cs.mk ?_; intro hcs; first | exact False.elim hcs | (exfalso; omega) | (refine Sm.out ?_))
    | go_step
    | omega
    | (simp only [maxLen_eq]; omega)
    | (refine Or.inr (Rt.mk ?_); refine And.intro ?_ ?_ <;> (intro hg; first | exact absurd hg (by decide) | refine Sm.out ?_))
  (refine OutQ.upd (by simp only [resv, ZK, look, loadv, loadn, loadnm, load1, load1m, hget, ↓reduceIte, Nat.reduceEqDiff, Nat.reduceAdd, Nat.reduceMul, Nat.reduceLeDiff, Nat.reduceLT, reduceCtorEq, TFWiW, FR]) (by simp only [resv, resA, ZK, look, loadv, loadn, loadnm, load1, load1m, hget, ↓reduceIte, Nat.reduceEqDiff, Nat.reduceAdd, Nat.reduceMul, Nat.reduceLeDiff, Nat.reduceLT, reduceCtorEq, TFWiW, FR]; first | done | rfl) (by simp only [hget, ↓reduceIte, if_true, if_false, FR]; first | done | rfl) ?_ <;> first | exact rfl | (simp only [ZK, look, loadv, loadn, loadnm, load1, load1m, hget, ↓reduceIte, Nat.reduceEqDiff, Nat.reduceAdd, Nat.reduceMul, Nat.reduceLeDiff, Nat.reduceLT, reduceCtorEq, TFWiW, FR]; done) | skip)
  all_goals rfl
theorem numX (b : Nat) (zs : List Int) (hb : By zs) (hz : zs.length ≤ 10000) : ACt Try.prog 42 [pt b 0] [(b, rd zs false)] (fun r F' => r = oE (nu 0) nu (nF zs) ∧ F' = [(b, rO (nF zs))]) := by
  have c1 := getX b 0 zs (.inl rfl) hb hz
  unfold nF
  cases hg : gF 0 zs with
  | none =>
    rw [hg] at c1
    have c2 : ACt Try.prog 50 [pt b 0, iv .u8 0] [(b, rd zs false)] (fun r F' => r = .tup [iv .u8 0, nu 0] ∧ F' = [(b, rdN)]) := c1
    show ACt Try.prog 42 [pt b 0] [(b, rd zs false)] (fun r F' => r = nu 0 ∧ F' = [(b, rdN)])
    refine ACt.intro Try.func42 rfl (by kernel_rfl) (by simp [Try.ntmps42]) (fun cx => ?_)
    simp only [argE, Try.ntmps42, Try.results42]
    first | (have FRx := FR; clear FRx) | (have FR : ¬ ((1 : Nat) = 0) := Nat.one_ne_zero)
    repeat' first
      | (refine Sm.mk ?_; try simp -dsimp only [ZK, rvc, drawF, headN, pureH, stp, dvc, calleeOf, gcall, pev, eff, newB, okd, og, ogs, ogo, ogp, slv, bltv, opd, litv, strip, one, both, putE, St.put, look, gdOf, gdv, picka, pickv, pickw, binv, bini, bins, binb, binp, bina, shp, eqCells, unv, convv, nilv, faddv, addp, idxav, idxp, load1, load1m, loadn, loadnm, loadv, hget, hset, hrep, hdel, slicev, bnd, shift1, lenv, IntKind.bits, extractv, fieldv, indexv, min2v, max2v, mkiv, cellsA, fillA, buildv, stC, oneC, rowMB, intsA, plN, appE, appZ, appC, appNZ, appNC, VwL, srcC, srcZ, srcM, isBoolT, isPtrT, isSliceT, uOk, Value.oneCell', Nat.reducePow, Int.reducePow, Nat.reduceAdd, Nat.reduceMul, Nat.reduceSub, Nat.reduceLT, Nat.reduceLeDiff, Nat.reduceEqDiff, Nat.reduceBEq, Nat.reduceDiv, Nat.reduceMod, ↓reduceIte, reduceCtorEq, Int.reduceToNat, Int.reduceLT, Int.reduceLE, TFWiW, SeqQ, BlkQ, LoopQ, BodyQ, FR])
      | (refine CallV.upd (by simp only [hget, ↓reduceIte, FR]; first | done | rfl) (c2) (Sm.out ?_))
      | (refine WP.seq fun K hK => ?_)
      | (refine WP.region (rvc_sound _ _ (Sm.out ?_)))
      | (refine WP.drawK rfl mixed (by decide +kernel) (Sm.out ?_))
      | (refine Ob.mk ?_; focus (first | assumption | omega | decide | trivial | (intro hob; simp only [hob, ZF]; done) | (intros; (repeat' refine And.intro ?_ ?_) <;> first | assumption | omega | trivial | decide) | (intros; simp only [ZE] at *; (repeat' refine And.intro ?_ ?_) <;> first | assumption | omega | trivial)))
      | (refine And.intro (Ob.out ?_) ?_)
      | (refine WP.block ?_)
      | (refine WP.cond rfl (fun hc => ?_) (fun hc => ?_) <;> (try simp only [ZC, reduceCtorEq, ZD] at hc) <;> (try (exact absurd hc (by decide))) <;> (try (exfalso; omega)))
      | ((first | refine WP.skip ?_ | refine WP.exit ?_); simp only [SeqQ, BlkQ, LoopQ, BodyQ, ↓reduceIte, Nat.reduceEqDiff, reduceCtorEq, look, true_and])
      | (refine WP.ret (Sm.out ?_))
      | (first | refine ExG.no (Sm.out ?_) | refine Or.inl (ExG.no (Sm.out ?_)) | refine Or.inl (And.intro (fun hg => absurd hg (by decide)) (ExG.no (Sm.out ?_))))
      | (refine Rt.mk ?_; refine And.intro ?_ ?_ <;> (intro hg; first | exact absurd hg (by decide) | refine Sm.out ?_))
      | (refine Nu.mk ?_; first | (fail_if_success (have := nb1)); intro nb1 | (fail_if_success (have := nb2)); intro nb2 | intro nbz)
      | (refine Fr.mk ?_; intro hfr; replace FR := And.intro hfr FR; clear hfr; refine Sm.out ?_)
      | (refine Two.mk ?_ ?_)
      | (refine Cs.mk ?_; intro hcs; first | exact False.elim hcs | (exfalso; omega) | (refine Sm.out ?_))
      | go_step
      | omega
      | (simp only [maxLen_eq]; omega)
      | (refine Or.inr (Rt.mk ?_); refine And.intro ?_ ?_ <;> (intro hg; first | exact absurd hg (by decide) | refine Sm.out ?_))
    (refine OutQ.upd (by simp only [resv, ZK, look, loadv, loadn, loadnm, load1, load1m, hget, ↓reduceIte, Nat.reduceEqDiff, Nat.reduceAdd, Nat.reduceMul, Nat.reduceLeDiff, Nat.reduceLT, reduceCtorEq, TFWiW, FR]) (by simp only [resv, resA, ZK, look, loadv, loadn, loadnm, load1, load1m, hget, ↓reduceIte, Nat.reduceEqDiff, Nat.reduceAdd, Nat.reduceMul, Nat.reduceLeDiff, Nat.reduceLT, reduceCtorEq, TFWiW, FR]; first | done | rfl) (by simp only [hget, ↓reduceIte, if_true, if_false, FR]; first | done | rfl) ?_ <;> first | exact rfl | (simp only [ZK, look, loadv, loadn, loadnm, load1, load1m, hget, ↓reduceIte, Nat.reduceEqDiff, Nat.reduceAdd, Nat.reduceMul, Nat.reduceLeDiff, Nat.reduceLT, reduceCtorEq, TFWiW, FR]; done) | skip)
  | some p =>
    obtain ⟨s, n, q⟩ := p
    rw [hg] at c1
    have c2 : ACt Try.prog 50 [pt b 0, iv .u8 0] [(b, rd zs false)] (fun r F' => r = .tup [iv .u8 s, nu n] ∧ F' = [(b, rd q false)]) := c1
    show ACt Try.prog 42 [pt b 0] [(b, rd zs false)] (fun r F' => r = nu n ∧ F' = [(b, rd q false)])
    refine ACt.intro Try.func42 rfl (by kernel_rfl) (by simp [Try.ntmps42]) (fun cx => ?_)
    simp only [argE, Try.ntmps42, Try.results42]
    first | (have FRx := FR; clear FRx) | (have FR : ¬ ((1 : Nat) = 0) := Nat.one_ne_zero)
    repeat' first
      | (refine Sm.mk ?_; try simp -dsimp only [ZK, rvc, drawF, headN, pureH, stp, dvc, calleeOf, gcall, pev, eff, newB, okd, og, ogs, ogo, ogp, slv, bltv, opd, litv, strip, one, both, putE, St.put, look, gdOf, gdv, picka, pickv, pickw, binv, bini, bins, binb, binp, bina, shp, eqCells, unv, convv, nilv, faddv, addp, idxav, idxp, load1, load1m, loadn, loadnm, loadv, hget, hset, hrep, hdel, slicev, bnd, shift1, lenv, IntKind.bits, extractv, fieldv, indexv, min2v, max2v, mkiv, cellsA, fillA, buildv, stC, oneC, rowMB, intsA, plN, appE, appZ, appC, appNZ, appNC, VwL, srcC, srcZ, srcM, isBoolT, isPtrT, isSliceT, uOk, Value.oneCell', Nat.reducePow, Int.reducePow, Nat.reduceAdd, Nat.reduceMul, Nat.reduceSub, Nat.reduceLT, Nat.reduceLeDiff, Nat.reduceEqDiff, Nat.reduceBEq, Nat.reduceDiv, Nat.reduceMod, ↓reduceIte, reduceCtorEq, Int.reduceToNat, Int.reduceLT, Int.reduceLE, TFWiW, SeqQ, BlkQ, LoopQ, BodyQ, FR])
      | (refine CallV.upd (by simp only [hget, ↓reduceIte, FR]; first | done | rfl) (c2) (Sm.out ?_))
      | (refine WP.seq fun K hK => ?_)
      | (refine WP.region (rvc_sound _ _ (Sm.out ?_)))
      | (refine WP.drawK rfl mixed (by decide +kernel) (Sm.out ?_))
      | (refine Ob.mk ?_; focus (first | assumption | omega | decide | trivial | (intro hob; simp only [hob, ZF]; done) | (intros; (repeat' refine And.intro ?_ ?_) <;> first | assumption | omega | trivial | decide) | (intros; simp only [ZE] at *; (repeat' refine And.intro ?_ ?_) <;> first | assumption | omega | trivial)))
      | (refine And.intro (Ob.out ?_) ?_)
      | (refine WP.block ?_)
      | (refine WP.cond rfl (fun hc => ?_) (fun hc => ?_) <;> (try simp only [ZC, reduceCtorEq, ZD] at hc) <;> (try (exact absurd hc (by decide))) <;> (try (exfalso; omega)))
      | ((first | refine WP.skip ?_ | refine WP.exit ?_); simp only [SeqQ, BlkQ, LoopQ, BodyQ, ↓reduceIte, Nat.reduceEqDiff, reduceCtorEq, look, true_and])
      | (refine WP.ret (Sm.out ?_))
      | (first | refine ExG.no (Sm.out ?_) | refine Or.inl (ExG.no (Sm.out ?_)) | refine Or.inl (And.intro (fun hg => absurd hg (by decide)) (ExG.no (Sm.out ?_))))
      | (refine Rt.mk ?_; refine And.intro ?_ ?_ <;> (intro hg; first | exact absurd hg (by decide) | refine Sm.out ?_))
      | (refine Nu.mk ?_; first | (fail_if_success (have := nb1)); intro nb1 | (fail_if_success (have := nb2)); intro nb2 | intro nbz)
      | (refine Fr.mk ?_; intro hfr; replace FR := And.intro hfr FR; clear hfr; refine Sm.out ?_)
      | (refine Two.mk ?_ ?_)
      | (refine Cs.mk ?_; intro hcs; first | exact False.elim hcs | (exfalso; omega) | (refine Sm.out ?_))
      | go_step
      | omega
      | (simp only [maxLen_eq]; omega)
      | (refine Or.inr (Rt.mk ?_); refine And.intro ?_ ?_ <;> (intro hg; first | exact absurd hg (by decide) | refine Sm.out ?_))
    (refine OutQ.upd (by simp only [resv, ZK, look, loadv, loadn, loadnm, load1, load1m, hget, ↓reduceIte, Nat.reduceEqDiff, Nat.reduceAdd, Nat.reduceMul, Nat.reduceLeDiff, Nat.reduceLT, reduceCtorEq, TFWiW, FR]) (by simp only [resv, resA, ZK, look, loadv, loadn, loadnm, load1, load1m, hget, ↓reduceIte, Nat.reduceEqDiff, Nat.reduceAdd, Nat.reduceMul, Nat.reduceLeDiff, Nat.reduceLT, reduceCtorEq, TFWiW, FR]; first | done | rfl) (by simp only [hget, ↓reduceIte, if_true, if_false, FR]; first | done | rfl) ?_ <;> first | exact rfl | (simp only [ZK, look, loadv, loadn, loadnm, load1, load1m, hget, ↓reduceIte, Nat.reduceEqDiff, Nat.reduceAdd, Nat.reduceMul, Nat.reduceLeDiff, Nat.reduceLT, reduceCtorEq, TFWiW, FR]; done) | skip)
theorem countN (b : Nat) (m : Int) (h1 : -9223372036854775808 ≤ m) (h2 : m ≤ 9223372036854775807) : ACt Try.prog 49 [pt b 0, iv .i64 m] [(b, rdN)] (fun r F' => r = iv .i64 0 ∧ F' = [(b, rdN)]) := by
  refine ACt.intro Try.func49 rfl (by kernel_rfl) (by simp [Try.ntmps49]) (fun cx => ?_)
  simp only [argE, Try.ntmps49, Try.results49]
  have w : IntKind.i64.wrap 0 = 0 := by decide
  have c1 : ACt Try.prog 42 [pt b 0] [(b, rdN)] (fun r F' => r = iv .u64 0 ∧ F' = [(b, rdN)]) := numN b
  by_cases h : m < 0
  · have k : decide (m < 0) = true := decide_eq_true h
    first | (have FRx := FR; clear FRx) | (have FR : ¬ ((1 : Nat) = 0) := Nat.one_ne_zero)
    repeat' first
      | (refine Sm.mk ?_; try simp -dsimp only [ZK, rvc, drawF, headN, pureH, stp, dvc, calleeOf, gcall, pev, eff, newB, okd, og, ogs, ogo, ogp, slv, bltv, opd, litv, strip, one, both, putE, St.put, look, gdOf, gdv, picka, pickv, pickw, binv, bini, bins, binb, binp, bina, shp, eqCells, unv, convv, nilv, faddv, addp, idxav, idxp, load1, load1m, loadn, loadnm, loadv, hget, hset, hrep, hdel, slicev, bnd, shift1, lenv, IntKind.bits, extractv, fieldv, indexv, min2v, max2v, mkiv, cellsA, fillA, buildv, stC, oneC, rowMB, intsA, plN, appE, appZ, appC, appNZ, appNC, VwL, srcC, srcZ, srcM, isBoolT, isPtrT, isSliceT, uOk, Value.oneCell', Nat.reducePow, Int.reducePow, Nat.reduceAdd, Nat.reduceMul, Nat.reduceSub, Nat.reduceLT, Nat.reduceLeDiff, Nat.reduceEqDiff, Nat.reduceBEq, Nat.reduceDiv, Nat.reduceMod, ↓reduceIte, reduceCtorEq, Int.reduceToNat, Int.reduceLT, Int.reduceLE, TFWiW, SeqQ, BlkQ, LoopQ, BodyQ, k, FR])
      | (refine CallV.upd (by simp only [hget, ↓reduceIte, FR, k]; first | done | rfl) (c1) (Sm.out ?_))
      | (refine CallV.upd (by simp only [hget, ↓reduceIte, FR, k]; first | done | rfl) (fail_e b true) (Sm.out ?_))
      | (refine WP.seq fun K hK => ?_)
      | (refine WP.region (rvc_sound _ _ (Sm.out ?_)))
      | (refine WP.drawK rfl mixed (by decide +kernel) (Sm.out ?_))
      | (refine Ob.mk ?_; focus (first | assumption | omega | decide | trivial | (intro hob; simp only [hob, ZF]; done) | (intros; (repeat' refine And.intro ?_ ?_) <;> first | assumption | omega | trivial | decide) | (intros; simp only [ZE] at *; (repeat' refine And.intro ?_ ?_) <;> first | assumption | omega | trivial)))
      | (refine And.intro (Ob.out ?_) ?_)
      | (refine WP.block ?_)
      | (refine WP.cond rfl (fun hc => ?_) (fun hc => ?_) <;> (try simp only [ZC, reduceCtorEq, ZD] at hc) <;> (try (exact absurd hc (by decide))) <;> (try (exfalso; omega)))
      | ((first | refine WP.skip ?_ | refine WP.exit ?_); simp only [SeqQ, BlkQ, LoopQ, BodyQ, ↓reduceIte, Nat.reduceEqDiff, reduceCtorEq, look, true_and])
      | (refine WP.ret (Sm.out ?_))
      | (first | refine ExG.no (Sm.out ?_) | refine Or.inl (ExG.no (Sm.out ?_)) | refine Or.inl (And.intro (fun hg => absurd hg (by decide)) (ExG.no (Sm.out ?_))))
      | (refine Rt.mk ?_; refine And.intro ?_ ?_ <;> (intro hg; first | exact absurd hg (by decide) | refine Sm.out ?_))
      | (refine Nu.mk ?_; first | (fail_if_success (have := nb1)); intro nb1 | (fail_if_success (have := nb2)); intro nb2 | intro nbz)
      | (refine Fr.mk ?_; intro hfr; replace FR := And.intro hfr FR; clear hfr; refine Sm.out ?_)
      | (refine Two.mk ?_ ?_)
      | (refine Cs.mk ?_; intro hcs; first | exact False.elim hcs | (exfalso; omega) | (refine Sm.out ?_))
      | go_step
      | omega
      | (simp only [maxLen_eq]; omega)
      | (refine Or.inr (Rt.mk ?_); refine And.intro ?_ ?_ <;> (intro hg; first | exact absurd hg (by decide) | refine Sm.out ?_))
    (refine OutQ.upd (by simp only [resv, ZK, look, loadv, loadn, loadnm, load1, load1m, hget, ↓reduceIte, Nat.reduceEqDiff, Nat.reduceAdd, Nat.reduceMul, Nat.reduceLeDiff, Nat.reduceLT, reduceCtorEq, TFWiW, FR]) (by simp only [resv, resA, ZK, look, loadv, loadn, loadnm, load1, load1m, hget, ↓reduceIte, Nat.reduceEqDiff, Nat.reduceAdd, Nat.reduceMul, Nat.reduceLeDiff, Nat.reduceLT, reduceCtorEq, TFWiW, FR]; first | done | rfl) (by simp only [hget, ↓reduceIte, if_true, if_false, FR]; first | done | rfl) ?_ <;> first | exact rfl | (simp only [ZK, look, loadv, loadn, loadnm, load1, load1m, hget, ↓reduceIte, Nat.reduceEqDiff, Nat.reduceAdd, Nat.reduceMul, Nat.reduceLeDiff, Nat.reduceLT, reduceCtorEq, TFWiW, FR]; done) | skip)
  · have k : decide (m < 0) = false := decide_eq_false h
    have k2 : decide (0 > IntKind.u64.wrap m) = false := by rw [wrap_u64 (by omega) (by omega)]; simp; omega
    first | (have FRx := FR; clear FRx) | (have FR : ¬ ((1 : Nat) = 0) := Nat.one_ne_zero)
    repeat' first
      | (refine Sm.mk ?_; try simp -dsimp only [ZK, rvc, drawF, headN, pureH, stp, dvc, calleeOf, gcall, pev, eff, newB, okd, og, ogs, ogo, ogp, slv, bltv, opd, litv, strip, one, both, putE, St.put, look, gdOf, gdv, picka, pickv, pickw, binv, bini, bins, binb, binp, bina, shp, eqCells, unv, convv, nilv, faddv, addp, idxav, idxp, load1, load1m, loadn, loadnm, loadv, hget, hset, hrep, hdel, slicev, bnd, shift1, lenv, IntKind.bits, extractv, fieldv, indexv, min2v, max2v, mkiv, cellsA, fillA, buildv, stC, oneC, rowMB, intsA, plN, appE, appZ, appC, appNZ, appNC, VwL, srcC, srcZ, srcM, isBoolT, isPtrT, isSliceT, uOk, Value.oneCell', Nat.reducePow, Int.reducePow, Nat.reduceAdd, Nat.reduceMul, Nat.reduceSub, Nat.reduceLT, Nat.reduceLeDiff, Nat.reduceEqDiff, Nat.reduceBEq, Nat.reduceDiv, Nat.reduceMod, ↓reduceIte, reduceCtorEq, Int.reduceToNat, Int.reduceLT, Int.reduceLE, TFWiW, SeqQ, BlkQ, LoopQ, BodyQ, k, k2, w, FR])
      | (refine CallV.upd (by simp only [hget, ↓reduceIte, FR, k, k2, w]; first | done | rfl) (c1) (Sm.out ?_))
      | (refine CallV.upd (by simp only [hget, ↓reduceIte, FR, k, k2, w]; first | done | rfl) (fail_e b true) (Sm.out ?_))
      | (refine WP.seq fun K hK => ?_)
      | (refine WP.region (rvc_sound _ _ (Sm.out ?_)))
      | (refine WP.drawK rfl mixed (by decide +kernel) (Sm.out ?_))
      | (refine Ob.mk ?_; focus (first | assumption | omega | decide | trivial | (intro hob; simp only [hob, ZF]; done) | (intros; (repeat' refine And.intro ?_ ?_) <;> first | assumption | omega | trivial | decide) | (intros; simp only [ZE] at *; (repeat' refine And.intro ?_ ?_) <;> first | assumption | omega | trivial)))
      | (refine And.intro (Ob.out ?_) ?_)
      | (refine WP.block ?_)
      | (refine WP.cond rfl (fun hc => ?_) (fun hc => ?_) <;> (try simp only [ZC, reduceCtorEq, ZD] at hc) <;> (try (exact absurd hc (by decide))) <;> (try (exfalso; omega)))
      | ((first | refine WP.skip ?_ | refine WP.exit ?_); simp only [SeqQ, BlkQ, LoopQ, BodyQ, ↓reduceIte, Nat.reduceEqDiff, reduceCtorEq, look, true_and])
      | (refine WP.ret (Sm.out ?_))
      | (first | refine ExG.no (Sm.out ?_) | refine Or.inl (ExG.no (Sm.out ?_)) | refine Or.inl (And.intro (fun hg => absurd hg (by decide)) (ExG.no (Sm.out ?_))))
      | (refine Rt.mk ?_; refine And.intro ?_ ?_ <;> (intro hg; first | exact absurd hg (by decide) | refine Sm.out ?_))
      | (refine Nu.mk ?_; first | (fail_if_success (have := nb1)); intro nb1 | (fail_if_success (have := nb2)); intro nb2 | intro nbz)
      | (refine Fr.mk ?_; intro hfr; replace FR := And.intro hfr FR; clear hfr; refine Sm.out ?_)
      | (refine Two.mk ?_ ?_)
      | (refine Cs.mk ?_; intro hcs; first | exact False.elim hcs | (exfalso; omega) | (refine Sm.out ?_))
      | go_step
      | omega
      | (simp only [maxLen_eq]; omega)
      | (refine Or.inr (Rt.mk ?_); refine And.intro ?_ ?_ <;> (intro hg; first | exact absurd hg (by decide) | refine Sm.out ?_))
    (refine OutQ.upd (by simp only [resv, ZK, look, loadv, loadn, loadnm, load1, load1m, hget, ↓reduceIte, Nat.reduceEqDiff, Nat.reduceAdd, Nat.reduceMul, Nat.reduceLeDiff, Nat.reduceLT, reduceCtorEq, TFWiW, FR]) (by simp only [resv, resA, ZK, look, loadv, loadn, loadnm, load1, load1m, hget, ↓reduceIte, Nat.reduceEqDiff, Nat.reduceAdd, Nat.reduceMul, Nat.reduceLeDiff, Nat.reduceLT, reduceCtorEq, TFWiW, FR]; first | done | rfl) (by simp only [hget, ↓reduceIte, if_true, if_false, FR]; first | done | rfl) ?_ <;> first | exact rfl | (simp only [ZK, look, loadv, loadn, loadnm, load1, load1m, hget, ↓reduceIte, Nat.reduceEqDiff, Nat.reduceAdd, Nat.reduceMul, Nat.reduceLeDiff, Nat.reduceLT, reduceCtorEq, TFWiW, FR]; done) | skip)
theorem nF_bd {zs q : List Int} {n : Nat} (hb : By zs) (h : nF zs = some (n, q)) : n < 18446744073709551616 ∧ By q ∧ q.length < zs.length ∧ q = zs.drop (zs.length - q.length) := by
  unfold nF at h
  cases hg : gF 0 zs with
  | none => rw [hg] at h; cases h
  | some p =>
    obtain ⟨s, n', q'⟩ := p
    rw [hg] at h; cases h
    obtain ⟨a, b, c, _, d⟩ := gF_bd hb hg
    exact ⟨a, b, c, d⟩
set_option maxHeartbeats 1000000 in
theorem countX (b : Nat) (zs : List Int) (m : Int) (hb : By zs) (hz : zs.length ≤ 10000) (h1 : -9223372036854775808 ≤ m) (h2 : m ≤ 9223372036854775807) :
    ACt Try.prog 49 [pt b 0, iv .i64 m] [(b, rd zs false)] (fun r F' => r = oE (iv .i64 0) (fun n : Nat => iv .i64 n) (cF m zs) ∧ F' = [(b, rO (cF m zs))]) := by
  have c1 := numX b zs hb hz
  unfold cF
  have w0 : IntKind.i64.wrap 0 = 0 := by decide
  cases hg : nF zs with
  | none =>
    rw [hg] at c1
    have c2 : ACt Try.prog 42 [pt b 0] [(b, rd zs false)] (fun r F' => r = iv .u64 0 ∧ F' = [(b, rdN)]) := c1
    show ACt Try.prog 49 [pt b 0, iv .i64 m] [(b, rd zs false)] (fun r F' => r = iv .i64 0 ∧ F' = [(b, rdN)])
    refine ACt.intro Try.func49 rfl (by kernel_rfl) (by simp [Try.ntmps49]) (fun cx => ?_)
    simp only [argE, Try.ntmps49, Try.results49]
    by_cases h : m < 0
    · have k : decide (m < 0) = true := decide_eq_true h
      first | (have FRx := FR; clear FRx) | (have FR : ¬ ((1 : Nat) = 0) := Nat.one_ne_zero)
      repeat' first
        | (refine Sm.mk ?_; try simp -dsimp only [ZK, rvc, drawF, headN, pureH, stp, dvc, calleeOf, gcall, pev, eff, newB, okd, og, ogs, ogo, ogp, slv, bltv, opd, litv, strip, one, both, putE, St.put, look, gdOf, gdv, picka, pickv, pickw, binv, bini, bins, binb, binp, bina, shp, eqCells, unv, convv, nilv, faddv, addp, idxav, idxp, load1, load1m, loadn, loadnm, loadv, hget, hset, hrep, hdel, slicev, bnd, shift1, lenv, IntKind.bits, extractv, fieldv, indexv, min2v, max2v, mkiv, cellsA, fillA, buildv, stC, oneC, rowMB, intsA, plN, appE, appZ, appC, appNZ, appNC, VwL, srcC, srcZ, srcM, isBoolT, isPtrT, isSliceT, uOk, Value.oneCell', Nat.reducePow, Int.reducePow, Nat.reduceAdd, Nat.reduceMul, Nat.reduceSub, Nat.reduceLT, Nat.reduceLeDiff, Nat.reduceEqDiff, Nat.reduceBEq, Nat.reduceDiv, Nat.reduceMod, ↓reduceIte, reduceCtorEq, Int.reduceToNat, Int.reduceLT, Int.reduceLE, TFWiW, SeqQ, BlkQ, LoopQ, BodyQ, k, FR])
        | (refine CallV.upd (by simp only [hget, ↓reduceIte, FR, k]; first | done | rfl) (c2) (Sm.out ?_))
        | (refine CallV.upd (by simp only [hget, ↓reduceIte, FR, k]; first | done | rfl) (fail_e b true) (Sm.out ?_))
        | (refine WP.seq fun K hK => ?_)
        | (refine WP.region (rvc_sound _ _ (Sm.out ?_)))
        | (refine WP.drawK rfl mixed (by decide +kernel) (Sm.out ?_))
        | (refine Ob.mk ?_; focus (first | assumption | omega | decide | trivial | (intro hob; simp only [hob, ZF]; done) | (intros; (repeat' refine And.intro ?_ ?_) <;> first | assumption | omega | trivial | decide) | (intros; simp only [ZE] at *; (repeat' refine And.intro ?_ ?_) <;> first | assumption | omega | trivial)))
        | (refine And.intro (Ob.out ?_) ?_)
        | (refine WP.block ?_)
        | (refine WP.cond rfl (fun hc => ?_) (fun hc => ?_) <;> (try simp only [ZC, reduceCtorEq, ZD] at hc) <;> (try (exact absurd hc (by decide))) <;> (try (exfalso; omega)))
        | ((first | refine WP.skip ?_ | refine WP.exit ?_); simp only [SeqQ, BlkQ, LoopQ, BodyQ, ↓reduceIte, Nat.reduceEqDiff, reduceCtorEq, look, true_and])
        | (refine WP.ret (Sm.out ?_))
        | (first | refine ExG.no (Sm.out ?_) | refine Or.inl (ExG.no (Sm.out ?_)) | refine Or.inl (And.intro (fun hg => absurd hg (by decide)) (ExG.no (Sm.out ?_))))
        | (refine Rt.mk ?_; refine And.intro ?_ ?_ <;> (intro hg; first | exact absurd hg (by decide) | refine Sm.out ?_))
        | (refine Nu.mk ?_; first | (fail_if_success (have := nb1)); intro nb1 | (fail_if_success (have := nb2)); intro nb2 | intro nbz)
        | (refine Fr.mk ?_; intro hfr; replace FR := And.intro hfr FR; clear hfr; refine Sm.out ?_)
        | (refine Two.mk ?_ ?_)
        | (refine Cs.mk ?_; intro hcs; first | exact False.elim hcs | (exfalso; omega) | (refine Sm.out ?_))
        | go_step
        | omega
        | (simp only [maxLen_eq]; omega)
        | (refine Or.inr (Rt.mk ?_); refine And.intro ?_ ?_ <;> (intro hg; first | exact absurd hg (by decide) | refine Sm.out ?_))
      (refine OutQ.upd (by simp only [resv, ZK, look, loadv, loadn, loadnm, load1, load1m, hget, ↓reduceIte, Nat.reduceEqDiff, Nat.reduceAdd, Nat.reduceMul, Nat.reduceLeDiff, Nat.reduceLT, reduceCtorEq, TFWiW, FR]) (by simp only [resv, resA, ZK, look, loadv, loadn, loadnm, load1, load1m, hget, ↓reduceIte, Nat.reduceEqDiff, Nat.reduceAdd, Nat.reduceMul, Nat.reduceLeDiff, Nat.reduceLT, reduceCtorEq, TFWiW, FR]; first | done | rfl) (by simp only [hget, ↓reduceIte, if_true, if_false, FR]; first | done | rfl) ?_ <;> first | exact rfl | (simp only [ZK, look, loadv, loadn, loadnm, load1, load1m, hget, ↓reduceIte, Nat.reduceEqDiff, Nat.reduceAdd, Nat.reduceMul, Nat.reduceLeDiff, Nat.reduceLT, reduceCtorEq, TFWiW, FR]; done) | skip)
    · have k : decide (m < 0) = false := decide_eq_false h
      have k2 : decide (0 > IntKind.u64.wrap m) = false := by rw [wrap_u64 (by omega) (by omega)]; simp; omega
      first | (have FRx := FR; clear FRx) | (have FR : ¬ ((1 : Nat) = 0) := Nat.one_ne_zero)
      repeat' first
        | (refine Sm.mk ?_; try simp -dsimp only [ZK, rvc, drawF, headN, pureH, stp, dvc, calleeOf, gcall, pev, eff, newB, okd, og, ogs, ogo, ogp, slv, bltv, opd, litv, strip, one, both, putE, St.put, look, gdOf, gdv, picka, pickv, pickw, binv, bini, bins, binb, binp, bina, shp, eqCells, unv, convv, nilv, faddv, addp, idxav, idxp, load1, load1m, loadn, loadnm, loadv, hget, hset, hrep, hdel, slicev, bnd, shift1, lenv, IntKind.bits, extractv, fieldv, indexv, min2v, max2v, mkiv, cellsA, fillA, buildv, stC, oneC, rowMB, intsA, plN, appE, appZ, appC, appNZ, appNC, VwL, srcC, srcZ, srcM, isBoolT, isPtrT, isSliceT, uOk, Value.oneCell', Nat.reducePow, Int.reducePow, Nat.reduceAdd, Nat.reduceMul, Nat.reduceSub, Nat.reduceLT, Nat.reduceLeDiff, Nat.reduceEqDiff, Nat.reduceBEq, Nat.reduceDiv, Nat.reduceMod, ↓reduceIte, reduceCtorEq, Int.reduceToNat, Int.reduceLT, Int.reduceLE, TFWiW, SeqQ, BlkQ, LoopQ, BodyQ, k, k2, w0, FR])
        | (refine CallV.upd (by simp only [hget, ↓reduceIte, FR, k, k2, w0]; first | done | rfl) (c2) (Sm.out ?_))
        | (refine CallV.upd (by simp only [hget, ↓reduceIte, FR, k, k2, w0]; first | done | rfl) (fail_e b true) (Sm.out ?_))
        | (refine WP.seq fun K hK => ?_)
        | (refine WP.region (rvc_sound _ _ (Sm.out ?_)))
        | (refine WP.drawK rfl mixed (by decide +kernel) (Sm.out ?_))
        | (refine Ob.mk ?_; focus (first | assumption | omega | decide | trivial | (intro hob; simp only [hob, ZF]; done) | (intros; (repeat' refine And.intro ?_ ?_) <;> first | assumption | omega | trivial | decide) | (intros; simp only [ZE] at *; (repeat' refine And.intro ?_ ?_) <;> first | assumption | omega | trivial)))
        | (refine And.intro (Ob.out ?_) ?_)
        | (refine WP.block ?_)
        | (refine WP.cond rfl (fun hc => ?_) (fun hc => ?_) <;> (try simp only [ZC, reduceCtorEq, ZD] at hc) <;> (try (exact absurd hc (by decide))) <;> (try (exfalso; omega)))
        | ((first | refine WP.skip ?_ | refine WP.exit ?_); simp only [SeqQ, BlkQ, LoopQ, BodyQ, ↓reduceIte, Nat.reduceEqDiff, reduceCtorEq, look, true_and])
        | (refine WP.ret (Sm.out ?_))
        | (first | refine ExG.no (Sm.out ?_) | refine Or.inl (ExG.no (Sm.out ?_)) | refine Or.inl (And.intro (fun hg => absurd hg (by decide)) (ExG.no (Sm.out ?_))))
        | (refine Rt.mk ?_; refine And.intro ?_ ?_ <;> (intro hg; first | exact absurd hg (by decide) | refine Sm.out ?_))
        | (refine Nu.mk ?_; first | (fail_if_success (have := nb1)); intro nb1 | (fail_if_success (have := nb2)); intro nb2 | intro nbz)
        | (refine Fr.mk ?_; intro hfr; replace FR := And.intro hfr FR; clear hfr; refine Sm.out ?_)
        | (refine Two.mk ?_ ?_)
        | (refine Cs.mk ?_; intro hcs; first | exact False.elim hcs | (exfalso; omega) | (refine Sm.out ?_))
        | go_step
        | omega
        | (simp only [maxLen_eq]; omega)
        | (refine Or.inr (Rt.mk ?_); refine And.intro ?_ ?_ <;> (intro hg; first | exact absurd hg (by decide) | refine Sm.out ?_))
      (refine OutQ.upd (by simp only [resv, ZK, look, loadv, loadn, loadnm, load1, load1m, hget, ↓reduceIte, Nat.reduceEqDiff, Nat.reduceAdd, Nat.reduceMul, Nat.reduceLeDiff, Nat.reduceLT, reduceCtorEq, TFWiW, FR]) (by simp only [resv, resA, ZK, look, loadv, loadn, loadnm, load1, load1m, hget, ↓reduceIte, Nat.reduceEqDiff, Nat.reduceAdd, Nat.reduceMul, Nat.reduceLeDiff, Nat.reduceLT, reduceCtorEq, TFWiW, FR]; first | done | rfl) (by simp only [hget, ↓reduceIte, if_true, if_false, FR]; first | done | rfl) ?_ <;> first | exact rfl | (simp only [ZK, look, loadv, loadn, loadnm, load1, load1m, hget, ↓reduceIte, Nat.reduceEqDiff, Nat.reduceAdd, Nat.reduceMul, Nat.reduceLeDiff, Nat.reduceLT, reduceCtorEq, TFWiW, FR]; done) | skip)
  | some p =>
    obtain ⟨n, q⟩ := p
    rw [hg] at c1
    obtain ⟨hn, _, _, _⟩ := nF_bd hb hg
    have c2 : ACt Try.prog 42 [pt b 0] [(b, rd zs false)] (fun r F' => r = nu n ∧ F' = [(b, rd q false)]) := c1
    simp only
    by_cases h : m < 0
    · have k : decide (m < 0) = true := decide_eq_true h
      rw [if_pos (.inl h)]
      show ACt Try.prog 49 [pt b 0, iv .i64 m] [(b, rd zs false)] (fun r F' => r = iv .i64 0 ∧ F' = [(b, rdN)])
      refine ACt.intro Try.func49 rfl (by kernel_rfl) (by simp [Try.ntmps49]) (fun cx => ?_)
      simp only [argE, Try.ntmps49, Try.results49]
      first | (have FRx := FR; clear FRx) | (have FR : ¬ ((1 : Nat) = 0) := Nat.one_ne_zero)
      repeat' first
        | (refine Sm.mk ?_; try simp -dsimp only [ZK, rvc, drawF, headN, pureH, stp, dvc, calleeOf, gcall, pev, eff, newB, okd, og, ogs, ogo, ogp, slv, bltv, opd, litv, strip, one, both, putE, St.put, look, gdOf, gdv, picka, pickv, pickw, binv, bini, bins, binb, binp, bina, shp, eqCells, unv, convv, nilv, faddv, addp, idxav, idxp, load1, load1m, loadn, loadnm, loadv, hget, hset, hrep, hdel, slicev, bnd, shift1, lenv, IntKind.bits, extractv, fieldv, indexv, min2v, max2v, mkiv, cellsA, fillA, buildv, stC, oneC, rowMB, intsA, plN, appE, appZ, appC, appNZ, appNC, VwL, srcC, srcZ, srcM, isBoolT, isPtrT, isSliceT, uOk, Value.oneCell', Nat.reducePow, Int.reducePow, Nat.reduceAdd, Nat.reduceMul, Nat.reduceSub, Nat.reduceLT, Nat.reduceLeDiff, Nat.reduceEqDiff, Nat.reduceBEq, Nat.reduceDiv, Nat.reduceMod, ↓reduceIte, reduceCtorEq, Int.reduceToNat, Int.reduceLT, Int.reduceLE, TFWiW, SeqQ, BlkQ, LoopQ, BodyQ, k, FR])
        | (refine CallV.upd (by simp only [hget, ↓reduceIte, FR, k]; first | done | rfl) (c2) (Sm.out ?_))
        | (refine CallV.upd (by simp only [hget, ↓reduceIte, FR, k]; first | done | rfl) (failR b q) (Sm.out ?_))
        | (refine WP.seq fun K hK => ?_)
        | (refine WP.region (rvc_sound _ _ (Sm.out ?_)))
        | (refine WP.drawK rfl mixed (by decide +kernel) (Sm.out ?_))
        | (refine Ob.mk ?_; focus (first | assumption | omega | decide | trivial | (intro hob; simp only [hob, ZF]; done) | (intros; (repeat' refine And.intro ?_ ?_) <;> first | assumption | omega | trivial | decide) | (intros; simp only [ZE] at *; (repeat' refine And.intro ?_ ?_) <;> first | assumption | omega | trivial)))
        | (refine And.intro (Ob.out ?_) ?_)
        | (refine WP.block ?_)
        | (refine WP.cond rfl (fun hc => ?_) (fun hc => ?_) <;> (try simp only [ZC, reduceCtorEq, ZD] at hc) <;> (try (exact absurd hc (by decide))) <;> (try (exfalso; omega)))
        | ((first | refine WP.skip ?_ | refine WP.exit ?_); simp only [SeqQ, BlkQ, LoopQ, BodyQ, ↓reduceIte, Nat.reduceEqDiff, reduceCtorEq, look, true_and])
        | (refine WP.ret (Sm.out ?_))
        | (first | refine ExG.no (Sm.out ?_) | refine Or.inl (ExG.no (Sm.out ?_)) | refine Or.inl (And.intro (fun hg => absurd hg (by decide)) (ExG.no (Sm.out ?_))))
        | (refine Rt.mk ?_; refine And.intro ?_ ?_ <;> (intro hg; first | exact absurd hg (by decide) | refine Sm.out ?_))
        | (refine Nu.mk ?_; first | (fail_if_success (have := nb1)); intro nb1 | (fail_if_success (have := nb2)); intro nb2 | intro nbz)
        | (refine Fr.mk ?_; intro hfr; replace FR := And.intro hfr FR; clear hfr; refine Sm.out ?_)
        | (refine Two.mk ?_ ?_)
        | (refine Cs.mk ?_; intro hcs; first | exact False.elim hcs | (exfalso; omega) | (refine Sm.out ?_))
        | go_step
        | omega
        | (simp only [maxLen_eq]; omega)
        | (refine Or.inr (Rt.mk ?_); refine And.intro ?_ ?_ <;> (intro hg; first | exact absurd hg (by decide) | refine Sm.out ?_))
      (refine OutQ.upd (by simp only [resv, ZK, look, loadv, loadn, loadnm, load1, load1m, hget, ↓reduceIte, Nat.reduceEqDiff, Nat.reduceAdd, Nat.reduceMul, Nat.reduceLeDiff, Nat.reduceLT, reduceCtorEq, TFWiW, FR]) (by simp only [resv, resA, ZK, look, loadv, loadn, loadnm, load1, load1m, hget, ↓reduceIte, Nat.reduceEqDiff, Nat.reduceAdd, Nat.reduceMul, Nat.reduceLeDiff, Nat.reduceLT, reduceCtorEq, TFWiW, FR]; first | done | rfl) (by simp only [hget, ↓reduceIte, if_true, if_false, FR]; first | done | rfl) ?_ <;> first | exact rfl | (simp only [ZK, look, loadv, loadn, loadnm, load1, load1m, hget, ↓reduceIte, Nat.reduceEqDiff, Nat.reduceAdd, Nat.reduceMul, Nat.reduceLeDiff, Nat.reduceLT, reduceCtorEq, TFWiW, FR]; done) | skip)
    · have k : decide (m < 0) = false := decide_eq_false h
      have k2 : decide ((n : Int) > IntKind.u64.wrap m) = decide (m < (n : Int)) := by rw [wrap_u64 (by omega) (by omega)]
      by_cases h3 : m < (n : Int)
      · rw [if_pos (.inr h3)]
        rw [decide_eq_true h3] at k2
        show ACt Try.prog 49 [pt b 0, iv .i64 m] [(b, rd zs false)] (fun r F' => r = iv .i64 0 ∧ F' = [(b, rdN)])
        refine ACt.intro Try.func49 rfl (by kernel_rfl) (by simp [Try.ntmps49]) (fun cx => ?_)
        simp only [argE, Try.ntmps49, Try.results49]
        first | (have FRx := FR; clear FRx) | (have FR : ¬ ((1 : Nat) = 0) := Nat.one_ne_zero)
        repeat' first
          | (refine Sm.mk ?_; try simp -dsimp only [ZK, rvc, drawF, headN, pureH, stp, dvc, calleeOf, gcall, pev, eff, newB, okd, og, ogs, ogo, ogp, slv, bltv, opd, litv, strip, one, both, putE, St.put, look, gdOf, gdv, picka, pickv, pickw, binv, bini, bins, binb, binp, bina, shp, eqCells, unv, convv, nilv, faddv, addp, idxav, idxp, load1, load1m, loadn, loadnm, loadv, hget, hset, hrep, hdel, slicev, bnd, shift1, lenv, IntKind.bits, extractv, fieldv, indexv, min2v, max2v, mkiv, cellsA, fillA, buildv, stC, oneC, rowMB, intsA, plN, appE, appZ, appC, appNZ, appNC, VwL, srcC, srcZ, srcM, isBoolT, isPtrT, isSliceT, uOk, Value.oneCell', Nat.reducePow, Int.reducePow, Nat.reduceAdd, Nat.reduceMul, Nat.reduceSub, Nat.reduceLT, Nat.reduceLeDiff, Nat.reduceEqDiff, Nat.reduceBEq, Nat.reduceDiv, Nat.reduceMod, ↓reduceIte, reduceCtorEq, Int.reduceToNat, Int.reduceLT, Int.reduceLE, TFWiW, SeqQ, BlkQ, LoopQ, BodyQ, k, k2, FR])
          | (refine CallV.upd (by simp only [hget, ↓reduceIte, FR, k, k2]; first | done | rfl) (c2) (Sm.out ?_))
          | (refine CallV.upd (by simp only [hget, ↓reduceIte, FR, k, k2]; first | done | rfl) (failR b q) (Sm.out ?_))
          | (refine WP.seq fun K hK => ?_)
          | (refine WP.region (rvc_sound _ _ (Sm.out ?_)))
          | (refine WP.drawK rfl mixed (by decide +kernel) (Sm.out ?_))
          | (refine Ob.mk ?_; focus (first | assumption | omega | decide | trivial | (intro hob; simp only [hob, ZF]; done) | (intros; (repeat' refine And.intro ?_ ?_) <;> first | assumption | omega | trivial | decide) | (intros; simp only [ZE] at *; (repeat' refine And.intro ?_ ?_) <;> first | assumption | omega | trivial)))
          | (refine And.intro (Ob.out ?_) ?_)
          | (refine WP.block ?_)
          | (refine WP.cond rfl (fun hc => ?_) (fun hc => ?_) <;> (try simp only [ZC, reduceCtorEq, ZD] at hc) <;> (try (exact absurd hc (by decide))) <;> (try (exfalso; omega)))
          | ((first | refine WP.skip ?_ | refine WP.exit ?_); simp only [SeqQ, BlkQ, LoopQ, BodyQ, ↓reduceIte, Nat.reduceEqDiff, reduceCtorEq, look, true_and])
          | (refine WP.ret (Sm.out ?_))
          | (first | refine ExG.no (Sm.out ?_) | refine Or.inl (ExG.no (Sm.out ?_)) | refine Or.inl (And.intro (fun hg => absurd hg (by decide)) (ExG.no (Sm.out ?_))))
          | (refine Rt.mk ?_; refine And.intro ?_ ?_ <;> (intro hg; first | exact absurd hg (by decide) | refine Sm.out ?_))
          | (refine Nu.mk ?_; first | (fail_if_success (have := nb1)); intro nb1 | (fail_if_success (have := nb2)); intro nb2 | intro nbz)
          | (refine Fr.mk ?_; intro hfr; replace FR := And.intro hfr FR; clear hfr; refine Sm.out ?_)
          | (refine Two.mk ?_ ?_)
          | (refine Cs.mk ?_; intro hcs; first | exact False.elim hcs | (exfalso; omega) | (refine Sm.out ?_))
          | go_step
          | omega
          | (simp only [maxLen_eq]; omega)
          | (refine Or.inr (Rt.mk ?_); refine And.intro ?_ ?_ <;> (intro hg; first | exact absurd hg (by decide) | refine Sm.out ?_))
        (refine OutQ.upd (by simp only [resv, ZK, look, loadv, loadn, loadnm, load1, load1m, hget, ↓reduceIte, Nat.reduceEqDiff, Nat.reduceAdd, Nat.reduceMul, Nat.reduceLeDiff, Nat.reduceLT, reduceCtorEq, TFWiW, FR]) (by simp only [resv, resA, ZK, look, loadv, loadn, loadnm, load1, load1m, hget, ↓reduceIte, Nat.reduceEqDiff, Nat.reduceAdd, Nat.reduceMul, Nat.reduceLeDiff, Nat.reduceLT, reduceCtorEq, TFWiW, FR]; first | done | rfl) (by simp only [hget, ↓reduceIte, if_true, if_false, FR]; first | done | rfl) ?_ <;> first | exact rfl | (simp only [ZK, look, loadv, loadn, loadnm, load1, load1m, hget, ↓reduceIte, Nat.reduceEqDiff, Nat.reduceAdd, Nat.reduceMul, Nat.reduceLeDiff, Nat.reduceLT, reduceCtorEq, TFWiW, FR]; done) | skip)
      · rw [if_neg (by omega)]
        rw [decide_eq_false h3] at k2
        have w : IntKind.i64.wrap (n : Int) = (n : Int) := wrap_i64_nat (by omega)
        show ACt Try.prog 49 [pt b 0, iv .i64 m] [(b, rd zs false)] (fun r F' => r = iv .i64 (n : Int) ∧ F' = [(b, rd q false)])
        refine ACt.intro Try.func49 rfl (by kernel_rfl) (by simp [Try.ntmps49]) (fun cx => ?_)
        simp only [argE, Try.ntmps49, Try.results49]
        first | (have FRx := FR; clear FRx) | (have FR : ¬ ((1 : Nat) = 0) := Nat.one_ne_zero)
        repeat' first
          | (refine Sm.mk ?_; try simp -dsimp only [ZK, rvc, drawF, headN, pureH, stp, dvc, calleeOf, gcall, pev, eff, newB, okd, og, ogs, ogo, ogp, slv, bltv, opd, litv, strip, one, both, putE, St.put, look, gdOf, gdv, picka, pickv, pickw, binv, bini, bins, binb, binp, bina, shp, eqCells, unv, convv, nilv, faddv, addp, idxav, idxp, load1, load1m, loadn, loadnm, loadv, hget, hset, hrep, hdel, slicev, bnd, shift1, lenv, IntKind.bits, extractv, fieldv, indexv, min2v, max2v, mkiv, cellsA, fillA, buildv, stC, oneC, rowMB, intsA, plN, appE, appZ, appC, appNZ, appNC, VwL, srcC, srcZ, srcM, isBoolT, isPtrT, isSliceT, uOk, Value.oneCell', Nat.reducePow, Int.reducePow, Nat.reduceAdd, Nat.reduceMul, Nat.reduceSub, Nat.reduceLT, Nat.reduceLeDiff, Nat.reduceEqDiff, Nat.reduceBEq, Nat.reduceDiv, Nat.reduceMod, ↓reduceIte, reduceCtorEq, Int.reduceToNat, Int.reduceLT, Int.reduceLE, TFWiW, SeqQ, BlkQ, LoopQ, BodyQ, k, k2, w, FR])
          | (refine CallV.upd (by simp only [hget, ↓reduceIte, FR, k, k2, w]; first | done | rfl) (c2) (Sm.out ?_))
          | (refine WP.seq fun K hK => ?_)
          | (refine WP.region (rvc_sound _ _ (Sm.out ?_)))
          | (refine WP.drawK rfl mixed (by decide +kernel) (Sm.out ?_))
          | (refine Ob.mk ?_; focus (first | assumption | omega | decide | trivial | (intro hob; simp only [hob, ZF]; done) | (intros; (repeat' refine And.intro ?_ ?_) <;> first | assumption | omega | trivial | decide) | (intros; simp only [ZE] at *; (repeat' refine And.intro ?_ ?_) <;> first | assumption | omega | trivial)))
          | (refine And.intro (Ob.out ?_) ?_)
          | (refine WP.block ?_)
          | (refine WP.cond rfl (fun hc => ?_) (fun hc => ?_) <;> (try simp only [ZC, reduceCtorEq, ZD] at hc) <;> (try (exact absurd hc (by decide))) <;> (try (exfalso; omega)))
          | ((first | refine WP.skip ?_ | refine WP.exit ?_); simp only [SeqQ, BlkQ, LoopQ, BodyQ, ↓reduceIte, Nat.reduceEqDiff, reduceCtorEq, look, true_and])
          | (refine WP.ret (Sm.out ?_))
          | (first | refine ExG.no (Sm.out ?_) | refine Or.inl (ExG.no (Sm.out ?_)) | refine Or.inl (And.intro (fun hg => absurd hg (by decide)) (ExG.no (Sm.out ?_))))
          | (refine Rt.mk ?_; refine And.intro ?_ ?_ <;> (intro hg; first | exact absurd hg (by decide) | refine Sm.out ?_))
          | (refine Nu.mk ?_; first | (fail_if_success (have := nb1)); intro nb1 | (fail_if_success (have := nb2)); intro nb2 | intro nbz)
          | (refine Fr.mk ?_; intro hfr; replace FR := And.intro hfr FR; clear hfr; refine Sm.out ?_)
          | (refine Two.mk ?_ ?_)
          | (refine Cs.mk ?_; intro hcs; first | exact False.elim hcs | (exfalso; omega) | (refine Sm.out ?_))
          | go_step
          | omega
          | (simp only [maxLen_eq]; omega)
          | (refine Or.inr (Rt.mk ?_); refine And.intro ?_ ?_ <;> (intro hg; first | exact absurd hg (by decide) | refine Sm.out ?_))
        (refine OutQ.upd (by simp only [resv, ZK, look, loadv, loadn, loadnm, load1, load1m, hget, ↓reduceIte, Nat.reduceEqDiff, Nat.reduceAdd, Nat.reduceMul, Nat.reduceLeDiff, Nat.reduceLT, reduceCtorEq, TFWiW, FR]) (by simp only [resv, resA, ZK, look, loadv, loadn, loadnm, load1, load1m, hget, ↓reduceIte, Nat.reduceEqDiff, Nat.reduceAdd, Nat.reduceMul, Nat.reduceLeDiff, Nat.reduceLT, reduceCtorEq, TFWiW, FR]; first | done | rfl) (by simp only [hget, ↓reduceIte, if_true, if_false, FR]; first | done | rfl) ?_ <;> first | exact rfl | (simp only [ZK, look, loadv, loadn, loadnm, load1, load1m, hget, ↓reduceIte, Nat.reduceEqDiff, Nat.reduceAdd, Nat.reduceMul, Nat.reduceLeDiff, Nat.reduceLT, reduceCtorEq, TFWiW, FR]; done) | skip)
abbrev eS : AV := .lit (.string ⟨#[]⟩)
end Go.Proofs.Ytbnkmhlnoaebcaa.Wi
namespace Go.Proofs.Ytbnkmhlnoaebcaa.Wi
open Go
set_option linter.unusedVariables false
set_option linter.unusedSimpArgs false
theorem TFWiX : ((((((type_of% tyc0) ∧ ((type_of% tyc2) ∧ (type_of% zmb2))) ∧ ((type_of% tyc3) ∧ ((type_of% zmb3) ∧ (type_of% tyc4)))) ∧ (((type_of% zmb4) ∧ ((type_of% tyc5) ∧ (type_of% zmb5))) ∧ ((type_of% tyc9) ∧ ((type_of% zmb9) ∧ (type_of% tyc41))))) ∧ ((((type_of% zmb41) ∧ ((type_of% tyc50) ∧ (type_of% elt50))) ∧ ((type_of% mkz50) ∧ ((type_of% apT50) ∧ (type_of% elk50)))) ∧ (((type_of% zmb50) ∧ ((type_of% tyc90) ∧ (type_of% foff90_0))) ∧ ((type_of% fpart90_0) ∧ ((type_of% foff90_1) ∧ (type_of% fpart90_1)))))) ∧ (((((type_of% foff90_2) ∧ ((type_of% fpart90_2) ∧ (type_of% foff90_3))) ∧ ((type_of% fpart90_3) ∧ ((type_of% fe90) ∧ (type_of% zmb90)))) ∧ (((type_of% bldT90) ∧ ((type_of% tyc94) ∧ (type_of% foff94_0))) ∧ ((type_of% fpart94_0) ∧ ((type_of% foff94_1) ∧ (type_of% fpart94_1))))) ∧ ((((type_of% fe94) ∧ ((type_of% zmb94) ∧ (type_of% bldT94))) ∧ ((type_of% Try.underlying0) ∧ ((type_of% Try.underlying2) ∧ (type_of% Try.underlying3)))) ∧ (((type_of% Try.underlying4) ∧ ((type_of% Try.underlying5) ∧ (type_of% Try.underlying9))) ∧ (((type_of% Try.underlying41) ∧ (type_of% Try.underlying50)) ∧ ((type_of% Try.underlying90) ∧ (type_of% Try.underlying94))))))) :=
  ⟨⟨⟨⟨⟨tyc0, ⟨tyc2, zmb2⟩⟩, ⟨tyc3, ⟨zmb3, tyc4⟩⟩⟩, ⟨⟨zmb4, ⟨tyc5, zmb5⟩⟩, ⟨tyc9, ⟨zmb9, tyc41⟩⟩⟩⟩, ⟨⟨⟨zmb41, ⟨tyc50, elt50⟩⟩, ⟨mkz50, ⟨apT50, elk50⟩⟩⟩, ⟨⟨zmb50, ⟨tyc90, foff90_0⟩⟩, ⟨fpart90_0, ⟨foff90_1, fpart90_1⟩⟩⟩⟩⟩, ⟨⟨⟨⟨foff90_2, ⟨fpart90_2, foff90_3⟩⟩, ⟨fpart90_3, ⟨fe90, zmb90⟩⟩⟩, ⟨⟨bldT90, ⟨tyc94, foff94_0⟩⟩, ⟨fpart94_0, ⟨foff94_1, fpart94_1⟩⟩⟩⟩, ⟨⟨⟨fe94, ⟨zmb94, bldT94⟩⟩, ⟨Try.underlying0, ⟨Try.underlying2, Try.underlying3⟩⟩⟩, ⟨⟨Try.underlying4, ⟨Try.underlying5, Try.underlying9⟩⟩, ⟨⟨Try.underlying41, Try.underlying50⟩, ⟨Try.underlying90, Try.underlying94⟩⟩⟩⟩⟩⟩
/-- a reading that fails -/
abbrev gt3 (g : Int × Int × ByteArray × Bool × Int) : AV := .tup [.agg [iv .u64 g.1, iv .i64 g.2.1, .lit (.string g.2.2.1), bv g.2.2.2.1], iv .i64 g.2.2.2.2, bv false]
def Bad3 (r : AV) (F' : Hp) : Prop := ∃ g, r = gt3 g ∧ F' = []
theorem bad3_of {f : FuncId} {args : List AV} {n i y : Int} {st : ByteArray} {fl : Bool} (h : ACt Try.prog f args [] (Fn (.tup [.agg [iv .u64 n, iv .i64 i, .lit (.string st), bv fl], iv .i64 y, bv false]))) : ACt Try.prog f args [] Bad3 :=
  h.mono fun r F' ⟨e1, e2⟩ => ⟨(n, i, st, fl, y), e1, e2⟩
/-- what the document reads -/
def rdF (kind most : Int) (zs : List Int) : Option (AV × List Int) :=
  if kind = 3 then (fF zs).map fun p => (.agg [nu 0, iv .i64 0, eS, bv p.1], p.2)
  else if kind = 1 then (iF zs).map fun p => (.agg [nu 0, iv .i64 p.1, eS, bv false], p.2)
  else if kind = 0 then (nF zs).map fun p => (.agg [nu p.1, iv .i64 0, eS, bv false], p.2)
  else if kind = 4 then (cF most zs).map fun p => (.agg [nu p.1, iv .i64 0, eS, bv false], p.2)
  else (tF most zs).map fun p => (.agg [nu 0, iv .i64 0, .lit (.string (bstr p.1)), bv false], p.2)
theorem refG_end (Z : List Int) (kind most : Int) : ACt Try.prog 51 [.slz .u8 Z, iv .i64 (Z.length : Int), .agg [iv .i64 kind, iv .i64 most]] [] Bad3 := by
  refine bad3_of (n := 0) (i := 0) (st := ⟨#[]⟩) (fl := false) (y := 0) ?_
  refine ACt.intro Try.func51 rfl (by kernel_rfl) (by simp [Try.ntmps51]) (fun cx => ?_)
  simp only [argE, Try.ntmps51, Try.results51]
  have d : decide ((Z.length : Int) ≥ (Z.length : Int)) = true := by simp
  first | (have FRx := FR; clear FRx) | (have FR : ¬ ((1 : Nat) = 0) := Nat.one_ne_zero)
  repeat' first
    | (refine Sm.mk ?_; try simp -dsimp only [ZK, rvc, drawF, headN, pureH, stp, dvc, calleeOf, gcall, pev, eff, newB, okd, og, ogs, ogo, ogp, slv, bltv, opd, litv, strip, one, both, putE, St.put, look, gdOf, gdv, picka, pickv, pickw, binv, bini, bins, binb, binp, bina, shp, eqCells, unv, convv, nilv, faddv, addp, idxav, idxp, load1, load1m, loadn, loadnm, loadv, hget, hset, hrep, hdel, slicev, bnd, shift1, lenv, IntKind.bits, extractv, fieldv, indexv, min2v, max2v, mkiv, cellsA, fillA, buildv, stC, oneC, rowMB, intsA, plN, appE, appZ, appC, appNZ, appNC, VwL, srcC, srcZ, srcM, isBoolT, isPtrT, isSliceT, uOk, Value.oneCell', Nat.reducePow, Int.reducePow, Nat.reduceAdd, Nat.reduceMul, Nat.reduceSub, Nat.reduceLT, Nat.reduceLeDiff, Nat.reduceEqDiff, Nat.reduceBEq, Nat.reduceDiv, Nat.reduceMod, ↓reduceIte, reduceCtorEq, Int.reduceToNat, Int.reduceLT, Int.reduceLE, drawSF, hdel, TFWiX, SeqQ, BlkQ, LoopQ, BodyQ, d, FR])
    | (refine WP.seq fun K hK => ?_)
    | (refine WP.region (rvc_sound _ _ (Sm.out ?_)))
    | (refine WP.drawS (is := 13) (k := 16) mixed (by decide +kernel) (by decide +kernel) (Sm.out ?_))
    | (refine WP.drawK rfl mixed (by decide +kernel) (Sm.out ?_))
    | (refine Ob.mk ?_; focus (first | assumption | omega | decide | trivial | (intro hob; simp only [hob, ZF]; done) | (intros; (repeat' refine And.intro ?_ ?_) <;> first | assumption | omega | trivial | decide) | (intros; simp only [ZE] at *; (repeat' refine And.intro ?_ ?_) <;> first | assumption | omega | trivial)))
    | (refine And.intro (Ob.out ?_) ?_)
    | (refine WP.block ?_)
    | (refine WP.cond rfl (fun hc => ?_) (fun hc => ?_) <;> (try simp only [ZC, reduceCtorEq, ZD] at hc) <;> (try (exact absurd hc (by decide))) <;> (try (exfalso; omega)))
    | ((first | refine WP.skip ?_ | refine WP.exit ?_); simp only [SeqQ, BlkQ, LoopQ, BodyQ, ↓reduceIte, Nat.reduceEqDiff, reduceCtorEq, look, true_and])
    | (refine WP.ret (Sm.out ?_))
    | (first | refine ExG.no (Sm.out ?_) | refine Or.inl (ExG.no (Sm.out ?_)) | refine Or.inl (And.intro (fun hg => absurd hg (by decide)) (ExG.no (Sm.out ?_))))
    | (refine Rt.mk ?_; refine And.intro ?_ ?_ <;> (intro hg; first | exact absurd hg (by decide) | refine Sm.out ?_))
    | (refine Nu.mk ?_; first | (fail_if_success (have := nb1)); intro nb1 | (fail_if_success (have := nb2)); intro nb2 | (fail_if_success (have := nb3)); intro nb3 | intro nbz)
    | (refine Fr.mk ?_; intro hfr; replace FR := And.intro hfr FR; clear hfr; refine Sm.out ?_)
    | (refine Two.mk ?_ ?_)
    | (refine Cs.mk ?_; intro hcs; first | exact False.elim hcs | (exfalso; omega) | (refine Sm.out ?_))
    | (refine OutQ.all ?_ ?_; (focus (simp only [resv, ZK, look, loadv, loadn, loadnm, load1, load1m, hget, ↓reduceIte, Nat.reduceEqDiff, Nat.reduceAdd, Nat.reduceMul, Nat.reduceLeDiff, Nat.reduceLT, reduceCtorEq, TFWiX, d, FR])); (try simp only [resv, resA, Fn, ZK, look, loadv, loadn, loadnm, load1, load1m, hget, ↓reduceIte, Nat.reduceEqDiff, Nat.reduceAdd, Nat.reduceMul, Nat.reduceLeDiff, Nat.reduceLT, reduceCtorEq, TFWiX, d, FR]); (try simp [resA, Fn, look, d, FR]); done)
    | go_step
    | omega
    | (simp only [maxLen_eq]; omega)
theorem drop_facts {Z t : List Int} {at_ m : Nat} (h : Z.drop at_ = (m : Int) :: t) : at_ < Z.length ∧ t = Z.drop (at_ + 1) ∧ t.length = Z.length - at_ - 1 ∧ Z.getD at_ 0 = (m : Int) ∧ ∀ i, Z.getD (at_ + 1 + i) 0 = t.getD i 0 := by
  have hl : (Z.drop at_).length = t.length + 1 := by rw [h]; rfl
  simp only [List.length_drop] at hl
  have ht : t = Z.drop (at_ + 1) := by
    rw [← List.drop_drop, h]; rfl
  refine ⟨by omega, ht, by omega, ?_, fun i => ?_⟩
  · have : (Z.drop at_).getD 0 0 = (m : Int) := by rw [h]; rfl
    simpa [List.getD] using this
  · rw [ht]; simp [List.getD]
theorem refG_flag (Z t : List Int) (at_ m : Nat) (most : Int) (h : Z.drop at_ = (m : Int) :: t) (hz : Z.length ≤ 2000) (hm : m < 2) :
    ACt Try.prog 51 [.slz .u8 Z, iv .i64 (at_ : Int), .agg [iv .i64 3, iv .i64 most]] [] (Fn (.tup [.agg [nu 0, iv .i64 0, eS, bv ((m : Int) == 1)], iv .i64 ((at_ + 1 : Nat) : Int), bv true])) := by
  obtain ⟨h1, h2, h3, h4, h5⟩ := drop_facts h
  refine ACt.intro Try.func51 rfl (by kernel_rfl) (by simp [Try.ntmps51]) (fun cx => ?_)
  simp only [argE, Try.ntmps51, Try.results51]
  have d : decide ((at_ : Int) ≥ (Z.length : Int)) = false := by simp; omega
  have z : ((3 : Int) == 3) = true := rfl
  have w : IntKind.i64.wrap ((at_ : Int) + 1) = ((at_ + 1 : Nat) : Int) := by rw [wrap_i64 (by omega) (by omega)]; omega
  have d2 : decide ((m : Int) < 2) = true := by simp; omega
  obtain ⟨e, he⟩ : ∃ e, e = ((m : Int) == 1) := ⟨_, rfl⟩
  have he' : ((m : Int) == 1) = e := he.symm
  rw [he']
  first | (have FRx := FR; clear FRx) | (have FR : ¬ ((1 : Nat) = 0) := Nat.one_ne_zero)
  repeat' first
    | (refine Sm.mk ?_; try simp -dsimp only [ZK, rvc, drawF, headN, pureH, stp, dvc, calleeOf, gcall, pev, eff, newB, okd, og, ogs, ogo, ogp, slv, bltv, opd, litv, strip, one, both, putE, St.put, look, gdOf, gdv, picka, pickv, pickw, binv, bini, bins, binb, binp, bina, shp, eqCells, unv, convv, nilv, faddv, addp, idxav, idxp, load1, load1m, loadn, loadnm, loadv, hget, hset, hrep, hdel, slicev, bnd, shift1, lenv, IntKind.bits, extractv, fieldv, indexv, min2v, max2v, mkiv, cellsA, fillA, buildv, stC, oneC, rowMB, intsA, plN, appE, appZ, appC, appNZ, appNC, VwL, srcC, srcZ, srcM, isBoolT, isPtrT, isSliceT, uOk, Value.oneCell', Nat.reducePow, Int.reducePow, Nat.reduceAdd, Nat.reduceMul, Nat.reduceSub, Nat.reduceLT, Nat.reduceLeDiff, Nat.reduceEqDiff, Nat.reduceBEq, Nat.reduceDiv, Nat.reduceMod, ↓reduceIte, reduceCtorEq, Int.reduceToNat, Int.reduceLT, Int.reduceLE, drawSF, hdel, TFWiX, SeqQ, BlkQ, LoopQ, BodyQ, d, z, w, d2, h4, he', FR])
    | (refine WP.seq fun K hK => ?_)
    | (refine WP.region (rvc_sound _ _ (Sm.out ?_)))
    | (refine WP.drawS (is := 13) (k := 16) mixed (by decide +kernel) (by decide +kernel) (Sm.out ?_))
    | (refine WP.drawK rfl mixed (by decide +kernel) (Sm.out ?_))
    | (refine Ob.mk ?_; focus (first | assumption | omega | decide | trivial | (intro hob; simp only [hob, ZF]; done) | (intros; (repeat' refine And.intro ?_ ?_) <;> first | assumption | omega | trivial | decide) | (intros; simp only [ZE] at *; (repeat' refine And.intro ?_ ?_) <;> first | assumption | omega | trivial)))
    | (refine And.intro (Ob.out ?_) ?_)
    | (refine WP.block ?_)
    | (refine WP.cond rfl (fun hc => ?_) (fun hc => ?_) <;> (try simp only [ZC, reduceCtorEq, ZD] at hc) <;> (try (exact absurd hc (by decide))) <;> (try (exfalso; omega)))
    | ((first | refine WP.skip ?_ | refine WP.exit ?_); simp only [SeqQ, BlkQ, LoopQ, BodyQ, ↓reduceIte, Nat.reduceEqDiff, reduceCtorEq, look, true_and])
    | (refine WP.ret (Sm.out ?_))
    | (first | refine ExG.no (Sm.out ?_) | refine Or.inl (ExG.no (Sm.out ?_)) | refine Or.inl (And.intro (fun hg => absurd hg (by decide)) (ExG.no (Sm.out ?_))))
    | (refine Rt.mk ?_; refine And.intro ?_ ?_ <;> (intro hg; first | exact absurd hg (by decide) | refine Sm.out ?_))
    | (refine Nu.mk ?_; first | (fail_if_success (have := nb1)); intro nb1 | (fail_if_success (have := nb2)); intro nb2 | (fail_if_success (have := nb3)); intro nb3 | intro nbz)
    | (refine Fr.mk ?_; intro hfr; replace FR := And.intro hfr FR; clear hfr; refine Sm.out ?_)
    | (refine Two.mk ?_ ?_)
    | (refine Cs.mk ?_; intro hcs; first | exact False.elim hcs | (exfalso; omega) | (refine Sm.out ?_))
    | (refine OutQ.all ?_ ?_; (focus (simp only [resv, ZK, look, loadv, loadn, loadnm, load1, load1m, hget, ↓reduceIte, Nat.reduceEqDiff, Nat.reduceAdd, Nat.reduceMul, Nat.reduceLeDiff, Nat.reduceLT, reduceCtorEq, TFWiX, d, z, w, d2, h4, he', FR])); (try simp only [resv, resA, Fn, ZK, look, loadv, loadn, loadnm, load1, load1m, hget, ↓reduceIte, Nat.reduceEqDiff, Nat.reduceAdd, Nat.reduceMul, Nat.reduceLeDiff, Nat.reduceLT, reduceCtorEq, TFWiX, d, z, w, d2, h4, he', FR]); (try simp [resA, Fn, look, d, z, w, d2, h4, he', FR]); done)
    | go_step
    | omega
    | (simp only [maxLen_eq]; omega)
theorem refG_flagB (Z t : List Int) (at_ m : Nat) (most : Int) (h : Z.drop at_ = (m : Int) :: t) (hz : Z.length ≤ 2000) (hm : 2 ≤ m) :
    ACt Try.prog 51 [.slz .u8 Z, iv .i64 (at_ : Int), .agg [iv .i64 3, iv .i64 most]] [] Bad3 := by
  obtain ⟨h1, h2, h3, h4, h5⟩ := drop_facts h
  refine bad3_of (n := 0) (i := 0) (st := ⟨#[]⟩) (fl := ((m : Int) == 1)) (y := ((at_ + 1 : Nat) : Int)) ?_
  refine ACt.intro Try.func51 rfl (by kernel_rfl) (by simp [Try.ntmps51]) (fun cx => ?_)
  simp only [argE, Try.ntmps51, Try.results51]
  have d : decide ((at_ : Int) ≥ (Z.length : Int)) = false := by simp; omega
  have z : ((3 : Int) == 3) = true := rfl
  have w : IntKind.i64.wrap ((at_ : Int) + 1) = ((at_ + 1 : Nat) : Int) := by rw [wrap_i64 (by omega) (by omega)]; omega
  have d2 : decide ((m : Int) < 2) = false := by simp; omega
  obtain ⟨e, he⟩ : ∃ e, e = ((m : Int) == 1) := ⟨_, rfl⟩
  have he' : ((m : Int) == 1) = e := he.symm
  rw [he']
  first | (have FRx := FR; clear FRx) | (have FR : ¬ ((1 : Nat) = 0) := Nat.one_ne_zero)
  repeat' first
    | (refine Sm.mk ?_; try simp -dsimp only [ZK, rvc, drawF, headN, pureH, stp, dvc, calleeOf, gcall, pev, eff, newB, okd, og, ogs, ogo, ogp, slv, bltv, opd, litv, strip, one, both, putE, St.put, look, gdOf, gdv, picka, pickv, pickw, binv, bini, bins, binb, binp, bina, shp, eqCells, unv, convv, nilv, faddv, addp, idxav, idxp, load1, load1m, loadn, loadnm, loadv, hget, hset, hrep, hdel, slicev, bnd, shift1, lenv, IntKind.bits, extractv, fieldv, indexv, min2v, max2v, mkiv, cellsA, fillA, buildv, stC, oneC, rowMB, intsA, plN, appE, appZ, appC, appNZ, appNC, VwL, srcC, srcZ, srcM, isBoolT, isPtrT, isSliceT, uOk, Value.oneCell', Nat.reducePow, Int.reducePow, Nat.reduceAdd, Nat.reduceMul, Nat.reduceSub, Nat.reduceLT, Nat.reduceLeDiff, Nat.reduceEqDiff, Nat.reduceBEq, Nat.reduceDiv, Nat.reduceMod, ↓reduceIte, reduceCtorEq, Int.reduceToNat, Int.reduceLT, Int.reduceLE, drawSF, hdel, TFWiX, SeqQ, BlkQ, LoopQ, BodyQ, d, z, w, d2, h4, he', FR])
    | (refine WP.seq fun K hK => ?_)
    | (refine WP.region (rvc_sound _ _ (Sm.out ?_)))
    | (refine WP.drawS (is := 13) (k := 16) mixed (by decide +kernel) (by decide +kernel) (Sm.out ?_))
    | (refine WP.drawK rfl mixed (by decide +kernel) (Sm.out ?_))
    | (refine Ob.mk ?_; focus (first | assumption | omega | decide | trivial | (intro hob; simp only [hob, ZF]; done) | (intros; (repeat' refine And.intro ?_ ?_) <;> first | assumption | omega | trivial | decide) | (intros; simp only [ZE] at *; (repeat' refine And.intro ?_ ?_) <;> first | assumption | omega | trivial)))
    | (refine And.intro (Ob.out ?_) ?_)
    | (refine WP.block ?_)
    | (refine WP.cond rfl (fun hc => ?_) (fun hc => ?_) <;> (try simp only [ZC, reduceCtorEq, ZD] at hc) <;> (try (exact absurd hc (by decide))) <;> (try (exfalso; omega)))
    | ((first | refine WP.skip ?_ | refine WP.exit ?_); simp only [SeqQ, BlkQ, LoopQ, BodyQ, ↓reduceIte, Nat.reduceEqDiff, reduceCtorEq, look, true_and])
    | (refine WP.ret (Sm.out ?_))
    | (first | refine ExG.no (Sm.out ?_) | refine Or.inl (ExG.no (Sm.out ?_)) | refine Or.inl (And.intro (fun hg => absurd hg (by decide)) (ExG.no (Sm.out ?_))))
    | (refine Rt.mk ?_; refine And.intro ?_ ?_ <;> (intro hg; first | exact absurd hg (by decide) | refine Sm.out ?_))
    | (refine Nu.mk ?_; first | (fail_if_success (have := nb1)); intro nb1 | (fail_if_success (have := nb2)); intro nb2 | (fail_if_success (have := nb3)); intro nb3 | intro nbz)
    | (refine Fr.mk ?_; intro hfr; replace FR := And.intro hfr FR; clear hfr; refine Sm.out ?_)
    | (refine Two.mk ?_ ?_)
    | (refine Cs.mk ?_; intro hcs; first | exact False.elim hcs | (exfalso; omega) | (refine Sm.out ?_))
    | (refine OutQ.all ?_ ?_; (focus (simp only [resv, ZK, look, loadv, loadn, loadnm, load1, load1m, hget, ↓reduceIte, Nat.reduceEqDiff, Nat.reduceAdd, Nat.reduceMul, Nat.reduceLeDiff, Nat.reduceLT, reduceCtorEq, TFWiX, d, z, w, d2, h4, he', FR])); (try simp only [resv, resA, Fn, ZK, look, loadv, loadn, loadnm, load1, load1m, hget, ↓reduceIte, Nat.reduceEqDiff, Nat.reduceAdd, Nat.reduceMul, Nat.reduceLeDiff, Nat.reduceLT, reduceCtorEq, TFWiX, d, z, w, d2, h4, he', FR]); (try simp [resA, Fn, look, d, z, w, d2, h4, he', FR]); done)
    | go_step
    | omega
    | (simp only [maxLen_eq]; omega)
/-- the head's number, and whether a sign stands in it -/
def HeadK (kind : Int) (m K : Nat) (ng : Bool) : Prop := (kind ≠ 1 ∧ K = m ∧ ng = false) ∨ (kind = 1 ∧ m / 16 % 2 ≠ 1 ∧ K = m ∧ ng = false) ∨ (kind = 1 ∧ m / 16 % 2 = 1 ∧ K = m - 16 ∧ ng = true)
set_option maxHeartbeats 2000000 in
theorem refG_bad (Z t : List Int) (at_ m K : Nat) (ng : Bool) (kind most : Int) (h : Z.drop at_ = (m : Int) :: t) (hz : Z.length ≤ 2000) (h3 : kind ≠ 3) (hm : m < 256) (hH : HeadK kind m K ng)
    (hk : 8 < K ∨ t.length < K ∨ 0 < K ∧ t.getD 0 0 = 0) :
    ACt Try.prog 51 [.slz .u8 Z, iv .i64 (at_ : Int), .agg [iv .i64 kind, iv .i64 most]] [] Bad3 := by
  obtain ⟨h1, h2, h3', h4, h5⟩ := drop_facts h
  have h50 := h5 0
  rw [Nat.add_zero] at h50
  refine bad3_of (n := 0) (i := 0) (st := ⟨#[]⟩) (fl := false) (y := 0) ?_
  refine ACt.intro Try.func51 rfl (by kernel_rfl) (by simp [Try.ntmps51]) (fun cx => ?_)
  simp only [argE, Try.ntmps51, Try.results51]
  have d : decide ((at_ : Int) ≥ (Z.length : Int)) = false := by simp; omega
  have z : (kind == 3) = false := beq_eq_false_iff_ne.2 h3
  have w : IntKind.i64.wrap ((at_ : Int) + 1) = ((at_ + 1 : Nat) : Int) := by rw [wrap_i64 (by omega) (by omega)]; omega
  have w1 : IntKind.i64.wrap (m : Int) = (m : Int) := wrap_i64_nat (by omega)
  have w2 : IntKind.i64.wrap ((Z.length : Int) - at_) = ((t.length + 1 : Nat) : Int) := by rw [wrap_i64 (by omega) (by omega)]; omega
  have w3 : IntKind.i64.wrap (((t.length + 1 : Nat) : Int) - 1) = (t.length : Int) := by rw [wrap_i64 (by omega) (by omega)]; omega
  have e1 : (m : Int).tdiv 16 = ((m / 16 : Nat) : Int) := by rw [Int.tdiv_eq_ediv_of_nonneg (by omega)]; simp
  have e2 : IntKind.i64.wrap ((m / 16 : Nat) : Int) = ((m / 16 : Nat) : Int) := wrap_i64_nat (by omega)
  have e3 : ((m / 16 : Nat) : Int).tmod 2 = ((m / 16 % 2 : Nat) : Int) := by rw [Int.tmod_eq_emod_of_nonneg (by omega)]; simp
  have e4 : IntKind.i64.wrap ((m / 16 % 2 : Nat) : Int) = ((m / 16 % 2 : Nat) : Int) := wrap_i64_nat (by omega)
  obtain ⟨wk, wK⟩ : ∃ x, IntKind.i64.wrap ((m : Int) - 16) = x := ⟨_, rfl⟩
  obtain ⟨f, f2⟩ : ∃ x, (((m / 16 % 2 : Nat) : Int) == 1) = x := ⟨_, rfl⟩
  obtain ⟨q, f1⟩ : ∃ x, (kind == 1) = x := ⟨_, rfl⟩
  rcases hH with ⟨p1, p2, p3⟩ | ⟨p1, p0, p2, p3⟩ | ⟨p1, p0, p2, p3⟩
  · have f1 : (kind == 1) = false := beq_eq_false_iff_ne.2 p1
    subst p2
    first | (have FRx := FR; clear FRx) | (have FR : ¬ ((1 : Nat) = 0) := Nat.one_ne_zero)
    repeat' first
      | (refine Sm.mk ?_; try simp -dsimp only [ZK, rvc, drawF, headN, pureH, stp, dvc, calleeOf, gcall, pev, eff, newB, okd, og, ogs, ogo, ogp, slv, bltv, opd, litv, strip, one, both, putE, St.put, look, gdOf, gdv, picka, pickv, pickw, binv, bini, bins, binb, binp, bina, shp, eqCells, unv, convv, nilv, faddv, addp, idxav, idxp, load1, load1m, loadn, loadnm, loadv, hget, hset, hrep, hdel, slicev, bnd, shift1, lenv, IntKind.bits, extractv, fieldv, indexv, min2v, max2v, mkiv, cellsA, fillA, buildv, stC, oneC, rowMB, intsA, plN, appE, appZ, appC, appNZ, appNC, VwL, srcC, srcZ, srcM, isBoolT, isPtrT, isSliceT, uOk, Value.oneCell', Nat.reducePow, Int.reducePow, Nat.reduceAdd, Nat.reduceMul, Nat.reduceSub, Nat.reduceLT, Nat.reduceLeDiff, Nat.reduceEqDiff, Nat.reduceBEq, Nat.reduceDiv, Nat.reduceMod, ↓reduceIte, reduceCtorEq, Int.reduceToNat, Int.reduceLT, Int.reduceLE, drawSF, hdel, TFWiX, SeqQ, BlkQ, LoopQ, BodyQ, d, z, w, w1, w2, w3, h4, h50, f1, FR])
      | (refine WP.seq fun K hK => ?_)
      | (refine WP.region (rvc_sound _ _ (Sm.out ?_)))
      | (refine WP.drawS (is := 13) (k := 16) mixed (by decide +kernel) (by decide +kernel) (Sm.out ?_))
      | (refine WP.drawK rfl mixed (by decide +kernel) (Sm.out ?_))
      | (refine Ob.mk ?_; focus (first | assumption | omega | decide | trivial | (intro hob; simp only [hob, ZF]; done) | (intros; (repeat' refine And.intro ?_ ?_) <;> first | assumption | omega | trivial | decide) | (intros; simp only [ZE] at *; (repeat' refine And.intro ?_ ?_) <;> first | assumption | omega | trivial)))
      | (refine And.intro (Ob.out ?_) ?_)
      | (refine WP.block ?_)
      | (refine WP.cond rfl (fun hc => ?_) (fun hc => ?_) <;> (try simp only [ZC, reduceCtorEq, ZD] at hc) <;> (try (exact absurd hc (by decide))) <;> (try (exfalso; omega)))
      | ((first | refine WP.skip ?_ | refine WP.exit ?_); simp only [SeqQ, BlkQ, LoopQ, BodyQ, ↓reduceIte, Nat.reduceEqDiff, reduceCtorEq, look, true_and])
      | (refine WP.ret (Sm.out ?_))
      | (first | refine ExG.no (Sm.out ?_) | refine Or.inl (ExG.no (Sm.out ?_)) | refine Or.inl (And.intro (fun hg => absurd hg (by decide)) (ExG.no (Sm.out ?_))))
      | (refine Rt.mk ?_; refine And.intro ?_ ?_ <;> (intro hg; first | exact absurd hg (by decide) | refine Sm.out ?_))
      | (refine Nu.mk ?_; first | (fail_if_success (have := nb1)); intro nb1 | (fail_if_success (have := nb2)); intro nb2 | (fail_if_success (have := nb3)); intro nb3 | intro nbz)
      | (refine Fr.mk ?_; intro hfr; replace FR := And.intro hfr FR; clear hfr; refine Sm.out ?_)
      | (refine Two.mk ?_ ?_)
      | (refine Cs.mk ?_; intro hcs; first | exact False.elim hcs | (exfalso; omega) | (refine Sm.out ?_))
      | (refine OutQ.all ?_ ?_; (focus (simp only [resv, ZK, look, loadv, loadn, loadnm, load1, load1m, hget, ↓reduceIte, Nat.reduceEqDiff, Nat.reduceAdd, Nat.reduceMul, Nat.reduceLeDiff, Nat.reduceLT, reduceCtorEq, TFWiX, d, z, w, w1, w2, w3, h4, h50, f1, FR])); (try simp only [resv, resA, Fn, ZK, look, loadv, loadn, loadnm, load1, load1m, hget, ↓reduceIte, Nat.reduceEqDiff, Nat.reduceAdd, Nat.reduceMul, Nat.reduceLeDiff, Nat.reduceLT, reduceCtorEq, TFWiX, d, z, w, w1, w2, w3, h4, h50, f1, FR]); (try simp [resA, Fn, look, d, z, w, w1, w2, w3, h4, h50, f1, FR]); done)
      | go_step
      | omega
      | (simp only [maxLen_eq]; omega)
  · subst p1; subst p2
    have f2 : (((K / 16 % 2 : Nat) : Int) == 1) = false := beq_eq_false_iff_ne.2 (by omega)
    first | (have FRx := FR; clear FRx) | (have FR : ¬ ((1 : Nat) = 0) := Nat.one_ne_zero)
    repeat' first
      | (refine Sm.mk ?_; try simp -dsimp only [ZK, rvc, drawF, headN, pureH, stp, dvc, calleeOf, gcall, pev, eff, newB, okd, og, ogs, ogo, ogp, slv, bltv, opd, litv, strip, one, both, putE, St.put, look, gdOf, gdv, picka, pickv, pickw, binv, bini, bins, binb, binp, bina, shp, eqCells, unv, convv, nilv, faddv, addp, idxav, idxp, load1, load1m, loadn, loadnm, loadv, hget, hset, hrep, hdel, slicev, bnd, shift1, lenv, IntKind.bits, extractv, fieldv, indexv, min2v, max2v, mkiv, cellsA, fillA, buildv, stC, oneC, rowMB, intsA, plN, appE, appZ, appC, appNZ, appNC, VwL, srcC, srcZ, srcM, isBoolT, isPtrT, isSliceT, uOk, Value.oneCell', Nat.reducePow, Int.reducePow, Nat.reduceAdd, Nat.reduceMul, Nat.reduceSub, Nat.reduceLT, Nat.reduceLeDiff, Nat.reduceEqDiff, Nat.reduceBEq, Nat.reduceDiv, Nat.reduceMod, ↓reduceIte, reduceCtorEq, Int.reduceToNat, Int.reduceLT, Int.reduceLE, drawSF, hdel, TFWiX, SeqQ, BlkQ, LoopQ, BodyQ, d, z, w, w1, w2, w3, e1, e2, e3, e4, h4, h50, f2, FR])
      | (refine WP.seq fun K hK => ?_)
      | (refine WP.region (rvc_sound _ _ (Sm.out ?_)))
      | (refine WP.drawS (is := 13) (k := 16) mixed (by decide +kernel) (by decide +kernel) (Sm.out ?_))
      | (refine WP.drawK rfl mixed (by decide +kernel) (Sm.out ?_))
      | (refine Ob.mk ?_; focus (first | assumption | omega | decide | trivial | (intro hob; simp only [hob, ZF]; done) | (intros; (repeat' refine And.intro ?_ ?_) <;> first | assumption | omega | trivial | decide) | (intros; simp only [ZE] at *; (repeat' refine And.intro ?_ ?_) <;> first | assumption | omega | trivial)))
      | (refine And.intro (Ob.out ?_) ?_)
      | (refine WP.block ?_)
      | (refine WP.cond rfl (fun hc => ?_) (fun hc => ?_) <;> (try simp only [ZC, reduceCtorEq, ZD] at hc) <;> (try (exact absurd hc (by decide))) <;> (try (exfalso; omega)))
      | ((first | refine WP.skip ?_ | refine WP.exit ?_); simp only [SeqQ, BlkQ, LoopQ, BodyQ, ↓reduceIte, Nat.reduceEqDiff, reduceCtorEq, look, true_and])
      | (refine WP.ret (Sm.out ?_))
      | (first | refine ExG.no (Sm.out ?_) | refine Or.inl (ExG.no (Sm.out ?_)) | refine Or.inl (And.intro (fun hg => absurd hg (by decide)) (ExG.no (Sm.out ?_))))
      | (refine Rt.mk ?_; refine And.intro ?_ ?_ <;> (intro hg; first | exact absurd hg (by decide) | refine Sm.out ?_))
      | (refine Nu.mk ?_; first | (fail_if_success (have := nb1)); intro nb1 | (fail_if_success (have := nb2)); intro nb2 | (fail_if_success (have := nb3)); intro nb3 | intro nbz)
      | (refine Fr.mk ?_; intro hfr; replace FR := And.intro hfr FR; clear hfr; refine Sm.out ?_)
      | (refine Two.mk ?_ ?_)
      | (refine Cs.mk ?_; intro hcs; first | exact False.elim hcs | (exfalso; omega) | (refine Sm.out ?_))
      | (refine OutQ.all ?_ ?_; (focus (simp only [resv, ZK, look, loadv, loadn, loadnm, load1, load1m, hget, ↓reduceIte, Nat.reduceEqDiff, Nat.reduceAdd, Nat.reduceMul, Nat.reduceLeDiff, Nat.reduceLT, reduceCtorEq, TFWiX, d, z, w, w1, w2, w3, e1, e2, e3, e4, h4, h50, f2, FR])); (try simp only [resv, resA, Fn, ZK, look, loadv, loadn, loadnm, load1, load1m, hget, ↓reduceIte, Nat.reduceEqDiff, Nat.reduceAdd, Nat.reduceMul, Nat.reduceLeDiff, Nat.reduceLT, reduceCtorEq, TFWiX, d, z, w, w1, w2, w3, e1, e2, e3, e4, h4, h50, f2, FR]); (try simp [resA, Fn, look, d, z, w, w1, w2, w3, e1, e2, e3, e4, h4, h50, f2, FR]); done)
      | go_step
      | omega
      | (simp only [maxLen_eq]; omega)
  · subst p1
    rw [show (m / 16 % 2 : Nat) = 1 from p0] at e3 e4
    have e5 : (((1 : Nat) : Int) == 1) = true := rfl
    skip
    have wK : IntKind.i64.wrap ((m : Int) - 16) = (K : Int) := by rw [wrap_i64 (by omega) (by omega)]; omega
    first | (have FRx := FR; clear FRx) | (have FR : ¬ ((1 : Nat) = 0) := Nat.one_ne_zero)
    repeat' first
      | (refine Sm.mk ?_; try simp -dsimp only [ZK, rvc, drawF, headN, pureH, stp, dvc, calleeOf, gcall, pev, eff, newB, okd, og, ogs, ogo, ogp, slv, bltv, opd, litv, strip, one, both, putE, St.put, look, gdOf, gdv, picka, pickv, pickw, binv, bini, bins, binb, binp, bina, shp, eqCells, unv, convv, nilv, faddv, addp, idxav, idxp, load1, load1m, loadn, loadnm, loadv, hget, hset, hrep, hdel, slicev, bnd, shift1, lenv, IntKind.bits, extractv, fieldv, indexv, min2v, max2v, mkiv, cellsA, fillA, buildv, stC, oneC, rowMB, intsA, plN, appE, appZ, appC, appNZ, appNC, VwL, srcC, srcZ, srcM, isBoolT, isPtrT, isSliceT, uOk, Value.oneCell', Nat.reducePow, Int.reducePow, Nat.reduceAdd, Nat.reduceMul, Nat.reduceSub, Nat.reduceLT, Nat.reduceLeDiff, Nat.reduceEqDiff, Nat.reduceBEq, Nat.reduceDiv, Nat.reduceMod, ↓reduceIte, reduceCtorEq, Int.reduceToNat, Int.reduceLT, Int.reduceLE, drawSF, hdel, TFWiX, SeqQ, BlkQ, LoopQ, BodyQ, d, z, w, w1, w2, w3, e1, e2, e3, e4, e5, wK, h4, h50, FR])
      | (refine WP.seq fun K hK => ?_)
      | (refine WP.region (rvc_sound _ _ (Sm.out ?_)))
      | (refine WP.drawS (is := 13) (k := 16) mixed (by decide +kernel) (by decide +kernel) (Sm.out ?_))
      | (refine WP.drawK rfl mixed (by decide +kernel) (Sm.out ?_))
      | (refine Ob.mk ?_; focus (first | assumption | omega | decide | trivial | (intro hob; simp only [hob, ZF]; done) | (intros; (repeat' refine And.intro ?_ ?_) <;> first | assumption | omega | trivial | decide) | (intros; simp only [ZE] at *; (repeat' refine And.intro ?_ ?_) <;> first | assumption | omega | trivial)))
      | (refine And.intro (Ob.out ?_) ?_)
      | (refine WP.block ?_)
      | (refine WP.cond rfl (fun hc => ?_) (fun hc => ?_) <;> (try simp only [ZC, reduceCtorEq, ZD] at hc) <;> (try (exact absurd hc (by decide))) <;> (try (exfalso; omega)))
      | ((first | refine WP.skip ?_ | refine WP.exit ?_); simp only [SeqQ, BlkQ, LoopQ, BodyQ, ↓reduceIte, Nat.reduceEqDiff, reduceCtorEq, look, true_and])
      | (refine WP.ret (Sm.out ?_))
      | (first | refine ExG.no (Sm.out ?_) | refine Or.inl (ExG.no (Sm.out ?_)) | refine Or.inl (And.intro (fun hg => absurd hg (by decide)) (ExG.no (Sm.out ?_))))
      | (refine Rt.mk ?_; refine And.intro ?_ ?_ <;> (intro hg; first | exact absurd hg (by decide) | refine Sm.out ?_))
      | (refine Nu.mk ?_; first | (fail_if_success (have := nb1)); intro nb1 | (fail_if_success (have := nb2)); intro nb2 | (fail_if_success (have := nb3)); intro nb3 | intro nbz)
      | (refine Fr.mk ?_; intro hfr; replace FR := And.intro hfr FR; clear hfr; refine Sm.out ?_)
      | (refine Two.mk ?_ ?_)
      | (refine Cs.mk ?_; intro hcs; first | exact False.elim hcs | (exfalso; omega) | (refine Sm.out ?_))
      | (refine OutQ.all ?_ ?_; (focus (simp only [resv, ZK, look, loadv, loadn, loadnm, load1, load1m, hget, ↓reduceIte, Nat.reduceEqDiff, Nat.reduceAdd, Nat.reduceMul, Nat.reduceLeDiff, Nat.reduceLT, reduceCtorEq, TFWiX, d, z, w, w1, w2, w3, e1, e2, e3, e4, e5, wK, h4, h50, FR])); (try simp only [resv, resA, Fn, ZK, look, loadv, loadn, loadnm, load1, load1m, hget, ↓reduceIte, Nat.reduceEqDiff, Nat.reduceAdd, Nat.reduceMul, Nat.reduceLeDiff, Nat.reduceLT, reduceCtorEq, TFWiX, d, z, w, w1, w2, w3, e1, e2, e3, e4, e5, wK, h4, h50, FR]); (try simp [resA, Fn, look, d, z, w, w1, w2, w3, e1, e2, e3, e4, e5, wK, h4, h50, FR]); done)
      | go_step
      | omega
      | (simp only [maxLen_eq]; omega)
end Go.Proofs.Ytbnkmhlnoaebcaa.Wi
namespace Go.Proofs.Ytbnkmhlnoaebcaa.Wi
open Go
set_option linter.unusedVariables false
set_option linter.unusedSimpArgs false
theorem TFWiY : ((((((type_of% tyc0) ∧ ((type_of% tyc2) ∧ (type_of% zmb2))) ∧ ((type_of% tyc3) ∧ ((type_of% zmb3) ∧ (type_of% tyc4)))) ∧ (((type_of% zmb4) ∧ ((type_of% tyc5) ∧ (type_of% zmb5))) ∧ ((type_of% tyc9) ∧ ((type_of% zmb9) ∧ (type_of% tyc41))))) ∧ ((((type_of% zmb41) ∧ ((type_of% tyc50) ∧ (type_of% elt50))) ∧ ((type_of% mkz50) ∧ ((type_of% apT50) ∧ (type_of% elk50)))) ∧ (((type_of% zmb50) ∧ ((type_of% tyc90) ∧ (type_of% foff90_0))) ∧ ((type_of% fpart90_0) ∧ ((type_of% foff90_1) ∧ (type_of% fpart90_1)))))) ∧ (((((type_of% foff90_2) ∧ ((type_of% fpart90_2) ∧ (type_of% foff90_3))) ∧ ((type_of% fpart90_3) ∧ ((type_of% fe90) ∧ (type_of% zmb90)))) ∧ (((type_of% bldT90) ∧ ((type_of% tyc94) ∧ (type_of% foff94_0))) ∧ ((type_of% fpart94_0) ∧ ((type_of% foff94_1) ∧ (type_of% fpart94_1))))) ∧ ((((type_of% fe94) ∧ ((type_of% zmb94) ∧ (type_of% bldT94))) ∧ ((type_of% Try.underlying0) ∧ ((type_of% Try.underlying2) ∧ (type_of% Try.underlying3)))) ∧ (((type_of% Try.underlying4) ∧ ((type_of% Try.underlying5) ∧ (type_of% Try.underlying9))) ∧ (((type_of% Try.underlying41) ∧ (type_of% Try.underlying50)) ∧ ((type_of% Try.underlying90) ∧ (type_of% Try.underlying94))))))) :=
  ⟨⟨⟨⟨⟨tyc0, ⟨tyc2, zmb2⟩⟩, ⟨tyc3, ⟨zmb3, tyc4⟩⟩⟩, ⟨⟨zmb4, ⟨tyc5, zmb5⟩⟩, ⟨tyc9, ⟨zmb9, tyc41⟩⟩⟩⟩, ⟨⟨⟨zmb41, ⟨tyc50, elt50⟩⟩, ⟨mkz50, ⟨apT50, elk50⟩⟩⟩, ⟨⟨zmb50, ⟨tyc90, foff90_0⟩⟩, ⟨fpart90_0, ⟨foff90_1, fpart90_1⟩⟩⟩⟩⟩, ⟨⟨⟨⟨foff90_2, ⟨fpart90_2, foff90_3⟩⟩, ⟨fpart90_3, ⟨fe90, zmb90⟩⟩⟩, ⟨⟨bldT90, ⟨tyc94, foff94_0⟩⟩, ⟨fpart94_0, ⟨foff94_1, fpart94_1⟩⟩⟩⟩, ⟨⟨⟨fe94, ⟨zmb94, bldT94⟩⟩, ⟨Try.underlying0, ⟨Try.underlying2, Try.underlying3⟩⟩⟩, ⟨⟨Try.underlying4, ⟨Try.underlying5, Try.underlying9⟩⟩, ⟨⟨Try.underlying41, Try.underlying50⟩, ⟨Try.underlying90, Try.underlying94⟩⟩⟩⟩⟩⟩
def Post3 (zl : Nat) (o : Option (AV × List Int)) (r : AV) (F' : Hp) : Prop :=
  match o with
  | none => Bad3 r F'
  | some (g, rest) => r = .tup [g, iv .i64 ((zl - rest.length : Nat) : Int), bv true] ∧ F' = []
theorem bad3_mk {zl : Nat} {n i y : Int} {st : ByteArray} {fl f : Bool} (h : f = false) : Post3 zl none (.tup [.agg [iv .u64 n, iv .i64 i, .lit (.string st), bv fl], iv .i64 y, bv f]) [] := ⟨(n, i, st, fl, y), by rw [h], rfl⟩
theorem good3_mk {zl : Nat} {g g' : AV} {nx : Int} {f : Bool} {rest : List Int} (hg : g' = g) (h1 : nx = ((zl - rest.length : Nat) : Int)) (h2 : f = true) : Post3 zl (some (g, rest)) (.tup [g', iv .i64 nx, bv f]) [] := by
  subst hg h1 h2; exact ⟨rfl, rfl⟩
/-- what a kind makes of a number -/
def tailF (kind most : Int) (ng : Bool) (N : Nat) (r : List Int) : Option (AV × List Int) :=
  if kind = 1 then (if ng then (if N = 0 ∨ 9223372036854775808 < N then none else some (.agg [nu 0, iv .i64 (-(N : Int)), eS, bv false], r)) else if 9223372036854775807 < N then none else some (.agg [nu 0, iv .i64 (N : Int), eS, bv false], r))
  else if kind = 0 then some (.agg [nu N, iv .i64 0, eS, bv false], r)
  else if most < 0 ∨ most < (N : Int) then none
  else if kind = 4 then some (.agg [nu N, iv .i64 0, eS, bv false], r)
  else if r.length < N then none else some (.agg [nu 0, iv .i64 0, .lit (.string (bstr (r.take N))), bv false], r.drop N)
set_option maxRecDepth 8000 in
set_option maxHeartbeats 8000000 in
theorem refG_goodT (Z t : List Int) (at_ m KK : Nat) (kind most : Int) (h : Z.drop at_ = (m : Int) :: t) (hb : By t) (hz : Z.length ≤ 2000) (h3 : kind ≠ 3) (hm : m < 256) (hH : HeadK kind m KK true)
    (hk : KK ≤ 8 ∧ KK ≤ t.length ∧ (KK = 0 ∨ t.getD 0 0 ≠ 0)) (hm1 : -9223372036854775808 ≤ most) (hm2 : most ≤ 9223372036854775807) :
    ACt Try.prog 51 [.slz .u8 Z, iv .i64 (at_ : Int), .agg [iv .i64 kind, iv .i64 most]] [] (Post3 Z.length (tailF kind most true (valL (t.take KK)) (t.drop KK))) := by
  obtain ⟨h1, h2, h3', h4, h5⟩ := drop_facts h
  have h50 := h5 0
  rw [Nat.add_zero] at h50
  obtain ⟨N, hN⟩ : ∃ N, N = valL (t.take KK) := ⟨_, rfl⟩
  obtain ⟨r, hr⟩ : ∃ r, r = t.drop KK := ⟨_, rfl⟩
  have hrl : r.length = t.length - KK := by rw [hr]; simp
  have hlt : ∀ j, j ≤ KK → valL (t.take j) < 256 ^ j := fun j hj => by
    have := valL_lt (hb.take j)
    rwa [show (t.take j).length = j by simp; omega] at this
  have hNlt : N < 18446744073709551616 := by
    have := hlt KK (Nat.le_refl _)
    have h8 : (256 : Nat) ^ KK ≤ 256 ^ 8 := Nat.pow_le_pow_right (by omega) hk.1
    omega
  have hZr : Z.drop (at_ + 1 + KK) = r := by rw [hr, h2, List.drop_drop]
  rw [← hN, ← hr]
  have hT := tailF kind most true N r
  refine ACt.intro Try.func51 rfl (by kernel_rfl) (by simp [Try.ntmps51]) (fun cx => ?_)
  simp only [argE, Try.ntmps51, Try.results51]
  have d : decide ((at_ : Int) ≥ (Z.length : Int)) = false := by simp; omega
  have z : (kind == 3) = false := beq_eq_false_iff_ne.2 h3
  have w : IntKind.i64.wrap ((at_ : Int) + 1) = ((at_ + 1 : Nat) : Int) := by rw [wrap_i64 (by omega) (by omega)]; omega
  have w1 : IntKind.i64.wrap (m : Int) = (m : Int) := wrap_i64_nat (by omega)
  have w2 : IntKind.i64.wrap ((Z.length : Int) - at_) = ((t.length + 1 : Nat) : Int) := by rw [wrap_i64 (by omega) (by omega)]; omega
  have w3 : IntKind.i64.wrap (((t.length + 1 : Nat) : Int) - 1) = (t.length : Int) := by rw [wrap_i64 (by omega) (by omega)]; omega
  have e1 : (m : Int).tdiv 16 = ((m / 16 : Nat) : Int) := by rw [Int.tdiv_eq_ediv_of_nonneg (by omega)]; simp
  have e2 : IntKind.i64.wrap ((m / 16 : Nat) : Int) = ((m / 16 : Nat) : Int) := wrap_i64_nat (by omega)
  have e3 : ((m / 16 : Nat) : Int).tmod 2 = ((m / 16 % 2 : Nat) : Int) := by rw [Int.tmod_eq_emod_of_nonneg (by omega)]; simp
  have e4 : IntKind.i64.wrap ((m / 16 % 2 : Nat) : Int) = ((m / 16 % 2 : Nat) : Int) := wrap_i64_nat (by omega)
  have g1 : decide ((KK : Int) > 8) = false := by simp; omega
  have g2 : decide ((KK : Int) > (t.length : Int)) = false := by simp; omega
  have hH2 : kind = 1 ∧ m / 16 % 2 = 1 ∧ KK = m - 16 := by
    rcases hH with ⟨_, _, p3⟩ | ⟨_, _, _, p3⟩ | ⟨p1, p0, p2, _⟩
    · cases p3
    · cases p3
    · exact ⟨p1, p0, p2⟩
  obtain ⟨p1, p0, p2⟩ := hH2
  have f1 : (kind == 1) = true := by rw [p1]; rfl
  have f2 : (((m / 16 % 2 : Nat) : Int) == 1) = true := by rw [p0]; rfl
  have k0 : (kind == 0) = false := by rw [p1]; rfl
  have wK : IntKind.i64.wrap ((m : Int) - 16) = (KK : Int) := by rw [wrap_i64 (by omega) (by omega)]; omega
  clear hH
  first | (have FRx := FR; clear FRx) | (have FR : ¬ ((1 : Nat) = 0) := Nat.one_ne_zero)
  repeat' first
    | (refine Sm.mk ?_; try simp -dsimp only [ZK, rvc, drawF, headN, pureH, stp, dvc, calleeOf, gcall, pev, eff, newB, okd, og, ogs, ogo, ogp, slv, bltv, opd, litv, strip, one, both, putE, St.put, look, gdOf, gdv, picka, pickv, pickw, binv, bini, bins, binb, binp, bina, shp, eqCells, unv, convv, nilv, faddv, addp, idxav, idxp, load1, load1m, loadn, loadnm, loadv, hget, hset, hrep, hdel, slicev, bnd, shift1, lenv, IntKind.bits, extractv, fieldv, indexv, min2v, max2v, mkiv, cellsA, fillA, buildv, stC, oneC, rowMB, intsA, plN, appE, appZ, appC, appNZ, appNC, VwL, srcC, srcZ, srcM, isBoolT, isPtrT, isSliceT, uOk, Value.oneCell', Nat.reducePow, Int.reducePow, Nat.reduceAdd, Nat.reduceMul, Nat.reduceSub, Nat.reduceLT, Nat.reduceLeDiff, Nat.reduceEqDiff, Nat.reduceBEq, Nat.reduceDiv, Nat.reduceMod, ↓reduceIte, reduceCtorEq, Int.reduceToNat, Int.reduceLT, Int.reduceLE, drawSF, hdel, TFWiY, SeqQ, BlkQ, LoopQ, BodyQ, d, z, w, w1, w2, w3, e1, e2, e3, e4, f1, f2, wK, h4, h50, g1, g2, FR])
    | (refine WP.seq fun K hK => ?_)
    | (refine WP.region (rvc_sound _ _ (Sm.out ?_)))
    | (refine WP.drawS (is := 13) (k := 16) mixed (by decide +kernel) (by decide +kernel) (Sm.out ?_))
    | (refine WP.drawK rfl mixed (by decide +kernel) (Sm.out ?_))
    | (refine Ob.mk ?_; focus (first | assumption | omega | decide | trivial | (intro hob; simp only [hob, ZF]; done) | (intros; (repeat' refine And.intro ?_ ?_) <;> first | assumption | omega | trivial | decide) | (intros; simp only [ZE] at *; (repeat' refine And.intro ?_ ?_) <;> first | assumption | omega | trivial)))
    | (refine And.intro (Ob.out ?_) ?_)
    | (refine WP.block ?_)
    | (refine WP.cond rfl (fun hc => ?_) (fun hc => ?_) <;> (try simp only [ZC, reduceCtorEq, ZD] at hc) <;> (try (exact absurd hc (by decide))) <;> (try (exfalso; omega)))
    | ((first | refine WP.skip ?_ | refine WP.exit ?_); simp only [SeqQ, BlkQ, LoopQ, BodyQ, ↓reduceIte, Nat.reduceEqDiff, reduceCtorEq, look, true_and])
    | (refine WP.ret (Sm.out ?_))
    | (first | refine ExG.no (Sm.out ?_) | refine Or.inl (ExG.no (Sm.out ?_)) | refine Or.inl (And.intro (fun hg => absurd hg (by decide)) (ExG.no (Sm.out ?_))))
    | (refine Rt.mk ?_; refine And.intro ?_ ?_ <;> (intro hg; first | exact absurd hg (by decide) | refine Sm.out ?_))
    | (refine Nu.mk ?_; first | (fail_if_success (have := nb1)); intro nb1 | (fail_if_success (have := nb2)); intro nb2 | (fail_if_success (have := nb3)); intro nb3 | intro nbz)
    | (refine Fr.mk ?_; intro hfr; replace FR := And.intro hfr FR; clear hfr; refine Sm.out ?_)
    | (refine Two.mk ?_ ?_)
    | (refine Cs.mk ?_; intro hcs; first | exact False.elim hcs | (exfalso; omega) | (refine Sm.out ?_))
    | go_step
    | omega
    | (simp only [maxLen_eq]; omega)
  clear g1 g2 e1 e2 e3 e4 w2 w3
  refine WP.loop (Γ := GG) (fun g => ⟨[(13, iv .i64 g.j), (10, iv .i64 KK), (12, nu (valL (t.take g.j))), (0, .slz .u8 Z), (1, iv .i64 at_), (11, bv true), (5, pt nb1 0), (6, pt nb2 0), (9, pt nb3 0)],
    [(nb1, .cells [iv .i64 kind, iv .i64 most] 2 94), (nb2, .cells [iv .u64 0, iv .i64 0, eS, bv false] 4 90), (nb3, .cells [iv .u64 0, iv .i64 0, eS, bv false] 4 90)]⟩) (fun g => g.j ≤ KK) (fun g => KK - g.j) ⟨0⟩ (by simp) (Sub.pick (by simp [pickB, hget, hdel, FR, valL]) (by simp [look, valL])) ?_
  intro ⟨j⟩ hj
  simp only at hj ⊢
  (refine WP.nd fun hnd => ?_; simp only [ndF, fresh_cons, fresh_nil, and_true, ne_eq] at hnd; replace FR := And.intro hnd FR; clear hnd)
  by_cases hjk : j < KK
  · have k1 : decide ((j : Int) < KK) = true := by simp; omega
    obtain ⟨c, hc0⟩ : ∃ c : Nat, t.getD j 0 = (c : Int) ∧ c ≤ 255 := by
      have hjt : j < t.length := by omega
      have := hb (t.getD j 0) (by rw [List.getD_eq_getElem?_getD, List.getElem?_eq_getElem hjt, Option.getD_some]; exact List.getElem_mem hjt)
      obtain ⟨c, hc⟩ := Int.eq_ofNat_of_zero_le this.1
      exact ⟨c, hc, by omega⟩
    have vj := valL_take (l := t) (i := j) (by omega)
    rw [hc0.1, Int.toNat_natCast] at vj
    have hv1 := hlt j (by omega)
    have h8 : (256 : Nat) ^ j ≤ 256 ^ 7 := Nat.pow_le_pow_right (by omega) (by omega)
    obtain ⟨V, hV⟩ : ∃ V, V = valL (t.take j) := ⟨_, rfl⟩
    rw [← hV] at vj hv1 ⊢
    have a1 : IntKind.u64.wrap (256 * (V : Int)) = ((256 * V : Nat) : Int) := by rw [show 256 * (V : Int) = ((256 * V : Nat) : Int) by simp, wrap_u64_nat (by omega)]
    have a2 : IntKind.i64.wrap (((at_ + 1 : Nat) : Int) + (j : Int)) = ((at_ + 1 + j : Nat) : Int) := by rw [wrap_i64 (by omega) (by omega)]; omega
    have a3 : Z.getD (at_ + 1 + j) 0 = (c : Int) := by rw [h5, hc0.1]
    have a4 : IntKind.u64.wrap (c : Int) = (c : Int) := wrap_u64_nat (by omega)
    have a5 : IntKind.u64.wrap (((256 * V : Nat) : Int) + (c : Int)) = ((V * 256 + c : Nat) : Int) := by rw [wrap_u64 (by omega) (by omega)]; omega
    have a6 : IntKind.i64.wrap ((j : Int) + 1) = ((j + 1 : Nat) : Int) := by rw [wrap_i64 (by omega) (by omega)]; omega
    first | (have FRx := FR; clear FRx) | (have FR : ¬ ((1 : Nat) = 0) := Nat.one_ne_zero)
    repeat' first
      | (refine Sm.mk ?_; try simp -dsimp only [ZK, rvc, drawF, headN, pureH, stp, dvc, calleeOf, gcall, pev, eff, newB, okd, og, ogs, ogo, ogp, slv, bltv, opd, litv, strip, one, both, putE, St.put, look, gdOf, gdv, picka, pickv, pickw, binv, bini, bins, binb, binp, bina, shp, eqCells, unv, convv, nilv, faddv, addp, idxav, idxp, load1, load1m, loadn, loadnm, loadv, hget, hset, hrep, hdel, slicev, bnd, shift1, lenv, IntKind.bits, extractv, fieldv, indexv, min2v, max2v, mkiv, cellsA, fillA, buildv, stC, oneC, rowMB, intsA, plN, appE, appZ, appC, appNZ, appNC, VwL, srcC, srcZ, srcM, isBoolT, isPtrT, isSliceT, uOk, Value.oneCell', Nat.reducePow, Int.reducePow, Nat.reduceAdd, Nat.reduceMul, Nat.reduceSub, Nat.reduceLT, Nat.reduceLeDiff, Nat.reduceEqDiff, Nat.reduceBEq, Nat.reduceDiv, Nat.reduceMod, ↓reduceIte, reduceCtorEq, Int.reduceToNat, Int.reduceLT, Int.reduceLE, drawSF, hdel, TFWiY, SeqQ, BlkQ, LoopQ, BodyQ, k1, w, a1, a2, a3, a4, a5, a6, FR])
      | (refine WP.seq fun K hK => ?_)
      | (refine WP.region (rvc_sound _ _ (Sm.out ?_)))
      | (refine WP.drawS (is := 13) (k := 16) mixed (by decide +kernel) (by decide +kernel) (Sm.out ?_))
      | (refine WP.drawK rfl mixed (by decide +kernel) (Sm.out ?_))
      | (refine Ob.mk ?_; focus (first | assumption | omega | decide | trivial | (intro hob; simp only [hob, ZF]; done) | (intros; (repeat' refine And.intro ?_ ?_) <;> first | assumption | omega | trivial | decide) | (intros; simp only [ZE] at *; (repeat' refine And.intro ?_ ?_) <;> first | assumption | omega | trivial)))
      | (refine And.intro (Ob.out ?_) ?_)
      | (refine WP.block ?_)
      | (refine WP.cond rfl (fun hc => ?_) (fun hc => ?_) <;> (try simp only [ZC, reduceCtorEq, ZD] at hc) <;> (try (exact absurd hc (by decide))) <;> (try (exfalso; omega)))
      | ((first | refine WP.skip ?_ | refine WP.exit ?_); simp only [SeqQ, BlkQ, LoopQ, BodyQ, ↓reduceIte, Nat.reduceEqDiff, reduceCtorEq, look, true_and])
      | (refine WP.ret (Sm.out ?_))
      | (first | refine ExG.no (Sm.out ?_) | refine Or.inl (ExG.no (Sm.out ?_)) | refine Or.inl (And.intro (fun hg => absurd hg (by decide)) (ExG.no (Sm.out ?_))))
      | (refine Rt.mk ?_; refine And.intro ?_ ?_ <;> (intro hg; first | exact absurd hg (by decide) | refine Sm.out ?_))
      | (refine Nu.mk ?_; first | (fail_if_success (have := nb1)); intro nb1 | (fail_if_success (have := nb2)); intro nb2 | (fail_if_success (have := nb3)); intro nb3 | intro nbz)
      | (refine Fr.mk ?_; intro hfr; replace FR := And.intro hfr FR; clear hfr; refine Sm.out ?_)
      | (refine Two.mk ?_ ?_)
      | (refine Cs.mk ?_; intro hcs; first | exact False.elim hcs | (exfalso; omega) | (refine Sm.out ?_))
      | go_step
      | omega
      | (simp only [maxLen_eq]; omega)
    exact ⟨⟨j + 1⟩, by simp only; omega, by simp only; omega, (Sub.pick (by simp [pickB, hget, hdel, FR, vj]) (by simp [look, vj]))⟩
  · have k1 : decide ((j : Int) < KK) = false := by simp; omega
    obtain rfl : j = KK := by omega
    have wn : IntKind.i64.wrap (((at_ + 1 : Nat) : Int) + (j : Int)) = ((at_ + 1 + j : Nat) : Int) := by rw [wrap_i64 (by omega) (by omega)]; omega
    have wl : IntKind.i64.wrap ((Z.length : Int) - ((at_ + 1 + j : Nat) : Int)) = (r.length : Int) := by rw [wrap_i64 (by omega) (by omega)]; omega
    have wr : IntKind.u64.wrap (r.length : Int) = (r.length : Int) := wrap_u64_nat (by omega)
    have hN' := hN.symm
    have hneg : N ≤ 9223372036854775808 → IntKind.i64.wrap (IntKind.u64.wrap (0 - (N : Int))) = -(N : Int) := fun hN9 => by
      rw [wrap_u64_mod]; simp only [IntKind.wrap, IntKind.bits, IntKind.signed]; simp; omega
    first | (have FRx := FR; clear FRx) | (have FR : ¬ ((1 : Nat) = 0) := Nat.one_ne_zero)
    repeat' first
      | (refine Sm.mk ?_; try simp -dsimp only [ZK, rvc, drawF, headN, pureH, stp, dvc, calleeOf, gcall, pev, eff, newB, okd, og, ogs, ogo, ogp, slv, bltv, opd, litv, strip, one, both, putE, St.put, look, gdOf, gdv, picka, pickv, pickw, binv, bini, bins, binb, binp, bina, shp, eqCells, unv, convv, nilv, faddv, addp, idxav, idxp, load1, load1m, loadn, loadnm, loadv, hget, hset, hrep, hdel, slicev, bnd, shift1, lenv, IntKind.bits, extractv, fieldv, indexv, min2v, max2v, mkiv, cellsA, fillA, buildv, stC, oneC, rowMB, intsA, plN, appE, appZ, appC, appNZ, appNC, VwL, srcC, srcZ, srcM, isBoolT, isPtrT, isSliceT, uOk, Value.oneCell', Nat.reducePow, Int.reducePow, Nat.reduceAdd, Nat.reduceMul, Nat.reduceSub, Nat.reduceLT, Nat.reduceLeDiff, Nat.reduceEqDiff, Nat.reduceBEq, Nat.reduceDiv, Nat.reduceMod, ↓reduceIte, reduceCtorEq, Int.reduceToNat, Int.reduceLT, Int.reduceLE, drawSF, hdel, TFWiY, SeqQ, BlkQ, LoopQ, BodyQ, k1, w, wn, wl, wr, hN', k0, f1, FR])
      | (refine WP.seq fun K hK => ?_)
      | (refine WP.region (rvc_sound _ _ (Sm.out ?_)))
      | (refine WP.drawS (is := 13) (k := 16) mixed (by decide +kernel) (by decide +kernel) (Sm.out ?_))
      | (refine WP.drawK rfl mixed (by decide +kernel) (Sm.out ?_))
      | (refine Ob.mk ?_; focus (first | assumption | omega | decide | trivial | (intro hob; simp only [hob, ZF]; done) | (intros; (repeat' refine And.intro ?_ ?_) <;> first | assumption | omega | trivial | decide) | (intros; simp only [ZE] at *; (repeat' refine And.intro ?_ ?_) <;> first | assumption | omega | trivial)))
      | (refine And.intro (Ob.out ?_) ?_)
      | (refine WP.block ?_)
      | (refine WP.cond rfl (fun hc => ?_) (fun hc => ?_) <;> (try simp only [ZC, reduceCtorEq, ZD] at hc) <;> (try (exact absurd hc (by decide))) <;> (try (exfalso; omega)))
      | ((first | refine WP.skip ?_ | refine WP.exit ?_); simp only [SeqQ, BlkQ, LoopQ, BodyQ, ↓reduceIte, Nat.reduceEqDiff, reduceCtorEq, look, true_and])
      | (refine WP.ret (Sm.out ?_))
      | (first | refine ExG.no (Sm.out ?_) | refine Or.inl (ExG.no (Sm.out ?_)) | refine Or.inl (And.intro (fun hg => absurd hg (by decide)) (ExG.no (Sm.out ?_))))
      | (refine Rt.mk ?_; refine And.intro ?_ ?_ <;> (intro hg; first | exact absurd hg (by decide) | refine Sm.out ?_))
      | (refine Nu.mk ?_; first | (fail_if_success (have := nb1)); intro nb1 | (fail_if_success (have := nb2)); intro nb2 | (fail_if_success (have := nb3)); intro nb3 | intro nbz)
      | (refine Fr.mk ?_; intro hfr; replace FR := And.intro hfr FR; clear hfr; refine Sm.out ?_)
      | (refine Two.mk ?_ ?_)
      | (refine Cs.mk ?_; intro hcs; first | exact False.elim hcs | (exfalso; omega) | (refine Sm.out ?_))
      | go_step
      | omega
      | (simp only [maxLen_eq]; omega)
    all_goals clear h5 hlt
    all_goals (refine OutQ.all ?_ ?_; (focus (simp only [resv, ZK, look, loadv, loadn, loadnm, load1, load1m, hget, ↓reduceIte, Nat.reduceEqDiff, Nat.reduceAdd, Nat.reduceMul, Nat.reduceLeDiff, Nat.reduceLT, reduceCtorEq, TFWiY, FR])); (simp only [resv, resA, ZK, look, loadv, loadn, loadnm, load1, load1m, hget, ↓reduceIte, Nat.reduceEqDiff, Nat.reduceAdd, Nat.reduceMul, Nat.reduceLeDiff, Nat.reduceLT, reduceCtorEq, TFWiY, FR]))
    all_goals (unfold tailF; (repeat' split) <;> first | (exfalso; omega) | (exact absurd (show true = true from rfl) (by assumption)) | (exact absurd (show false = true by assumption) (by decide)) | exact bad3_mk (by first | rfl | (simp; omega)) | exact good3_mk rfl (by first | omega | (simp only [List.length_drop]; omega)) (by first | rfl | (simp; omega)) | exact good3_mk (by first | (rw [wrap_i64 (by omega) (by omega)]; done) | (rw [wrap_i64 (by omega) (by omega)]; rfl)) (by omega) (by first | rfl | (simp; omega)) | exact good3_mk (by first | (rw [hneg (by omega)]; done) | (rw [hneg (by omega)]; rfl)) (by omega) (by first | rfl | (simp; omega)) | trace_state)
end Go.Proofs.Ytbnkmhlnoaebcaa.Wi
