/-
  The walks and the laws that the statement leans on, part 7.
-/
import Derived.Test.YtndpkahhmgnhpaaDoorZ6
namespace Go.Proofs.YtndpkahhmgnhpaaDoor
open Go
set_option linter.unusedVariables false
set_option linter.unusedSimpArgs false
theorem TFStD : ((((((type_of% tyc0) ∧ (type_of% tyc3)) ∧ ((type_of% zmb3) ∧ ((type_of% tyc4) ∧ (type_of% zmb4)))) ∧ (((type_of% tyc5) ∧ ((type_of% zmb5) ∧ (type_of% tyc9))) ∧ ((type_of% zmb9) ∧ ((type_of% tyc21) ∧ (type_of% zmb21))))) ∧ ((((type_of% tyc23) ∧ (type_of% foff23_0)) ∧ ((type_of% fpart23_0) ∧ ((type_of% foff23_1) ∧ (type_of% fpart23_1)))) ∧ (((type_of% foff23_2) ∧ ((type_of% fpart23_2) ∧ (type_of% fe23))) ∧ ((type_of% zmb23) ∧ ((type_of% bldT23) ∧ (type_of% tyc26)))))) ∧ (((((type_of% zmb26) ∧ (type_of% tyc34)) ∧ ((type_of% elt34) ∧ ((type_of% zmb34) ∧ (type_of% bldT34)))) ∧ (((type_of% tyc35) ∧ ((type_of% elt35) ∧ (type_of% mkz35))) ∧ ((type_of% apT35) ∧ ((type_of% elk35) ∧ (type_of% zmb35))))) ∧ ((((type_of% arr134) ∧ (type_of% Tryd.underlying0)) ∧ ((type_of% Tryd.underlying3) ∧ ((type_of% Tryd.underlying4) ∧ (type_of% Tryd.underlying5)))) ∧ (((type_of% Tryd.underlying9) ∧ ((type_of% Tryd.underlying21) ∧ (type_of% Tryd.underlying23))) ∧ ((type_of% Tryd.underlying26) ∧ ((type_of% Tryd.underlying34) ∧ (type_of% Tryd.underlying35))))))) :=
  ⟨⟨⟨⟨⟨tyc0, tyc3⟩, ⟨zmb3, ⟨tyc4, zmb4⟩⟩⟩, ⟨⟨tyc5, ⟨zmb5, tyc9⟩⟩, ⟨zmb9, ⟨tyc21, zmb21⟩⟩⟩⟩, ⟨⟨⟨tyc23, foff23_0⟩, ⟨fpart23_0, ⟨foff23_1, fpart23_1⟩⟩⟩, ⟨⟨foff23_2, ⟨fpart23_2, fe23⟩⟩, ⟨zmb23, ⟨bldT23, tyc26⟩⟩⟩⟩⟩, ⟨⟨⟨⟨zmb26, tyc34⟩, ⟨elt34, ⟨zmb34, bldT34⟩⟩⟩, ⟨⟨tyc35, ⟨elt35, mkz35⟩⟩, ⟨apT35, ⟨elk35, zmb35⟩⟩⟩⟩, ⟨⟨⟨arr134, Tryd.underlying0⟩, ⟨Tryd.underlying3, ⟨Tryd.underlying4, Tryd.underlying5⟩⟩⟩, ⟨⟨Tryd.underlying9, ⟨Tryd.underlying21, Tryd.underlying23⟩⟩, ⟨Tryd.underlying26, ⟨Tryd.underlying34, Tryd.underlying35⟩⟩⟩⟩⟩⟩
theorem wrap_i32 {n : Int} (h1 : -2147483648 ≤ n) (h2 : n ≤ 2147483647) : IntKind.i32.wrap n = n := by
  simp only [IntKind.wrap, IntKind.bits, IntKind.signed]
  simp
  omega
theorem dec_any {zs : List Int} (hb : By zs) {i : Nat} (h : i < zs.length) : ∃ n w, Utf8.decode (bstr zs) i = (n, w) ∧ ((w = 1 ∧ zs.getD i 0 = (n : Int) ∧ n < 128) ∨ (128 ≤ n ∧ 128 ≤ zs.getD i 0)) := by
  by_cases hc : zs.getD i 0 < 128
  · have := (hb i h).1
    exact ⟨_, _, dec_lo hb h hc, .inl ⟨rfl, by omega, by omega⟩⟩
  · have := dec_hi hb h hc
    exact ⟨_, _, rfl, .inr ⟨this.1, by omega⟩⟩
/-- the number that k digits say -/
def valR (zs : List Int) (lo : Nat) : Nat → Int
  | 0 => 0
  | k + 1 => 10 * valR zs lo k + (zs.getD (lo + k) 0 - 48)
def okc (zs : List Int) (j : Nat) : Prop := if j = 4 ∨ j = 7 then zs.getD j 0 = 45 else 48 ≤ zs.getD j 0 ∧ zs.getD j 0 ≤ 57
instance (zs : List Int) (j : Nat) : Decidable (okc zs j) := by unfold okc; infer_instance
def dshp (zs : List Int) : Prop := zs.length = 10 ∧ ∀ j, j < 10 → okc zs j
instance (zs : List Int) : Decidable (dshp zs) := by unfold dshp; infer_instance
def yL (zs : List Int) : Int := valR zs 0 4
def mL (zs : List Int) : Int := valR zs 5 2
def dL (zs : List Int) : Int := valR zs 8 2
abbrev bad (c : Int) : AV := .tup [.agg [iv .i64 0, iv .i64 0, iv .i64 0], iv .i64 c]
def rdA (zs : List Int) : AV := if dshp zs then (if rightI (yL zs) (mL zs) (dL zs) = true then .tup [.agg [iv .i64 (yL zs), iv .i64 (mL zs), iv .i64 (dL zs)], iv .i64 0] else bad 8) else bad 5
theorem rd_shp {zs : List Int} (h : dshp zs) (hr : rightI (yL zs) (mL zs) (dL zs) = true) : rdA zs = .tup [.agg [iv .i64 (yL zs), iv .i64 (mL zs), iv .i64 (dL zs)], iv .i64 0] := by unfold rdA; rw [if_pos h, if_pos hr]
theorem rd_wrong {zs : List Int} (h : dshp zs) (hr : rightI (yL zs) (mL zs) (dL zs) = false) : rdA zs = bad 8 := by unfold rdA; rw [if_pos h, if_neg (by simp [hr])]
theorem rd_bad {zs : List Int} (h : ¬ dshp zs) : rdA zs = bad 5 := by unfold rdA; rw [if_neg h]
theorem valR_bd {zs : List Int} {lo : Nat} : ∀ {k : Nat}, (∀ j, j < k → 48 ≤ zs.getD (lo + j) 0 ∧ zs.getD (lo + j) 0 ≤ 57) → 0 ≤ valR zs lo k ∧ valR zs lo k < (10 : Int) ^ k := by
  intro k
  induction k with
  | zero => intro _; exact ⟨Int.le_refl _, by simp [valR]⟩
  | succ k ih =>
    intro h
    obtain ⟨h1, h2⟩ := ih fun j hj => h j (by omega)
    have := h k (by omega)
    unfold valR
    rw [Int.pow_succ]
    omega
theorem pow4 {w : Nat} (h : w ≤ 4) : (10 : Int) ^ w ≤ 10000 := by
  rcases (by omega : w = 0 ∨ w = 1 ∨ w = 2 ∨ w = 3 ∨ w = 4) with rfl | rfl | rfl | rfl | rfl <;> decide
theorem valR_succ (zs : List Int) (lo k : Nat) : valR zs lo (k + 1) = 10 * valR zs lo k + (zs.getD (lo + k) 0 - 48) := rfl
def offp (p : Nat) : Nat := if p = 0 then 0 else if p = 1 then 5 else 8
def aA (zs : List Int) (p w : Nat) : List Int := if p = 0 then [valR zs 0 w, 0, 0] else if p = 1 then [valR zs 0 4, valR zs 5 w, 0] else [valR zs 0 4, valR zs 5 2, valR zs 8 w]
theorem aA0 (zs : List Int) (w : Nat) : aA zs 0 w = [valR zs 0 w, 0, 0] := rfl
theorem aA1 (zs : List Int) (w : Nat) : aA zs 1 w = [valR zs 0 4, valR zs 5 w, 0] := rfl
theorem aA2 (zs : List Int) (w : Nat) : aA zs 2 w = [valR zs 0 4, valR zs 5 2, valR zs 8 w] := rfl
theorem valR0 (zs : List Int) (lo : Nat) : valR zs lo 0 = 0 := rfl
structure PW where
  p : Nat
  w : Nat
def PWok (zs : List Int) (g : PW) : Prop := ((g.p = 0 ∧ g.w ≤ 4) ∨ (g.p = 1 ∧ g.w ≤ 2) ∨ (g.p = 2 ∧ g.w ≤ 2)) ∧ offp g.p + g.w ≤ zs.length ∧ ∀ j, j < offp g.p + g.w → okc zs j
theorem okc_dig {zs : List Int} {j : Nat} (h : okc zs j) (h4 : j ≠ 4) (h7 : j ≠ 7) : 48 ≤ zs.getD j 0 ∧ zs.getD j 0 ≤ 57 := by
  unfold okc at h; rw [if_neg (by omega)] at h; exact h
theorem okc_dash {zs : List Int} {j : Nat} (h : okc zs j) (h4 : j = 4 ∨ j = 7) : zs.getD j 0 = 45 := by
  unfold okc at h; rw [if_pos h4] at h; exact h
theorem okc_mk {zs : List Int} {j : Nat} (h4 : ¬ (j = 4 ∨ j = 7)) (h : 48 ≤ zs.getD j 0 ∧ zs.getD j 0 ≤ 57) : okc zs j := by
  unfold okc; rw [if_neg h4]; exact h
theorem okc_mkd {zs : List Int} {j : Nat} (h4 : j = 4 ∨ j = 7) (h : zs.getD j 0 = 45) : okc zs j := by
  unfold okc; rw [if_pos h4]; exact h
set_option maxHeartbeats 8000000 in
theorem read_ct (zs : List Int) (hb : By zs) (hl : zs.length ≤ 100) : ACt Tryd.prog 6 [stz zs] [] (Fn (rdA zs)) := by
  refine ACt.intro Tryd.func6 rfl (by kernel_rfl) (by simp [Tryd.ntmps6]) (fun cx => ?_)
  simp only [argE, Tryd.ntmps6, Tryd.results6]
  have hs := bstr_size zs
  obtain ⟨B, hB⟩ : ∃ B, B = bstr zs := ⟨_, rfl⟩
  unfold stz
  rw [← hB] at hs ⊢
  first | (have FRx := FR; clear FRx) | (have FR : Sm (¬ ((1 : Nat) = 0)) := Sm.mk Nat.one_ne_zero)
  repeat' first
    | (refine Sm.mk ?_; try simp -dsimp only [ZK, rvc, drawF, headN, pureH, stp, dvc, calleeOf, gcall, pev, eff, newB, okd, og, ogs, ogo, ogp, slv, bltv, opd, litv, strip, one, both, putE, St.put, look, gdOf, gdv, picka, pickv, pickw, binv, bini, bins, binb, binp, binq, isSlT, bina, shp, eqCells, unv, convv, nilv, faddv, addp, idxav, idxp, load1, load1m, loadn, loadnm, loadv, hget, hset, hrep, hdel, slicev, bnd, shift1, lenv, capv, IntKind.bits, extractv, fieldv, indexv, min2v, max2v, mkiv, cellsA, fillA, buildv, stC, oneC, rowMB, intsA, plN, appE, appZ, appC, appNZ, appNC, VwL, srcC, srcZ, srcM, isBoolT, isPtrT, isSliceT, uOk, Value.oneCell', Nat.reducePow, Int.reducePow, Nat.reduceAdd, Nat.reduceMul, Nat.reduceSub, Nat.reduceLT, Nat.reduceLeDiff, Nat.reduceEqDiff, Nat.reduceBEq, Nat.reduceDiv, Nat.reduceMod, ↓reduceIte, reduceCtorEq, Int.reduceToNat, Int.reduceLT, Int.reduceLE, TFStD, SeqQ, BlkQ, LoopQ, BodyQ, FR.out])
    | (refine WP.seq fun K hK => ?_)
    | (refine WP.region (rvc_sound _ _ (Sm.out ?_)))
    | (refine WP.drawP (ia := 10) (is := 11) (k := 12) mixed (by decide +kernel) (by decide +kernel) (Sm.out ?_))
    | (refine WP.drawK rfl mixed (by decide +kernel) (Sm.out ?_))
    | (refine Ob.mk ?_; focus (first | assumption | omega | decide | trivial | (intro hob; simp only [hob, ZF]; done) | (intros; (repeat' refine And.intro ?_ ?_) <;> first | assumption | omega | trivial | decide) | (intros; simp only [ZE] at *; (repeat' refine And.intro ?_ ?_) <;> first | assumption | omega | trivial)))
    | (refine And.intro (Ob.out ?_) ?_)
    | (refine WP.block ?_)
    | (refine WP.cond rfl (fun hc => ?_) (fun hc => ?_) <;> (try simp only [ZC, reduceCtorEq, ZD] at hc) <;> (try (exact absurd hc (by decide))) <;> (try (exfalso; omega)))
    | ((first | refine WP.skip ?_ | refine WP.exit ?_); simp only [SeqQ, BlkQ, LoopQ, BodyQ, ↓reduceIte, Nat.reduceEqDiff, reduceCtorEq, look, true_and])
    | (refine WP.ret (Sm.out ?_))
    | (first | refine ExG.no (Sm.out ?_) | refine Or.inl (ExG.no (Sm.out ?_)) | refine Or.inl (And.intro (fun hg => absurd hg (by decide)) (ExG.no (Sm.out ?_))))
    | (refine Rt.mk ?_; refine And.intro ?_ ?_ <;> (intro hg; first | exact absurd hg (by decide) | refine Sm.out ?_))
    | (refine Nu.mk ?_; first | (fail_if_success (have := nb1)); intro nb1 | (fail_if_success (have := nb2)); intro nb2 | (fail_if_success (have := nb3)); intro nb3 | (fail_if_success (have := nb4)); intro nb4 | (fail_if_success (have := nb5)); intro nb5 | (fail_if_success (have := nb6)); intro nb6 | intro nbz)
    | (refine Fr.mk ?_; intro hfr; (first | (have hFRb : _ ≤ _ ∧ _ ≤ _ := And.intro hfr.1 hfr.2.1) | (have hFRb : _ ≤ _ := hfr.1) | skip); replace FR := Sm.mk (And.intro hfr FR.out); clear hfr; refine Sm.out ?_)
    | (refine Two.mk ?_ ?_)
    | (refine Cs.mk ?_; intro hcs; first | exact False.elim hcs | (exfalso; omega) | (refine Sm.out ?_))
    | go_step
    | omega
    | (simp only [maxLen_eq]; omega)
  refine WP.loop (Γ := PW) (fun g => ⟨[(11, pt nb3 0), (5, iv .i64 (g.p : Int)), (6, iv .i64 (g.w : Int)), (4, pt nb2 0), (2, pt nb1 0), (3, iv .i64 0)], [(nb3, .obj (.stringIter B (offp g.p + g.w))), (nb2, .zs .i64 (aA zs g.p g.w) 3 34), (nb1, .cells [iv .i64 0, iv .i64 0, iv .i64 0] 3 23)]⟩)
    (PWok zs) (fun g => 10 - (offp g.p + g.w)) ⟨0, 0⟩ ⟨.inl ⟨rfl, Nat.zero_le _⟩, by simp [offp], fun j hj => by simp [offp] at hj⟩ (Sub.pick (by simp [pickB, hget, hdel, FR.out, offp, aA0, valR0]) (by simp [look, offp, aA0, valR0])) ?_
  intro ⟨p, w⟩ ⟨hpw, hlen, hok⟩
  simp only at hpw hlen hok ⊢
  rcases hpw with ⟨rfl, hw⟩ | ⟨rfl, hw⟩ | ⟨rfl, hw⟩
  · have q1 : IntKind.i64.wrap 1 = 1 := by decide
    have q2 : IntKind.i64.wrap 2 = 2 := by decide
    simp only [aA0]
    obtain ⟨i, hi⟩ : ∃ i, i = offp 0 + w := ⟨_, rfl⟩
    have hi2 : i = 0 + w := hi
    rw [← hi] at hlen hok ⊢
    have hv : 0 ≤ valR zs 0 w ∧ valR zs 0 w < (10 : Int) ^ w := valR_bd fun j hj => by have := okc_dig (hok (0 + j) (by omega)) (by omega) (by omega); simpa using this
    have hv2 : valR zs 0 w < 10000 := by have h1 := pow4 (w := w) (by omega); omega
    by_cases hlt : i < zs.length
    · obtain ⟨n, wd, hdec, hcs⟩ := dec_any hb hlt
      rw [← hB] at hdec
      by_cases hA : n = 45 ∧ w = 4
      · have kc : ((n : Int) == 45) = true := beq_iff_eq.2 (by omega)
        have kw : ((w : Int) == 4) = true := beq_iff_eq.2 (by omega)
        obtain ⟨rfl, hcn⟩ : wd = 1 ∧ zs.getD i 0 = (n : Int) := by rcases hcs with h | h <;> omega
        have ie : offp 1 + 0 = i + 1 := by show 5 + 0 = i + 1; omega
        have ww : w = 4 := hA.2
        first | (have FRx := FR; clear FRx) | (have FR : Sm (¬ ((1 : Nat) = 0)) := Sm.mk Nat.one_ne_zero)
        repeat' first
          | (refine Sm.mk ?_; try simp -dsimp only [ZK, rvc, drawF, headN, pureH, stp, dvc, calleeOf, gcall, pev, eff, newB, okd, og, ogs, ogo, ogp, slv, bltv, opd, litv, strip, one, both, putE, St.put, look, gdOf, gdv, picka, pickv, pickw, binv, bini, bins, binb, binp, binq, isSlT, bina, shp, eqCells, unv, convv, nilv, faddv, addp, idxav, idxp, load1, load1m, loadn, loadnm, loadv, hget, hset, hrep, hdel, slicev, bnd, shift1, lenv, capv, IntKind.bits, extractv, fieldv, indexv, min2v, max2v, mkiv, cellsA, fillA, buildv, stC, oneC, rowMB, intsA, plN, appE, appZ, appC, appNZ, appNC, VwL, srcC, srcZ, srcM, isBoolT, isPtrT, isSliceT, uOk, Value.oneCell', Nat.reducePow, Int.reducePow, Nat.reduceAdd, Nat.reduceMul, Nat.reduceSub, Nat.reduceLT, Nat.reduceLeDiff, Nat.reduceEqDiff, Nat.reduceBEq, Nat.reduceDiv, Nat.reduceMod, ↓reduceIte, reduceCtorEq, Int.reduceToNat, Int.reduceLT, Int.reduceLE, TFStD, SeqQ, BlkQ, LoopQ, BodyQ, hdec, kc, kw, hs, FR.out])
          | (refine WP.seq fun K hK => ?_)
          | (refine WP.region (rvc_sound _ _ (Sm.out ?_)))
          | (refine WP.drawP (ia := 10) (is := 11) (k := 12) mixed (by decide +kernel) (by decide +kernel) (Sm.out ?_))
          | (refine WP.drawK rfl mixed (by decide +kernel) (Sm.out ?_))
          | (refine Ob.mk ?_; focus (first | assumption | omega | decide | trivial | (intro hob; simp only [hob, ZF]; done) | (intros; (repeat' refine And.intro ?_ ?_) <;> first | assumption | omega | trivial | decide) | (intros; simp only [ZE] at *; (repeat' refine And.intro ?_ ?_) <;> first | assumption | omega | trivial)))
          | (refine And.intro (Ob.out ?_) ?_)
          | (refine WP.block ?_)
          | (refine WP.cond rfl (fun hc => ?_) (fun hc => ?_) <;> (try simp only [ZC, reduceCtorEq, ZD] at hc) <;> (try (exact absurd hc (by decide))) <;> (try (exfalso; omega)))
          | ((first | refine WP.skip ?_ | refine WP.exit ?_); simp only [SeqQ, BlkQ, LoopQ, BodyQ, ↓reduceIte, Nat.reduceEqDiff, reduceCtorEq, look, true_and])
          | (refine WP.ret (Sm.out ?_))
          | (first | refine ExG.no (Sm.out ?_) | refine Or.inl (ExG.no (Sm.out ?_)) | refine Or.inl (And.intro (fun hg => absurd hg (by decide)) (ExG.no (Sm.out ?_))))
          | (refine Rt.mk ?_; refine And.intro ?_ ?_ <;> (intro hg; first | exact absurd hg (by decide) | refine Sm.out ?_))
          | (refine Nu.mk ?_; first | (fail_if_success (have := nb1)); intro nb1 | (fail_if_success (have := nb2)); intro nb2 | (fail_if_success (have := nb3)); intro nb3 | (fail_if_success (have := nb4)); intro nb4 | (fail_if_success (have := nb5)); intro nb5 | (fail_if_success (have := nb6)); intro nb6 | intro nbz)
          | (refine Fr.mk ?_; intro hfr; (first | (have hFRb : _ ≤ _ ∧ _ ≤ _ := And.intro hfr.1 hfr.2.1) | (have hFRb : _ ≤ _ := hfr.1) | skip); replace FR := Sm.mk (And.intro hfr FR.out); clear hfr; refine Sm.out ?_)
          | (refine Two.mk ?_ ?_)
          | (refine Cs.mk ?_; intro hcs; first | exact False.elim hcs | (exfalso; omega) | (refine Sm.out ?_))
          | go_step
          | omega
          | (simp only [maxLen_eq]; omega)
        refine ⟨⟨1, 0⟩, ⟨.inr (.inl ⟨rfl, Nat.zero_le _⟩), by simp only [ie]; omega, fun j hj => ?_⟩, by simp only [ie]; omega, (Sub.pick (by simp [pickB, hget, hdel, FR.out, ie, aA1, valR0, ww, q1, q2]) (by simp [look, ie, aA1, valR0, ww, q1, q2]))⟩
        simp only [ie] at hj
        by_cases hji : j = i
        · subst hji; exact okc_mkd (by omega) (by omega)
        · exact hok j (by omega)
      by_cases hD : (48 ≤ n ∧ n ≤ 57) ∧ w < 4
      · have kc : ((n : Int) == 45) = false := beq_eq_false_iff_ne.2 (by omega)
        have kd1 : decide ((n : Int) ≥ 48) = true := decide_eq_true (by omega)
        have kd2 : decide ((n : Int) ≤ 57) = true := decide_eq_true (by omega)
        have kw2 : decide ((w : Int) < 4) = true := decide_eq_true (by omega)
        obtain ⟨rfl, hcn⟩ : wd = 1 ∧ zs.getD i 0 = (n : Int) := by rcases hcs with h | h <;> omega
        have ie : offp 0 + (w + 1) = i + 1 := by show 0 + (w + 1) = i + 1; omega
        have s1 : IntKind.i64.wrap (10 * valR zs 0 w) = 10 * valR zs 0 w := wrap_i64 (by omega) (by omega)
        have s2 : IntKind.i32.wrap ((n : Int) - 48) = (n : Int) - 48 := wrap_i32 (by omega) (by omega)
        have s3 : IntKind.i64.wrap ((n : Int) - 48) = (n : Int) - 48 := wrap_i64 (by omega) (by omega)
        have s4 : IntKind.i64.wrap (10 * valR zs 0 w + ((n : Int) - 48)) = valR zs 0 (w + 1) := by rw [wrap_i64 (by omega) (by omega)]; rw [valR_succ, ← hi2, hcn]
        have s5 : IntKind.i64.wrap ((w : Int) + 1) = ((w + 1 : Nat) : Int) := by rw [wrap_i64 (by omega) (by omega)]; omega
        first | (have FRx := FR; clear FRx) | (have FR : Sm (¬ ((1 : Nat) = 0)) := Sm.mk Nat.one_ne_zero)
        repeat' first
          | (refine Sm.mk ?_; try simp -dsimp only [ZK, rvc, drawF, headN, pureH, stp, dvc, calleeOf, gcall, pev, eff, newB, okd, og, ogs, ogo, ogp, slv, bltv, opd, litv, strip, one, both, putE, St.put, look, gdOf, gdv, picka, pickv, pickw, binv, bini, bins, binb, binp, binq, isSlT, bina, shp, eqCells, unv, convv, nilv, faddv, addp, idxav, idxp, load1, load1m, loadn, loadnm, loadv, hget, hset, hrep, hdel, slicev, bnd, shift1, lenv, capv, IntKind.bits, extractv, fieldv, indexv, min2v, max2v, mkiv, cellsA, fillA, buildv, stC, oneC, rowMB, intsA, plN, appE, appZ, appC, appNZ, appNC, VwL, srcC, srcZ, srcM, isBoolT, isPtrT, isSliceT, uOk, Value.oneCell', Nat.reducePow, Int.reducePow, Nat.reduceAdd, Nat.reduceMul, Nat.reduceSub, Nat.reduceLT, Nat.reduceLeDiff, Nat.reduceEqDiff, Nat.reduceBEq, Nat.reduceDiv, Nat.reduceMod, ↓reduceIte, reduceCtorEq, Int.reduceToNat, Int.reduceLT, Int.reduceLE, TFStD, SeqQ, BlkQ, LoopQ, BodyQ, hdec, kc, kd1, kd2, kw2, hs, s1, s2, s3, s4, s5, FR.out])
          | (refine WP.seq fun K hK => ?_)
          | (refine WP.region (rvc_sound _ _ (Sm.out ?_)))
          | (refine WP.drawP (ia := 10) (is := 11) (k := 12) mixed (by decide +kernel) (by decide +kernel) (Sm.out ?_))
          | (refine WP.drawK rfl mixed (by decide +kernel) (Sm.out ?_))
          | (refine Ob.mk ?_; focus (first | assumption | omega | decide | trivial | (intro hob; simp only [hob, ZF]; done) | (intros; (repeat' refine And.intro ?_ ?_) <;> first | assumption | omega | trivial | decide) | (intros; simp only [ZE] at *; (repeat' refine And.intro ?_ ?_) <;> first | assumption | omega | trivial)))
          | (refine And.intro (Ob.out ?_) ?_)
          | (refine WP.block ?_)
          | (refine WP.cond rfl (fun hc => ?_) (fun hc => ?_) <;> (try simp only [ZC, reduceCtorEq, ZD] at hc) <;> (try (exact absurd hc (by decide))) <;> (try (exfalso; omega)))
          | ((first | refine WP.skip ?_ | refine WP.exit ?_); simp only [SeqQ, BlkQ, LoopQ, BodyQ, ↓reduceIte, Nat.reduceEqDiff, reduceCtorEq, look, true_and])
          | (refine WP.ret (Sm.out ?_))
          | (first | refine ExG.no (Sm.out ?_) | refine Or.inl (ExG.no (Sm.out ?_)) | refine Or.inl (And.intro (fun hg => absurd hg (by decide)) (ExG.no (Sm.out ?_))))
          | (refine Rt.mk ?_; refine And.intro ?_ ?_ <;> (intro hg; first | exact absurd hg (by decide) | refine Sm.out ?_))
          | (refine Nu.mk ?_; first | (fail_if_success (have := nb1)); intro nb1 | (fail_if_success (have := nb2)); intro nb2 | (fail_if_success (have := nb3)); intro nb3 | (fail_if_success (have := nb4)); intro nb4 | (fail_if_success (have := nb5)); intro nb5 | (fail_if_success (have := nb6)); intro nb6 | intro nbz)
          | (refine Fr.mk ?_; intro hfr; (first | (have hFRb : _ ≤ _ ∧ _ ≤ _ := And.intro hfr.1 hfr.2.1) | (have hFRb : _ ≤ _ := hfr.1) | skip); replace FR := Sm.mk (And.intro hfr FR.out); clear hfr; refine Sm.out ?_)
          | (refine Two.mk ?_ ?_)
          | (refine Cs.mk ?_; intro hcs; first | exact False.elim hcs | (exfalso; omega) | (refine Sm.out ?_))
          | go_step
          | omega
          | (simp only [maxLen_eq]; omega)
        refine ⟨⟨0, w + 1⟩, ⟨.inl ⟨rfl, by simp only; omega⟩, by simp only [ie]; omega, fun j hj => ?_⟩, by simp only [ie]; omega, (Sub.pick (by simp [pickB, hget, hdel, FR.out, ie, aA0]) (by simp [look, ie, aA0]))⟩
        simp only [ie] at hj
        by_cases hji : j = i
        · subst hji; exact okc_mk (by omega) (by omega)
        · exact hok j (by omega)
      have hno : ¬ dshp zs := fun h => by
        have h1 := h.1
        by_cases hz : i < 10
        · by_cases h47 : i = 4 ∨ i = 7
          · have := okc_dash (h.2 i hz) h47; rcases hcs with h | h <;> omega
          · have := okc_dig (h.2 i hz) (by omega) (by omega); rcases hcs with h | h <;> omega
        · omega
      have hrd := rd_bad hno
      have hf : ∃ b1 b2 b3 b4 b5 : Bool, ((n : Int) == 45) = b1 ∧ ((w : Int) == 4) = b2 ∧ decide ((n : Int) ≥ 48) = b3 ∧ decide ((n : Int) ≤ 57) = b4 ∧ decide ((w : Int) < 4) = b5 ∧ ((b1 = true ∧ b2 = false ∧ b3 = false) ∨ (b1 = false ∧ b3 = false) ∨ (b1 = false ∧ b3 = true ∧ b4 = false) ∨ (b1 = false ∧ b3 = true ∧ b4 = true ∧ b5 = false)) := by
        refine ⟨_, _, _, _, _, rfl, rfl, rfl, rfl, rfl, ?_⟩
        by_cases q1 : n = 45
        · exact .inl ⟨beq_iff_eq.2 (by omega), beq_eq_false_iff_ne.2 (by omega), decide_eq_false (by omega)⟩
        · by_cases q2 : n < 48
          · exact .inr (.inl ⟨beq_eq_false_iff_ne.2 (by omega), decide_eq_false (by omega)⟩)
          · by_cases q3 : n ≤ 57
            · exact .inr (.inr (.inr ⟨beq_eq_false_iff_ne.2 (by omega), decide_eq_true (by omega), decide_eq_true (by omega), decide_eq_false (by omega)⟩))
            · exact .inr (.inr (.inl ⟨beq_eq_false_iff_ne.2 (by omega), decide_eq_true (by omega), decide_eq_false (by omega)⟩))
      obtain ⟨b1, b2, b3, b4, b5, kc, kw, kd1, kd2, kw2, hbs⟩ := hf
      rcases hbs with ⟨rfl, rfl, rfl⟩ | ⟨rfl, rfl⟩ | ⟨rfl, rfl, rfl⟩ | ⟨rfl, rfl, rfl, rfl⟩
      all_goals (
          first | (have FRx := FR; clear FRx) | (have FR : Sm (¬ ((1 : Nat) = 0)) := Sm.mk Nat.one_ne_zero)
          repeat' first
            | (refine Sm.mk ?_; try simp -dsimp only [ZK, rvc, drawF, headN, pureH, stp, dvc, calleeOf, gcall, pev, eff, newB, okd, og, ogs, ogo, ogp, slv, bltv, opd, litv, strip, one, both, putE, St.put, look, gdOf, gdv, picka, pickv, pickw, binv, bini, bins, binb, binp, binq, isSlT, bina, shp, eqCells, unv, convv, nilv, faddv, addp, idxav, idxp, load1, load1m, loadn, loadnm, loadv, hget, hset, hrep, hdel, slicev, bnd, shift1, lenv, capv, IntKind.bits, extractv, fieldv, indexv, min2v, max2v, mkiv, cellsA, fillA, buildv, stC, oneC, rowMB, intsA, plN, appE, appZ, appC, appNZ, appNC, VwL, srcC, srcZ, srcM, isBoolT, isPtrT, isSliceT, uOk, Value.oneCell', Nat.reducePow, Int.reducePow, Nat.reduceAdd, Nat.reduceMul, Nat.reduceSub, Nat.reduceLT, Nat.reduceLeDiff, Nat.reduceEqDiff, Nat.reduceBEq, Nat.reduceDiv, Nat.reduceMod, ↓reduceIte, reduceCtorEq, Int.reduceToNat, Int.reduceLT, Int.reduceLE, TFStD, SeqQ, BlkQ, LoopQ, BodyQ, hdec, kc, kw, kd1, kd2, kw2, hs, FR.out])
            | (refine WP.seq fun K hK => ?_)
            | (refine WP.region (rvc_sound _ _ (Sm.out ?_)))
            | (refine WP.drawP (ia := 10) (is := 11) (k := 12) mixed (by decide +kernel) (by decide +kernel) (Sm.out ?_))
            | (refine WP.drawK rfl mixed (by decide +kernel) (Sm.out ?_))
            | (refine Ob.mk ?_; focus (first | assumption | omega | decide | trivial | (intro hob; simp only [hob, ZF]; done) | (intros; (repeat' refine And.intro ?_ ?_) <;> first | assumption | omega | trivial | decide) | (intros; simp only [ZE] at *; (repeat' refine And.intro ?_ ?_) <;> first | assumption | omega | trivial)))
            | (refine And.intro (Ob.out ?_) ?_)
            | (refine WP.block ?_)
            | (refine WP.cond rfl (fun hc => ?_) (fun hc => ?_) <;> (try simp only [ZC, reduceCtorEq, ZD] at hc) <;> (try (exact absurd hc (by decide))) <;> (try (exfalso; omega)))
            | ((first | refine WP.skip ?_ | refine WP.exit ?_); simp only [SeqQ, BlkQ, LoopQ, BodyQ, ↓reduceIte, Nat.reduceEqDiff, reduceCtorEq, look, true_and])
            | (refine WP.ret (Sm.out ?_))
            | (first | refine ExG.no (Sm.out ?_) | refine Or.inl (ExG.no (Sm.out ?_)) | refine Or.inl (And.intro (fun hg => absurd hg (by decide)) (ExG.no (Sm.out ?_))))
            | (refine Rt.mk ?_; refine And.intro ?_ ?_ <;> (intro hg; first | exact absurd hg (by decide) | refine Sm.out ?_))
            | (refine Nu.mk ?_; first | (fail_if_success (have := nb1)); intro nb1 | (fail_if_success (have := nb2)); intro nb2 | (fail_if_success (have := nb3)); intro nb3 | (fail_if_success (have := nb4)); intro nb4 | (fail_if_success (have := nb5)); intro nb5 | (fail_if_success (have := nb6)); intro nb6 | intro nbz)
            | (refine Fr.mk ?_; intro hfr; (first | (have hFRb : _ ≤ _ ∧ _ ≤ _ := And.intro hfr.1 hfr.2.1) | (have hFRb : _ ≤ _ := hfr.1) | skip); replace FR := Sm.mk (And.intro hfr FR.out); clear hfr; refine Sm.out ?_)
            | (refine Two.mk ?_ ?_)
            | (refine Cs.mk ?_; intro hcs; first | exact False.elim hcs | (exfalso; omega) | (refine Sm.out ?_))
            | go_step
            | omega
            | (simp only [maxLen_eq]; omega))
      all_goals (refine OutQ.all ?_ ?_; (focus (simp only [resv, ZK, look, loadv, loadn, loadnm, load1, load1m, hget, ↓reduceIte, Nat.reduceEqDiff, Nat.reduceAdd, Nat.reduceMul, Nat.reduceLeDiff, Nat.reduceLT, reduceCtorEq, TFStD, hrd, FR.out])); (try simp only [resv, resA, Fn, ZK, look, loadv, loadn, loadnm, load1, load1m, hget, ↓reduceIte, Nat.reduceEqDiff, Nat.reduceAdd, Nat.reduceMul, Nat.reduceLeDiff, Nat.reduceLT, reduceCtorEq, TFStD, hrd, FR.out]); (try simp [resA, Fn, look, hrd, FR.out]))
    · obtain rfl : i = zs.length := by omega
      have hno : ¬ dshp zs := fun h => by have := h.1; omega
      have hrd := rd_bad hno
      first | (have FRx := FR; clear FRx) | (have FR : Sm (¬ ((1 : Nat) = 0)) := Sm.mk Nat.one_ne_zero)
      repeat' first
        | (refine Sm.mk ?_; try simp -dsimp only [ZK, rvc, drawF, headN, pureH, stp, dvc, calleeOf, gcall, pev, eff, newB, okd, og, ogs, ogo, ogp, slv, bltv, opd, litv, strip, one, both, putE, St.put, look, gdOf, gdv, picka, pickv, pickw, binv, bini, bins, binb, binp, binq, isSlT, bina, shp, eqCells, unv, convv, nilv, faddv, addp, idxav, idxp, load1, load1m, loadn, loadnm, loadv, hget, hset, hrep, hdel, slicev, bnd, shift1, lenv, capv, IntKind.bits, extractv, fieldv, indexv, min2v, max2v, mkiv, cellsA, fillA, buildv, stC, oneC, rowMB, intsA, plN, appE, appZ, appC, appNZ, appNC, VwL, srcC, srcZ, srcM, isBoolT, isPtrT, isSliceT, uOk, Value.oneCell', Nat.reducePow, Int.reducePow, Nat.reduceAdd, Nat.reduceMul, Nat.reduceSub, Nat.reduceLT, Nat.reduceLeDiff, Nat.reduceEqDiff, Nat.reduceBEq, Nat.reduceDiv, Nat.reduceMod, ↓reduceIte, reduceCtorEq, Int.reduceToNat, Int.reduceLT, Int.reduceLE, TFStD, SeqQ, BlkQ, LoopQ, BodyQ, hs, FR.out])
        | (refine WP.seq fun K hK => ?_)
        | (refine WP.region (rvc_sound _ _ (Sm.out ?_)))
        | (refine WP.drawP (ia := 10) (is := 11) (k := 12) mixed (by decide +kernel) (by decide +kernel) (Sm.out ?_))
        | (refine WP.drawK rfl mixed (by decide +kernel) (Sm.out ?_))
        | (refine Ob.mk ?_; focus (first | assumption | omega | decide | trivial | (intro hob; simp only [hob, ZF]; done) | (intros; (repeat' refine And.intro ?_ ?_) <;> first | assumption | omega | trivial | decide) | (intros; simp only [ZE] at *; (repeat' refine And.intro ?_ ?_) <;> first | assumption | omega | trivial)))
        | (refine And.intro (Ob.out ?_) ?_)
        | (refine WP.block ?_)
        | (refine WP.cond rfl (fun hc => ?_) (fun hc => ?_) <;> (try simp only [ZC, reduceCtorEq, ZD] at hc) <;> (try (exact absurd hc (by decide))) <;> (try (exfalso; omega)))
        | ((first | refine WP.skip ?_ | refine WP.exit ?_); simp only [SeqQ, BlkQ, LoopQ, BodyQ, ↓reduceIte, Nat.reduceEqDiff, reduceCtorEq, look, true_and])
        | (refine WP.ret (Sm.out ?_))
        | (first | refine ExG.no (Sm.out ?_) | refine Or.inl (ExG.no (Sm.out ?_)) | refine Or.inl (And.intro (fun hg => absurd hg (by decide)) (ExG.no (Sm.out ?_))))
        | (refine Rt.mk ?_; refine And.intro ?_ ?_ <;> (intro hg; first | exact absurd hg (by decide) | refine Sm.out ?_))
        | (refine Nu.mk ?_; first | (fail_if_success (have := nb1)); intro nb1 | (fail_if_success (have := nb2)); intro nb2 | (fail_if_success (have := nb3)); intro nb3 | (fail_if_success (have := nb4)); intro nb4 | (fail_if_success (have := nb5)); intro nb5 | (fail_if_success (have := nb6)); intro nb6 | intro nbz)
        | (refine Fr.mk ?_; intro hfr; (first | (have hFRb : _ ≤ _ ∧ _ ≤ _ := And.intro hfr.1 hfr.2.1) | (have hFRb : _ ≤ _ := hfr.1) | skip); replace FR := Sm.mk (And.intro hfr FR.out); clear hfr; refine Sm.out ?_)
        | (refine Two.mk ?_ ?_)
        | (refine Cs.mk ?_; intro hcs; first | exact False.elim hcs | (exfalso; omega) | (refine Sm.out ?_))
        | go_step
        | omega
        | (simp only [maxLen_eq]; omega)
      (refine OutQ.all ?_ ?_; (focus (simp only [resv, ZK, look, loadv, loadn, loadnm, load1, load1m, hget, ↓reduceIte, Nat.reduceEqDiff, Nat.reduceAdd, Nat.reduceMul, Nat.reduceLeDiff, Nat.reduceLT, reduceCtorEq, TFStD, hrd, FR.out])); (try simp only [resv, resA, Fn, ZK, look, loadv, loadn, loadnm, load1, load1m, hget, ↓reduceIte, Nat.reduceEqDiff, Nat.reduceAdd, Nat.reduceMul, Nat.reduceLeDiff, Nat.reduceLT, reduceCtorEq, TFStD, hrd, FR.out]); (try simp [resA, Fn, look, hrd, FR.out]))
  · have q1 : IntKind.i64.wrap 1 = 1 := by decide
    have q2 : IntKind.i64.wrap 2 = 2 := by decide
    simp only [aA1]
    obtain ⟨i, hi⟩ : ∃ i, i = offp 1 + w := ⟨_, rfl⟩
    have hi2 : i = 5 + w := hi
    rw [← hi] at hlen hok ⊢
    have hv : 0 ≤ valR zs 5 w ∧ valR zs 5 w < (10 : Int) ^ w := valR_bd fun j hj => by have := okc_dig (hok (5 + j) (by omega)) (by omega) (by omega); simpa using this
    have hv2 : valR zs 5 w < 10000 := by have h1 := pow4 (w := w) (by omega); omega
    by_cases hlt : i < zs.length
    · obtain ⟨n, wd, hdec, hcs⟩ := dec_any hb hlt
      rw [← hB] at hdec
      by_cases hA : n = 45 ∧ w = 2
      · have kc : ((n : Int) == 45) = true := beq_iff_eq.2 (by omega)
        have kw : ((w : Int) == 2) = true := beq_iff_eq.2 (by omega)
        obtain ⟨rfl, hcn⟩ : wd = 1 ∧ zs.getD i 0 = (n : Int) := by rcases hcs with h | h <;> omega
        have ie : offp 2 + 0 = i + 1 := by show 8 + 0 = i + 1; omega
        have ww : w = 2 := hA.2
        first | (have FRx := FR; clear FRx) | (have FR : Sm (¬ ((1 : Nat) = 0)) := Sm.mk Nat.one_ne_zero)
        repeat' first
          | (refine Sm.mk ?_; try simp -dsimp only [ZK, rvc, drawF, headN, pureH, stp, dvc, calleeOf, gcall, pev, eff, newB, okd, og, ogs, ogo, ogp, slv, bltv, opd, litv, strip, one, both, putE, St.put, look, gdOf, gdv, picka, pickv, pickw, binv, bini, bins, binb, binp, binq, isSlT, bina, shp, eqCells, unv, convv, nilv, faddv, addp, idxav, idxp, load1, load1m, loadn, loadnm, loadv, hget, hset, hrep, hdel, slicev, bnd, shift1, lenv, capv, IntKind.bits, extractv, fieldv, indexv, min2v, max2v, mkiv, cellsA, fillA, buildv, stC, oneC, rowMB, intsA, plN, appE, appZ, appC, appNZ, appNC, VwL, srcC, srcZ, srcM, isBoolT, isPtrT, isSliceT, uOk, Value.oneCell', Nat.reducePow, Int.reducePow, Nat.reduceAdd, Nat.reduceMul, Nat.reduceSub, Nat.reduceLT, Nat.reduceLeDiff, Nat.reduceEqDiff, Nat.reduceBEq, Nat.reduceDiv, Nat.reduceMod, ↓reduceIte, reduceCtorEq, Int.reduceToNat, Int.reduceLT, Int.reduceLE, TFStD, SeqQ, BlkQ, LoopQ, BodyQ, hdec, kc, kw, hs, FR.out])
          | (refine WP.seq fun K hK => ?_)
          | (refine WP.region (rvc_sound _ _ (Sm.out ?_)))
          | (refine WP.drawP (ia := 10) (is := 11) (k := 12) mixed (by decide +kernel) (by decide +kernel) (Sm.out ?_))
          | (refine WP.drawK rfl mixed (by decide +kernel) (Sm.out ?_))
          | (refine Ob.mk ?_; focus (first | assumption | omega | decide | trivial | (intro hob; simp only [hob, ZF]; done) | (intros; (repeat' refine And.intro ?_ ?_) <;> first | assumption | omega | trivial | decide) | (intros; simp only [ZE] at *; (repeat' refine And.intro ?_ ?_) <;> first | assumption | omega | trivial)))
          | (refine And.intro (Ob.out ?_) ?_)
          | (refine WP.block ?_)
          | (refine WP.cond rfl (fun hc => ?_) (fun hc => ?_) <;> (try simp only [ZC, reduceCtorEq, ZD] at hc) <;> (try (exact absurd hc (by decide))) <;> (try (exfalso; omega)))
          | ((first | refine WP.skip ?_ | refine WP.exit ?_); simp only [SeqQ, BlkQ, LoopQ, BodyQ, ↓reduceIte, Nat.reduceEqDiff, reduceCtorEq, look, true_and])
          | (refine WP.ret (Sm.out ?_))
          | (first | refine ExG.no (Sm.out ?_) | refine Or.inl (ExG.no (Sm.out ?_)) | refine Or.inl (And.intro (fun hg => absurd hg (by decide)) (ExG.no (Sm.out ?_))))
          | (refine Rt.mk ?_; refine And.intro ?_ ?_ <;> (intro hg; first | exact absurd hg (by decide) | refine Sm.out ?_))
          | (refine Nu.mk ?_; first | (fail_if_success (have := nb1)); intro nb1 | (fail_if_success (have := nb2)); intro nb2 | (fail_if_success (have := nb3)); intro nb3 | (fail_if_success (have := nb4)); intro nb4 | (fail_if_success (have := nb5)); intro nb5 | (fail_if_success (have := nb6)); intro nb6 | intro nbz)
          | (refine Fr.mk ?_; intro hfr; (first | (have hFRb : _ ≤ _ ∧ _ ≤ _ := And.intro hfr.1 hfr.2.1) | (have hFRb : _ ≤ _ := hfr.1) | skip); replace FR := Sm.mk (And.intro hfr FR.out); clear hfr; refine Sm.out ?_)
          | (refine Two.mk ?_ ?_)
          | (refine Cs.mk ?_; intro hcs; first | exact False.elim hcs | (exfalso; omega) | (refine Sm.out ?_))
          | go_step
          | omega
          | (simp only [maxLen_eq]; omega)
        refine ⟨⟨2, 0⟩, ⟨.inr (.inr ⟨rfl, Nat.zero_le _⟩), by simp only [ie]; omega, fun j hj => ?_⟩, by simp only [ie]; omega, (Sub.pick (by simp [pickB, hget, hdel, FR.out, ie, aA2, valR0, ww, q1, q2]) (by simp [look, ie, aA2, valR0, ww, q1, q2]))⟩
        simp only [ie] at hj
        by_cases hji : j = i
        · subst hji; exact okc_mkd (by omega) (by omega)
        · exact hok j (by omega)
      by_cases hD : (48 ≤ n ∧ n ≤ 57) ∧ w < 2
      · have kc : ((n : Int) == 45) = false := beq_eq_false_iff_ne.2 (by omega)
        have kd1 : decide ((n : Int) ≥ 48) = true := decide_eq_true (by omega)
        have kd2 : decide ((n : Int) ≤ 57) = true := decide_eq_true (by omega)
        have kw2 : decide ((w : Int) < 2) = true := decide_eq_true (by omega)
        obtain ⟨rfl, hcn⟩ : wd = 1 ∧ zs.getD i 0 = (n : Int) := by rcases hcs with h | h <;> omega
        have ie : offp 1 + (w + 1) = i + 1 := by show 5 + (w + 1) = i + 1; omega
        have s1 : IntKind.i64.wrap (10 * valR zs 5 w) = 10 * valR zs 5 w := wrap_i64 (by omega) (by omega)
        have s2 : IntKind.i32.wrap ((n : Int) - 48) = (n : Int) - 48 := wrap_i32 (by omega) (by omega)
        have s3 : IntKind.i64.wrap ((n : Int) - 48) = (n : Int) - 48 := wrap_i64 (by omega) (by omega)
        have s4 : IntKind.i64.wrap (10 * valR zs 5 w + ((n : Int) - 48)) = valR zs 5 (w + 1) := by rw [wrap_i64 (by omega) (by omega)]; rw [valR_succ, ← hi2, hcn]
        have s5 : IntKind.i64.wrap ((w : Int) + 1) = ((w + 1 : Nat) : Int) := by rw [wrap_i64 (by omega) (by omega)]; omega
        first | (have FRx := FR; clear FRx) | (have FR : Sm (¬ ((1 : Nat) = 0)) := Sm.mk Nat.one_ne_zero)
        repeat' first
          | (refine Sm.mk ?_; try simp -dsimp only [ZK, rvc, drawF, headN, pureH, stp, dvc, calleeOf, gcall, pev, eff, newB, okd, og, ogs, ogo, ogp, slv, bltv, opd, litv, strip, one, both, putE, St.put, look, gdOf, gdv, picka, pickv, pickw, binv, bini, bins, binb, binp, binq, isSlT, bina, shp, eqCells, unv, convv, nilv, faddv, addp, idxav, idxp, load1, load1m, loadn, loadnm, loadv, hget, hset, hrep, hdel, slicev, bnd, shift1, lenv, capv, IntKind.bits, extractv, fieldv, indexv, min2v, max2v, mkiv, cellsA, fillA, buildv, stC, oneC, rowMB, intsA, plN, appE, appZ, appC, appNZ, appNC, VwL, srcC, srcZ, srcM, isBoolT, isPtrT, isSliceT, uOk, Value.oneCell', Nat.reducePow, Int.reducePow, Nat.reduceAdd, Nat.reduceMul, Nat.reduceSub, Nat.reduceLT, Nat.reduceLeDiff, Nat.reduceEqDiff, Nat.reduceBEq, Nat.reduceDiv, Nat.reduceMod, ↓reduceIte, reduceCtorEq, Int.reduceToNat, Int.reduceLT, Int.reduceLE, TFStD, SeqQ, BlkQ, LoopQ, BodyQ, hdec, kc, kd1, kd2, kw2, hs, s1, s2, s3, s4, s5, FR.out])
          | (refine WP.seq fun K hK => ?_)
          | (refine WP.region (rvc_sound _ _ (Sm.out ?_)))
          | (refine WP.drawP (ia := 10) (is := 11) (k := 12) mixed (by decide +kernel) (by decide +kernel) (Sm.out ?_))
          | (refine WP.drawK rfl mixed (by decide +kernel) (Sm.out ?_))
          | (refine Ob.mk ?_; focus (first | assumption | omega | decide | trivial | (intro hob; simp only [hob, ZF]; done) | (intros; (repeat' refine And.intro ?_ ?_) <;> first | assumption | omega | trivial | decide) | (intros; simp only [ZE] at *; (repeat' refine And.intro ?_ ?_) <;> first | assumption | omega | trivial)))
          | (refine And.intro (Ob.out ?_) ?_)
          | (refine WP.block ?_)
          | (refine WP.cond rfl (fun hc => ?_) (fun hc => ?_) <;> (try simp only [ZC, reduceCtorEq, ZD] at hc) <;> (try (exact absurd hc (by decide))) <;> (try (exfalso; omega)))
          | ((first | refine WP.skip ?_ | refine WP.exit ?_); simp only [SeqQ, BlkQ, LoopQ, BodyQ, ↓reduceIte, Nat.reduceEqDiff, reduceCtorEq, look, true_and])
          | (refine WP.ret (Sm.out ?_))
          | (first | refine ExG.no (Sm.out ?_) | refine Or.inl (ExG.no (Sm.out ?_)) | refine Or.inl (And.intro (fun hg => absurd hg (by decide)) (ExG.no (Sm.out ?_))))
          | (refine Rt.mk ?_; refine And.intro ?_ ?_ <;> (intro hg; first | exact absurd hg (by decide) | refine Sm.out ?_))
          | (refine Nu.mk ?_; first | (fail_if_success (have := nb1)); intro nb1 | (fail_if_success (have := nb2)); intro nb2 | (fail_if_success (have := nb3)); intro nb3 | (fail_if_success (have := nb4)); intro nb4 | (fail_if_success (have := nb5)); intro nb5 | (fail_if_success (have := nb6)); intro nb6 | intro nbz)
          | (refine Fr.mk ?_; intro hfr; (first | (have hFRb : _ ≤ _ ∧ _ ≤ _ := And.intro hfr.1 hfr.2.1) | (have hFRb : _ ≤ _ := hfr.1) | skip); replace FR := Sm.mk (And.intro hfr FR.out); clear hfr; refine Sm.out ?_)
          | (refine Two.mk ?_ ?_)
          | (refine Cs.mk ?_; intro hcs; first | exact False.elim hcs | (exfalso; omega) | (refine Sm.out ?_))
          | go_step
          | omega
          | (simp only [maxLen_eq]; omega)
        refine ⟨⟨1, w + 1⟩, ⟨.inr (.inl ⟨rfl, by simp only; omega⟩), by simp only [ie]; omega, fun j hj => ?_⟩, by simp only [ie]; omega, (Sub.pick (by simp [pickB, hget, hdel, FR.out, ie, aA1]) (by simp [look, ie, aA1]))⟩
        simp only [ie] at hj
        by_cases hji : j = i
        · subst hji; exact okc_mk (by omega) (by omega)
        · exact hok j (by omega)
      have hno : ¬ dshp zs := fun h => by
        have h1 := h.1
        by_cases hz : i < 10
        · by_cases h47 : i = 4 ∨ i = 7
          · have := okc_dash (h.2 i hz) h47; rcases hcs with h | h <;> omega
          · have := okc_dig (h.2 i hz) (by omega) (by omega); rcases hcs with h | h <;> omega
        · omega
      have hrd := rd_bad hno
      have hf : ∃ b1 b2 b3 b4 b5 : Bool, ((n : Int) == 45) = b1 ∧ ((w : Int) == 2) = b2 ∧ decide ((n : Int) ≥ 48) = b3 ∧ decide ((n : Int) ≤ 57) = b4 ∧ decide ((w : Int) < 2) = b5 ∧ ((b1 = true ∧ b2 = false ∧ b3 = false) ∨ (b1 = false ∧ b3 = false) ∨ (b1 = false ∧ b3 = true ∧ b4 = false) ∨ (b1 = false ∧ b3 = true ∧ b4 = true ∧ b5 = false)) := by
        refine ⟨_, _, _, _, _, rfl, rfl, rfl, rfl, rfl, ?_⟩
        by_cases q1 : n = 45
        · exact .inl ⟨beq_iff_eq.2 (by omega), beq_eq_false_iff_ne.2 (by omega), decide_eq_false (by omega)⟩
        · by_cases q2 : n < 48
          · exact .inr (.inl ⟨beq_eq_false_iff_ne.2 (by omega), decide_eq_false (by omega)⟩)
          · by_cases q3 : n ≤ 57
            · exact .inr (.inr (.inr ⟨beq_eq_false_iff_ne.2 (by omega), decide_eq_true (by omega), decide_eq_true (by omega), decide_eq_false (by omega)⟩))
            · exact .inr (.inr (.inl ⟨beq_eq_false_iff_ne.2 (by omega), decide_eq_true (by omega), decide_eq_false (by omega)⟩))
      obtain ⟨b1, b2, b3, b4, b5, kc, kw, kd1, kd2, kw2, hbs⟩ := hf
      rcases hbs with ⟨rfl, rfl, rfl⟩ | ⟨rfl, rfl⟩ | ⟨rfl, rfl, rfl⟩ | ⟨rfl, rfl, rfl, rfl⟩
      all_goals (
          first | (have FRx := FR; clear FRx) | (have FR : Sm (¬ ((1 : Nat) = 0)) := Sm.mk Nat.one_ne_zero)
          repeat' first
            | (refine Sm.mk ?_; try simp -dsimp only [ZK, rvc, drawF, headN, pureH, stp, dvc, calleeOf, gcall, pev, eff, newB, okd, og, ogs, ogo, ogp, slv, bltv, opd, litv, strip, one, both, putE, St.put, look, gdOf, gdv, picka, pickv, pickw, binv, bini, bins, binb, binp, binq, isSlT, bina, shp, eqCells, unv, convv, nilv, faddv, addp, idxav, idxp, load1, load1m, loadn, loadnm, loadv, hget, hset, hrep, hdel, slicev, bnd, shift1, lenv, capv, IntKind.bits, extractv, fieldv, indexv, min2v, max2v, mkiv, cellsA, fillA, buildv, stC, oneC, rowMB, intsA, plN, appE, appZ, appC, appNZ, appNC, VwL, srcC, srcZ, srcM, isBoolT, isPtrT, isSliceT, uOk, Value.oneCell', Nat.reducePow, Int.reducePow, Nat.reduceAdd, Nat.reduceMul, Nat.reduceSub, Nat.reduceLT, Nat.reduceLeDiff, Nat.reduceEqDiff, Nat.reduceBEq, Nat.reduceDiv, Nat.reduceMod, ↓reduceIte, reduceCtorEq, Int.reduceToNat, Int.reduceLT, Int.reduceLE, TFStD, SeqQ, BlkQ, LoopQ, BodyQ, hdec, kc, kw, kd1, kd2, kw2, hs, FR.out])
            | (refine WP.seq fun K hK => ?_)
            | (refine WP.region (rvc_sound _ _ (Sm.out ?_)))
            | (refine WP.drawP (ia := 10) (is := 11) (k := 12) mixed (by decide +kernel) (by decide +kernel) (Sm.out ?_))
            | (refine WP.drawK rfl mixed (by decide +kernel) (Sm.out ?_))
            | (refine Ob.mk ?_; focus (first | assumption | omega | decide | trivial | (intro hob; simp only [hob, ZF]; done) | (intros; (repeat' refine And.intro ?_ ?_) <;> first | assumption | omega | trivial | decide) | (intros; simp only [ZE] at *; (repeat' refine And.intro ?_ ?_) <;> first | assumption | omega | trivial)))
            | (refine And.intro (Ob.out ?_) ?_)
            | (refine WP.block ?_)
            | (refine WP.cond rfl (fun hc => ?_) (fun hc => ?_) <;> (try simp only [ZC, reduceCtorEq, ZD] at hc) <;> (try (exact absurd hc (by decide))) <;> (try (exfalso; omega)))
            | ((first | refine WP.skip ?_ | refine WP.exit ?_); simp only [SeqQ, BlkQ, LoopQ, BodyQ, ↓reduceIte, Nat.reduceEqDiff, reduceCtorEq, look, true_and])
            | (refine WP.ret (Sm.out ?_))
            | (first | refine ExG.no (Sm.out ?_) | refine Or.inl (ExG.no (Sm.out ?_)) | refine Or.inl (And.intro (fun hg => absurd hg (by decide)) (ExG.no (Sm.out ?_))))
            | (refine Rt.mk ?_; refine And.intro ?_ ?_ <;> (intro hg; first | exact absurd hg (by decide) | refine Sm.out ?_))
            | (refine Nu.mk ?_; first | (fail_if_success (have := nb1)); intro nb1 | (fail_if_success (have := nb2)); intro nb2 | (fail_if_success (have := nb3)); intro nb3 | (fail_if_success (have := nb4)); intro nb4 | (fail_if_success (have := nb5)); intro nb5 | (fail_if_success (have := nb6)); intro nb6 | intro nbz)
            | (refine Fr.mk ?_; intro hfr; (first | (have hFRb : _ ≤ _ ∧ _ ≤ _ := And.intro hfr.1 hfr.2.1) | (have hFRb : _ ≤ _ := hfr.1) | skip); replace FR := Sm.mk (And.intro hfr FR.out); clear hfr; refine Sm.out ?_)
            | (refine Two.mk ?_ ?_)
            | (refine Cs.mk ?_; intro hcs; first | exact False.elim hcs | (exfalso; omega) | (refine Sm.out ?_))
            | go_step
            | omega
            | (simp only [maxLen_eq]; omega))
      all_goals (refine OutQ.all ?_ ?_; (focus (simp only [resv, ZK, look, loadv, loadn, loadnm, load1, load1m, hget, ↓reduceIte, Nat.reduceEqDiff, Nat.reduceAdd, Nat.reduceMul, Nat.reduceLeDiff, Nat.reduceLT, reduceCtorEq, TFStD, hrd, FR.out])); (try simp only [resv, resA, Fn, ZK, look, loadv, loadn, loadnm, load1, load1m, hget, ↓reduceIte, Nat.reduceEqDiff, Nat.reduceAdd, Nat.reduceMul, Nat.reduceLeDiff, Nat.reduceLT, reduceCtorEq, TFStD, hrd, FR.out]); (try simp [resA, Fn, look, hrd, FR.out]))
    · obtain rfl : i = zs.length := by omega
      have hno : ¬ dshp zs := fun h => by have := h.1; omega
      have hrd := rd_bad hno
      first | (have FRx := FR; clear FRx) | (have FR : Sm (¬ ((1 : Nat) = 0)) := Sm.mk Nat.one_ne_zero)
      repeat' first
        | (refine Sm.mk ?_; try simp -dsimp only [ZK, rvc, drawF, headN, pureH, stp, dvc, calleeOf, gcall, pev, eff, newB, okd, og, ogs, ogo, ogp, slv, bltv, opd, litv, strip, one, both, putE, St.put, look, gdOf, gdv, picka, pickv, pickw, binv, bini, bins, binb, binp, binq, isSlT, bina, shp, eqCells, unv, convv, nilv, faddv, addp, idxav, idxp, load1, load1m, loadn, loadnm, loadv, hget, hset, hrep, hdel, slicev, bnd, shift1, lenv, capv, IntKind.bits, extractv, fieldv, indexv, min2v, max2v, mkiv, cellsA, fillA, buildv, stC, oneC, rowMB, intsA, plN, appE, appZ, appC, appNZ, appNC, VwL, srcC, srcZ, srcM, isBoolT, isPtrT, isSliceT, uOk, Value.oneCell', Nat.reducePow, Int.reducePow, Nat.reduceAdd, Nat.reduceMul, Nat.reduceSub, Nat.reduceLT, Nat.reduceLeDiff, Nat.reduceEqDiff, Nat.reduceBEq, Nat.reduceDiv, Nat.reduceMod, ↓reduceIte, reduceCtorEq, Int.reduceToNat, Int.reduceLT, Int.reduceLE, TFStD, SeqQ, BlkQ, LoopQ, BodyQ, hs, FR.out])
        | (refine WP.seq fun K hK => ?_)
        | (refine WP.region (rvc_sound _ _ (Sm.out ?_)))
        | (refine WP.drawP (ia := 10) (is := 11) (k := 12) mixed (by decide +kernel) (by decide +kernel) (Sm.out ?_))
        | (refine WP.drawK rfl mixed (by decide +kernel) (Sm.out ?_))
        | (refine Ob.mk ?_; focus (first | assumption | omega | decide | trivial | (intro hob; simp only [hob, ZF]; done) | (intros; (repeat' refine And.intro ?_ ?_) <;> first | assumption | omega | trivial | decide) | (intros; simp only [ZE] at *; (repeat' refine And.intro ?_ ?_) <;> first | assumption | omega | trivial)))
        | (refine And.intro (Ob.out ?_) ?_)
        | (refine WP.block ?_)
        | (refine WP.cond rfl (fun hc => ?_) (fun hc => ?_) <;> (try simp only [ZC, reduceCtorEq, ZD] at hc) <;> (try (exact absurd hc (by decide))) <;> (try (exfalso; omega)))
        | ((first | refine WP.skip ?_ | refine WP.exit ?_); simp only [SeqQ, BlkQ, LoopQ, BodyQ, ↓reduceIte, Nat.reduceEqDiff, reduceCtorEq, look, true_and])
        | (refine WP.ret (Sm.out ?_))
        | (first | refine ExG.no (Sm.out ?_) | refine Or.inl (ExG.no (Sm.out ?_)) | refine Or.inl (And.intro (fun hg => absurd hg (by decide)) (ExG.no (Sm.out ?_))))
        | (refine Rt.mk ?_; refine And.intro ?_ ?_ <;> (intro hg; first | exact absurd hg (by decide) | refine Sm.out ?_))
        | (refine Nu.mk ?_; first | (fail_if_success (have := nb1)); intro nb1 | (fail_if_success (have := nb2)); intro nb2 | (fail_if_success (have := nb3)); intro nb3 | (fail_if_success (have := nb4)); intro nb4 | (fail_if_success (have := nb5)); intro nb5 | (fail_if_success (have := nb6)); intro nb6 | intro nbz)
        | (refine Fr.mk ?_; intro hfr; (first | (have hFRb : _ ≤ _ ∧ _ ≤ _ := And.intro hfr.1 hfr.2.1) | (have hFRb : _ ≤ _ := hfr.1) | skip); replace FR := Sm.mk (And.intro hfr FR.out); clear hfr; refine Sm.out ?_)
        | (refine Two.mk ?_ ?_)
        | (refine Cs.mk ?_; intro hcs; first | exact False.elim hcs | (exfalso; omega) | (refine Sm.out ?_))
        | go_step
        | omega
        | (simp only [maxLen_eq]; omega)
      (refine OutQ.all ?_ ?_; (focus (simp only [resv, ZK, look, loadv, loadn, loadnm, load1, load1m, hget, ↓reduceIte, Nat.reduceEqDiff, Nat.reduceAdd, Nat.reduceMul, Nat.reduceLeDiff, Nat.reduceLT, reduceCtorEq, TFStD, hrd, FR.out])); (try simp only [resv, resA, Fn, ZK, look, loadv, loadn, loadnm, load1, load1m, hget, ↓reduceIte, Nat.reduceEqDiff, Nat.reduceAdd, Nat.reduceMul, Nat.reduceLeDiff, Nat.reduceLT, reduceCtorEq, TFStD, hrd, FR.out]); (try simp [resA, Fn, look, hrd, FR.out]))
  · have q1 : IntKind.i64.wrap 1 = 1 := by decide
    have q2 : IntKind.i64.wrap 2 = 2 := by decide
    simp only [aA2]
    obtain ⟨i, hi⟩ : ∃ i, i = offp 2 + w := ⟨_, rfl⟩
    have hi2 : i = 8 + w := hi
    rw [← hi] at hlen hok ⊢
    have hv : 0 ≤ valR zs 8 w ∧ valR zs 8 w < (10 : Int) ^ w := valR_bd fun j hj => by have := okc_dig (hok (8 + j) (by omega)) (by omega) (by omega); simpa using this
    have hv2 : valR zs 8 w < 10000 := by have h1 := pow4 (w := w) (by omega); omega
    by_cases hlt : i < zs.length
    · obtain ⟨n, wd, hdec, hcs⟩ := dec_any hb hlt
      rw [← hB] at hdec
      by_cases hA : False
      · exact hA.elim
      by_cases hD : (48 ≤ n ∧ n ≤ 57) ∧ w < 2
      · have kc : ((n : Int) == 45) = false := beq_eq_false_iff_ne.2 (by omega)
        have kd1 : decide ((n : Int) ≥ 48) = true := decide_eq_true (by omega)
        have kd2 : decide ((n : Int) ≤ 57) = true := decide_eq_true (by omega)
        have kw2 : decide ((w : Int) < 2) = true := decide_eq_true (by omega)
        obtain ⟨rfl, hcn⟩ : wd = 1 ∧ zs.getD i 0 = (n : Int) := by rcases hcs with h | h <;> omega
        have ie : offp 2 + (w + 1) = i + 1 := by show 8 + (w + 1) = i + 1; omega
        have s1 : IntKind.i64.wrap (10 * valR zs 8 w) = 10 * valR zs 8 w := wrap_i64 (by omega) (by omega)
        have s2 : IntKind.i32.wrap ((n : Int) - 48) = (n : Int) - 48 := wrap_i32 (by omega) (by omega)
        have s3 : IntKind.i64.wrap ((n : Int) - 48) = (n : Int) - 48 := wrap_i64 (by omega) (by omega)
        have s4 : IntKind.i64.wrap (10 * valR zs 8 w + ((n : Int) - 48)) = valR zs 8 (w + 1) := by rw [wrap_i64 (by omega) (by omega)]; rw [valR_succ, ← hi2, hcn]
        have s5 : IntKind.i64.wrap ((w : Int) + 1) = ((w + 1 : Nat) : Int) := by rw [wrap_i64 (by omega) (by omega)]; omega
        first | (have FRx := FR; clear FRx) | (have FR : Sm (¬ ((1 : Nat) = 0)) := Sm.mk Nat.one_ne_zero)
        repeat' first
          | (refine Sm.mk ?_; try simp -dsimp only [ZK, rvc, drawF, headN, pureH, stp, dvc, calleeOf, gcall, pev, eff, newB, okd, og, ogs, ogo, ogp, slv, bltv, opd, litv, strip, one, both, putE, St.put, look, gdOf, gdv, picka, pickv, pickw, binv, bini, bins, binb, binp, binq, isSlT, bina, shp, eqCells, unv, convv, nilv, faddv, addp, idxav, idxp, load1, load1m, loadn, loadnm, loadv, hget, hset, hrep, hdel, slicev, bnd, shift1, lenv, capv, IntKind.bits, extractv, fieldv, indexv, min2v, max2v, mkiv, cellsA, fillA, buildv, stC, oneC, rowMB, intsA, plN, appE, appZ, appC, appNZ, appNC, VwL, srcC, srcZ, srcM, isBoolT, isPtrT, isSliceT, uOk, Value.oneCell', Nat.reducePow, Int.reducePow, Nat.reduceAdd, Nat.reduceMul, Nat.reduceSub, Nat.reduceLT, Nat.reduceLeDiff, Nat.reduceEqDiff, Nat.reduceBEq, Nat.reduceDiv, Nat.reduceMod, ↓reduceIte, reduceCtorEq, Int.reduceToNat, Int.reduceLT, Int.reduceLE, TFStD, SeqQ, BlkQ, LoopQ, BodyQ, hdec, kc, kd1, kd2, kw2, hs, s1, s2, s3, s4, s5, FR.out])
          | (refine WP.seq fun K hK => ?_)
          | (refine WP.region (rvc_sound _ _ (Sm.out ?_)))
          | (refine WP.drawP (ia := 10) (is := 11) (k := 12) mixed (by decide +kernel) (by decide +kernel) (Sm.out ?_))
          | (refine WP.drawK rfl mixed (by decide +kernel) (Sm.out ?_))
          | (refine Ob.mk ?_; focus (first | assumption | omega | decide | trivial | (intro hob; simp only [hob, ZF]; done) | (intros; (repeat' refine And.intro ?_ ?_) <;> first | assumption | omega | trivial | decide) | (intros; simp only [ZE] at *; (repeat' refine And.intro ?_ ?_) <;> first | assumption | omega | trivial)))
          | (refine And.intro (Ob.out ?_) ?_)
          | (refine WP.block ?_)
          | (refine WP.cond rfl (fun hc => ?_) (fun hc => ?_) <;> (try simp only [ZC, reduceCtorEq, ZD] at hc) <;> (try (exact absurd hc (by decide))) <;> (try (exfalso; omega)))
          | ((first | refine WP.skip ?_ | refine WP.exit ?_); simp only [SeqQ, BlkQ, LoopQ, BodyQ, ↓reduceIte, Nat.reduceEqDiff, reduceCtorEq, look, true_and])
          | (refine WP.ret (Sm.out ?_))
          | (first | refine ExG.no (Sm.out ?_) | refine Or.inl (ExG.no (Sm.out ?_)) | refine Or.inl (And.intro (fun hg => absurd hg (by decide)) (ExG.no (Sm.out ?_))))
          | (refine Rt.mk ?_; refine And.intro ?_ ?_ <;> (intro hg; first | exact absurd hg (by decide) | refine Sm.out ?_))
          | (refine Nu.mk ?_; first | (fail_if_success (have := nb1)); intro nb1 | (fail_if_success (have := nb2)); intro nb2 | (fail_if_success (have := nb3)); intro nb3 | (fail_if_success (have := nb4)); intro nb4 | (fail_if_success (have := nb5)); intro nb5 | (fail_if_success (have := nb6)); intro nb6 | intro nbz)
          | (refine Fr.mk ?_; intro hfr; (first | (have hFRb : _ ≤ _ ∧ _ ≤ _ := And.intro hfr.1 hfr.2.1) | (have hFRb : _ ≤ _ := hfr.1) | skip); replace FR := Sm.mk (And.intro hfr FR.out); clear hfr; refine Sm.out ?_)
          | (refine Two.mk ?_ ?_)
          | (refine Cs.mk ?_; intro hcs; first | exact False.elim hcs | (exfalso; omega) | (refine Sm.out ?_))
          | go_step
          | omega
          | (simp only [maxLen_eq]; omega)
        refine ⟨⟨2, w + 1⟩, ⟨.inr (.inr ⟨rfl, by simp only; omega⟩), by simp only [ie]; omega, fun j hj => ?_⟩, by simp only [ie]; omega, (Sub.pick (by simp [pickB, hget, hdel, FR.out, ie, aA2]) (by simp [look, ie, aA2]))⟩
        simp only [ie] at hj
        by_cases hji : j = i
        · subst hji; exact okc_mk (by omega) (by omega)
        · exact hok j (by omega)
      have hno : ¬ dshp zs := fun h => by
        have h1 := h.1
        by_cases hz : i < 10
        · by_cases h47 : i = 4 ∨ i = 7
          · have := okc_dash (h.2 i hz) h47; rcases hcs with h | h <;> omega
          · have := okc_dig (h.2 i hz) (by omega) (by omega); rcases hcs with h | h <;> omega
        · omega
      have hrd := rd_bad hno
      have hf : ∃ b1 b2 b3 b4 b5 : Bool, ((n : Int) == 45) = b1 ∧ ((w : Int) == 2) = b2 ∧ decide ((n : Int) ≥ 48) = b3 ∧ decide ((n : Int) ≤ 57) = b4 ∧ decide ((w : Int) < 2) = b5 ∧ ((b1 = true ∧ b3 = false) ∨ (b1 = false ∧ b3 = false) ∨ (b1 = false ∧ b3 = true ∧ b4 = false) ∨ (b1 = false ∧ b3 = true ∧ b4 = true ∧ b5 = false)) := by
        refine ⟨_, _, _, _, _, rfl, rfl, rfl, rfl, rfl, ?_⟩
        by_cases q1 : n = 45
        · exact .inl ⟨beq_iff_eq.2 (by omega), decide_eq_false (by omega)⟩
        · by_cases q2 : n < 48
          · exact .inr (.inl ⟨beq_eq_false_iff_ne.2 (by omega), decide_eq_false (by omega)⟩)
          · by_cases q3 : n ≤ 57
            · exact .inr (.inr (.inr ⟨beq_eq_false_iff_ne.2 (by omega), decide_eq_true (by omega), decide_eq_true (by omega), decide_eq_false (by omega)⟩))
            · exact .inr (.inr (.inl ⟨beq_eq_false_iff_ne.2 (by omega), decide_eq_true (by omega), decide_eq_false (by omega)⟩))
      obtain ⟨b1, b2, b3, b4, b5, kc, kw, kd1, kd2, kw2, hbs⟩ := hf
      rcases hbs with ⟨rfl, rfl⟩ | ⟨rfl, rfl⟩ | ⟨rfl, rfl, rfl⟩ | ⟨rfl, rfl, rfl, rfl⟩
      all_goals (
          first | (have FRx := FR; clear FRx) | (have FR : Sm (¬ ((1 : Nat) = 0)) := Sm.mk Nat.one_ne_zero)
          repeat' first
            | (refine Sm.mk ?_; try simp -dsimp only [ZK, rvc, drawF, headN, pureH, stp, dvc, calleeOf, gcall, pev, eff, newB, okd, og, ogs, ogo, ogp, slv, bltv, opd, litv, strip, one, both, putE, St.put, look, gdOf, gdv, picka, pickv, pickw, binv, bini, bins, binb, binp, binq, isSlT, bina, shp, eqCells, unv, convv, nilv, faddv, addp, idxav, idxp, load1, load1m, loadn, loadnm, loadv, hget, hset, hrep, hdel, slicev, bnd, shift1, lenv, capv, IntKind.bits, extractv, fieldv, indexv, min2v, max2v, mkiv, cellsA, fillA, buildv, stC, oneC, rowMB, intsA, plN, appE, appZ, appC, appNZ, appNC, VwL, srcC, srcZ, srcM, isBoolT, isPtrT, isSliceT, uOk, Value.oneCell', Nat.reducePow, Int.reducePow, Nat.reduceAdd, Nat.reduceMul, Nat.reduceSub, Nat.reduceLT, Nat.reduceLeDiff, Nat.reduceEqDiff, Nat.reduceBEq, Nat.reduceDiv, Nat.reduceMod, ↓reduceIte, reduceCtorEq, Int.reduceToNat, Int.reduceLT, Int.reduceLE, TFStD, SeqQ, BlkQ, LoopQ, BodyQ, hdec, kc, kw, kd1, kd2, kw2, hs, FR.out])
            | (refine WP.seq fun K hK => ?_)
            | (refine WP.region (rvc_sound _ _ (Sm.out ?_)))
            | (refine WP.drawP (ia := 10) (is := 11) (k := 12) mixed (by decide +kernel) (by decide +kernel) (Sm.out ?_))
            | (refine WP.drawK rfl mixed (by decide +kernel) (Sm.out ?_))
            | (refine Ob.mk ?_; focus (first | assumption | omega | decide | trivial | (intro hob; simp only [hob, ZF]; done) | (intros; (repeat' refine And.intro ?_ ?_) <;> first | assumption | omega | trivial | decide) | (intros; simp only [ZE] at *; (repeat' refine And.intro ?_ ?_) <;> first | assumption | omega | trivial)))
            | (refine And.intro (Ob.out ?_) ?_)
            | (refine WP.block ?_)
            | (refine WP.cond rfl (fun hc => ?_) (fun hc => ?_) <;> (try simp only [ZC, reduceCtorEq, ZD] at hc) <;> (try (exact absurd hc (by decide))) <;> (try (exfalso; omega)))
            | ((first | refine WP.skip ?_ | refine WP.exit ?_); simp only [SeqQ, BlkQ, LoopQ, BodyQ, ↓reduceIte, Nat.reduceEqDiff, reduceCtorEq, look, true_and])
            | (refine WP.ret (Sm.out ?_))
            | (first | refine ExG.no (Sm.out ?_) | refine Or.inl (ExG.no (Sm.out ?_)) | refine Or.inl (And.intro (fun hg => absurd hg (by decide)) (ExG.no (Sm.out ?_))))
            | (refine Rt.mk ?_; refine And.intro ?_ ?_ <;> (intro hg; first | exact absurd hg (by decide) | refine Sm.out ?_))
            | (refine Nu.mk ?_; first | (fail_if_success (have := nb1)); intro nb1 | (fail_if_success (have := nb2)); intro nb2 | (fail_if_success (have := nb3)); intro nb3 | (fail_if_success (have := nb4)); intro nb4 | (fail_if_success (have := nb5)); intro nb5 | (fail_if_success (have := nb6)); intro nb6 | intro nbz)
            | (refine Fr.mk ?_; intro hfr; (first | (have hFRb : _ ≤ _ ∧ _ ≤ _ := And.intro hfr.1 hfr.2.1) | (have hFRb : _ ≤ _ := hfr.1) | skip); replace FR := Sm.mk (And.intro hfr FR.out); clear hfr; refine Sm.out ?_)
            | (refine Two.mk ?_ ?_)
            | (refine Cs.mk ?_; intro hcs; first | exact False.elim hcs | (exfalso; omega) | (refine Sm.out ?_))
            | go_step
            | omega
            | (simp only [maxLen_eq]; omega))
      all_goals (refine OutQ.all ?_ ?_; (focus (simp only [resv, ZK, look, loadv, loadn, loadnm, load1, load1m, hget, ↓reduceIte, Nat.reduceEqDiff, Nat.reduceAdd, Nat.reduceMul, Nat.reduceLeDiff, Nat.reduceLT, reduceCtorEq, TFStD, hrd, FR.out])); (try simp only [resv, resA, Fn, ZK, look, loadv, loadn, loadnm, load1, load1m, hget, ↓reduceIte, Nat.reduceEqDiff, Nat.reduceAdd, Nat.reduceMul, Nat.reduceLeDiff, Nat.reduceLT, reduceCtorEq, TFStD, hrd, FR.out]); (try simp [resA, Fn, look, hrd, FR.out]))
    · obtain rfl : i = zs.length := by omega
      by_cases hw2 : w = 2
      · have hsh : dshp zs := ⟨by omega, fun j hj => hok j (by omega)⟩
        subst hw2
        have cR := right_ct (yL zs) (mL zs) (dL zs)
        cases hr : rightI (yL zs) (mL zs) (dL zs)
        · have hrd := rd_wrong hsh hr
          rw [hr] at cR
          unfold yL mL dL at cR
          first | (have FRx := FR; clear FRx) | (have FR : Sm (¬ ((1 : Nat) = 0)) := Sm.mk Nat.one_ne_zero)
          repeat' first
            | (refine Sm.mk ?_; try simp -dsimp only [ZK, rvc, drawF, headN, pureH, stp, dvc, calleeOf, gcall, pev, eff, newB, okd, og, ogs, ogo, ogp, slv, bltv, opd, litv, strip, one, both, putE, St.put, look, gdOf, gdv, picka, pickv, pickw, binv, bini, bins, binb, binp, binq, isSlT, bina, shp, eqCells, unv, convv, nilv, faddv, addp, idxav, idxp, load1, load1m, loadn, loadnm, loadv, hget, hset, hrep, hdel, slicev, bnd, shift1, lenv, capv, IntKind.bits, extractv, fieldv, indexv, min2v, max2v, mkiv, cellsA, fillA, buildv, stC, oneC, rowMB, intsA, plN, appE, appZ, appC, appNZ, appNC, VwL, srcC, srcZ, srcM, isBoolT, isPtrT, isSliceT, uOk, Value.oneCell', Nat.reducePow, Int.reducePow, Nat.reduceAdd, Nat.reduceMul, Nat.reduceSub, Nat.reduceLT, Nat.reduceLeDiff, Nat.reduceEqDiff, Nat.reduceBEq, Nat.reduceDiv, Nat.reduceMod, ↓reduceIte, reduceCtorEq, Int.reduceToNat, Int.reduceLT, Int.reduceLE, TFStD, SeqQ, BlkQ, LoopQ, BodyQ, hs, FR.out])
            | (first | refine CallV.fn (cR) (Sm.out ?_) | refine ExF.mk (cR) (Sm.out ?_) | refine ExG.mk (fun _ => cR) (Sm.out ?_) | refine ExG.mkJ (fun _ => cR) (Sm.out ?_) | refine ExG.mkI (Ob.out ?_) (fun _ => cR) (Sm.out ?_))
            | (refine WP.seq fun K hK => ?_)
            | (refine WP.region (rvc_sound _ _ (Sm.out ?_)))
            | (refine WP.drawP (ia := 10) (is := 11) (k := 12) mixed (by decide +kernel) (by decide +kernel) (Sm.out ?_))
            | (refine WP.drawK rfl mixed (by decide +kernel) (Sm.out ?_))
            | (refine Ob.mk ?_; focus (first | assumption | omega | decide | trivial | (intro hob; simp only [hob, ZF]; done) | (intros; (repeat' refine And.intro ?_ ?_) <;> first | assumption | omega | trivial | decide) | (intros; simp only [ZE] at *; (repeat' refine And.intro ?_ ?_) <;> first | assumption | omega | trivial)))
            | (refine And.intro (Ob.out ?_) ?_)
            | (refine WP.block ?_)
            | (refine WP.cond rfl (fun hc => ?_) (fun hc => ?_) <;> (try simp only [ZC, reduceCtorEq, ZD] at hc) <;> (try (exact absurd hc (by decide))) <;> (try (exfalso; omega)))
            | ((first | refine WP.skip ?_ | refine WP.exit ?_); simp only [SeqQ, BlkQ, LoopQ, BodyQ, ↓reduceIte, Nat.reduceEqDiff, reduceCtorEq, look, true_and])
            | (refine WP.ret (Sm.out ?_))
            | (first | refine ExG.no (Sm.out ?_) | refine Or.inl (ExG.no (Sm.out ?_)) | refine Or.inl (And.intro (fun hg => absurd hg (by decide)) (ExG.no (Sm.out ?_))))
            | (refine Rt.mk ?_; refine And.intro ?_ ?_ <;> (intro hg; first | exact absurd hg (by decide) | refine Sm.out ?_))
            | (refine Nu.mk ?_; first | (fail_if_success (have := nb1)); intro nb1 | (fail_if_success (have := nb2)); intro nb2 | (fail_if_success (have := nb3)); intro nb3 | (fail_if_success (have := nb4)); intro nb4 | (fail_if_success (have := nb5)); intro nb5 | (fail_if_success (have := nb6)); intro nb6 | intro nbz)
            | (refine Fr.mk ?_; intro hfr; (first | (have hFRb : _ ≤ _ ∧ _ ≤ _ := And.intro hfr.1 hfr.2.1) | (have hFRb : _ ≤ _ := hfr.1) | skip); replace FR := Sm.mk (And.intro hfr FR.out); clear hfr; refine Sm.out ?_)
            | (refine Two.mk ?_ ?_)
            | (refine Cs.mk ?_; intro hcs; first | exact False.elim hcs | (exfalso; omega) | (refine Sm.out ?_))
            | go_step
            | omega
            | (simp only [maxLen_eq]; omega)
          (refine OutQ.all ?_ ?_; (focus (simp only [resv, ZK, look, loadv, loadn, loadnm, load1, load1m, hget, ↓reduceIte, Nat.reduceEqDiff, Nat.reduceAdd, Nat.reduceMul, Nat.reduceLeDiff, Nat.reduceLT, reduceCtorEq, TFStD, hrd, FR.out])); (try simp only [resv, resA, Fn, ZK, look, loadv, loadn, loadnm, load1, load1m, hget, ↓reduceIte, Nat.reduceEqDiff, Nat.reduceAdd, Nat.reduceMul, Nat.reduceLeDiff, Nat.reduceLT, reduceCtorEq, TFStD, hrd, FR.out]); (try simp [resA, Fn, look, hrd, FR.out]))
        · have hrd := rd_shp hsh hr
          rw [hr] at cR
          unfold yL mL dL at cR hrd
          first | (have FRx := FR; clear FRx) | (have FR : Sm (¬ ((1 : Nat) = 0)) := Sm.mk Nat.one_ne_zero)
          repeat' first
            | (refine Sm.mk ?_; try simp -dsimp only [ZK, rvc, drawF, headN, pureH, stp, dvc, calleeOf, gcall, pev, eff, newB, okd, og, ogs, ogo, ogp, slv, bltv, opd, litv, strip, one, both, putE, St.put, look, gdOf, gdv, picka, pickv, pickw, binv, bini, bins, binb, binp, binq, isSlT, bina, shp, eqCells, unv, convv, nilv, faddv, addp, idxav, idxp, load1, load1m, loadn, loadnm, loadv, hget, hset, hrep, hdel, slicev, bnd, shift1, lenv, capv, IntKind.bits, extractv, fieldv, indexv, min2v, max2v, mkiv, cellsA, fillA, buildv, stC, oneC, rowMB, intsA, plN, appE, appZ, appC, appNZ, appNC, VwL, srcC, srcZ, srcM, isBoolT, isPtrT, isSliceT, uOk, Value.oneCell', Nat.reducePow, Int.reducePow, Nat.reduceAdd, Nat.reduceMul, Nat.reduceSub, Nat.reduceLT, Nat.reduceLeDiff, Nat.reduceEqDiff, Nat.reduceBEq, Nat.reduceDiv, Nat.reduceMod, ↓reduceIte, reduceCtorEq, Int.reduceToNat, Int.reduceLT, Int.reduceLE, TFStD, SeqQ, BlkQ, LoopQ, BodyQ, hs, FR.out])
            | (first | refine CallV.fn (cR) (Sm.out ?_) | refine ExF.mk (cR) (Sm.out ?_) | refine ExG.mk (fun _ => cR) (Sm.out ?_) | refine ExG.mkJ (fun _ => cR) (Sm.out ?_) | refine ExG.mkI (Ob.out ?_) (fun _ => cR) (Sm.out ?_))
            | (refine WP.seq fun K hK => ?_)
            | (refine WP.region (rvc_sound _ _ (Sm.out ?_)))
            | (refine WP.drawP (ia := 10) (is := 11) (k := 12) mixed (by decide +kernel) (by decide +kernel) (Sm.out ?_))
            | (refine WP.drawK rfl mixed (by decide +kernel) (Sm.out ?_))
            | (refine Ob.mk ?_; focus (first | assumption | omega | decide | trivial | (intro hob; simp only [hob, ZF]; done) | (intros; (repeat' refine And.intro ?_ ?_) <;> first | assumption | omega | trivial | decide) | (intros; simp only [ZE] at *; (repeat' refine And.intro ?_ ?_) <;> first | assumption | omega | trivial)))
            | (refine And.intro (Ob.out ?_) ?_)
            | (refine WP.block ?_)
            | (refine WP.cond rfl (fun hc => ?_) (fun hc => ?_) <;> (try simp only [ZC, reduceCtorEq, ZD] at hc) <;> (try (exact absurd hc (by decide))) <;> (try (exfalso; omega)))
            | ((first | refine WP.skip ?_ | refine WP.exit ?_); simp only [SeqQ, BlkQ, LoopQ, BodyQ, ↓reduceIte, Nat.reduceEqDiff, reduceCtorEq, look, true_and])
            | (refine WP.ret (Sm.out ?_))
            | (first | refine ExG.no (Sm.out ?_) | refine Or.inl (ExG.no (Sm.out ?_)) | refine Or.inl (And.intro (fun hg => absurd hg (by decide)) (ExG.no (Sm.out ?_))))
            | (refine Rt.mk ?_; refine And.intro ?_ ?_ <;> (intro hg; first | exact absurd hg (by decide) | refine Sm.out ?_))
            | (refine Nu.mk ?_; first | (fail_if_success (have := nb1)); intro nb1 | (fail_if_success (have := nb2)); intro nb2 | (fail_if_success (have := nb3)); intro nb3 | (fail_if_success (have := nb4)); intro nb4 | (fail_if_success (have := nb5)); intro nb5 | (fail_if_success (have := nb6)); intro nb6 | intro nbz)
            | (refine Fr.mk ?_; intro hfr; (first | (have hFRb : _ ≤ _ ∧ _ ≤ _ := And.intro hfr.1 hfr.2.1) | (have hFRb : _ ≤ _ := hfr.1) | skip); replace FR := Sm.mk (And.intro hfr FR.out); clear hfr; refine Sm.out ?_)
            | (refine Two.mk ?_ ?_)
            | (refine Cs.mk ?_; intro hcs; first | exact False.elim hcs | (exfalso; omega) | (refine Sm.out ?_))
            | go_step
            | omega
            | (simp only [maxLen_eq]; omega)
          (refine OutQ.all ?_ ?_; (focus (simp only [resv, ZK, look, loadv, loadn, loadnm, load1, load1m, hget, ↓reduceIte, Nat.reduceEqDiff, Nat.reduceAdd, Nat.reduceMul, Nat.reduceLeDiff, Nat.reduceLT, reduceCtorEq, TFStD, hrd, FR.out])); (try simp only [resv, resA, Fn, ZK, look, loadv, loadn, loadnm, load1, load1m, hget, ↓reduceIte, Nat.reduceEqDiff, Nat.reduceAdd, Nat.reduceMul, Nat.reduceLeDiff, Nat.reduceLT, reduceCtorEq, TFStD, hrd, FR.out]); (try simp [resA, Fn, look, hrd, FR.out]))
      · have hno : ¬ dshp zs := fun h => by have := h.1; omega
        have hrd := rd_bad hno
        have kx : ((w : Int) == 2) = false := beq_eq_false_iff_ne.2 (by omega)
        have ky : ((w : Int) != 2) = true := by simp only [bne, kx]; rfl
        first | (have FRx := FR; clear FRx) | (have FR : Sm (¬ ((1 : Nat) = 0)) := Sm.mk Nat.one_ne_zero)
        repeat' first
          | (refine Sm.mk ?_; try simp -dsimp only [ZK, rvc, drawF, headN, pureH, stp, dvc, calleeOf, gcall, pev, eff, newB, okd, og, ogs, ogo, ogp, slv, bltv, opd, litv, strip, one, both, putE, St.put, look, gdOf, gdv, picka, pickv, pickw, binv, bini, bins, binb, binp, binq, isSlT, bina, shp, eqCells, unv, convv, nilv, faddv, addp, idxav, idxp, load1, load1m, loadn, loadnm, loadv, hget, hset, hrep, hdel, slicev, bnd, shift1, lenv, capv, IntKind.bits, extractv, fieldv, indexv, min2v, max2v, mkiv, cellsA, fillA, buildv, stC, oneC, rowMB, intsA, plN, appE, appZ, appC, appNZ, appNC, VwL, srcC, srcZ, srcM, isBoolT, isPtrT, isSliceT, uOk, Value.oneCell', Nat.reducePow, Int.reducePow, Nat.reduceAdd, Nat.reduceMul, Nat.reduceSub, Nat.reduceLT, Nat.reduceLeDiff, Nat.reduceEqDiff, Nat.reduceBEq, Nat.reduceDiv, Nat.reduceMod, ↓reduceIte, reduceCtorEq, Int.reduceToNat, Int.reduceLT, Int.reduceLE, TFStD, SeqQ, BlkQ, LoopQ, BodyQ, hs, kx, ky, FR.out])
          | (refine WP.seq fun K hK => ?_)
          | (refine WP.region (rvc_sound _ _ (Sm.out ?_)))
          | (refine WP.drawP (ia := 10) (is := 11) (k := 12) mixed (by decide +kernel) (by decide +kernel) (Sm.out ?_))
          | (refine WP.drawK rfl mixed (by decide +kernel) (Sm.out ?_))
          | (refine Ob.mk ?_; focus (first | assumption | omega | decide | trivial | (intro hob; simp only [hob, ZF]; done) | (intros; (repeat' refine And.intro ?_ ?_) <;> first | assumption | omega | trivial | decide) | (intros; simp only [ZE] at *; (repeat' refine And.intro ?_ ?_) <;> first | assumption | omega | trivial)))
          | (refine And.intro (Ob.out ?_) ?_)
          | (refine WP.block ?_)
          | (refine WP.cond rfl (fun hc => ?_) (fun hc => ?_) <;> (try simp only [ZC, reduceCtorEq, ZD] at hc) <;> (try (exact absurd hc (by decide))) <;> (try (exfalso; omega)))
          | ((first | refine WP.skip ?_ | refine WP.exit ?_); simp only [SeqQ, BlkQ, LoopQ, BodyQ, ↓reduceIte, Nat.reduceEqDiff, reduceCtorEq, look, true_and])
          | (refine WP.ret (Sm.out ?_))
          | (first | refine ExG.no (Sm.out ?_) | refine Or.inl (ExG.no (Sm.out ?_)) | refine Or.inl (And.intro (fun hg => absurd hg (by decide)) (ExG.no (Sm.out ?_))))
          | (refine Rt.mk ?_; refine And.intro ?_ ?_ <;> (intro hg; first | exact absurd hg (by decide) | refine Sm.out ?_))
          | (refine Nu.mk ?_; first | (fail_if_success (have := nb1)); intro nb1 | (fail_if_success (have := nb2)); intro nb2 | (fail_if_success (have := nb3)); intro nb3 | (fail_if_success (have := nb4)); intro nb4 | (fail_if_success (have := nb5)); intro nb5 | (fail_if_success (have := nb6)); intro nb6 | intro nbz)
          | (refine Fr.mk ?_; intro hfr; (first | (have hFRb : _ ≤ _ ∧ _ ≤ _ := And.intro hfr.1 hfr.2.1) | (have hFRb : _ ≤ _ := hfr.1) | skip); replace FR := Sm.mk (And.intro hfr FR.out); clear hfr; refine Sm.out ?_)
          | (refine Two.mk ?_ ?_)
          | (refine Cs.mk ?_; intro hcs; first | exact False.elim hcs | (exfalso; omega) | (refine Sm.out ?_))
          | go_step
          | omega
          | (simp only [maxLen_eq]; omega)
        (refine OutQ.all ?_ ?_; (focus (simp only [resv, ZK, look, loadv, loadn, loadnm, load1, load1m, hget, ↓reduceIte, Nat.reduceEqDiff, Nat.reduceAdd, Nat.reduceMul, Nat.reduceLeDiff, Nat.reduceLT, reduceCtorEq, TFStD, hrd, FR.out])); (try simp only [resv, resA, Fn, ZK, look, loadv, loadn, loadnm, load1, load1m, hget, ↓reduceIte, Nat.reduceEqDiff, Nat.reduceAdd, Nat.reduceMul, Nat.reduceLeDiff, Nat.reduceLT, reduceCtorEq, TFStD, hrd, FR.out]); (try simp [resA, Fn, look, hrd, FR.out]))
end Go.Proofs.YtndpkahhmgnhpaaDoor
