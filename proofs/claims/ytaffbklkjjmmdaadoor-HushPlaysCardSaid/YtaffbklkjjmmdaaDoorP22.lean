/-
  The walks and the laws that the statement leans on, part 22.
-/
import Derived.Test.YtaffbklkjjmmdaaDoorP9
import Derived.Test.YtaffbklkjjmmdaaDoorP17
import Derived.Test.YtaffbklkjjmmdaaDoorP21
namespace Go.Proofs.YtaffbklkjjmmdaaDoor
open Go
set_option linter.unusedVariables false
set_option linter.unusedSimpArgs false
set_option linter.defProp false
def TFHuF :=
  And.intro (And.intro (And.intro (And.intro (And.intro tyc0 tyc2) (And.intro zmb2 (And.intro tyc3 zmb3))) (And.intro (And.intro tyc4 zmb4) (And.intro tyc9 (And.intro zmb9 tyc22)))) (And.intro (And.intro (And.intro elt22 mkz22) (And.intro mkc22 (And.intro apT22 elk22))) (And.intro (And.intro zmb22 tyc32) (And.intro foff32_0 (And.intro fpart32_0 foff32_1))))) (And.intro (And.intro (And.intro (And.intro fpart32_1 foff32_2) (And.intro fpart32_2 (And.intro foff32_3 fpart32_3))) (And.intro (And.intro foff32_4 fpart32_4) (And.intro fe32 (And.intro zmb32 bldT32)))) (And.intro (And.intro (And.intro tyc40 zmb40) (And.intro Tryd.underlying0 (And.intro Tryd.underlying2 Tryd.underlying3))) (And.intro (And.intro Tryd.underlying4 Tryd.underlying9) (And.intro Tryd.underlying22 (And.intro Tryd.underlying32 Tryd.underlying40)))))
theorem Y1HuF {G R : Prop} (r : R) (h : R → G := by intro r; first | (apply WP.region; exact rvc_sound _ _ (Sm.out r)) | exact WP.drawMk (ia := 3) (k := 4) mixed (by decide +kernel) (by decide +kernel) (by decide +kernel) (by decide +kernel) (Sm.out r) | exact WP.drawK rfl mixed (by decide +kernel) (Sm.out r) | (apply WP.block; exact r) | (apply WP.skip; exact Yq r) | (apply WP.exit; exact Yq r) | (apply WP.ret; exact Sm.out r) | exact WP.cond rfl (fun _ => r) (fun hg => absurd hg (by decide)) | exact WP.cond rfl (fun hg => absurd hg (by decide)) (fun _ => r) | exact Rt.mk (And.intro (fun _ => Sm.out r) fun hg => absurd hg (by decide)) | exact Rt.mk (And.intro (fun hg => absurd hg (by decide)) fun _ => Sm.out r)) : G := h r
theorem YzHuF {G R : Prop} (r : R) (h : R → G := by intro r; first | (apply ExG.no; exact Sm.out r) | (apply Or.inl; apply ExG.no; exact Sm.out r) | exact Or.inl (And.intro (fun hg => absurd hg (by decide)) (ExG.no (Sm.out r)))) : G := h r
theorem YsHuF0 {P Q : Prop} (q : Q) (h : P = Q := by (try (conv => lhs; simp -dsimp only [ZK, rvc, capA, appA, litL, mkfv, drawF, headN, pureH, stp, dvc, calleeOf, gcall, pev, eff, newB, okd, og, ogs, ogo, ogp, slv, bltv, opd, litv, strip, one, both, putE, St.put, look, gdOf, gdv, picka, pickv, pickw, binv, bini, bins, binb, binp, binq, isSlT, bina, shp, eqCells, unv, convv, nilv, faddv, addp, idxav, idxp, load1, load1m, loadn, loadnm, loadv, hget, hset, hrep, hdel, slicev, slice3v, bnd, shift1, lenv, capv, IntKind.bits, extractv, fieldv, indexv, min2v, max2v, mkiv, tasv, tasz, cellsA, fillA, buildv, stC, oneC, rowMB, intsA, plN, appE, appZ, appC, appS, srcB, appNZ, appNC, VwL, srcC, srcZ, srcM, isBoolT, isPtrT, isSliceT, uOk, Value.oneCell', Nat.reducePow, Int.reducePow, Nat.reduceAdd, Nat.reduceMul, Nat.reduceSub, Nat.reduceLT, Nat.reduceLeDiff, Nat.reduceEqDiff, Nat.reduceBEq, Nat.reduceDiv, Nat.reduceMod, ↓reduceIte, reduceCtorEq, Int.reduceToNat, Int.reduceLT, Int.reduceLE, drawMF, mkS, TFHuF, SeqQ, BlkQ, LoopQ, BodyQ, rvt, oT17, oTa, oTb, oT4, FA.out, FR.out])) <;> exact rfl) : P := h.mpr q
theorem YsHuF1 {P Q : Prop} (q : Q) (h : P = Q := by (try (conv => lhs; simp -dsimp only [ZK, rvc, capA, appA, litL, mkfv, drawF, headN, pureH, stp, dvc, calleeOf, gcall, pev, eff, newB, okd, og, ogs, ogo, ogp, slv, bltv, opd, litv, strip, one, both, putE, St.put, look, gdOf, gdv, picka, pickv, pickw, binv, bini, bins, binb, binp, binq, isSlT, bina, shp, eqCells, unv, convv, nilv, faddv, addp, idxav, idxp, load1, load1m, loadn, loadnm, loadv, hget, hset, hrep, hdel, slicev, slice3v, bnd, shift1, lenv, capv, IntKind.bits, extractv, fieldv, indexv, min2v, max2v, mkiv, tasv, tasz, cellsA, fillA, buildv, stC, oneC, rowMB, intsA, plN, appE, appZ, appC, appS, srcB, appNZ, appNC, VwL, srcC, srcZ, srcM, isBoolT, isPtrT, isSliceT, uOk, Value.oneCell', Nat.reducePow, Int.reducePow, Nat.reduceAdd, Nat.reduceMul, Nat.reduceSub, Nat.reduceLT, Nat.reduceLeDiff, Nat.reduceEqDiff, Nat.reduceBEq, Nat.reduceDiv, Nat.reduceMod, ↓reduceIte, reduceCtorEq, Int.reduceToNat, Int.reduceLT, Int.reduceLE, drawMF, mkS, TFHuF, SeqQ, BlkQ, LoopQ, BodyQ, rvt, oT17, oTa, oTb, oT4, List.nil_append, Nat.zero_add, FA.out, FR.out])) <;> exact rfl) : P := h.mpr q
noncomputable def addC (l : List Sl) (s : Sl) (now : Int) : Int := if !srB s then 2 else if s.t ≤ now then 13 else if 0 ≤ ixF (nmP s.nm) l 0 then 18 else if 12 ≤ l.length then 11 else 0
noncomputable def addL (l : List Sl) (s : Sl) (now : Int) : List Sl := if addC l s now = 0 then l ++ [s] else []
noncomputable def adR (l : List Sl) (s : Sl) (now : Int) : AV := .tup [.sl (addL l s now).length (scs (addL l s now)), iv .i64 (addC l s now)]
theorem ad_no {l : List Sl} {s : Sl} {now c : Int} (h : addC l s now = c) (hc : c ≠ 0) : adR l s now = .tup [.sl 0 [], iv .i64 c] := by
  unfold adR addL
  rw [h, if_neg hc]; rfl
theorem ad_yes {l : List Sl} {s : Sl} {now : Int} {n : Nat} (hn : l.length = n) (h : addC l s now = 0) : adR l s now = .tup [.sl (n + 1) (scs l ++ [.lit (.string s.nm), .lit (.string s.gl), iv .i64 s.w, iv .i64 s.f, iv .i64 s.t]), iv .i64 0] := by
  unfold adR addL
  rw [h, if_pos rfl, scs_app, List.length_append, hn]; rfl
theorem addC1 {l : List Sl} {s : Sl} {now : Int} (h : srB s = false) : addC l s now = 2 := by unfold addC; rw [h]; rfl
theorem addC2 {l : List Sl} {s : Sl} {now : Int} (h : srB s = true) (h2 : s.t ≤ now) : addC l s now = 13 := by unfold addC; rw [h, if_pos h2]; rfl
theorem addC3 {l : List Sl} {s : Sl} {now : Int} (h : srB s = true) (h2 : ¬ s.t ≤ now) (h3 : 0 ≤ ixF (nmP s.nm) l 0) : addC l s now = 18 := by unfold addC; rw [h, if_neg h2, if_pos h3]; rfl
theorem addC4 {l : List Sl} {s : Sl} {now : Int} (h : srB s = true) (h2 : ¬ s.t ≤ now) (h3 : ¬ 0 ≤ ixF (nmP s.nm) l 0) (h4 : 12 ≤ l.length) : addC l s now = 11 := by unfold addC; rw [h, if_neg h2, if_neg h3, if_pos h4]; rfl
theorem addC5 {l : List Sl} {s : Sl} {now : Int} (h : srB s = true) (h2 : ¬ s.t ≤ now) (h3 : ¬ 0 ≤ ixF (nmP s.nm) l 0) (h4 : ¬ 12 ≤ l.length) : addC l s now = 0 := by unfold addC; rw [h, if_neg h2, if_neg h3, if_neg h4]; rfl
def oT4 : OT := .one 4 (.one 5 (.one 6 .nil))
def oTa : OT := .one 3 oT4
def oTb : OT := .one 1 oT4
def oT17 : OT := .two 0 (.two 1 (.one 2 oTa) 2 (.two 1 oTa 3 oTb)) 2 (.two 0 (.two 1 oTa 3 oTb) 3 (.one 0 oTb))
set_option maxHeartbeats 4000000 in
theorem add_row {X : AV} (l : List Sl) (s : Sl) (now : Int) (n : Nat) (hn : l.length = n) (hl : n ≤ 100000) (hz : Sz s) (hX : (∃ m D, X = .sl m D ∧ m = n) ∨ (n = 0 ∧ ∃ ad cap, X = .lit (.slice (some ad) 0 cap))) (n0 n1 : Nat)
    (cN : ACt Tryd.prog 42 [X, .lit (.string s.nm)] [] (Fn (iv .i64 (ixF (nmP s.nm) l 0))))
    (cC : ACt Tryd.prog 43 [X] [] (fun r F' => ∃ x c : Nat, (n ≤ c ∧ c ≤ 9223372036854775807) ∧ r = ms x 0 n c ∧ F' = (x, .cells (scs l) (c * 5) 32) :: [])) :
    ACt Tryd.prog 17 [X, siv s, iv .i64 now] [(0, .ro .u8 fsZ 256 n0), (1, .ro .u8 acZ 32 n1)] (fun r F' => ∃ E, F' = [(0, .ro .u8 fsZ 256 n0), (1, .ro .u8 acZ 32 n1)] ++ E ∧ Vw E r (adR l s now)) := by
  have cR := sright_ct s hz n0 n1
  have hA1 : srB s = false → adR l s now = .tup [.sl 0 [], iv .i64 2] := fun h => ad_no (addC1 h) (by decide)
  have hA2 : srB s = true → s.t ≤ now → adR l s now = .tup [.sl 0 [], iv .i64 13] := fun h h2 => ad_no (addC2 h h2) (by decide)
  have hA3 : srB s = true → ¬ s.t ≤ now → 0 ≤ ixF (nmP s.nm) l 0 → adR l s now = .tup [.sl 0 [], iv .i64 18] := fun h h2 h3 => ad_no (addC3 h h2 h3) (by decide)
  have hA4 : srB s = true → ¬ s.t ≤ now → ¬ 0 ≤ ixF (nmP s.nm) l 0 → 12 ≤ n → adR l s now = .tup [.sl 0 [], iv .i64 11] := fun h h2 h3 h4 => ad_no (addC4 h h2 h3 (by omega)) (by decide)
  have hA5 : srB s = true → ¬ s.t ≤ now → ¬ 0 ≤ ixF (nmP s.nm) l 0 → ¬ 12 ≤ n → adR l s now = .tup [.sl (n + 1) (scs l ++ [.lit (.string s.nm), .lit (.string s.gl), iv .i64 s.w, iv .i64 s.f, iv .i64 s.t]), iv .i64 0] := fun h h2 h3 h4 => ad_yes hn (addC5 h h2 h3 (by omega))
  have hCl := scs_len l
  have ho := scs_one l
  rw [hn] at hCl
  obtain ⟨R, hR⟩ : ∃ R, R = adR l s now := ⟨_, rfl⟩
  rw [← hR] at hA1 hA2 hA3 hA4 hA5 ⊢
  obtain ⟨p, hp⟩ : ∃ p, srB s = p := ⟨_, rfl⟩
  rw [hp] at cR hA1 hA2 hA3 hA4 hA5
  obtain ⟨x, hx⟩ : ∃ x : Int, ixF (nmP s.nm) l 0 = x := ⟨_, rfl⟩
  rw [hx] at cN hA3 hA4 hA5
  obtain ⟨C, hC'⟩ : ∃ C, C = scs l := ⟨_, rfl⟩
  rw [← hC'] at cC hCl ho hA5
  obtain ⟨sn, sg, w, f, t⟩ := s
  simp only at cR cN hA1 hA2 hA3 hA4 hA5
  obtain ⟨FZ, hFZ⟩ : ∃ FZ, FZ = fsZ := ⟨_, rfl⟩
  obtain ⟨AZ, hAZ⟩ : ∃ AZ, AZ = acZ := ⟨_, rfl⟩
  rw [← hFZ, ← hAZ] at cR ⊢
  clear hR hp hx hC' hFZ hAZ hz
  have q1 : (n + 1) * 5 = n * 5 + 5 := by omega
  rcases hX with ⟨m, D, rfl, rfl⟩ | ⟨rfl, ad, cap, rfl⟩
  · refine ACt.intro Tryd.func17 rfl (by kernel_rfl) (by simp [Tryd.ntmps17]) (fun cx => ?_)
    simp only [argE, Tryd.ntmps17, Tryd.results17]
    first | (have FRx := FR; clear FRx) | have FR := fr0S
    have FA := Sm.mk (TFHuF)
    repeat' first | (apply Sm.mk; refine Ys ?_) | refine WP.seq fun K hK => ?_ | (apply Ob.mk; exact Yo) | refine And.intro (Ob.out ?_) ?_ | ((fail_if_success (show WP _ _ _ (.region 9 _ _) _ _)); refine Y1HuF ?_) | refine Yl2 (c := cR) (r := ?_) | refine Yc (c := cN) (r := ?_) | refine YzHuF ?_ | (refine WP.cond rfl (fun hc => ?_) (fun hc => ?_) <;> (try simp only [ZC, reduceCtorEq, ZD] at hc) <;> (try exact absurd hc (by decide)) <;> (try (exfalso; omega))) | refine Rt.mk (And.intro (fun hg => Sm.out ?_) fun hg => Sm.out ?_) | (refine Nu.mk ?_; first | (fail_if_success have := nb1); intro nb1 | (fail_if_success have := nb2); intro nb2 | (fail_if_success have := nb3); intro nb3 | (fail_if_success have := nb4); intro nb4 | (fail_if_success have := nb5); intro nb5 | (fail_if_success have := nb6); intro nb6 | (fail_if_success have := nb7); intro nb7 | (fail_if_success have := nb8); intro nb8 | (fail_if_success have := nb9); intro nb9 | (fail_if_success have := nb10); intro nb10 | intro nbz) | (apply Yfr; refine Yf FR fun hFRb FR => ?_) | refine Two.mk ?_ ?_ | (apply Yxc; exact Yx) | refine Cs.mk fun hcs => Sm.out ?_ | go_step | omega | (simp only [maxLen_eq]; omega) | exact trivial
    · (refine OutQ.drop _ _ (perm2 (b1 := 0) (b2 := 1) (by simp only [hget, hdel, ↓reduceIte, if_true, if_false, FR.out]; first | done | rfl) (by simp only [hget, hdel, ↓reduceIte, if_true, if_false, FR.out]; first | done | rfl)) (by simp only [resv, ZK, look, loadv, loadn, loadnm, load1, load1m, hget, ↓reduceIte, Nat.reduceEqDiff, Nat.reduceAdd, Nat.reduceMul, Nat.reduceLeDiff, Nat.reduceLT, reduceCtorEq, TFHuF, FR.out]) ?_; simp only [resv, resA, ZK, look, loadv, loadn, loadnm, load1, load1m, hget, ↓reduceIte, Nat.reduceEqDiff, Nat.reduceAdd, Nat.reduceMul, Nat.reduceLeDiff, Nat.reduceLT, reduceCtorEq, TFHuF, FR.out]; exact ⟨[], rfl, vw_nilc (hA1 hc)⟩)
    · (refine OutQ.drop _ _ (perm2 (b1 := 0) (b2 := 1) (by simp only [hget, hdel, ↓reduceIte, if_true, if_false, FR.out]; first | done | rfl) (by simp only [hget, hdel, ↓reduceIte, if_true, if_false, FR.out]; first | done | rfl)) (by simp only [resv, ZK, look, loadv, loadn, loadnm, load1, load1m, hget, ↓reduceIte, Nat.reduceEqDiff, Nat.reduceAdd, Nat.reduceMul, Nat.reduceLeDiff, Nat.reduceLT, reduceCtorEq, TFHuF, FR.out]) ?_; simp only [resv, resA, ZK, look, loadv, loadn, loadnm, load1, load1m, hget, ↓reduceIte, Nat.reduceEqDiff, Nat.reduceAdd, Nat.reduceMul, Nat.reduceLeDiff, Nat.reduceLT, reduceCtorEq, TFHuF, FR.out]; exact ⟨[], rfl, vw_nilc (hA2 (by assumption) hc)⟩)
    · (refine OutQ.drop _ _ (perm2 (b1 := 0) (b2 := 1) (by simp only [hget, hdel, ↓reduceIte, if_true, if_false, FR.out]; first | done | rfl) (by simp only [hget, hdel, ↓reduceIte, if_true, if_false, FR.out]; first | done | rfl)) (by simp only [resv, ZK, look, loadv, loadn, loadnm, load1, load1m, hget, ↓reduceIte, Nat.reduceEqDiff, Nat.reduceAdd, Nat.reduceMul, Nat.reduceLeDiff, Nat.reduceLT, reduceCtorEq, TFHuF, FR.out]) ?_; simp only [resv, resA, ZK, look, loadv, loadn, loadnm, load1, load1m, hget, ↓reduceIte, Nat.reduceEqDiff, Nat.reduceAdd, Nat.reduceMul, Nat.reduceLeDiff, Nat.reduceLT, reduceCtorEq, TFHuF, FR.out]; exact ⟨[], rfl, vw_nilc (hA3 (by assumption) (by omega) (by omega))⟩)
    · (refine OutQ.drop _ _ (perm2 (b1 := 0) (b2 := 1) (by simp only [hget, hdel, ↓reduceIte, if_true, if_false, FR.out]; first | done | rfl) (by simp only [hget, hdel, ↓reduceIte, if_true, if_false, FR.out]; first | done | rfl)) (by simp only [resv, ZK, look, loadv, loadn, loadnm, load1, load1m, hget, ↓reduceIte, Nat.reduceEqDiff, Nat.reduceAdd, Nat.reduceMul, Nat.reduceLeDiff, Nat.reduceLT, reduceCtorEq, TFHuF, FR.out]) ?_; simp only [resv, resA, ZK, look, loadv, loadn, loadnm, load1, load1m, hget, ↓reduceIte, Nat.reduceEqDiff, Nat.reduceAdd, Nat.reduceMul, Nat.reduceLeDiff, Nat.reduceLT, reduceCtorEq, TFHuF, FR.out]; exact ⟨[], rfl, vw_nilc (hA4 (by assumption) (by omega) (by omega) (by omega))⟩)
    · have hA := hA5 (by assumption) (by omega) (by omega) (by omega)
      clear hA1 hA2 hA3 hA4 hA5 cR cN
      refine WP.drawT oT17 mixed (by decide +kernel) (Sm.out ?_)
      first | (have FRx := FR; clear FRx) | have FR := fr0S
      have FA := Sm.mk (And.intro TFHuF (And.intro q1 (And.intro hCl ho)))
      repeat' first | (apply Sm.mk; refine YsHuF0 ?_) | refine WP.seq fun K hK => ?_ | (apply Ob.mk; exact Yo) | refine And.intro (Ob.out ?_) ?_ | refine Y1HuF ?_ | refine CallV.newC (cC) (List.Perm.refl _) (fun _ _ => rfl) (Sm.out ?_) | refine YzHuF ?_ | (refine WP.cond rfl (fun hc => ?_) (fun hc => ?_) <;> (try simp only [ZC, reduceCtorEq, ZD] at hc) <;> (try exact absurd hc (by decide)) <;> (try (exfalso; omega))) | refine Rt.mk (And.intro (fun hg => Sm.out ?_) fun hg => Sm.out ?_) | (refine Nu.mk ?_; first | (fail_if_success have := nb1); intro nb1 | (fail_if_success have := nb2); intro nb2 | (fail_if_success have := nb3); intro nb3 | (fail_if_success have := nb4); intro nb4 | (fail_if_success have := nb5); intro nb5 | (fail_if_success have := nb6); intro nb6 | (fail_if_success have := nb7); intro nb7 | (fail_if_success have := nb8); intro nb8 | (fail_if_success have := nb9); intro nb9 | (fail_if_success have := nb10); intro nb10 | intro nbz) | (apply Yfr; refine Yf FR fun hFRb FR => ?_) | refine Two.mk ?_ ?_ | (apply Yxc; exact Yx) | refine Cs.mk fun hcs => Sm.out ?_ | go_step | omega | (simp only [maxLen_eq]; omega) | exact trivial
      all_goals (refine OutQ.drop _ _ (perm3 (b1 := 0) (b2 := 1) (b3 := nb5) (by simp only [hget, hdel, ↓reduceIte, if_true, if_false, FR.out]; first | done | rfl) (by simp only [hget, hdel, ↓reduceIte, if_true, if_false, FR.out]; first | done | rfl) (by simp only [hget, hdel, ↓reduceIte, if_true, if_false, FR.out]; first | done | rfl)) (by simp only [resv, ZK, look, loadv, loadn, loadnm, load1, load1m, hget, ↓reduceIte, Nat.reduceEqDiff, Nat.reduceAdd, Nat.reduceMul, Nat.reduceLeDiff, Nat.reduceLT, reduceCtorEq, TFHuF, FR.out]) ?_; simp only [resv, resA, ZK, look, loadv, loadn, loadnm, load1, load1m, hget, ↓reduceIte, Nat.reduceEqDiff, Nat.reduceAdd, Nat.reduceMul, Nat.reduceLeDiff, Nat.reduceLT, reduceCtorEq, TFHuF, FR.out]; exact ⟨_, rfl, vw_rowc hA hFRb.1 hFRb.2⟩)
  · have k12 : decide ((0 : Int) ≥ 12) = false := rfl
    have e0 : C = [] := List.eq_nil_of_length_eq_zero (by omega)
    refine ACt.intro Tryd.func17 rfl (by kernel_rfl) (by simp [Tryd.ntmps17]) (fun cx => ?_)
    simp only [argE, Tryd.ntmps17, Tryd.results17]
    first | (have FRx := FR; clear FRx) | have FR := fr0S
    have FA := Sm.mk (And.intro TFHuF k12)
    repeat' first | (apply Sm.mk; refine Ys ?_) | refine WP.seq fun K hK => ?_ | (apply Ob.mk; exact Yo) | refine And.intro (Ob.out ?_) ?_ | ((fail_if_success (show WP _ _ _ (.region 9 _ _) _ _)); refine Y1HuF ?_) | refine Yl2 (c := cR) (r := ?_) | refine Yc (c := cN) (r := ?_) | refine YzHuF ?_ | (refine WP.cond rfl (fun hc => ?_) (fun hc => ?_) <;> (try simp only [ZC, reduceCtorEq, ZD] at hc) <;> (try exact absurd hc (by decide)) <;> (try (exfalso; omega))) | refine Rt.mk (And.intro (fun hg => Sm.out ?_) fun hg => Sm.out ?_) | (refine Nu.mk ?_; first | (fail_if_success have := nb1); intro nb1 | (fail_if_success have := nb2); intro nb2 | (fail_if_success have := nb3); intro nb3 | (fail_if_success have := nb4); intro nb4 | (fail_if_success have := nb5); intro nb5 | (fail_if_success have := nb6); intro nb6 | (fail_if_success have := nb7); intro nb7 | (fail_if_success have := nb8); intro nb8 | (fail_if_success have := nb9); intro nb9 | (fail_if_success have := nb10); intro nb10 | intro nbz) | (apply Yfr; refine Yf FR fun hFRb FR => ?_) | refine Two.mk ?_ ?_ | (apply Yxc; exact Yx) | refine Cs.mk fun hcs => Sm.out ?_ | go_step | omega | (simp only [maxLen_eq]; omega) | exact trivial
    · (refine OutQ.drop _ _ (perm2 (b1 := 0) (b2 := 1) (by simp only [hget, hdel, ↓reduceIte, if_true, if_false, FR.out]; first | done | rfl) (by simp only [hget, hdel, ↓reduceIte, if_true, if_false, FR.out]; first | done | rfl)) (by simp only [resv, ZK, look, loadv, loadn, loadnm, load1, load1m, hget, ↓reduceIte, Nat.reduceEqDiff, Nat.reduceAdd, Nat.reduceMul, Nat.reduceLeDiff, Nat.reduceLT, reduceCtorEq, TFHuF, FR.out]) ?_; simp only [resv, resA, ZK, look, loadv, loadn, loadnm, load1, load1m, hget, ↓reduceIte, Nat.reduceEqDiff, Nat.reduceAdd, Nat.reduceMul, Nat.reduceLeDiff, Nat.reduceLT, reduceCtorEq, TFHuF, FR.out]; exact ⟨[], rfl, vw_nilc (hA1 hc)⟩)
    · (refine OutQ.drop _ _ (perm2 (b1 := 0) (b2 := 1) (by simp only [hget, hdel, ↓reduceIte, if_true, if_false, FR.out]; first | done | rfl) (by simp only [hget, hdel, ↓reduceIte, if_true, if_false, FR.out]; first | done | rfl)) (by simp only [resv, ZK, look, loadv, loadn, loadnm, load1, load1m, hget, ↓reduceIte, Nat.reduceEqDiff, Nat.reduceAdd, Nat.reduceMul, Nat.reduceLeDiff, Nat.reduceLT, reduceCtorEq, TFHuF, FR.out]) ?_; simp only [resv, resA, ZK, look, loadv, loadn, loadnm, load1, load1m, hget, ↓reduceIte, Nat.reduceEqDiff, Nat.reduceAdd, Nat.reduceMul, Nat.reduceLeDiff, Nat.reduceLT, reduceCtorEq, TFHuF, FR.out]; exact ⟨[], rfl, vw_nilc (hA2 (by assumption) hc)⟩)
    · (refine OutQ.drop _ _ (perm2 (b1 := 0) (b2 := 1) (by simp only [hget, hdel, ↓reduceIte, if_true, if_false, FR.out]; first | done | rfl) (by simp only [hget, hdel, ↓reduceIte, if_true, if_false, FR.out]; first | done | rfl)) (by simp only [resv, ZK, look, loadv, loadn, loadnm, load1, load1m, hget, ↓reduceIte, Nat.reduceEqDiff, Nat.reduceAdd, Nat.reduceMul, Nat.reduceLeDiff, Nat.reduceLT, reduceCtorEq, TFHuF, FR.out]) ?_; simp only [resv, resA, ZK, look, loadv, loadn, loadnm, load1, load1m, hget, ↓reduceIte, Nat.reduceEqDiff, Nat.reduceAdd, Nat.reduceMul, Nat.reduceLeDiff, Nat.reduceLT, reduceCtorEq, TFHuF, FR.out]; exact ⟨[], rfl, vw_nilc (hA3 (by assumption) (by omega) (by omega))⟩)
    · have hA := hA5 (by assumption) (by omega) (by omega) (by omega)
      clear hA1 hA2 hA3 hA4 hA5 cR cN
      refine WP.drawT oT17 mixed (by decide +kernel) (Sm.out ?_)
      first | (have FRx := FR; clear FRx) | have FR := fr0S
      have FA := Sm.mk (And.intro TFHuF (And.intro q1 (And.intro hCl ho)))
      repeat' first | (apply Sm.mk; refine YsHuF0 ?_) | refine WP.seq fun K hK => ?_ | (apply Ob.mk; exact Yo) | refine And.intro (Ob.out ?_) ?_ | refine Y1HuF ?_ | refine CallV.newC (cC) (List.Perm.refl _) (fun _ _ => rfl) (Sm.out ?_) | refine YzHuF ?_ | (refine WP.cond rfl (fun hc => ?_) (fun hc => ?_) <;> (try simp only [ZC, reduceCtorEq, ZD] at hc) <;> (try exact absurd hc (by decide)) <;> (try (exfalso; omega))) | refine Rt.mk (And.intro (fun hg => Sm.out ?_) fun hg => Sm.out ?_) | (refine Nu.mk ?_; first | (fail_if_success have := nb1); intro nb1 | (fail_if_success have := nb2); intro nb2 | (fail_if_success have := nb3); intro nb3 | (fail_if_success have := nb4); intro nb4 | (fail_if_success have := nb5); intro nb5 | (fail_if_success have := nb6); intro nb6 | (fail_if_success have := nb7); intro nb7 | (fail_if_success have := nb8); intro nb8 | (fail_if_success have := nb9); intro nb9 | (fail_if_success have := nb10); intro nb10 | intro nbz) | (apply Yfr; refine Yf FR fun hFRb FR => ?_) | refine Two.mk ?_ ?_ | (apply Yxc; exact Yx) | refine Cs.mk fun hcs => Sm.out ?_ | go_step | omega | (simp only [maxLen_eq]; omega) | exact trivial
      all_goals (refine OutQ.drop _ _ (perm3 (b1 := 0) (b2 := 1) (b3 := nb5) (by simp only [hget, hdel, ↓reduceIte, if_true, if_false, FR.out]; first | done | rfl) (by simp only [hget, hdel, ↓reduceIte, if_true, if_false, FR.out]; first | done | rfl) (by simp only [hget, hdel, ↓reduceIte, if_true, if_false, FR.out]; first | done | rfl)) (by simp only [resv, ZK, look, loadv, loadn, loadnm, load1, load1m, hget, ↓reduceIte, Nat.reduceEqDiff, Nat.reduceAdd, Nat.reduceMul, Nat.reduceLeDiff, Nat.reduceLT, reduceCtorEq, TFHuF, FR.out]) ?_; simp only [resv, resA, ZK, look, loadv, loadn, loadnm, load1, load1m, hget, ↓reduceIte, Nat.reduceEqDiff, Nat.reduceAdd, Nat.reduceMul, Nat.reduceLeDiff, Nat.reduceLT, reduceCtorEq, TFHuF, FR.out]; exact ⟨_, rfl, vw_rowc hA hFRb.1 hFRb.2⟩)
set_option maxHeartbeats 4000000 in
theorem add_nil (cap : Nat) (l : List Sl) (s : Sl) (now : Int) (n : Nat) (hn : l.length = n) (hl : n ≤ 100000) (hz : Sz s) (hn0 : n = 0) (n0 n1 : Nat)
    (cN : ACt Tryd.prog 42 [.lit (.slice none 0 cap), .lit (.string s.nm)] [] (Fn (iv .i64 (ixF (nmP s.nm) l 0)))) :
    ACt Tryd.prog 17 [.lit (.slice none 0 cap), siv s, iv .i64 now] [(0, .ro .u8 fsZ 256 n0), (1, .ro .u8 acZ 32 n1)] (fun r F' => ∃ E, F' = [(0, .ro .u8 fsZ 256 n0), (1, .ro .u8 acZ 32 n1)] ++ E ∧ Vw E r (adR l s now)) := by
  have cC := clone_nil cap
  have cR := sright_ct s hz n0 n1
  have hA1 : srB s = false → adR l s now = .tup [.sl 0 [], iv .i64 2] := fun h => ad_no (addC1 h) (by decide)
  have hA2 : srB s = true → s.t ≤ now → adR l s now = .tup [.sl 0 [], iv .i64 13] := fun h h2 => ad_no (addC2 h h2) (by decide)
  have hA3 : srB s = true → ¬ s.t ≤ now → 0 ≤ ixF (nmP s.nm) l 0 → adR l s now = .tup [.sl 0 [], iv .i64 18] := fun h h2 h3 => ad_no (addC3 h h2 h3) (by decide)
  have hA4 : srB s = true → ¬ s.t ≤ now → ¬ 0 ≤ ixF (nmP s.nm) l 0 → 12 ≤ n → adR l s now = .tup [.sl 0 [], iv .i64 11] := fun h h2 h3 h4 => ad_no (addC4 h h2 h3 (by omega)) (by decide)
  have hA5 : srB s = true → ¬ s.t ≤ now → ¬ 0 ≤ ixF (nmP s.nm) l 0 → ¬ 12 ≤ n → adR l s now = .tup [.sl (n + 1) (scs l ++ [.lit (.string s.nm), .lit (.string s.gl), iv .i64 s.w, iv .i64 s.f, iv .i64 s.t]), iv .i64 0] := fun h h2 h3 h4 => ad_yes hn (addC5 h h2 h3 (by omega))
  have hCl := scs_len l
  have ho := scs_one l
  rw [hn] at hCl
  obtain ⟨R, hR⟩ : ∃ R, R = adR l s now := ⟨_, rfl⟩
  rw [← hR] at hA1 hA2 hA3 hA4 hA5 ⊢
  obtain ⟨p, hp⟩ : ∃ p, srB s = p := ⟨_, rfl⟩
  rw [hp] at cR hA1 hA2 hA3 hA4 hA5
  obtain ⟨x, hx⟩ : ∃ x : Int, ixF (nmP s.nm) l 0 = x := ⟨_, rfl⟩
  rw [hx] at cN hA3 hA4 hA5
  obtain ⟨C, hC'⟩ : ∃ C, C = scs l := ⟨_, rfl⟩
  rw [← hC'] at hCl ho hA5
  obtain ⟨sn, sg, w, f, t⟩ := s
  simp only at cR cN hA1 hA2 hA3 hA4 hA5
  obtain ⟨FZ, hFZ⟩ : ∃ FZ, FZ = fsZ := ⟨_, rfl⟩
  obtain ⟨AZ, hAZ⟩ : ∃ AZ, AZ = acZ := ⟨_, rfl⟩
  rw [← hFZ, ← hAZ] at cR ⊢
  clear hR hp hx hC' hFZ hAZ hz
  have q1 : (n + 1) * 5 = n * 5 + 5 := by omega
  subst hn0
  have k12 : decide ((0 : Int) ≥ 12) = false := rfl
  have e0 : C = [] := List.eq_nil_of_length_eq_zero (by omega)
  subst e0
  unfold nsl at cC
  refine ACt.intro Tryd.func17 rfl (by kernel_rfl) (by simp [Tryd.ntmps17]) (fun cx => ?_)
  simp only [argE, Tryd.ntmps17, Tryd.results17]
  first | (have FRx := FR; clear FRx) | have FR := fr0S
  have FA := Sm.mk (And.intro TFHuF k12)
  repeat' first | (apply Sm.mk; refine Ys ?_) | refine WP.seq fun K hK => ?_ | (apply Ob.mk; exact Yo) | refine And.intro (Ob.out ?_) ?_ | ((fail_if_success (show WP _ _ _ (.region 9 _ _) _ _)); refine Y1HuF ?_) | refine Yl2 (c := cR) (r := ?_) | refine Yc (c := cN) (r := ?_) | refine YzHuF ?_ | (refine WP.cond rfl (fun hc => ?_) (fun hc => ?_) <;> (try simp only [ZC, reduceCtorEq, ZD] at hc) <;> (try exact absurd hc (by decide)) <;> (try (exfalso; omega))) | refine Rt.mk (And.intro (fun hg => Sm.out ?_) fun hg => Sm.out ?_) | (refine Nu.mk ?_; first | (fail_if_success have := nb1); intro nb1 | (fail_if_success have := nb2); intro nb2 | (fail_if_success have := nb3); intro nb3 | (fail_if_success have := nb4); intro nb4 | (fail_if_success have := nb5); intro nb5 | (fail_if_success have := nb6); intro nb6 | (fail_if_success have := nb7); intro nb7 | (fail_if_success have := nb8); intro nb8 | (fail_if_success have := nb9); intro nb9 | (fail_if_success have := nb10); intro nb10 | intro nbz) | (apply Yfr; refine Yf FR fun hFRb FR => ?_) | refine Two.mk ?_ ?_ | (apply Yxc; exact Yx) | refine Cs.mk fun hcs => Sm.out ?_ | go_step | omega | (simp only [maxLen_eq]; omega) | exact trivial
  · (refine OutQ.drop _ _ (perm2 (b1 := 0) (b2 := 1) (by simp only [hget, hdel, ↓reduceIte, if_true, if_false, FR.out]; first | done | rfl) (by simp only [hget, hdel, ↓reduceIte, if_true, if_false, FR.out]; first | done | rfl)) (by simp only [resv, ZK, look, loadv, loadn, loadnm, load1, load1m, hget, ↓reduceIte, Nat.reduceEqDiff, Nat.reduceAdd, Nat.reduceMul, Nat.reduceLeDiff, Nat.reduceLT, reduceCtorEq, TFHuF, FR.out]) ?_; simp only [resv, resA, ZK, look, loadv, loadn, loadnm, load1, load1m, hget, ↓reduceIte, Nat.reduceEqDiff, Nat.reduceAdd, Nat.reduceMul, Nat.reduceLeDiff, Nat.reduceLT, reduceCtorEq, TFHuF, FR.out]; exact ⟨[], rfl, vw_nilc (hA1 hc)⟩)
  · (refine OutQ.drop _ _ (perm2 (b1 := 0) (b2 := 1) (by simp only [hget, hdel, ↓reduceIte, if_true, if_false, FR.out]; first | done | rfl) (by simp only [hget, hdel, ↓reduceIte, if_true, if_false, FR.out]; first | done | rfl)) (by simp only [resv, ZK, look, loadv, loadn, loadnm, load1, load1m, hget, ↓reduceIte, Nat.reduceEqDiff, Nat.reduceAdd, Nat.reduceMul, Nat.reduceLeDiff, Nat.reduceLT, reduceCtorEq, TFHuF, FR.out]) ?_; simp only [resv, resA, ZK, look, loadv, loadn, loadnm, load1, load1m, hget, ↓reduceIte, Nat.reduceEqDiff, Nat.reduceAdd, Nat.reduceMul, Nat.reduceLeDiff, Nat.reduceLT, reduceCtorEq, TFHuF, FR.out]; exact ⟨[], rfl, vw_nilc (hA2 (by assumption) hc)⟩)
  · (refine OutQ.drop _ _ (perm2 (b1 := 0) (b2 := 1) (by simp only [hget, hdel, ↓reduceIte, if_true, if_false, FR.out]; first | done | rfl) (by simp only [hget, hdel, ↓reduceIte, if_true, if_false, FR.out]; first | done | rfl)) (by simp only [resv, ZK, look, loadv, loadn, loadnm, load1, load1m, hget, ↓reduceIte, Nat.reduceEqDiff, Nat.reduceAdd, Nat.reduceMul, Nat.reduceLeDiff, Nat.reduceLT, reduceCtorEq, TFHuF, FR.out]) ?_; simp only [resv, resA, ZK, look, loadv, loadn, loadnm, load1, load1m, hget, ↓reduceIte, Nat.reduceEqDiff, Nat.reduceAdd, Nat.reduceMul, Nat.reduceLeDiff, Nat.reduceLT, reduceCtorEq, TFHuF, FR.out]; exact ⟨[], rfl, vw_nilc (hA3 (by assumption) (by omega) (by omega))⟩)
  · have hA := hA5 (by assumption) (by omega) (by omega) (by omega)
    clear hA1 hA2 hA3 hA4 hA5 cR cN
    refine WP.drawT oT17 mixed (by decide +kernel) (Sm.out ?_)
    first | (have FRx := FR; clear FRx) | have FR := fr0S
    have FA := Sm.mk (And.intro TFHuF (And.intro q1 (And.intro hCl ho)))
    repeat' first | (apply Sm.mk; refine YsHuF1 ?_) | refine WP.seq fun K hK => ?_ | (apply Ob.mk; exact Yo) | refine And.intro (Ob.out ?_) ?_ | refine Y1HuF ?_ | refine Yc (c := cC) (r := ?_) | refine YzHuF ?_ | (refine WP.cond rfl (fun hc => ?_) (fun hc => ?_) <;> (try simp only [ZC, reduceCtorEq, ZD] at hc) <;> (try exact absurd hc (by decide)) <;> (try (exfalso; omega))) | refine Rt.mk (And.intro (fun hg => Sm.out ?_) fun hg => Sm.out ?_) | (refine Nu.mk ?_; first | (fail_if_success have := nb1); intro nb1 | (fail_if_success have := nb2); intro nb2 | (fail_if_success have := nb3); intro nb3 | (fail_if_success have := nb4); intro nb4 | (fail_if_success have := nb5); intro nb5 | (fail_if_success have := nb6); intro nb6 | (fail_if_success have := nb7); intro nb7 | (fail_if_success have := nb8); intro nb8 | (fail_if_success have := nb9); intro nb9 | (fail_if_success have := nb10); intro nb10 | intro nbz) | (apply Yfr; refine Yf FR fun hFRb FR => ?_) | refine Two.mk ?_ ?_ | (apply Yxc; exact Yx) | refine Cs.mk fun hcs => Sm.out ?_ | go_step | omega | (simp only [maxLen_eq]; omega) | exact trivial
    all_goals (refine OutQ.drop _ _ (perm3 (b1 := 0) (b2 := 1) (b3 := nb3) (by simp only [hget, hdel, ↓reduceIte, if_true, if_false, FR.out]; first | done | rfl) (by simp only [hget, hdel, ↓reduceIte, if_true, if_false, FR.out]; first | done | rfl) (by simp only [hget, hdel, ↓reduceIte, if_true, if_false, FR.out]; first | done | rfl)) (by simp only [resv, ZK, look, loadv, loadn, loadnm, load1, load1m, hget, ↓reduceIte, Nat.reduceEqDiff, Nat.reduceAdd, Nat.reduceMul, Nat.reduceLeDiff, Nat.reduceLT, reduceCtorEq, TFHuF, FR.out]) ?_; simp only [resv, resA, ZK, look, loadv, loadn, loadnm, load1, load1m, hget, ↓reduceIte, Nat.reduceEqDiff, Nat.reduceAdd, Nat.reduceMul, Nat.reduceLeDiff, Nat.reduceLT, reduceCtorEq, TFHuF, FR.out]; exact ⟨_, rfl, vw_rowc hA hFRb.1 hFRb.2⟩)
theorem add_ct (l : List Sl) (s : Sl) (now : Int) (n : Nat) (hn : l.length = n) (hl : n ≤ 100000) (hz : Sz s) (n0 n1 : Nat) : ACt Tryd.prog 17 [.sl n (scs l), siv s, iv .i64 now] [(0, .ro .u8 fsZ 256 n0), (1, .ro .u8 acZ 32 n1)] (fun r F' => r = adR l s now ∧ F' = [(0, .ro .u8 fsZ 256 n0), (1, .ro .u8 acZ 32 n1)]) :=
  row_arg (pre := []) (post := [siv s, iv .i64 now]) hn
    (fun h1 => ACt.fzVF (add_row l s now n hn hl hz (.inl ⟨_, _, rfl, rfl⟩) n0 n1 (named_ct l s.nm n hn hl) (clone_rowS l n hn h1 hl)))
    (fun h cap hm => by
      subst h
      obtain rfl : n = 0 := by simpa using hn.symm
      exact ACt.fzVF (add_nil cap [] s now 0 rfl hl hz rfl n0 n1 (ACt.sl0 (pre := []) (post := [.lit (.string s.nm)]) hm (named_ct [] s.nm 0 rfl hl))))
    (fun h ad cap hm => by
      subst h
      obtain rfl : n = 0 := by simpa using hn.symm
      exact ACt.fzVF (add_row [] s now 0 rfl hl hz (.inr ⟨rfl, _, _, rfl⟩) n0 n1 (ACt.sl0 (pre := []) (post := [.lit (.string s.nm)]) hm (named_ct [] s.nm 0 rfl hl)) (clone_rowZ ad cap hm)))
end Go.Proofs.YtaffbklkjjmmdaaDoor
