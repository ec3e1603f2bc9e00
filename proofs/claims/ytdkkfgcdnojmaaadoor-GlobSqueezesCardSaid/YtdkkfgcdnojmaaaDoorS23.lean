/-
  The walks and the laws that the statement leans on, part 23.
-/
import Derived.Test.YtdkkfgcdnojmaaaDoorS13
import Derived.Test.YtdkkfgcdnojmaaaDoorS22
namespace Go.Proofs.YtdkkfgcdnojmaaaDoor
open Go
set_option linter.unusedVariables false
set_option linter.unusedSimpArgs false
set_option linter.defProp false
def TFGlF :=
  And.intro (And.intro (And.intro (And.intro tyc0 tyc3) (And.intro zmb3 (And.intro tyc4 zmb4))) (And.intro (And.intro tyc9 zmb9) (And.intro tyc21 (And.intro zmb21 tyc25)))) (And.intro (And.intro (And.intro elt25 mkz25) (And.intro apT25 (And.intro elk25 zmb25))) (And.intro (And.intro Tryd.underlying0 (And.intro Tryd.underlying3 Tryd.underlying4)) (And.intro Tryd.underlying9 (And.intro Tryd.underlying21 Tryd.underlying25))))
theorem Y1GlF {G R : Prop} (r : R) (h : R → G := by intro r; first | (apply WP.region; exact rvc_sound _ _ (Sm.out r)) | exact WP.drawK rfl mixed (by decide +kernel) (Sm.out r) | (apply WP.block; exact r) | (apply WP.skip; exact Yq r) | (apply WP.exit; exact Yq r) | (apply WP.ret; exact Sm.out r) | exact WP.cond rfl (fun _ => r) (fun hg => absurd hg (by decide)) | exact WP.cond rfl (fun hg => absurd hg (by decide)) (fun _ => r) | exact Rt.mk (And.intro (fun _ => Sm.out r) fun hg => absurd hg (by decide)) | exact Rt.mk (And.intro (fun hg => absurd hg (by decide)) fun _ => Sm.out r)) : G := h r
theorem YzGlF {G R : Prop} (r : R) (h : R → G := by intro r; first | (apply ExG.no; exact Sm.out r) | (apply Or.inl; apply ExG.no; exact Sm.out r) | exact Or.inl (And.intro (fun hg => absurd hg (by decide)) (ExG.no (Sm.out r)))) : G := h r
theorem YsGlF0 {P Q : Prop} (q : Q) (h : P = Q := by (try (conv => lhs; simp -dsimp only [ZK, rvc, capA, appA, litL, mkfv, drawF, headN, pureH, stp, dvc, calleeOf, gcall, pev, eff, newB, okd, og, ogs, ogo, ogp, slv, bltv, opd, litv, strip, one, both, putE, St.put, look, gdOf, gdv, picka, pickv, pickw, binv, bini, bins, binb, binp, binq, isSlT, bina, shp, eqCells, unv, convv, nilv, faddv, addp, idxav, idxp, load1, load1m, loadn, loadnm, loadv, hget, hset, hrep, hdel, slicev, slice3v, bnd, shift1, lenv, capv, IntKind.bits, extractv, fieldv, indexv, min2v, max2v, mkiv, tasv, tasz, cellsA, fillA, buildv, stC, oneC, rowMB, intsA, plN, appE, appZ, appC, appS, srcB, appNZ, appNC, VwL, srcC, srcZ, srcM, isBoolT, isPtrT, isSliceT, uOk, Value.oneCell', Nat.reducePow, Int.reducePow, Nat.reduceAdd, Nat.reduceMul, Nat.reduceSub, Nat.reduceLT, Nat.reduceLeDiff, Nat.reduceEqDiff, Nat.reduceBEq, Nat.reduceDiv, Nat.reduceMod, ↓reduceIte, reduceCtorEq, Int.reduceToNat, Int.reduceLT, Int.reduceLE, TFGlF, SeqQ, BlkQ, LoopQ, BodyQ, hin, hjm, FA.out, FR.out])) <;> exact rfl) : P := h.mpr q
theorem YsGlF1 {P Q : Prop} (q : Q) (h : P = Q := by (try (conv => lhs; simp -dsimp only [ZK, rvc, capA, appA, litL, mkfv, drawF, headN, pureH, stp, dvc, calleeOf, gcall, pev, eff, newB, okd, og, ogs, ogo, ogp, slv, bltv, opd, litv, strip, one, both, putE, St.put, look, gdOf, gdv, picka, pickv, pickw, binv, bini, bins, binb, binp, binq, isSlT, bina, shp, eqCells, unv, convv, nilv, faddv, addp, idxav, idxp, load1, load1m, loadn, loadnm, loadv, hget, hset, hrep, hdel, slicev, slice3v, bnd, shift1, lenv, capv, IntKind.bits, extractv, fieldv, indexv, min2v, max2v, mkiv, tasv, tasz, cellsA, fillA, buildv, stC, oneC, rowMB, intsA, plN, appE, appZ, appC, appS, srcB, appNZ, appNC, VwL, srcC, srcZ, srcM, isBoolT, isPtrT, isSliceT, uOk, Value.oneCell', Nat.reducePow, Int.reducePow, Nat.reduceAdd, Nat.reduceMul, Nat.reduceSub, Nat.reduceLT, Nat.reduceLeDiff, Nat.reduceEqDiff, Nat.reduceBEq, Nat.reduceDiv, Nat.reduceMod, ↓reduceIte, reduceCtorEq, Int.reduceToNat, Int.reduceLT, Int.reduceLE, TFGlF, SeqQ, BlkQ, LoopQ, BodyQ, hjm, FA.out, FR.out])) <;> exact rfl) : P := h.mpr q
open Classical in
noncomputable def mtB (zs ss : List Int) : Bool := rtB zs && decide (Mt (rn zs) (rn ss))
def sI (g : Gs) : Int := if g.b then (g.st : Int) else -1
theorem encs_len : ∀ l : List Int, (l.flatMap enc8).length ≤ 4 * l.length
  | [] => by simp
  | r :: l => by
    have := encs_len l
    have := (enc8_len r).2
    simp only [List.flatMap_cons, List.length_append, List.length_cons]
    omega
set_option maxHeartbeats 4000000 in
theorem match_ct (zs ss : List Int) (hb : By zs) (hbs : By ss) (hl : zs.length ≤ 5000) (hl2 : ss.length ≤ 5000) (n0 n1 : Nat) : ACt Tryd.prog 9 [stz zs, stz ss] [(0, .zs .u8 fsZ 256 n0), (1, .zs .u8 acZ 32 n1)] (fun r F' => r = bv (mtB zs ss) ∧ F' = [(0, .zs .u8 fsZ 256 n0), (1, .zs .u8 acZ 32 n1)]) := by
  have cG := right_ct zs hb hl n0 n1
  have cL := gr_ct zs hb hl
  have cT := gr_ct ss hbs hl2
  have hLl : (rn zs).length ≤ 5000 := by have := rF_len zs 0; rw [rF_zero] at this; omega
  have hTl : (rn ss).length ≤ 5000 := by have := rF_len ss 0; rw [rF_zero] at this; omega
  have hgr : rtB zs = true → ∀ r ∈ rn zs, Gr r := fun h => by
    unfold rtB at h
    simp only [Bool.and_eq_true] at h
    exact gr_rn hb (gdB_iff.1 h.1.2)
  unfold mtB
  obtain ⟨g, hg⟩ : ∃ g, g = rtB zs := ⟨_, rfl⟩
  rw [← hg] at cG hgr ⊢
  obtain ⟨L, hL⟩ : ∃ L, L = rn zs := ⟨_, rfl⟩
  obtain ⟨T, hT⟩ : ∃ T, T = rn ss := ⟨_, rfl⟩
  rw [← hL] at cL hLl hgr ⊢
  rw [← hT] at cT hTl ⊢
  obtain ⟨R, hR⟩ : ∃ R, R = @decide (Mt L T) (Classical.propDecidable _) := ⟨_, rfl⟩
  rw [← hR]
  have hRi : R = true ↔ Mt L T := by
    rw [hR]
    exact ⟨fun h => @of_decide_eq_true _ (Classical.propDecidable _) h, fun h => @decide_eq_true _ (Classical.propDecidable _) h⟩
  clear hR
  obtain ⟨F, hF⟩ : ∃ F, F = fsZ := ⟨_, rfl⟩
  obtain ⟨A, hA⟩ : ∃ A, A = acZ := ⟨_, rfl⟩
  rw [← hF, ← hA] at cG ⊢
  obtain ⟨n, hn⟩ : ∃ n, n = L.length := ⟨_, rfl⟩
  obtain ⟨m, hm⟩ : ∃ m, m = T.length := ⟨_, rfl⟩
  have hLn : L.length = n := hn.symm
  have hTm : T.length = m := hm.symm
  have t1 : ∀ k : Nat, ((k : Nat) : Int).toNat = k := fun k => by omega
  refine ACt.intro Tryd.func9 rfl (by kernel_rfl) (by simp [Tryd.ntmps9]) (fun cx => ?_)
  simp only [argE, Tryd.ntmps9, Tryd.results9]
  cases g with
  | false =>
    first | (have FRx := FR; clear FRx) | have FR := fr0S
    have FA := Sm.mk (TFGlF)
    repeat' first | (apply Sm.mk; refine Ys ?_) | refine WP.seq fun K hK => ?_ | (apply Ob.mk; exact Yo) | refine And.intro (Ob.out ?_) ?_ | refine Y1GlF ?_ | refine Yl2 (c := cG) (r := ?_) | refine YzGlF ?_ | (refine WP.cond rfl (fun hc => ?_) (fun hc => ?_) <;> (try simp only [ZC, reduceCtorEq, ZD] at hc) <;> (try exact absurd hc (by decide)) <;> (try (exfalso; omega))) | refine Rt.mk (And.intro (fun hg => Sm.out ?_) fun hg => Sm.out ?_) | (refine Nu.mk ?_; first | (fail_if_success have := nb1); intro nb1 | (fail_if_success have := nb2); intro nb2 | (fail_if_success have := nb3); intro nb3 | (fail_if_success have := nb4); intro nb4 | intro nbz) | (apply Yfr; refine Yf FR fun hFRb FR => ?_) | refine Two.mk ?_ ?_ | (apply Yxc; exact Yx) | refine Cs.mk fun hcs => Sm.out ?_ | go_step | omega | (simp only [maxLen_eq]; omega) | exact trivial
    (refine OutQ.drop _ _ (perm2 (by simp only [hget, hdel, ↓reduceIte, if_true, if_false, FR.out, Bool.false_and]; first | done | rfl) (by simp only [hget, hdel, ↓reduceIte, if_true, if_false, FR.out, Bool.false_and]; first | done | rfl)) (by simp only [resv, ZK, look, loadv, loadn, loadnm, load1, load1m, hget, ↓reduceIte, Nat.reduceEqDiff, Nat.reduceAdd, Nat.reduceMul, Nat.reduceLeDiff, Nat.reduceLT, reduceCtorEq, TFGlF, FR.out, Bool.false_and]) ⟨(by simp only [resv, resA, ZK, look, loadv, loadn, loadnm, load1, load1m, hget, ↓reduceIte, Nat.reduceEqDiff, Nat.reduceAdd, Nat.reduceMul, Nat.reduceLeDiff, Nat.reduceLT, reduceCtorEq, TFGlF, FR.out, Bool.false_and]; first | done | rfl), rfl⟩)
  | true =>
    have hgr := hgr rfl
    first | (have FRx := FR; clear FRx) | have FR := fr0S
    have FA := Sm.mk (TFGlF)
    repeat' first | (apply Sm.mk; refine Ys ?_) | refine WP.seq fun K hK => ?_ | (apply Ob.mk; exact Yo) | refine And.intro (Ob.out ?_) ?_ | refine Y1GlF ?_ | refine Yl2 (c := cG) (r := ?_) | refine Yc (c := cL) (r := ?_) | refine Yc (c := cT) (r := ?_) | refine YzGlF ?_ | (refine WP.cond rfl (fun hc => ?_) (fun hc => ?_) <;> (try simp only [ZC, reduceCtorEq, ZD] at hc) <;> (try exact absurd hc (by decide)) <;> (try (exfalso; omega))) | refine Rt.mk (And.intro (fun hg => Sm.out ?_) fun hg => Sm.out ?_) | (refine Nu.mk ?_; first | (fail_if_success have := nb1); intro nb1 | (fail_if_success have := nb2); intro nb2 | (fail_if_success have := nb3); intro nb3 | (fail_if_success have := nb4); intro nb4 | intro nbz) | (apply Yfr; refine Yf FR fun hFRb FR => ?_) | refine Two.mk ?_ ?_ | (apply Yxc; exact Yx) | refine Cs.mk fun hcs => Sm.out ?_ | go_step | omega | (simp only [maxLen_eq]; omega) | exact trivial
    refine WP.loop (Γ := Gs) (fun g => ⟨[(5, .slz .i32 L), (6, .slz .i32 T), (7, iv .i64 (g.i : Int)), (8, iv .i64 (g.j : Int)), (9, iv .i64 (sI g)), (10, iv .i64 (g.fr : Int))], [(0, .zs .u8 F 256 n0), (1, .zs .u8 A 32 n1)]⟩)
      (fun g => Inv L T g) (fun g => g.mu n m) ⟨0, 0, false, 0, 0⟩ (Inv.start L T) (Sub.pick (by simp [pickB, hget, hdel, FR.out, sI]) (by simp [look, sI])) ?_
    intro g hI
    have FR : Sm (¬ ((1 : Nat) = 0)) := Sm.mk Nat.one_ne_zero
    have hi := hI.hi
    have hj := hI.hj
    have hf := hI.hf
    rw [hLn] at hi
    rw [hTm] at hj
    by_cases hjm : g.j < m
    · have k1 : decide ((g.j : Int) < (m : Int)) = true := decide_eq_true (by omega)
      have s1 : IntKind.i64.wrap ((g.i : Int) + 1) = ((g.i + 1 : Nat) : Int) := by rw [wrap_i64 (by omega) (by omega)]; omega
      have s2 : IntKind.i64.wrap ((g.j : Int) + 1) = ((g.j + 1 : Nat) : Int) := by rw [wrap_i64 (by omega) (by omega)]; omega
      have s3 : IntKind.i64.wrap ((g.fr : Int) + 1) = ((g.fr + 1 : Nat) : Int) := by rw [wrap_i64 (by omega) (by omega)]; omega
      obtain ⟨u, hu⟩ : ∃ u : Int, sI g = u := ⟨_, rfl⟩
      have k5 : decide (u ≥ 0) = g.b := by
        rw [← hu]; unfold sI
        cases g.b with
        | true => simp
        | false => simp
      have s4 : g.b = true → IntKind.i64.wrap (u + 1) = ((g.st + 1 : Nat) : Int) := fun hb => by
        have := (hI.hs hb).1
        rw [← hu]; unfold sI
        rw [if_pos hb, wrap_i64 (by omega) (by omega)]; omega
      have eb : sI ⟨g.st + 1, g.fr + 1, true, g.st, g.fr + 1⟩ = (g.st : Int) := rfl
      have eb2 : g.b = true → u = (g.st : Int) := fun hb => by rw [← hu]; unfold sI; rw [if_pos hb]
      rw [hu]
      by_cases hin : g.i < n
      · have k2 : decide ((g.i : Int) < (n : Int)) = true := decide_eq_true (by omega)
        obtain ⟨X, hX⟩ : ∃ X, L.getD g.i 0 = X := ⟨_, rfl⟩
        obtain ⟨Y, hY⟩ : ∃ Y, T.getD g.j 0 = Y := ⟨_, rfl⟩
        obtain ⟨v2, h2⟩ : ∃ v, (X == 42) = v := ⟨_, rfl⟩
        obtain ⟨v3, h3⟩ : ∃ v, (X == 63) = v := ⟨_, rfl⟩
        obtain ⟨v4, h4⟩ : ∃ v, (X == Y) = v := ⟨_, rfl⟩
        first | (have FRx := FR; clear FRx) | have FR := fr0S
        have FA := Sm.mk (And.intro TFGlF (And.intro hLn (And.intro hTm (And.intro k1 (And.intro k2 (And.intro hX (And.intro hY (And.intro h2 (And.intro h3 (And.intro h4 (And.intro k5 (And.intro t1 (And.intro s1 (And.intro s2 s3))))))))))))))
        repeat' first | (apply Sm.mk; refine YsGlF0 ?_) | refine WP.seq fun K hK => ?_ | (apply Ob.mk; exact Yo) | refine And.intro (Ob.out ?_) ?_ | refine Y1GlF ?_ | refine YzGlF ?_ | (refine WP.cond rfl (fun hc => ?_) (fun hc => ?_) <;> (try simp only [ZC, reduceCtorEq, ZD] at hc) <;> (try exact absurd hc (by decide)) <;> (try (exfalso; omega))) | refine Rt.mk (And.intro (fun hg => Sm.out ?_) fun hg => Sm.out ?_) | (refine Nu.mk ?_; first | (fail_if_success have := nb1); intro nb1 | (fail_if_success have := nb2); intro nb2 | (fail_if_success have := nb3); intro nb3 | (fail_if_success have := nb4); intro nb4 | intro nbz) | (apply Yfr; refine Yf FR fun hFRb FR => ?_) | refine Two.mk ?_ ?_ | (apply Yxc; exact Yx) | refine Cs.mk fun hcs => Sm.out ?_ | go_step | omega | (simp only [maxLen_eq]; omega) | exact trivial
        · rw [hc] at h2
          have hX2 : L.getD g.i 0 = 42 := by rw [hX]; simpa using h2
          have hs0 : sI ⟨g.i + 1, g.j, true, g.i, g.j⟩ = (g.i : Int) := rfl
          exact ⟨⟨g.i + 1, g.j, true, g.i, g.j⟩, hI.star (by omega) hX2, mu_star hin hj hf, (Sub.pick (by simp [pickB, hget, hdel, FR.out, hs0, s1]) (by simp [look, hs0, s1]))⟩
        · rename_i hcA
          rw [hcA] at h2
          have hX2 : L.getD g.i 0 ≠ 42 := by rw [hX]; simpa using h2
          have hX3 : L.getD g.i 0 = 63 ∨ L.getD g.i 0 = T.getD g.j 0 := by
            rw [hX, hY]
            rcases hc with hc | hc
            · rw [hc] at h3; exact .inl (by simpa using h3)
            · rw [hc] at h4; exact .inr (by simpa using h4)
          have hs0 : sI ⟨g.i + 1, g.j + 1, g.b, g.st, g.fr⟩ = u := hu
          exact ⟨⟨g.i + 1, g.j + 1, g.b, g.st, g.fr⟩, hI.one (by omega) (by omega) hX2 hX3, mu_one hin hjm, (Sub.pick (by simp [pickB, hget, hdel, FR.out, hs0, s1, s2]) (by simp [look, hs0, s1, s2]))⟩
        · rename_i hcA hcB
          rw [hcA] at h2
          rw [hcB.1] at h3
          rw [hcB.2] at h4
          have hX2 : L.getD g.i 0 ≠ 42 := by rw [hX]; simpa using h2
          have hX3 : ¬ (L.getD g.i 0 = 63 ∨ L.getD g.i 0 = T.getD g.j 0) := by
            rw [hX, hY]
            have e3 : X ≠ 63 := by simpa using h3
            have e4 : X ≠ Y := by simpa using h4
            exact fun h => h.elim e3 e4
          have hs0 : sI ⟨g.st + 1, g.fr + 1, true, g.st, g.fr + 1⟩ = u := by rw [eb2 hc]; rfl
          have s5 := s4 hc
          exact ⟨⟨g.st + 1, g.fr + 1, true, g.st, g.fr + 1⟩, hI.back (by omega) hc (.inr ⟨hX2, hX3⟩), mu_back hjm hf, (Sub.pick (by simp [pickB, hget, hdel, FR.out, hs0, s5, s3]) (by simp [look, hs0, s5, s3]))⟩
        · rename_i hcA hcB
          rw [hcA] at h2
          rw [hcB.1] at h3
          rw [hcB.2] at h4
          have hX2 : L.getD g.i 0 ≠ 42 := by rw [hX]; simpa using h2
          have hX3 : ¬ (L.getD g.i 0 = 63 ∨ L.getD g.i 0 = T.getD g.j 0) := by
            rw [hX, hY]
            have e3 : X ≠ 63 := by simpa using h3
            have e4 : X ≠ Y := by simpa using h4
            exact fun h => h.elim e3 e4
          have hno := hI.bad (by omega) hc (.inr ⟨hX2, hX3⟩)
          have e : R = false := by
            cases hR : R with
            | false => rfl
            | true => exact absurd (hRi.1 hR) hno
          (refine OutQ.drop _ _ (perm2 (by simp only [hget, hdel, ↓reduceIte, if_true, if_false, FR.out, e]; first | done | rfl) (by simp only [hget, hdel, ↓reduceIte, if_true, if_false, FR.out, e]; first | done | rfl)) (by simp only [resv, ZK, look, loadv, loadn, loadnm, load1, load1m, hget, ↓reduceIte, Nat.reduceEqDiff, Nat.reduceAdd, Nat.reduceMul, Nat.reduceLeDiff, Nat.reduceLT, reduceCtorEq, TFGlF, FR.out, e]) ⟨(by simp only [resv, resA, ZK, look, loadv, loadn, loadnm, load1, load1m, hget, ↓reduceIte, Nat.reduceEqDiff, Nat.reduceAdd, Nat.reduceMul, Nat.reduceLeDiff, Nat.reduceLT, reduceCtorEq, TFGlF, FR.out, e]; first | done | rfl), rfl⟩)
      · have k2 : decide ((g.i : Int) < (n : Int)) = false := decide_eq_false (by omega)
        first | (have FRx := FR; clear FRx) | have FR := fr0S
        have FA := Sm.mk (And.intro TFGlF (And.intro hLn (And.intro hTm (And.intro k1 (And.intro k2 (And.intro k5 (And.intro t1 (And.intro s1 (And.intro s2 s3)))))))))
        repeat' first | (apply Sm.mk; refine YsGlF1 ?_) | refine WP.seq fun K hK => ?_ | (apply Ob.mk; exact Yo) | refine And.intro (Ob.out ?_) ?_ | refine Y1GlF ?_ | refine YzGlF ?_ | (refine WP.cond rfl (fun hc => ?_) (fun hc => ?_) <;> (try simp only [ZC, reduceCtorEq, ZD] at hc) <;> (try exact absurd hc (by decide)) <;> (try (exfalso; omega))) | refine Rt.mk (And.intro (fun hg => Sm.out ?_) fun hg => Sm.out ?_) | (refine Nu.mk ?_; first | (fail_if_success have := nb1); intro nb1 | (fail_if_success have := nb2); intro nb2 | (fail_if_success have := nb3); intro nb3 | (fail_if_success have := nb4); intro nb4 | intro nbz) | (apply Yfr; refine Yf FR fun hFRb FR => ?_) | refine Two.mk ?_ ?_ | (apply Yxc; exact Yx) | refine Cs.mk fun hcs => Sm.out ?_ | go_step | omega | (simp only [maxLen_eq]; omega) | exact trivial
        · have hs0 : sI ⟨g.st + 1, g.fr + 1, true, g.st, g.fr + 1⟩ = u := by rw [eb2 hc]; rfl
          have s5 := s4 hc
          exact ⟨⟨g.st + 1, g.fr + 1, true, g.st, g.fr + 1⟩, hI.back (by omega) hc (.inl (by omega)), mu_back hjm hf, (Sub.pick (by simp [pickB, hget, hdel, FR.out, hs0, s5, s3]) (by simp [look, hs0, s5, s3]))⟩
        · have hno := hI.bad (by omega) hc (.inl (by omega))
          have e : R = false := by
            cases hR : R with
            | false => rfl
            | true => exact absurd (hRi.1 hR) hno
          (refine OutQ.drop _ _ (perm2 (by simp only [hget, hdel, ↓reduceIte, if_true, if_false, FR.out, e]; first | done | rfl) (by simp only [hget, hdel, ↓reduceIte, if_true, if_false, FR.out, e]; first | done | rfl)) (by simp only [resv, ZK, look, loadv, loadn, loadnm, load1, load1m, hget, ↓reduceIte, Nat.reduceEqDiff, Nat.reduceAdd, Nat.reduceMul, Nat.reduceLeDiff, Nat.reduceLT, reduceCtorEq, TFGlF, FR.out, e]) ⟨(by simp only [resv, resA, ZK, look, loadv, loadn, loadnm, load1, load1m, hget, ↓reduceIte, Nat.reduceEqDiff, Nat.reduceAdd, Nat.reduceMul, Nat.reduceLeDiff, Nat.reduceLT, reduceCtorEq, TFGlF, FR.out, e]; first | done | rfl), rfl⟩)
    · have k1 : decide ((g.j : Int) < (m : Int)) = false := decide_eq_false (by omega)
      have hov := hI.over (by omega)
      have hgd : ∀ r ∈ L.drop g.i, Gr r := fun r hr => hgr r (List.mem_of_mem_drop hr)
      have hen := rstr_enc hgd
      have hmk := enc_marks hgd
      have hel := encs_len (L.drop g.i)
      rw [List.length_drop] at hel
      have hby := by_encs hgd
      obtain ⟨E, hE⟩ : ∃ E, E = (L.drop g.i).flatMap enc8 := ⟨_, rfl⟩
      rw [← hE] at hen hmk hel hby
      have cM := trim_ct E hby (by omega)
      have y1 : ((bstr (trL 42 (trR 42 E))).toList == (⟨#[]⟩ : ByteArray).toList) = decide (trL 42 (trR 42 E) = []) := str_eq _ [] ((hby.trR 42).trL 42) (fun i hi => absurd hi (Nat.not_lt_zero _))
      have hres : decide (trL 42 (trR 42 E) = []) = R := by
        rw [Bool.eq_iff_iff, decide_eq_true_eq, trim_nil, hmk, ← hov, hRi]
      rw [hres] at y1
      obtain ⟨W, hW⟩ : ∃ W, W = trL 42 (trR 42 E) := ⟨_, rfl⟩
      rw [← hW] at cM y1
      have tk : L.take n = L := by rw [← hLn, List.take_length]
      first | (have FRx := FR; clear FRx) | have FR := fr0S
      have FA := Sm.mk (And.intro TFGlF (And.intro hLn (And.intro hTm (And.intro k1 (And.intro t1 (And.intro tk (And.intro hen (And.intro y1 hi))))))))
      repeat' first | (apply Sm.mk; refine Ys ?_) | refine WP.seq fun K hK => ?_ | (apply Ob.mk; exact Yo) | refine And.intro (Ob.out ?_) ?_ | refine Y1GlF ?_ | refine Yc (c := cM) (r := ?_) | refine YzGlF ?_ | (refine WP.cond rfl (fun hc => ?_) (fun hc => ?_) <;> (try simp only [ZC, reduceCtorEq, ZD] at hc) <;> (try exact absurd hc (by decide)) <;> (try (exfalso; omega))) | refine Rt.mk (And.intro (fun hg => Sm.out ?_) fun hg => Sm.out ?_) | (refine Nu.mk ?_; first | (fail_if_success have := nb1); intro nb1 | (fail_if_success have := nb2); intro nb2 | (fail_if_success have := nb3); intro nb3 | (fail_if_success have := nb4); intro nb4 | intro nbz) | (apply Yfr; refine Yf FR fun hFRb FR => ?_) | refine Two.mk ?_ ?_ | (apply Yxc; exact Yx) | refine Cs.mk fun hcs => Sm.out ?_ | go_step | omega | (simp only [maxLen_eq]; omega) | exact trivial
      (refine OutQ.drop _ _ (perm2 (by simp only [hget, hdel, ↓reduceIte, if_true, if_false, FR.out, Bool.true_and]; first | done | rfl) (by simp only [hget, hdel, ↓reduceIte, if_true, if_false, FR.out, Bool.true_and]; first | done | rfl)) (by simp only [resv, ZK, look, loadv, loadn, loadnm, load1, load1m, hget, ↓reduceIte, Nat.reduceEqDiff, Nat.reduceAdd, Nat.reduceMul, Nat.reduceLeDiff, Nat.reduceLT, reduceCtorEq, TFGlF, FR.out, Bool.true_and]) ⟨(by simp only [resv, resA, ZK, look, loadv, loadn, loadnm, load1, load1m, hget, ↓reduceIte, Nat.reduceEqDiff, Nat.reduceAdd, Nat.reduceMul, Nat.reduceLeDiff, Nat.reduceLT, reduceCtorEq, TFGlF, FR.out, Bool.true_and]; first | done | rfl), rfl⟩)
end Go.Proofs.YtdkkfgcdnojmaaaDoor
