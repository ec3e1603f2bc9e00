/-
  The walks and the laws that the statement leans on, part 27.
-/
import Derived.Test.YtaffbklkjjmmdaaDoorC9
import Derived.Test.YtaffbklkjjmmdaaDoorC26
namespace Go.Proofs.YtaffbklkjjmmdaaDoor
open Go
set_option linter.unusedVariables false
set_option linter.unusedSimpArgs false
set_option linter.defProp false
def TFGlG :=
  And.intro (And.intro (And.intro (And.intro tyc0 (And.intro tyc3 zmb3)) (And.intro (And.intro tyc4 zmb4) (And.intro tyc9 zmb9))) (And.intro (And.intro tyc21 (And.intro zmb21 tyc87)) (And.intro (And.intro elt87 mkz87) (And.intro apT87 elk87)))) (And.intro (And.intro (And.intro zmb87 (And.intro tyc89 elt89)) (And.intro (And.intro mkz89 mkc89) (And.intro apT89 elk89))) (And.intro (And.intro (And.intro zmb89 Tryd.underlying0) (And.intro Tryd.underlying3 Tryd.underlying4)) (And.intro (And.intro Tryd.underlying9 Tryd.underlying21) (And.intro Tryd.underlying87 Tryd.underlying89))))
theorem Y1GlG {G R : Prop} (r : R) (h : R → G := by intro r; first | (apply WP.region; exact rvc_sound _ _ (Sm.out r)) | exact WP.drawK rfl mixed (by decide +kernel) (Sm.out r) | (apply WP.block; exact r) | (apply WP.skip; exact Yq r) | (apply WP.exit; exact Yq r) | (apply WP.ret; exact Sm.out r) | exact WP.cond rfl (fun _ => r) (fun hg => absurd hg (by decide)) | exact WP.cond rfl (fun hg => absurd hg (by decide)) (fun _ => r) | exact Rt.mk (And.intro (fun _ => Sm.out r) fun hg => absurd hg (by decide)) | exact Rt.mk (And.intro (fun hg => absurd hg (by decide)) fun _ => Sm.out r)) : G := h r
theorem YzGlG {G R : Prop} (r : R) (h : R → G := by intro r; first | (apply ExG.no; exact Sm.out r) | (apply Or.inl; apply ExG.no; exact Sm.out r) | exact Or.inl (And.intro (fun hg => absurd hg (by decide)) (ExG.no (Sm.out r)))) : G := h r
theorem YsGlG0 {P Q : Prop} (q : Q) (h : P = Q := by (try (conv => lhs; simp -dsimp only [ZK, rvc, capA, appA, litL, mkfv, drawF, headN, pureH, stp, dvc, calleeOf, gcall, pev, eff, newB, okd, og, ogs, ogo, ogp, slv, bltv, opd, litv, strip, one, both, putE, St.put, look, gdOf, gdv, picka, pickv, pickw, binv, bini, bins, binb, binp, binq, isSlT, bina, shp, eqCells, unv, convv, nilv, faddv, addp, idxav, idxp, load1, load1m, loadn, loadnm, loadv, hget, hset, hrep, hdel, slicev, slice3v, bnd, shift1, lenv, capv, IntKind.bits, extractv, fieldv, indexv, min2v, max2v, mkiv, tasv, tasz, cellsA, fillA, buildv, stC, oneC, rowMB, intsA, plN, appE, appZ, appC, appS, srcB, appNZ, appNC, VwL, srcC, srcZ, srcM, isBoolT, isPtrT, isSliceT, uOk, Value.oneCell', Nat.reducePow, Int.reducePow, Nat.reduceAdd, Nat.reduceMul, Nat.reduceSub, Nat.reduceLT, Nat.reduceLeDiff, Nat.reduceEqDiff, Nat.reduceBEq, Nat.reduceDiv, Nat.reduceMod, ↓reduceIte, reduceCtorEq, Int.reduceToNat, Int.reduceLT, Int.reduceLE, TFGlG, SeqQ, BlkQ, LoopQ, BodyQ, hin, hjM, Bool.or_false, FA.out, FR.out])) <;> exact rfl) : P := h.mpr q
theorem YsGlG1 {P Q : Prop} (q : Q) (h : P = Q := by (try (conv => lhs; simp -dsimp only [ZK, rvc, capA, appA, litL, mkfv, drawF, headN, pureH, stp, dvc, calleeOf, gcall, pev, eff, newB, okd, og, ogs, ogo, ogp, slv, bltv, opd, litv, strip, one, both, putE, St.put, look, gdOf, gdv, picka, pickv, pickw, binv, bini, bins, binb, binp, binq, isSlT, bina, shp, eqCells, unv, convv, nilv, faddv, addp, idxav, idxp, load1, load1m, loadn, loadnm, loadv, hget, hset, hrep, hdel, slicev, slice3v, bnd, shift1, lenv, capv, IntKind.bits, extractv, fieldv, indexv, min2v, max2v, mkiv, tasv, tasz, cellsA, fillA, buildv, stC, oneC, rowMB, intsA, plN, appE, appZ, appC, appS, srcB, appNZ, appNC, VwL, srcC, srcZ, srcM, isBoolT, isPtrT, isSliceT, uOk, Value.oneCell', Nat.reducePow, Int.reducePow, Nat.reduceAdd, Nat.reduceMul, Nat.reduceSub, Nat.reduceLT, Nat.reduceLeDiff, Nat.reduceEqDiff, Nat.reduceBEq, Nat.reduceDiv, Nat.reduceMod, ↓reduceIte, reduceCtorEq, Int.reduceToNat, Int.reduceLT, Int.reduceLE, TFGlG, SeqQ, BlkQ, LoopQ, BodyQ, hin, hjM, FA.out, FR.out])) <;> exact rfl) : P := h.mpr q
def rowB (f : Nat → Bool) (n : Nat) : List AV := (List.range n).map fun q => bv (f q)
theorem rowB_len (f : Nat → Bool) (n : Nat) : (rowB f n).length = n := by simp [rowB]
theorem rowB_get (f : Nat → Bool) {n q : Nat} (h : q < n) : (rowB f n).getD q .any = bv (f q) := by
  unfold rowB
  rw [List.getD_eq_getElem?_getD, List.getElem?_map, List.getElem?_range h]; rfl
theorem rowB_congr {f g : Nat → Bool} {n : Nat} (h : ∀ q, q < n → f q = g q) : rowB f n = rowB g n := by
  unfold rowB
  exact List.map_congr_left fun q hq => by rw [h q (List.mem_range.1 hq)]
theorem rowB_set (f : Nat → Bool) (n j : Nat) (b : Bool) : (rowB f n).set j (bv b) = rowB (fun q => if q = j then b else f q) n := by
  apply List.ext_getElem
  · simp [rowB]
  · intro i h1 h2
    rw [List.getElem_set]
    simp only [rowB, List.getElem_map, List.getElem_range]
    by_cases h : j = i
    · rw [if_pos h, if_pos h.symm]
    · rw [if_neg h, if_neg (fun e => h e.symm)]
theorem rowB_rep (n : Nat) : repA n [bv false] = rowB (fun _ => false) n := by
  rw [repA_one]
  apply List.ext_getElem
  · simp [rowB]
  · intro i h1 h2; simp [rowB]
noncomputable def rwB (L T : List Int) (M i : Nat) : List AV := rowB (fun q => bf L T i q) M
noncomputable def pwB (L T : List Int) (M i j : Nat) : List AV := rowB (fun q => if q < j then bf L T (i + 1) q else false) M
theorem pwB_zero (L T : List Int) (M i : Nat) : pwB L T M i 0 = rowB (fun _ => false) M := rowB_congr fun q _ => if_neg (Nat.not_lt_zero _)
theorem pwB_end (L T : List Int) (M i : Nat) : pwB L T M i M = rwB L T M (i + 1) := rowB_congr fun q h => if_pos h
theorem pwB_set (L T : List Int) (M i j : Nat) {b : Bool} (hb : bf L T (i + 1) j = b) : (pwB L T M i j).set j (bv b) = pwB L T M i (j + 1) := by
  unfold pwB
  rw [rowB_set]
  refine rowB_congr fun q _ => ?_
  by_cases h : q = j
  · subst h; rw [if_pos rfl, if_pos (Nat.lt_succ_self _), hb]
  · rw [if_neg h]
    by_cases h2 : q < j
    · rw [if_pos h2, if_pos (by omega)]
    · rw [if_neg h2, if_neg (by omega)]
theorem pwB_skip (L T : List Int) (M i j : Nat) (hb : bf L T (i + 1) j = false) : pwB L T M i j = pwB L T M i (j + 1) := by
  refine rowB_congr fun q _ => ?_
  by_cases h : q = j
  · subst h; rw [if_neg (Nat.lt_irrefl _), if_pos (Nat.lt_succ_self _), hb]
  · by_cases h2 : q < j
    · rw [if_pos h2, if_pos (by omega)]
    · rw [if_neg h2, if_neg (by omega)]
structure GmG where
  i : Nat
  x : Nat
set_option maxRecDepth 8000 in
set_option maxHeartbeats 4000000 in
theorem rmatch_ct (zs ss : List Int) (hb : By zs) (hbs : By ss) (hl : zs.length ≤ 5000) (hl2 : ss.length ≤ 5000) : ACt Tryd.prog 37 [stz zs, stz ss] [] (Fn (bv (mtB zs ss))) := by
  have cG := rright_ct zs hb hl
  have cL := ACt.fzRow (runes_ct zs hb (by omega))
  have cT := ACt.fzRow (runes_ct ss hbs (by omega))
  have hLl : (rn zs).length ≤ 5000 := by have := rF_len zs 0; rw [rF_zero] at this; omega
  have hTl : (rn ss).length ≤ 5000 := by have := rF_len ss 0; rw [rF_zero] at this; omega
  unfold mtB
  obtain ⟨g, hg⟩ : ∃ g, g = rtB zs := ⟨_, rfl⟩
  rw [← hg] at cG ⊢
  obtain ⟨L, hL⟩ : ∃ L, L = rn zs := ⟨_, rfl⟩
  obtain ⟨T, hT⟩ : ∃ T, T = rn ss := ⟨_, rfl⟩
  rw [← hL] at cL hLl ⊢
  rw [← hT] at cT hTl ⊢
  have hba := bf_all L T
  obtain ⟨n, hn⟩ : ∃ n, n = L.length := ⟨_, rfl⟩
  obtain ⟨m, hm⟩ : ∃ m, m = T.length := ⟨_, rfl⟩
  have hLn : L.length = n := hn.symm
  have hTm : T.length = m := hm.symm
  rw [hLn, hTm] at hba
  obtain ⟨R, hR⟩ : ∃ R, R = @decide (Mt L T) (Classical.propDecidable _) := ⟨_, rfl⟩
  rw [← hR] at hba ⊢
  have t1 : ∀ k : Nat, ((k : Nat) : Int).toNat = k := fun k => by omega
  have w1 : IntKind.i64.wrap ((m : Int) + 1) = ((m + 1 : Nat) : Int) := by rw [wrap_i64 (by omega) (by omega)]; omega
  have hrp := rowB_rep (m + 1)
  have g0 : rowB (fun q => if q = 0 then true else (fun _ => false) q) (m + 1) = rowB (fun q => bf L T 0 q) (m + 1) := rowB_congr fun q hq => by
    rw [bf_zero L T q (by omega)]
    by_cases h : q = 0
    · subst h; rfl
    · rw [if_neg h, decide_eq_false h]
  refine ACt.intro Tryd.func37 rfl (by kernel_rfl) (by simp [Tryd.ntmps37]) (fun cx => ?_)
  simp only [argE, Tryd.ntmps37, Tryd.results37]
  cases g with
  | false =>
    first | (have FRx := FR; clear FRx) | have FR := fr0S
    have FA := Sm.mk (TFGlG)
    repeat' first | (apply Sm.mk; refine Ys ?_) | refine WP.seq fun K hK => ?_ | (apply Ob.mk; exact Yo) | refine And.intro (Ob.out ?_) ?_ | refine Y1GlG ?_ | refine Yc (c := cG) (r := ?_) | refine YzGlG ?_ | (refine WP.cond rfl (fun hc => ?_) (fun hc => ?_) <;> (try simp only [ZC, reduceCtorEq, ZD] at hc) <;> (try exact absurd hc (by decide)) <;> (try (exfalso; omega))) | refine Rt.mk (And.intro (fun hg => Sm.out ?_) fun hg => Sm.out ?_) | (refine Nu.mk ?_; first | (fail_if_success have := nb1); intro nb1 | (fail_if_success have := nb2); intro nb2 | (fail_if_success have := nb3); intro nb3 | (fail_if_success have := nb4); intro nb4 | (fail_if_success have := nb5); intro nb5 | (fail_if_success have := nb6); intro nb6 | intro nbz) | (apply Yfr; refine Yf FR fun hFRb FR => ?_) | refine Two.mk ?_ ?_ | (apply Yxc; exact Yx) | refine Cs.mk fun hcs => Sm.out ?_ | go_step | omega | (simp only [maxLen_eq]; omega) | exact trivial
    (refine OutQ.all ?_ ?_; (focus (simp only [resv, ZK, look, loadv, loadn, loadnm, load1, load1m, hget, ↓reduceIte, Nat.reduceEqDiff, Nat.reduceAdd, Nat.reduceMul, Nat.reduceLeDiff, Nat.reduceLT, reduceCtorEq, TFGlG, Bool.false_and])); (try simp only [resv, resA, Fn, ZK, look, loadv, loadn, loadnm, load1, load1m, hget, ↓reduceIte, Nat.reduceEqDiff, Nat.reduceAdd, Nat.reduceMul, Nat.reduceLeDiff, Nat.reduceLT, reduceCtorEq, TFGlG, Bool.false_and]); (try simp [resA, Fn, look, Bool.false_and]))
  | true =>
    obtain ⟨M, hM⟩ : ∃ M, M = m + 1 := ⟨_, rfl⟩
    rw [← hM] at w1 hrp g0
    obtain ⟨Z, hZ⟩ : ∃ Z, Z = rowB (fun _ => false) M := ⟨_, rfl⟩
    have zl : Z.length = M := by rw [hZ, rowB_len]
    have zs0 : Z.set 0 (bv true) = rowB (fun q => bf L T 0 q) M := by rw [hZ, rowB_set]; exact g0
    rw [← hZ] at hrp
    have b1 : M ≤ 5001 ∧ 0 < M := by omega
    have b2 : (0 : Int) ≤ (M : Int) ∧ (M : Int) ≤ 281474976710656 ∧ (M : Int) ≤ 9223372036854775807 := by omega
    first | (have FRx := FR; clear FRx) | have FR := fr0S
    have FA := Sm.mk (And.intro TFGlG (And.intro hLn (And.intro hTm (And.intro t1 (And.intro w1 (And.intro hrp (And.intro zl (And.intro b1 b2))))))))
    repeat' first | (apply Sm.mk; refine Ys ?_) | refine WP.seq fun K hK => ?_ | (apply Ob.mk; exact Yo) | refine And.intro (Ob.out ?_) ?_ | refine Y1GlG ?_ | refine Yc (c := cG) (r := ?_) | refine Yc (c := cL) (r := ?_) | refine Yc (c := cT) (r := ?_) | refine YzGlG ?_ | (refine WP.cond rfl (fun hc => ?_) (fun hc => ?_) <;> (try simp only [ZC, reduceCtorEq, ZD] at hc) <;> (try exact absurd hc (by decide)) <;> (try (exfalso; omega))) | refine Rt.mk (And.intro (fun hg => Sm.out ?_) fun hg => Sm.out ?_) | (refine Nu.mk ?_; first | (fail_if_success have := nb1); intro nb1 | (fail_if_success have := nb2); intro nb2 | (fail_if_success have := nb3); intro nb3 | (fail_if_success have := nb4); intro nb4 | (fail_if_success have := nb5); intro nb5 | (fail_if_success have := nb6); intro nb6 | intro nbz) | (apply Yfr; refine Yf FR fun hFRb FR => ?_) | refine Two.mk ?_ ?_ | (apply Yxc; exact Yx) | refine Cs.mk fun hcs => Sm.out ?_ | go_step | omega | (simp only [maxLen_eq]; omega) | exact trivial
    have z0 : Z.set 0 (bv true) = rwB L T M 0 := zs0
    have z1 : ∀ i, Z = pwB L T M i 0 := fun i => by rw [pwB_zero, hZ]
    refine WP.loop (Γ := GmG) (fun g => ⟨[(8, iv .i64 (g.i : Int)), (7, ms g.x 0 M M), (6, .slz .i32 T), (5, .slz .i32 L)], [(g.x, .cells (rwB L T M g.i) M 4)]⟩) (fun g => g.i ≤ n) (fun g => n - g.i) ⟨0, nb1⟩ (Nat.zero_le _) (Sub.pick (by simp [pickB, hget, hdel, FR.out, z0]) (by simp [look, z0])) ?_
    intro ⟨i, x⟩ hi
    simp only at hi ⊢
    have FR : Sm (¬ ((1 : Nat) = 0)) := Sm.mk Nat.one_ne_zero
    have rl : ∀ i, (rwB L T M i).length = M := fun i => rowB_len _ _
    have pl : ∀ i j, (pwB L T M i j).length = M := fun i j => rowB_len _ _
    have rg : ∀ i q, q < M → (rwB L T M i).getD q .any = bv (bf L T i q) := fun i q h => rowB_get _ h
    by_cases hin : i < n
    · have k1 : decide ((i : Int) < (n : Int)) = true := decide_eq_true (by omega)
      have s1 : IntKind.i64.wrap ((i : Int) + 1) = ((i + 1 : Nat) : Int) := by rw [wrap_i64 (by omega) (by omega)]; omega
      have z1 := z1 i
      first | (have FRx := FR; clear FRx) | have FR := fr0S
      have FA := Sm.mk (And.intro TFGlG (And.intro hLn (And.intro hTm (And.intro k1 (And.intro t1 (And.intro w1 (And.intro hrp (And.intro zl (And.intro b1 b2)))))))))
      repeat' first | (apply Sm.mk; refine Ys ?_) | refine WP.seq fun K hK => ?_ | (apply Ob.mk; exact Yo) | refine And.intro (Ob.out ?_) ?_ | refine Y1GlG ?_ | refine YzGlG ?_ | (refine WP.cond rfl (fun hc => ?_) (fun hc => ?_) <;> (try simp only [ZC, reduceCtorEq, ZD] at hc) <;> (try exact absurd hc (by decide)) <;> (try (exfalso; omega))) | refine Rt.mk (And.intro (fun hg => Sm.out ?_) fun hg => Sm.out ?_) | (refine Nu.mk ?_; first | (fail_if_success have := nb1); intro nb1 | (fail_if_success have := nb2); intro nb2 | (fail_if_success have := nb3); intro nb3 | (fail_if_success have := nb4); intro nb4 | (fail_if_success have := nb5); intro nb5 | (fail_if_success have := nb6); intro nb6 | intro nbz) | (apply Yfr; refine Yf FR fun hFRb FR => ?_) | refine Two.mk ?_ ?_ | (apply Yxc; exact Yx) | refine Cs.mk fun hcs => Sm.out ?_ | go_step | omega | (simp only [maxLen_eq]; omega) | exact trivial
      refine WP.loop (Γ := Nat) (fun j => ⟨[(10, iv .i64 (j : Int)), (9, ms nb2 0 M M), (8, iv .i64 (i : Int)), (7, ms x 0 M M), (6, .slz .i32 T), (5, .slz .i32 L)], [(nb2, .cells (pwB L T M i j) M 4), (x, .cells (rwB L T M i) M 4)]⟩) (fun j => j ≤ M) (fun j => M - j) 0 (Nat.zero_le _) (Sub.pick (by simp [pickB, hget, hdel, FR.out, ← z1]) (by simp [look, ← z1])) ?_
      intro j hj
      have hd : nb2 ≠ x ∧ x ≠ nb2 := by simp [FR.out]
      have FR : Sm (¬ ((1 : Nat) = 0)) := Sm.mk Nat.one_ne_zero
      by_cases hjM : j < M
      · have k2 : decide ((j : Int) ≤ (m : Int)) = true := decide_eq_true (by omega)
        have s2 : IntKind.i64.wrap ((j : Int) + 1) = ((j + 1 : Nat) : Int) := by rw [wrap_i64 (by omega) (by omega)]; omega
        obtain ⟨X, hX⟩ : ∃ X, L.getD i 0 = X := ⟨_, rfl⟩
        have rg1 := rg i j hjM
        obtain ⟨y1, hy1⟩ : ∃ y, bf L T i j = y := ⟨_, rfl⟩
        rw [hy1] at rg1
        have rl := rl i
        have pl := pl i j
        by_cases hX42 : X = 42
        · have kX : (X == 42) = true := by simpa using hX42
          have hbf := bf_star (l := L) (t := T) (i := i) (by omega) (by rw [hX]; exact hX42) j (by omega)
          rw [hy1] at hbf
          by_cases hj0 : j = 0
          · have k3 : decide ((j : Int) > 0) = false := decide_eq_false (by omega)
            rw [decide_eq_false (show ¬ 0 < j by omega), Bool.false_and, Bool.or_false] at hbf
            have hst := pwB_set L T M i j hbf
            have wj : IntKind.i64.wrap ((j : Int) - 1) = -1 := by rw [hj0]; rfl
            have pg0 : (pwB L T M i j).getD 0 .any = bv false := by
              unfold pwB
              rw [rowB_get _ (by omega), if_neg (by omega)]
            first | (have FRx := FR; clear FRx) | have FR := fr0S
            have FA := Sm.mk (And.intro TFGlG (And.intro hLn (And.intro hTm (And.intro k2 (And.intro s2 (And.intro hX (And.intro kX (And.intro rg1 (And.intro k3 (And.intro t1 (And.intro hd (And.intro rl (And.intro pl (And.intro hst (And.intro wj pg0)))))))))))))))
            repeat' first | (apply Sm.mk; refine YsGlG0 ?_) | refine WP.seq fun K hK => ?_ | (apply Ob.mk; exact Yo) | refine And.intro (Ob.out ?_) ?_ | refine Y1GlG ?_ | refine YzGlG ?_ | (refine WP.cond rfl (fun hc => ?_) (fun hc => ?_) <;> (try simp only [ZC, reduceCtorEq, ZD] at hc) <;> (try exact absurd hc (by decide)) <;> (try (exfalso; omega))) | refine Rt.mk (And.intro (fun hg => Sm.out ?_) fun hg => Sm.out ?_) | (refine Nu.mk ?_; first | (fail_if_success have := nb1); intro nb1 | (fail_if_success have := nb2); intro nb2 | (fail_if_success have := nb3); intro nb3 | (fail_if_success have := nb4); intro nb4 | (fail_if_success have := nb5); intro nb5 | (fail_if_success have := nb6); intro nb6 | intro nbz) | (apply Yfr; refine Yf FR fun hFRb FR => ?_) | refine Two.mk ?_ ?_ | (apply Yxc; exact Yx) | refine Cs.mk fun hcs => Sm.out ?_ | go_step | omega | (simp only [maxLen_eq]; omega) | exact trivial
            exact ⟨j + 1, by omega, by omega, (Sub.pick (by simp [pickB, hget, hdel, FR.out]) (by simp [look]))⟩
          · have k3 : decide ((j : Int) > 0) = true := decide_eq_true (by omega)
            have s3 : IntKind.i64.wrap ((j : Int) - 1) = ((j - 1 : Nat) : Int) := by rw [wrap_i64 (by omega) (by omega)]; omega
            rw [decide_eq_true (show 0 < j by omega), Bool.true_and] at hbf
            have pg : (pwB L T M i j).getD (j - 1) .any = bv (bf L T (i + 1) (j - 1)) := by
              unfold pwB
              rw [rowB_get _ (by omega), if_pos (by omega)]
            obtain ⟨y2, hy2⟩ : ∃ y, bf L T (i + 1) (j - 1) = y := ⟨_, rfl⟩
            rw [hy2] at pg hbf
            have hst := pwB_set L T M i j hbf
            obtain ⟨j1, hj1⟩ : ∃ j1, j1 = j - 1 := ⟨_, rfl⟩
            rw [← hj1] at s3 pg
            have hj1M : j1 < M := by omega
            first | (have FRx := FR; clear FRx) | have FR := fr0S
            have FA := Sm.mk (And.intro TFGlG (And.intro hLn (And.intro hTm (And.intro k2 (And.intro s2 (And.intro s3 (And.intro hX (And.intro kX (And.intro rg1 (And.intro pg (And.intro k3 (And.intro t1 (And.intro hj1M (And.intro hd (And.intro rl (And.intro pl hst))))))))))))))))
            repeat' first | (apply Sm.mk; refine YsGlG1 ?_) | refine WP.seq fun K hK => ?_ | (apply Ob.mk; exact Yo) | refine And.intro (Ob.out ?_) ?_ | refine Y1GlG ?_ | refine YzGlG ?_ | (refine WP.cond rfl (fun hc => ?_) (fun hc => ?_) <;> (try simp only [ZC, reduceCtorEq, ZD] at hc) <;> (try exact absurd hc (by decide)) <;> (try (exfalso; omega))) | refine Rt.mk (And.intro (fun hg => Sm.out ?_) fun hg => Sm.out ?_) | (refine Nu.mk ?_; first | (fail_if_success have := nb1); intro nb1 | (fail_if_success have := nb2); intro nb2 | (fail_if_success have := nb3); intro nb3 | (fail_if_success have := nb4); intro nb4 | (fail_if_success have := nb5); intro nb5 | (fail_if_success have := nb6); intro nb6 | intro nbz) | (apply Yfr; refine Yf FR fun hFRb FR => ?_) | refine Two.mk ?_ ?_ | (apply Yxc; exact Yx) | refine Cs.mk fun hcs => Sm.out ?_ | go_step | omega | (simp only [maxLen_eq]; omega) | exact trivial
            exact ⟨j + 1, by omega, by omega, (Sub.pick (by simp [pickB, hget, hdel, FR.out]) (by simp [look]))⟩
        · have kX : (X == 42) = false := by simpa using hX42
          have hbf := bf_one (l := L) (t := T) (i := i) (by omega) (by rw [hX]; exact hX42) j (by omega)
          by_cases hj0 : j = 0
          · have k3 : decide ((j : Int) > 0) = false := decide_eq_false (by omega)
            rw [decide_eq_false (show ¬ 0 < j by omega), Bool.false_and] at hbf
            have hskip := pwB_skip L T M i j hbf
            first | (have FRx := FR; clear FRx) | have FR := fr0S
            have FA := Sm.mk (And.intro TFGlG (And.intro hLn (And.intro hTm (And.intro k2 (And.intro s2 (And.intro hX (And.intro kX (And.intro k3 (And.intro t1 (And.intro hd (And.intro rl pl)))))))))))
            repeat' first | (apply Sm.mk; refine YsGlG1 ?_) | refine WP.seq fun K hK => ?_ | (apply Ob.mk; exact Yo) | refine And.intro (Ob.out ?_) ?_ | refine Y1GlG ?_ | refine YzGlG ?_ | (refine WP.cond rfl (fun hc => ?_) (fun hc => ?_) <;> (try simp only [ZC, reduceCtorEq, ZD] at hc) <;> (try exact absurd hc (by decide)) <;> (try (exfalso; omega))) | refine Rt.mk (And.intro (fun hg => Sm.out ?_) fun hg => Sm.out ?_) | (refine Nu.mk ?_; first | (fail_if_success have := nb1); intro nb1 | (fail_if_success have := nb2); intro nb2 | (fail_if_success have := nb3); intro nb3 | (fail_if_success have := nb4); intro nb4 | (fail_if_success have := nb5); intro nb5 | (fail_if_success have := nb6); intro nb6 | intro nbz) | (apply Yfr; refine Yf FR fun hFRb FR => ?_) | refine Two.mk ?_ ?_ | (apply Yxc; exact Yx) | refine Cs.mk fun hcs => Sm.out ?_ | go_step | omega | (simp only [maxLen_eq]; omega) | exact trivial
            exact ⟨j + 1, by omega, by omega, (Sub.pick (by simp [pickB, hget, hdel, FR.out, ← hskip]) (by simp [look, ← hskip]))⟩
          · have k3 : decide ((j : Int) > 0) = true := decide_eq_true (by omega)
            have s3 : IntKind.i64.wrap ((j : Int) - 1) = ((j - 1 : Nat) : Int) := by rw [wrap_i64 (by omega) (by omega)]; omega
            rw [decide_eq_true (show 0 < j by omega), Bool.true_and, hX] at hbf
            have rg2 := rg i (j - 1) (by omega)
            obtain ⟨y2, hy2⟩ : ∃ y, bf L T i (j - 1) = y := ⟨_, rfl⟩
            rw [hy2] at rg2 hbf
            obtain ⟨j1, hj1⟩ : ∃ j1, j1 = j - 1 := ⟨_, rfl⟩
            rw [← hj1] at s3 rg2 hbf
            have hj1M : j1 < M ∧ j1 < m := by omega
            obtain ⟨Y, hY⟩ : ∃ Y, T.getD j1 0 = Y := ⟨_, rfl⟩
            rw [hY] at hbf
            obtain ⟨v3, h3⟩ : ∃ v, (X == 63) = v := ⟨_, rfl⟩
            obtain ⟨v4, h4⟩ : ∃ v, (X == Y) = v := ⟨_, rfl⟩
            rw [h3, h4] at hbf
            first | (have FRx := FR; clear FRx) | have FR := fr0S
            have FA := Sm.mk (And.intro TFGlG (And.intro hLn (And.intro hTm (And.intro k2 (And.intro s2 (And.intro s3 (And.intro hX (And.intro hY (And.intro kX (And.intro rg2 (And.intro k3 (And.intro t1 (And.intro hj1M (And.intro hd (And.intro rl (And.intro pl (And.intro h3 h4)))))))))))))))))
            repeat' first | (apply Sm.mk; refine YsGlG1 ?_) | refine WP.seq fun K hK => ?_ | (apply Ob.mk; exact Yo) | refine And.intro (Ob.out ?_) ?_ | refine Y1GlG ?_ | refine YzGlG ?_ | (refine WP.cond rfl (fun hc => ?_) (fun hc => ?_) <;> (try simp only [ZC, reduceCtorEq, ZD] at hc) <;> (try exact absurd hc (by decide)) <;> (try (exfalso; omega))) | refine Rt.mk (And.intro (fun hg => Sm.out ?_) fun hg => Sm.out ?_) | (refine Nu.mk ?_; first | (fail_if_success have := nb1); intro nb1 | (fail_if_success have := nb2); intro nb2 | (fail_if_success have := nb3); intro nb3 | (fail_if_success have := nb4); intro nb4 | (fail_if_success have := nb5); intro nb5 | (fail_if_success have := nb6); intro nb6 | intro nbz) | (apply Yfr; refine Yf FR fun hFRb FR => ?_) | refine Two.mk ?_ ?_ | (apply Yxc; exact Yx) | refine Cs.mk fun hcs => Sm.out ?_ | go_step | omega | (simp only [maxLen_eq]; omega) | exact trivial
            · have hst := pwB_set L T M i j (b := y2) (by rw [hbf]; rcases hc with hc | hc <;> rw [hc] <;> simp)
              exact ⟨j + 1, by omega, by omega, (Sub.pick (by simp [pickB, hget, hdel, FR.out, hst]) (by simp [look, hst]))⟩
            · have hskip := pwB_skip L T M i j (by rw [hbf, hc.1, hc.2]; rfl)
              exact ⟨j + 1, by omega, by omega, (Sub.pick (by simp [pickB, hget, hdel, FR.out, ← hskip]) (by simp [look, ← hskip]))⟩
      · have k2 : decide ((j : Int) ≤ (m : Int)) = false := decide_eq_false (by omega)
        obtain rfl : j = M := by omega
        have hend := pwB_end L T j i
        first | (have FRx := FR; clear FRx) | have FR := fr0S
        have FA := Sm.mk (And.intro TFGlG (And.intro hLn (And.intro hTm (And.intro k2 s1))))
        repeat' first | (apply Sm.mk; refine Ys ?_) | refine WP.seq fun K hK => ?_ | (apply Ob.mk; exact Yo) | refine And.intro (Ob.out ?_) ?_ | refine Y1GlG ?_ | refine YzGlG ?_ | (refine WP.cond rfl (fun hc => ?_) (fun hc => ?_) <;> (try simp only [ZC, reduceCtorEq, ZD] at hc) <;> (try exact absurd hc (by decide)) <;> (try (exfalso; omega))) | refine Rt.mk (And.intro (fun hg => Sm.out ?_) fun hg => Sm.out ?_) | (refine Nu.mk ?_; first | (fail_if_success have := nb1); intro nb1 | (fail_if_success have := nb2); intro nb2 | (fail_if_success have := nb3); intro nb3 | (fail_if_success have := nb4); intro nb4 | (fail_if_success have := nb5); intro nb5 | (fail_if_success have := nb6); intro nb6 | intro nbz) | (apply Yfr; refine Yf FR fun hFRb FR => ?_) | refine Two.mk ?_ ?_ | (apply Yxc; exact Yx) | refine Cs.mk fun hcs => Sm.out ?_ | go_step | omega | (simp only [maxLen_eq]; omega) | exact trivial
        exact ⟨⟨i + 1, nb2⟩, by simp only; omega, by simp only; omega, (Sub.pick (by simp [pickB, hget, hdel, FR.out, ← hend]) (by simp [look, ← hend]))⟩
    · have k1 : decide ((i : Int) < (n : Int)) = false := decide_eq_false (by omega)
      obtain rfl : i = n := by omega
      have rg := rg i m (by omega)
      rw [hba] at rg
      have rl := rl i
      have hmM : m < M := by omega
      first | (have FRx := FR; clear FRx) | have FR := fr0S
      have FA := Sm.mk (And.intro TFGlG (And.intro hLn (And.intro hTm (And.intro k1 (And.intro t1 (And.intro rg (And.intro rl hmM)))))))
      repeat' first | (apply Sm.mk; refine Ys ?_) | refine WP.seq fun K hK => ?_ | (apply Ob.mk; exact Yo) | refine And.intro (Ob.out ?_) ?_ | refine Y1GlG ?_ | refine YzGlG ?_ | (refine WP.cond rfl (fun hc => ?_) (fun hc => ?_) <;> (try simp only [ZC, reduceCtorEq, ZD] at hc) <;> (try exact absurd hc (by decide)) <;> (try (exfalso; omega))) | refine Rt.mk (And.intro (fun hg => Sm.out ?_) fun hg => Sm.out ?_) | (refine Nu.mk ?_; first | (fail_if_success have := nb1); intro nb1 | (fail_if_success have := nb2); intro nb2 | (fail_if_success have := nb3); intro nb3 | (fail_if_success have := nb4); intro nb4 | (fail_if_success have := nb5); intro nb5 | (fail_if_success have := nb6); intro nb6 | intro nbz) | (apply Yfr; refine Yf FR fun hFRb FR => ?_) | refine Two.mk ?_ ?_ | (apply Yxc; exact Yx) | refine Cs.mk fun hcs => Sm.out ?_ | go_step | omega | (simp only [maxLen_eq]; omega) | exact trivial
      (refine OutQ.all ?_ ?_; (focus (simp only [resv, ZK, look, loadv, loadn, loadnm, load1, load1m, hget, ↓reduceIte, Nat.reduceEqDiff, Nat.reduceAdd, Nat.reduceMul, Nat.reduceLeDiff, Nat.reduceLT, reduceCtorEq, TFGlG, Bool.true_and])); (try simp only [resv, resA, Fn, ZK, look, loadv, loadn, loadnm, load1, load1m, hget, ↓reduceIte, Nat.reduceEqDiff, Nat.reduceAdd, Nat.reduceMul, Nat.reduceLeDiff, Nat.reduceLT, reduceCtorEq, TFGlG, Bool.true_and]); (try simp [resA, Fn, look, Bool.true_and]))
end Go.Proofs.YtaffbklkjjmmdaaDoor
