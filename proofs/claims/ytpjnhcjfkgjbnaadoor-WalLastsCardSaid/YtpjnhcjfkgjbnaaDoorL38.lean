/-
  The walks and the laws that the statement leans on, part 38.
-/
import Derived.Test.YtpjnhcjfkgjbnaaDoorL10
import Derived.Test.YtpjnhcjfkgjbnaaDoorL37
namespace Go.Proofs.YtpjnhcjfkgjbnaaDoor
open Go
set_option linter.unusedVariables false
set_option linter.unusedSimpArgs false
set_option linter.defProp false
def TFWlY :=
  And.intro (And.intro (And.intro (And.intro tyc0 (And.intro tyc3 zmb3)) (And.intro tyc4 (And.intro zmb4 tyc5))) (And.intro (And.intro zmb5 (And.intro tyc32 elt32)) (And.intro (And.intro mkz32 mkc32) (And.intro apT32 elk32)))) (And.intro (And.intro (And.intro zmb32 (And.intro tyc38 elt38)) (And.intro mkz38 (And.intro apT38 elk38))) (And.intro (And.intro zmb38 (And.intro Tryd.underlying0 Tryd.underlying3)) (And.intro (And.intro Tryd.underlying4 Tryd.underlying5) (And.intro Tryd.underlying32 Tryd.underlying38))))
theorem Y1WlY {G R : Prop} (r : R) (h : R → G := by intro r; first | (apply WP.region; exact rvc_sound _ _ (Sm.out r)) | exact WP.drawK rfl mixed (by decide +kernel) (Sm.out r) | (apply WP.block; exact r) | (apply WP.skip; exact Yq r) | (apply WP.exit; exact Yq r) | (apply WP.ret; exact Sm.out r) | exact WP.cond rfl (fun _ => r) (fun hg => absurd hg (by decide)) | exact WP.cond rfl (fun hg => absurd hg (by decide)) (fun _ => r) | exact Rt.mk (And.intro (fun _ => Sm.out r) fun hg => absurd hg (by decide)) | exact Rt.mk (And.intro (fun hg => absurd hg (by decide)) fun _ => Sm.out r)) : G := h r
theorem YzWlY {G R : Prop} (r : R) (h : R → G := by intro r; first | (apply ExG.no; exact Sm.out r) | (apply Or.inl; apply ExG.no; exact Sm.out r) | exact Or.inl (And.intro (fun hg => absurd hg (by decide)) (ExG.no (Sm.out r)))) : G := h r
theorem YsWlY0 {P Q : Prop} (q : Q) (h : P = Q := by (try (conv => lhs; simp -dsimp only [ZK, rvc, capA, appA, litL, mkfv, drawF, headN, pureH, stp, dvc, calleeOf, gcall, pev, eff, newB, okd, og, ogs, ogo, ogp, slv, bltv, opd, litv, strip, one, both, putE, St.put, look, gdOf, gdv, picka, pickv, pickw, binv, bini, bins, binb, binp, binq, isSlT, bina, shp, eqCells, unv, convv, nilv, faddv, addp, idxav, idxp, load1, load1m, loadn, loadnm, loadv, hget, hset, hrep, hdel, slicev, slice3v, bnd, shift1, lenv, capv, IntKind.bits, extractv, fieldv, indexv, min2v, max2v, mkiv, tasv, tasz, cellsA, fillA, buildv, stC, oneC, rowMB, intsA, plN, appE, appZ, appC, appS, srcB, appNZ, appNC, VwL, srcC, srcZ, srcM, isBoolT, isPtrT, isSliceT, uOk, Value.oneCell', Nat.reducePow, Int.reducePow, Nat.reduceAdd, Nat.reduceMul, Nat.reduceSub, Nat.reduceLT, Nat.reduceLeDiff, Nat.reduceEqDiff, Nat.reduceBEq, Nat.reduceDiv, Nat.reduceMod, ↓reduceIte, reduceCtorEq, Int.reduceToNat, Int.reduceLT, Int.reduceLE, TFWlY, SeqQ, BlkQ, LoopQ, BodyQ, hin, FA.out, FR.out])) <;> exact rfl) : P := h.mpr q
structure WG where
  i : Nat
  b : Nat
  cap : Nat
theorem with_ct (L : List Bs) (z : Bs) (hl : L.length ≤ 1000000) : ACt Tryd.prog 23 [.sl L.length (rowsA L), .slz .u8 (ub z)] [] (Fn (.sl (L ++ [z]).length (rowsA (L ++ [z])))) := by
  have hg := rowsA_get L
  have hRl := rowsA_len L
  have hk : ∀ i, (L.take i).length = min i L.length := fun i => List.length_take
  obtain ⟨T, hT⟩ : ∃ T : Nat → List AV, T = fun i => rowsA (L.take i) := ⟨_, rfl⟩
  have hTl : ∀ i, i ≤ L.length → (T i).length = i := fun i hi => by rw [hT]; simp only [rowsA_len, hk]; omega
  have hTo : ∀ i, (T i).all oneC = true := fun i => by rw [hT]; exact rowsA_one _
  have hTs : ∀ i (h : i < L.length), T i ++ [.slz .u8 (ub (L.getD i []))] = T (i + 1) := fun i h => by
    rw [hT]
    simp only [rowsA_snoc]
    rw [List.take_add_one, List.getElem?_eq_getElem h, List.getD_eq_getElem?_getD, List.getElem?_eq_getElem h]
    rfl
  have hT0 : T 0 = [] := by rw [hT]; rfl
  have hTn : T L.length ++ [.slz .u8 (ub z)] = rowsA (L ++ [z]) := by rw [hT]; simp only [List.take_length, rowsA_snoc]
  have hEl : (rowsA (L ++ [z])).length = L.length + 1 := by rw [rowsA_len]; simp
  have hLz : (L ++ [z]).length = L.length + 1 := by simp
  rw [hLz]
  have zl := ub_len z
  obtain ⟨Y, hY⟩ : ∃ Y, Y = ub z := ⟨_, rfl⟩
  rw [← hY] at zl hTn ⊢
  obtain ⟨E, hE⟩ : ∃ E, E = rowsA (L ++ [z]) := ⟨_, rfl⟩
  rw [← hE] at hTn hEl ⊢
  obtain ⟨n, hn⟩ : ∃ n, L.length = n := ⟨_, rfl⟩
  obtain ⟨C, hC⟩ : ∃ C, C = rowsA L := ⟨_, rfl⟩
  rw [← hC] at hRl ⊢
  simp only [← hC] at hg
  simp only [hn] at hl hRl hTl hTs hTn hEl hg hLz ⊢
  clear hT hC hE hY
  refine ACt.intro Tryd.func23 rfl (by kernel_rfl) (by simp [Tryd.ntmps23]) (fun cx => ?_)
  simp only [argE, Tryd.ntmps23, Tryd.results23]
  first | (have FRx := FR; clear FRx) | have FR := fr0S
  have FA := Sm.mk (TFWlY)
  repeat' first | (apply Sm.mk; refine Ys ?_) | refine WP.seq fun K hK => ?_ | (apply Ob.mk; exact Yo) | refine And.intro (Ob.out ?_) ?_ | refine Y1WlY ?_ | refine YzWlY ?_ | (refine WP.cond rfl (fun hc => ?_) (fun hc => ?_) <;> (try simp only [ZC, reduceCtorEq, ZD] at hc) <;> (try exact absurd hc (by decide)) <;> (try (exfalso; omega))) | refine Rt.mk (And.intro (fun hg => Sm.out ?_) fun hg => Sm.out ?_) | (refine Nu.mk ?_; first | (fail_if_success have := nb1); intro nb1 | (fail_if_success have := nb2); intro nb2 | (fail_if_success have := nb3); intro nb3 | (fail_if_success have := nb4); intro nb4 | (fail_if_success have := nb5); intro nb5 | (fail_if_success have := nb6); intro nb6 | (fail_if_success have := nb7); intro nb7 | (fail_if_success have := nb8); intro nb8 | intro nbz) | (apply Yfr; refine Yf FR fun hFRb FR => ?_) | refine Two.mk ?_ ?_ | (apply Yxc; exact Yx) | refine Cs.mk fun hcs => Sm.out ?_ | go_step | omega | (simp only [maxLen_eq]; omega) | exact trivial
  refine WP.loop (Γ := WG) (fun g => ⟨[(6, iv .i64 (g.i : Int)), (5, ms g.b 0 g.i g.cap), (0, .sl n C), (1, .slz .u8 Y)], [(g.b, .cells (T g.i) g.cap 38)]⟩) (fun g => g.i ≤ n ∧ g.i ≤ g.cap ∧ g.cap ≤ 9223372036854775807) (fun g => n - g.i) ⟨0, nb1, 0⟩ ⟨Nat.zero_le _, Nat.zero_le _, by simp only; omega⟩ (Sub.pick (by simp [pickB, hget, hdel, FR.out, hT0]) (by simp [look, hT0])) ?_
  intro ⟨i, b, cap⟩ ⟨hi, hc1, hc2⟩
  simp only at hi hc1 hc2 ⊢
  have FR : Sm (¬ ((1 : Nat) = 0)) := Sm.mk Nat.one_ne_zero
  by_cases hin : i < n
  · have ki : decide ((i : Int) < (n : Int)) = true := decide_eq_true (by omega)
    have g2 := hg i (by omega)
    have hs := hTs i hin
    have ht := hTl i hi
    have ho := hTo i
    obtain ⟨y, hy⟩ : ∃ y, y = L.getD i [] := ⟨_, rfl⟩
    rw [← hy] at g2 hs
    obtain ⟨V, hV⟩ : ∃ V, V = ub y := ⟨_, rfl⟩
    rw [← hV] at g2 hs
    have w3 : IntKind.i64.wrap ((i : Int) + 1) = ((i + 1 : Nat) : Int) := by rw [wrap_i64 (by omega) (by omega)]; omega
    first | (have FRx := FR; clear FRx) | have FR := fr0S
    have FA := Sm.mk (And.intro TFWlY (And.intro ki (And.intro hRl (And.intro g2 (And.intro ht (And.intro ho (And.intro hs (And.intro w3 (And.intro hc1 hc2)))))))))
    repeat' first | (apply Sm.mk; refine YsWlY0 ?_) | refine WP.seq fun K hK => ?_ | (apply Ob.mk; exact Yo) | refine And.intro (Ob.out ?_) ?_ | refine Y1WlY ?_ | refine YzWlY ?_ | (refine WP.cond rfl (fun hc => ?_) (fun hc => ?_) <;> (try simp only [ZC, reduceCtorEq, ZD] at hc) <;> (try exact absurd hc (by decide)) <;> (try (exfalso; omega))) | refine Rt.mk (And.intro (fun hg => Sm.out ?_) fun hg => Sm.out ?_) | (refine Nu.mk ?_; first | (fail_if_success have := nb1); intro nb1 | (fail_if_success have := nb2); intro nb2 | (fail_if_success have := nb3); intro nb3 | (fail_if_success have := nb4); intro nb4 | (fail_if_success have := nb5); intro nb5 | (fail_if_success have := nb6); intro nb6 | (fail_if_success have := nb7); intro nb7 | (fail_if_success have := nb8); intro nb8 | intro nbz) | (apply Yfr; refine Yf FR fun hFRb FR => ?_) | refine Two.mk ?_ ?_ | (apply Yxc; exact Yx) | refine Cs.mk fun hcs => Sm.out ?_ | go_step | omega | (simp only [maxLen_eq]; omega) | exact trivial
    exact ⟨⟨i + 1, nb3, nb4⟩, ⟨by simp only; omega, by simp only; omega, by simp only; omega⟩, by simp only; omega, (Sub.pick (by simp [pickB, hget, hdel, FR.out]) (by simp [look]))⟩
  · obtain rfl : i = n := by omega
    have ki : decide ((i : Int) < (i : Int)) = false := by simp
    have ht := hTl i hi
    have ho := hTo i
    first | (have FRx := FR; clear FRx) | have FR := fr0S
    have FA := Sm.mk (And.intro TFWlY (And.intro ki (And.intro ht (And.intro ho (And.intro hTn (And.intro hc1 hc2))))))
    repeat' first | (apply Sm.mk; refine Ys ?_) | refine WP.seq fun K hK => ?_ | (apply Ob.mk; exact Yo) | refine And.intro (Ob.out ?_) ?_ | refine Y1WlY ?_ | refine YzWlY ?_ | (refine WP.cond rfl (fun hc => ?_) (fun hc => ?_) <;> (try simp only [ZC, reduceCtorEq, ZD] at hc) <;> (try exact absurd hc (by decide)) <;> (try (exfalso; omega))) | refine Rt.mk (And.intro (fun hg => Sm.out ?_) fun hg => Sm.out ?_) | (refine Nu.mk ?_; first | (fail_if_success have := nb1); intro nb1 | (fail_if_success have := nb2); intro nb2 | (fail_if_success have := nb3); intro nb3 | (fail_if_success have := nb4); intro nb4 | (fail_if_success have := nb5); intro nb5 | (fail_if_success have := nb6); intro nb6 | (fail_if_success have := nb7); intro nb7 | (fail_if_success have := nb8); intro nb8 | intro nbz) | (apply Yfr; refine Yf FR fun hFRb FR => ?_) | refine Two.mk ?_ ?_ | (apply Yxc; exact Yx) | refine Cs.mk fun hcs => Sm.out ?_ | go_step | omega | (simp only [maxLen_eq]; omega) | exact trivial
    have e9 : E.take (i + 1) = E := List.take_of_length_le (by omega)
    have q1 : i + 1 ≤ nb4 := by omega
    have q2 : nb4 ≤ 9223372036854775807 := by omega
    (refine OutQ.wk (Wk.freezeC (nb3) (1) (by simp only [ZK, rvc, capA, appA, litL, mkfv, drawF, headN, pureH, stp, dvc, calleeOf, gcall, pev, eff, newB, okd, og, ogs, ogo, ogp, slv, bltv, opd, litv, strip, one, both, putE, St.put, look, gdOf, gdv, picka, pickv, pickw, binv, bini, bins, binb, binp, binq, isSlT, bina, shp, eqCells, unv, convv, nilv, faddv, addp, idxav, idxp, load1, load1m, loadn, loadnm, loadv, hget, hset, hrep, hdel, slicev, slice3v, bnd, shift1, lenv, capv, IntKind.bits, extractv, fieldv, indexv, min2v, max2v, mkiv, tasv, tasz, cellsA, fillA, buildv, stC, oneC, rowMB, intsA, plN, appE, appZ, appC, appS, srcB, appNZ, appNC, VwL, srcC, srcZ, srcM, isBoolT, isPtrT, isSliceT, uOk, Value.oneCell', Nat.reducePow, Int.reducePow, Nat.reduceAdd, Nat.reduceMul, Nat.reduceSub, Nat.reduceLT, Nat.reduceLeDiff, Nat.reduceEqDiff, Nat.reduceBEq, Nat.reduceDiv, Nat.reduceMod, ↓reduceIte, reduceCtorEq, Int.reduceToNat, Int.reduceLT, Int.reduceLE, TFWlY, SeqQ, BlkQ, LoopQ, BodyQ, hEl, q1, q2, e9, FR.out]; first | done | rfl)) ?_; simp only [frzCE, frzC, ZK, rvc, capA, appA, litL, mkfv, drawF, headN, pureH, stp, dvc, calleeOf, gcall, pev, eff, newB, okd, og, ogs, ogo, ogp, slv, bltv, opd, litv, strip, one, both, putE, St.put, look, gdOf, gdv, picka, pickv, pickw, binv, bini, bins, binb, binp, binq, isSlT, bina, shp, eqCells, unv, convv, nilv, faddv, addp, idxav, idxp, load1, load1m, loadn, loadnm, loadv, hget, hset, hrep, hdel, slicev, slice3v, bnd, shift1, lenv, capv, IntKind.bits, extractv, fieldv, indexv, min2v, max2v, mkiv, tasv, tasz, cellsA, fillA, buildv, stC, oneC, rowMB, intsA, plN, appE, appZ, appC, appS, srcB, appNZ, appNC, VwL, srcC, srcZ, srcM, isBoolT, isPtrT, isSliceT, uOk, Value.oneCell', Nat.reducePow, Int.reducePow, Nat.reduceAdd, Nat.reduceMul, Nat.reduceSub, Nat.reduceLT, Nat.reduceLeDiff, Nat.reduceEqDiff, Nat.reduceBEq, Nat.reduceDiv, Nat.reduceMod, ↓reduceIte, reduceCtorEq, Int.reduceToNat, Int.reduceLT, Int.reduceLE, TFWlY, SeqQ, BlkQ, LoopQ, BodyQ, hEl, q1, q2, e9, FR.out])
    (have FA := Sm.mk (And.intro hEl (And.intro q1 (And.intro q2 (And.intro e9 FA.out)))); refine Yg ?_; try exact trivial)
theorem LgI.go {c s n f m : Nat} {P Q : Bs} {L : List Bs} {a : DA} (h : LgI c s n f m P Q L a) (z : Bs) (hz : usd L + (z.length + 10) ≤ m * s) :
    ((apX f s m L a z).2 = 0 ∧ LgI (c + m + 1) s n f m P Q (L ++ [z]) (apX f s m L a z).1) ∨ ((apX f s m L a z).2 = 12 ∧ Dg s n f m P Q (frs (L ++ [z]) ++ zrs (m * s - usd (L ++ [z]))) (frs L ++ zrs (m * s - usd L)) (apX f s m L a z).1) := by
  have hA := apX_ok h z hz
  rcases apX_com h z hz with ⟨h1, h2, -⟩ | ⟨h1, -, h2⟩
  · refine .inl ⟨h1, hA, h2, by rw [usd_snoc]; omega, fun x hx => ?_, h.hfm, h.hm⟩
    obtain ⟨g1, -⟩ := h.ms
    rcases List.mem_append.1 hx with hx | hx
    · exact h.sm x hx
    · rw [List.mem_singleton.1 hx]; omega
  · exact .inr ⟨h1, h2⟩
theorem append_go {c s n f m : Nat} {P Q : Bs} {L : List Bs} {a : DA} (b x : Nat) (l : DL) (h : LgI c s n f m P Q L a) (hl : LOk b a l) (z : Bs) (hz : usd L + (z.length + 10) ≤ m * s) (hz2 : z.length ≤ 5000) (h0 : (apX f s m L a z).2 = 0) (hc : c + m ≤ 980) :
    ACt Tryd.prog 13 [pt x 0, .slz .u8 (ub z)] ((x, lgN b f m s L false) :: dH b a l) (fun r F' => ∃ q : LS b (apX f s m L a z).1, r = iv .i64 0 ∧ F' = (x, lgN b f m s (L ++ [z]) false) :: dH b (apX f s m L a z).1 q.1) := by
  obtain ⟨g1, g2, g3, g4⟩ := h.ms
  have hA := (app_lay x b f m (usd L) s (tlB (frs L ++ zrs (m * s - usd L)) (usd L) s) z a l h.A hl h.R.st.dk g2 (by rw [g3]; exact h.hfm) hz (tl_len h) hz2 hc).1 h0
  rw [tail_app L z (m * s - usd L) s g4 (by omega)] at hA
  unfold lgN
  rw [show m * s - usd (L ++ [z]) = m * s - usd L - (z.length + 10) by rw [usd_snoc]; omega]
  rw [show usd L + (z.length + 10) = usd (L ++ [z]) by rw [usd_snoc]] at hA
  exact hA
theorem append_dk {c s n f m : Nat} {P Q : Bs} {L : List Bs} {a : DA} (b x : Nat) (l : DL) (h : LgI c s n f m P Q L a) (hl : LOk b a l) (z : Bs) (hz : usd L + (z.length + 10) ≤ m * s) (hz2 : z.length ≤ 5000) (h0 : (apX f s m L a z).2 = 12) (hc : c + m ≤ 980) :
    ACt Tryd.prog 13 [pt x 0, .slz .u8 (ub z)] ((x, lgN b f m s L false) :: dH b a l) (fun r F' => ∃ q : LS b (apX f s m L a z).1, r = iv .i64 12 ∧ F' = (x, lgN b f m s L true) :: dH b (apX f s m L a z).1 q.1) := by
  obtain ⟨g1, g2, g3, g4⟩ := h.ms
  have hA := (app_lay x b f m (usd L) s (tlB (frs L ++ zrs (m * s - usd L)) (usd L) s) z a l h.A hl h.R.st.dk g2 (by rw [g3]; exact h.hfm) hz (tl_len h) hz2 hc).2 (by
    have := h0
    unfold apX at this
    rw [this]; decide)
  unfold apX at h0 ⊢
  rw [h0] at hA
  unfold lgN
  exact hA
theorem openM_up {c s n f m : Nat} {P Q R : Bs} {a : DA} (b : Nat) (l : DL) (hA : AOk c a) (hR : Rg s n f m P Q R a) (hl : LOk b a l) (hfm : f + m ≤ n) (hm : 1 ≤ m) (hc : c + m ≤ 980) (h0 : (opR a f s R).2 = 0) :
    ACt Tryd.prog 12 [pt b 0, iv .i64 (f : Int), iv .i64 (m : Int)] (dH b a l) (fun r F' => ∃ g : OpMG b (opR a f s R).1 (all R).1, r = .tup [pt g.x 0, .lit (mW (all R).1 g.p.1.1 g.p.1.2), iv .i64 0] ∧ F' = (g.x, lgM b f m (ub (tlB R (all R).2 s)) (all R).2 false) :: (mR (all R).1 g.p.1.1 g.p.1.2 ++ dH b (opR a f s R).1 g.q.1)) := by
  cases hD : opD R with
  | true => exact open_dirtyM b a l hA hR hl hfm hm hD hc h0
  | false =>
    have e : opR a f s R = (a, 0) := by unfold opR; rw [if_neg (by rw [hD]; simp)]
    rw [e]
    exact open_cleanM b a l hA hR hl hfm hm hD
theorem same_f (M H : List Bs) (b2 cap : Nat) (h1 : M.length ≤ cap) (h2 : cap ≤ 9223372036854775807) (hm : M.length ≤ 1000000) (hh : H.length ≤ 1000000) :
    ACt Tryd.prog 16 [.lit (mW M b2 cap), .sl H.length (rowsA H)] (mR M b2 cap) (fun r F' => r = bv (decide (M = H)) ∧ F' = mR M b2 cap) := by
  cases M with
  | nil => exact (same_any [] H (by simp) hh).view rfl ⟨.nils, .same _, trivial⟩
  | cons y r => exact (same_any (y :: r) H hm hh).view rfl ⟨vw_row h1 (by rw [maxLen_eq]; omega), .same _, trivial⟩
theorem tl_cl {R : Bs} {s : Nat} : tlB R (all R).2 s = tlB (clR R) (all R).2 s := by
  have h := all_le R
  unfold tlB clR
  rw [List.take_append_of_le_length (by rw [List.length_take]; omega), List.take_take, Nat.min_self]
structure AF (c s : Nat) (P Q : Bs) (a : DA) (Hh Hn : List Bs) : Prop where
  A : AOk c a
  cr : ∀ K T : Int, ∃ R4, Rg s 9 1 7 P Q R4 (crA a K T) ∧ ((all R4).1 = Hh ∨ (all R4).1 = Hn)
  l1 : Hh.length ≤ 1000000
  l2 : Hn.length ≤ 1000000
theorem LgI.len {c s n f m : Nat} {P Q : Bs} {L : List Bs} {a : DA} (h : LgI c s n f m P Q L a) : L.length ≤ 400 * 512 := by
  have h1 := len_le L
  have h2 := h.u
  have h3 := h.ms.1
  omega
theorem AF.of_up {c s : Nat} {P Q : Bs} {L : List Bs} {a : DA} (h : LgI c s 9 1 7 P Q L a) : AF c s P Q a L L := by
  have hl := h.len
  refine ⟨h.A, fun K T => ⟨_, ⟨h.R.st.crA K T, h.R.lP, h.R.lR⟩, .inl ?_⟩, by omega, by omega⟩
  rw [all_frz _ _ h.sm]
theorem AF.of_dk {c s : Nat} {P Q : Bs} {L : List Bs} {a : DA} (h : LgI c s 9 1 7 P Q L a) (z : Bs) (hz : usd L + (z.length + 10) ≤ 7 * s) (hz2 : z.length ≤ 5000) {a' : DA} {d : Nat} (hA : AOk d a') (hD : Dg s 9 1 7 P Q (frs (L ++ [z]) ++ zrs (7 * s - usd (L ++ [z]))) (frs L ++ zrs (7 * s - usd L)) a') : AF d s P Q a' L (L ++ [z]) := by
  have hl := h.len
  refine ⟨hA, fun K T => ?_, by omega, by simp; omega⟩
  obtain ⟨p, hp⟩ := hD.cr K T
  refine ⟨_, hp, ?_⟩
  have e : 7 * s - usd (L ++ [z]) = 7 * s - usd L - (z.length + 10) := by rw [usd_snoc]; omega
  rw [e]
  rcases mix_append L z (7 * s - usd L) p h.sm (by omega) (by omega) with h1 | h1
  · exact .inl (by rw [h1])
  · exact .inr (by rw [h1])
theorem lg_open {s m f : Nat} {R : Bs} (b : Nat) (hR : R.length = m * s) : lgM b f m (ub (tlB R (all R).2 s)) (all R).2 false = lgN b f m s (all R).1 false := by
  unfold lgN
  rw [tl_cl, clR_frs, all_usd, hR]
abbrev OA (b : Nat) (a : DA) : Type := AV × LS b a
theorem open_any {c s n f m : Nat} {P Q R : Bs} {a : DA} (b : Nat) (l : DL) (hA : AOk c a) (hR : Rg s n f m P Q R a) (hl : LOk b a l) (hfm : f + m ≤ n) (hm : 1 ≤ m) (hc : c + m ≤ 980) :
    ACt Tryd.prog 12 [pt b 0, iv .i64 (f : Int), iv .i64 (m : Int)] (dH b a l) (fun r F' => ∃ g : OA b (opR a f s R).1, r = g.1 ∧ F' = dH b (opR a f s R).1 g.2.1) := by
  rcases open_rg hA hR hfm with ⟨h, -⟩ | ⟨h, -⟩
  · refine ACt.frm (R := []) (open_go b l hA hR hl hfm hm hc h) (pmz _) fun r F' hr _ => ?_
    obtain ⟨g, e1, e2⟩ := hr
    subst e1 e2
    exact ⟨dH b (opR a f s R).1 g.q.1, [_], by rw [List.append_nil]; exact List.perm_append_comm (l₁ := [_]), ⟨_, g.q⟩, rfl, rfl⟩
  · exact (open_dk b l hA hR hl hfm hm hc h).mono fun r F' ⟨q, e1, e2⟩ => ⟨⟨_, q⟩, e1, e2⟩
theorem mok_of {mb x b2 cap : Nat} {M : List Bs} {k k2 : MB} {D : Hp} (h : ndF ((mb, k) :: (x, k2) :: (mR M b2 cap ++ D))) (h1 : M.length ≤ cap) (h2 : cap ≤ 9223372036854775807) : MOkL mb M b2 cap := by
  refine ⟨fun hM => ?_, h1, h2⟩
  cases M with
  | nil => exact absurd rfl hM
  | cons y r =>
    have := h.1
    simp only [mR, fresh_cons, List.cons_append, List.nil_append] at this
    exact ⟨this.2.1.2, this.2.1.1⟩
theorem LgI.fuse {c s n f m : Nat} {P Q : Bs} {L : List Bs} {a : DA} (h : LgI c s n f m P Q L a) (F : Int) (hF : F < 9223372036854775808) : LgI c s n f m P Q L (fuA a F) := ⟨fuA_ok h.A F hF, h.R.fuse F, h.u, h.sm, h.hfm, h.hm⟩
theorem LgI.up2 {c d s n f m : Nat} {P Q : Bs} {L : List Bs} {a : DA} (h : LgI c s n f m P Q L a) (hd : c ≤ d) : LgI d s n f m P Q L a := ⟨h.A.le hd, h.R, h.u, h.sm, h.hfm, h.hm⟩
def mo (M : List Bs) (b2 : Nat) : Option Addr := match M with
  | [] => none
  | _ :: _ => some ⟨b2, 0, none⟩
def mc (M : List Bs) (cap : Nat) : Nat := match M with
  | [] => 0
  | _ :: _ => cap
theorem mW_sl (M : List Bs) (b2 cap : Nat) : mW M b2 cap = .slice (mo M b2) M.length (mc M cap) := by cases M <;> rfl
theorem pm_out2 {α : Type} (k j : α) (A D : List α) : (k :: (A ++ (j :: D))).Perm ((j :: (A ++ D)) ++ [k]) :=
  ((List.Perm.cons k (List.perm_middle (l₁ := A) (l₂ := D) (a := j))).trans (List.perm_append_comm (l₁ := [k]) (l₂ := j :: (A ++ D))))
theorem last_two {c s : Nat} {P Q : Bs} {M : List Bs} {a : DA} (b x b2 cap : Nat) (l : DL) (h : LgI c s 9 1 7 P Q M a) (hl : LOk b a l) (z : Bs) (hz2 : z.length ≤ 5000) (hf : a.f = -1) (hc : c + 7 ≤ 980) (hc1 : M.length ≤ cap) (hc2 : cap ≤ 9223372036854775807) :
    ∃ (M' : List Bs) (a' : DA) (e : Int), LgI (c + 8) s 9 1 7 P Q M' a' ∧
      ACt Tryd.prog 13 [pt x 0, .slz .u8 (ub z)] ((x, lgN b 1 7 s M false) :: (mR M b2 cap ++ dH b a l)) (fun r F' => ∃ q : LS b a', r = iv .i64 e ∧ F' = (x, lgN b 1 7 s M' false) :: (mR M b2 cap ++ dH b a' q.1)) ∧
      ∀ mb, MOkL mb M b2 cap → ACt Tryd.prog 14 [pt mb 0, .slz .u8 (ub z)] (mH mb (7 * s) M b2 cap) (fun r F' => ∃ g : MQ mb M', r = iv .i64 e ∧ F' = mH mb (7 * s) M' g.1.1 g.1.2) := by
  have hu := h.u
  have hms := h.ms.1
  by_cases hfu : 7 * s < usd M + (z.length + 10)
  · refine ⟨M, a, 11, h.up2 (by omega), ?_, fun mb hm => ?_⟩
    · exact (look1 (mR M b2 cap) (append_full b x l h z hfu hz2)).mono fun r F' ⟨e1, e2⟩ => ⟨⟨l, hl⟩, e1, e2⟩
    · exact (rapp_full_m (A := 7 * s) hm (by omega) z (by omega) (by omega) hfu).mono fun r F' ⟨e1, e2⟩ => ⟨⟨(b2, cap), hm⟩, e1, e2⟩
  · obtain ⟨h0, hf', hI'⟩ := h.app z (by omega) hf
    refine ⟨M ++ [z], (apX 1 s 7 M a z).1, 0, hI', ?_, fun mb hm => ?_⟩
    · exact lift1 (mR M b2 cap) (append_up b x l h hl z (by omega) hz2 hf hc)
    · exact rapp_ok_m (A := 7 * s) hm (by omega) z (by omega) (by omega)
end Go.Proofs.YtpjnhcjfkgjbnaaDoor
