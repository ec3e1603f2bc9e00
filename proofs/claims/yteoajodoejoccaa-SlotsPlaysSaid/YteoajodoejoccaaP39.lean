/-
  The walks and the laws that the statement leans on, part 39.
-/
import Derived.Test.YteoajodoejoccaaP10
import Derived.Test.YteoajodoejoccaaP30
import Derived.Test.YteoajodoejoccaaP38
namespace Go.Proofs.Yteoajodoejoccaa
open Go Wi
set_option linter.unusedVariables false
set_option linter.unusedSimpArgs false
abbrev snM (E : Nat × List Int) : MB := MB.cells [nu E.1, .slz .u8 E.2] 2 38
theorem ext_ub (W : Bs) (i j : Nat) : (bstr (ub W)).extract i j = bstr (ub ((W.drop i).take (j - i))) := by
  rw [bstr_ext, ub_map, ub_map, List.map_take, List.map_drop, List.drop_take]
set_option linter.defProp false
def TFPtL :=
  And.intro (And.intro (And.intro (And.intro (And.intro tyc0 tyc3) (And.intro zmb3 tyc4)) (And.intro (And.intro zmb4 tyc5) (And.intro zmb5 tyc22))) (And.intro (And.intro (And.intro elt22 mkz22) (And.intro mkc22 apT22)) (And.intro (And.intro elk22 zmb22) (And.intro tyc36 (And.intro elt36 mkz36))))) (And.intro (And.intro (And.intro (And.intro apT36 elk36) (And.intro zmb36 tyc40)) (And.intro (And.intro foff40_0 fpart40_0) (And.intro foff40_1 fpart40_1))) (And.intro (And.intro (And.intro zmb40 bldT40) (And.intro Try.underlying0 Try.underlying3)) (And.intro (And.intro Try.underlying4 Try.underlying5) (And.intro Try.underlying22 (And.intro Try.underlying36 Try.underlying40)))))
theorem Y1PtL {G R : Prop} (r : R) (h : R → G := by intro r; first | (apply WP.region; exact rvc_sound _ _ (Sm.out r)) | exact WP.drawK rfl mixed (by decide +kernel) (Sm.out r) | (apply WP.block; exact r) | (apply WP.skip; exact Yq r) | (apply WP.exit; exact Yq r) | (apply WP.ret; exact Sm.out r) | exact WP.cond rfl (fun _ => r) (fun hg => absurd hg (by decide)) | exact WP.cond rfl (fun hg => absurd hg (by decide)) (fun _ => r) | exact Rt.mk (And.intro (fun _ => Sm.out r) fun hg => absurd hg (by decide)) | exact Rt.mk (And.intro (fun hg => absurd hg (by decide)) fun _ => Sm.out r)) : G := h r
theorem YzPtL {G R : Prop} (r : R) (h : R → G := by intro r; first | (apply ExG.no; exact Sm.out r) | (apply Or.inl; apply ExG.no; exact Sm.out r) | exact Or.inl (And.intro (fun hg => absurd hg (by decide)) (ExG.no (Sm.out r)))) : G := h r
theorem YsPtL0 {P Q : Prop} (q : Q) (h : P = Q := by (try (conv => lhs; simp -dsimp only [ZK, rvc, capA, appA, litL, mkfv, drawF, headN, pureH, stp, dvc, calleeOf, gcall, pev, eff, newB, okd, og, ogs, ogo, ogp, slv, bltv, opd, litv, strip, one, both, putE, St.put, look, gdOf, gdv, picka, pickv, pickw, binv, bini, bins, binb, binp, binq, isSlT, bina, shp, eqCells, unv, convv, nilv, faddv, addp, idxav, idxp, load1, load1m, loadn, loadnm, loadv, hget, hset, hrep, hdel, slicev, slice3v, bnd, shift1, lenv, capv, IntKind.bits, extractv, fieldv, indexv, min2v, max2v, mkiv, tasv, tasz, cellsA, fillA, buildv, stC, oneC, rowMB, intsA, plN, appE, appZ, appC, appS, srcB, appNZ, appNC, VwL, srcC, srcZ, srcM, isBoolT, isPtrT, isSliceT, uOk, Value.oneCell', Nat.reducePow, Int.reducePow, Nat.reduceAdd, Nat.reduceMul, Nat.reduceSub, Nat.reduceLT, Nat.reduceLeDiff, Nat.reduceEqDiff, Nat.reduceBEq, Nat.reduceDiv, Nat.reduceMod, ↓reduceIte, reduceCtorEq, Int.reduceToNat, Int.reduceLT, Int.reduceLE, TFPtL, SeqQ, BlkQ, LoopQ, BodyQ, hin, FA.out, FR.out])) <;> exact rfl) : P := h.mpr q
theorem long_ct (L : List Ac) : ACt Try.prog 7 [.sl L.length (acs L)] [] (fun r F' => ∃ z : Bool, (z = false ↔ L.length ≤ 60 ∧ ∀ a ∈ L, a.z.length ≤ 2000) ∧ r = bv z ∧ F' = []) := by
  have hCl := acs_len L
  have hdr := acs_drop L
  obtain ⟨n, hn⟩ : ∃ n, L.length = n := ⟨_, rfl⟩
  obtain ⟨C, hC⟩ : ∃ C, C = acs L := ⟨_, rfl⟩
  rw [← hC] at hCl ⊢
  simp only [← hC] at hdr
  rw [hn] at hCl ⊢
  by_cases h60 : 60 < n
  · have k0 : decide ((n : Int) > 60) = true := decide_eq_true (by omega)
    refine ACt.intro Try.func7 rfl (by kernel_rfl) (by simp [Try.ntmps7]) (fun cx => ?_)
    simp only [argE, Try.ntmps7, Try.results7]
    first | (have FRx := FR; clear FRx) | have FR := fr0S
    have FA := Sm.mk (And.intro TFPtL k0)
    repeat' first | (apply Sm.mk; refine Ys ?_) | refine WP.seq fun K hK => ?_ | (apply Ob.mk; exact Yo) | refine And.intro (Ob.out ?_) ?_ | refine Y1PtL ?_ | refine YzPtL ?_ | (refine WP.cond rfl (fun hc => ?_) (fun hc => ?_) <;> (try simp only [ZC, reduceCtorEq, ZD] at hc) <;> (try exact absurd hc (by decide)) <;> (try (exfalso; omega))) | refine Rt.mk (And.intro (fun hg => Sm.out ?_) fun hg => Sm.out ?_) | (refine Nu.mk ?_; first | (fail_if_success have := nb1); intro nb1 | (fail_if_success have := nb2); intro nb2 | (fail_if_success have := nb3); intro nb3 | (fail_if_success have := nb4); intro nb4 | (fail_if_success have := nb5); intro nb5 | (fail_if_success have := nb6); intro nb6 | intro nbz) | (apply Yfr; refine Yf FR fun hFRb FR => ?_) | refine Two.mk ?_ ?_ | (apply Yxc; exact Yx) | refine Cs.mk fun hcs => Sm.out ?_ | go_step | omega | (simp only [maxLen_eq]; omega) | exact trivial
    (refine OutQ.drop _ _ (List.Perm.refl _) (by simp only [resv, ZK, look, loadv, loadn, loadnm, load1, load1m, hget, ↓reduceIte, Nat.reduceEqDiff, Nat.reduceAdd, Nat.reduceMul, Nat.reduceLeDiff, Nat.reduceLT, reduceCtorEq, TFPtL, FR.out]) ⟨true, ⟨fun h => absurd h.symm Bool.false_ne_true, fun h => absurd h.1 (by omega)⟩, (by simp only [resv, resA, ZK, look, loadv, loadn, loadnm, load1, load1m, hget, ↓reduceIte, Nat.reduceEqDiff, Nat.reduceAdd, Nat.reduceMul, Nat.reduceLeDiff, Nat.reduceLT, reduceCtorEq, TFPtL, FR.out]; first | done | rfl), rfl⟩)
  · have k0 : decide ((n : Int) > 60) = false := decide_eq_false (by omega)
    refine ACt.intro Try.func7 rfl (by kernel_rfl) (by simp [Try.ntmps7]) (fun cx => ?_)
    simp only [argE, Try.ntmps7, Try.results7]
    first | (have FRx := FR; clear FRx) | have FR := fr0S
    have FA := Sm.mk (And.intro TFPtL k0)
    repeat' first | (apply Sm.mk; refine Ys ?_) | refine WP.seq fun K hK => ?_ | (apply Ob.mk; exact Yo) | refine And.intro (Ob.out ?_) ?_ | refine Y1PtL ?_ | refine YzPtL ?_ | (refine WP.cond rfl (fun hc => ?_) (fun hc => ?_) <;> (try simp only [ZC, reduceCtorEq, ZD] at hc) <;> (try exact absurd hc (by decide)) <;> (try (exfalso; omega))) | refine Rt.mk (And.intro (fun hg => Sm.out ?_) fun hg => Sm.out ?_) | (refine Nu.mk ?_; first | (fail_if_success have := nb1); intro nb1 | (fail_if_success have := nb2); intro nb2 | (fail_if_success have := nb3); intro nb3 | (fail_if_success have := nb4); intro nb4 | (fail_if_success have := nb5); intro nb5 | (fail_if_success have := nb6); intro nb6 | intro nbz) | (apply Yfr; refine Yf FR fun hFRb FR => ?_) | refine Two.mk ?_ ?_ | (apply Yxc; exact Yx) | refine Cs.mk fun hcs => Sm.out ?_ | go_step | omega | (simp only [maxLen_eq]; omega) | exact trivial
    refine WP.loop (Γ := Nat) (fun i => ⟨[(3, iv .i64 (i : Int)), (0, .sl n C)], []⟩) (fun i => i ≤ n ∧ ∀ j (h : j < L.length), j < i → L[j].z.length ≤ 2000) (fun i => n - i) 0 ⟨Nat.zero_le _, fun j _ h => absurd h (Nat.not_lt_zero _)⟩ (Sub.pick (by simp [pickB, hget, hdel, FR.out]) (by simp [look])) ?_
    intro i ⟨hi, hq⟩
    have FR : Sm (¬ ((1 : Nat) = 0)) := Sm.mk Nat.one_ne_zero
    by_cases hin : i < n
    · have ki : decide ((i : Int) < (n : Int)) = true := decide_eq_true (by omega)
      have s1 : IntKind.i64.wrap ((i : Int) + 1) = ((i + 1 : Nat) : Int) := by rw [wrap_i64 (by omega) (by omega)]; omega
      have hd := hdr i (by omega)
      have q1 : (i + 1) * 2 ≤ C.length := by omega
      have hl := ub_len (L[i]'(by omega)).z
      obtain ⟨v, hv⟩ : ∃ x, x = L[i]'(by omega) := ⟨_, rfl⟩
      rw [← hv] at hd hl
      obtain ⟨Y, hY⟩ : ∃ Y, Y = ub v.z := ⟨_, rfl⟩
      rw [← hY] at hd hl
      by_cases h2 : 2000 < v.z.length
      · have k2 : decide ((v.z.length : Int) > 2000) = true := decide_eq_true (by omega)
        first | (have FRx := FR; clear FRx) | have FR := fr0S
        have FA := Sm.mk (And.intro TFPtL (And.intro ki (And.intro hd (And.intro q1 (And.intro hl k2)))))
        repeat' first | (apply Sm.mk; refine YsPtL0 ?_) | refine WP.seq fun K hK => ?_ | (apply Ob.mk; exact Yo) | refine And.intro (Ob.out ?_) ?_ | refine Y1PtL ?_ | refine YzPtL ?_ | (refine WP.cond rfl (fun hc => ?_) (fun hc => ?_) <;> (try simp only [ZC, reduceCtorEq, ZD] at hc) <;> (try exact absurd hc (by decide)) <;> (try (exfalso; omega))) | refine Rt.mk (And.intro (fun hg => Sm.out ?_) fun hg => Sm.out ?_) | (refine Nu.mk ?_; first | (fail_if_success have := nb1); intro nb1 | (fail_if_success have := nb2); intro nb2 | (fail_if_success have := nb3); intro nb3 | (fail_if_success have := nb4); intro nb4 | (fail_if_success have := nb5); intro nb5 | (fail_if_success have := nb6); intro nb6 | intro nbz) | (apply Yfr; refine Yf FR fun hFRb FR => ?_) | refine Two.mk ?_ ?_ | (apply Yxc; exact Yx) | refine Cs.mk fun hcs => Sm.out ?_ | go_step | omega | (simp only [maxLen_eq]; omega) | exact trivial
        (refine OutQ.drop _ _ (List.Perm.refl _) (by simp only [resv, ZK, look, loadv, loadn, loadnm, load1, load1m, hget, ↓reduceIte, Nat.reduceEqDiff, Nat.reduceAdd, Nat.reduceMul, Nat.reduceLeDiff, Nat.reduceLT, reduceCtorEq, TFPtL, FR.out]) ⟨true, ⟨fun h => absurd h.symm Bool.false_ne_true, fun h => absurd (h.2 v (by rw [hv]; exact List.getElem_mem _)) (by omega)⟩, (by simp only [resv, resA, ZK, look, loadv, loadn, loadnm, load1, load1m, hget, ↓reduceIte, Nat.reduceEqDiff, Nat.reduceAdd, Nat.reduceMul, Nat.reduceLeDiff, Nat.reduceLT, reduceCtorEq, TFPtL, FR.out]; first | done | rfl), rfl⟩)
      · have k2 : decide ((v.z.length : Int) > 2000) = false := decide_eq_false (by omega)
        first | (have FRx := FR; clear FRx) | have FR := fr0S
        have FA := Sm.mk (And.intro TFPtL (And.intro ki (And.intro hd (And.intro q1 (And.intro hl (And.intro k2 s1))))))
        repeat' first | (apply Sm.mk; refine YsPtL0 ?_) | refine WP.seq fun K hK => ?_ | (apply Ob.mk; exact Yo) | refine And.intro (Ob.out ?_) ?_ | refine Y1PtL ?_ | refine YzPtL ?_ | (refine WP.cond rfl (fun hc => ?_) (fun hc => ?_) <;> (try simp only [ZC, reduceCtorEq, ZD] at hc) <;> (try exact absurd hc (by decide)) <;> (try (exfalso; omega))) | refine Rt.mk (And.intro (fun hg => Sm.out ?_) fun hg => Sm.out ?_) | (refine Nu.mk ?_; first | (fail_if_success have := nb1); intro nb1 | (fail_if_success have := nb2); intro nb2 | (fail_if_success have := nb3); intro nb3 | (fail_if_success have := nb4); intro nb4 | (fail_if_success have := nb5); intro nb5 | (fail_if_success have := nb6); intro nb6 | intro nbz) | (apply Yfr; refine Yf FR fun hFRb FR => ?_) | refine Two.mk ?_ ?_ | (apply Yxc; exact Yx) | refine Cs.mk fun hcs => Sm.out ?_ | go_step | omega | (simp only [maxLen_eq]; omega) | exact trivial
        exact ⟨i + 1, ⟨by omega, fun j hj hji => by
          by_cases e : j = i
          · subst e; rw [← hv]; omega
          · exact hq j hj (by omega)⟩, by omega, (Sub.pick (by simp [pickB, hget, hdel, FR.out]) (by simp [look]))⟩
    · obtain rfl : i = n := by omega
      have ki : decide ((i : Int) < (i : Int)) = false := by simp
      have hz : i ≤ 60 ∧ ∀ a ∈ L, a.z.length ≤ 2000 := ⟨by omega, fun a ha => by
        obtain ⟨j, hj, rfl⟩ := List.getElem_of_mem ha
        exact hq j hj (by omega)⟩
      first | (have FRx := FR; clear FRx) | have FR := fr0S
      have FA := Sm.mk (And.intro TFPtL ki)
      repeat' first | (apply Sm.mk; refine Ys ?_) | refine WP.seq fun K hK => ?_ | (apply Ob.mk; exact Yo) | refine And.intro (Ob.out ?_) ?_ | refine Y1PtL ?_ | refine YzPtL ?_ | (refine WP.cond rfl (fun hc => ?_) (fun hc => ?_) <;> (try simp only [ZC, reduceCtorEq, ZD] at hc) <;> (try exact absurd hc (by decide)) <;> (try (exfalso; omega))) | refine Rt.mk (And.intro (fun hg => Sm.out ?_) fun hg => Sm.out ?_) | (refine Nu.mk ?_; first | (fail_if_success have := nb1); intro nb1 | (fail_if_success have := nb2); intro nb2 | (fail_if_success have := nb3); intro nb3 | (fail_if_success have := nb4); intro nb4 | (fail_if_success have := nb5); intro nb5 | (fail_if_success have := nb6); intro nb6 | intro nbz) | (apply Yfr; refine Yf FR fun hFRb FR => ?_) | refine Two.mk ?_ ?_ | (apply Yxc; exact Yx) | refine Cs.mk fun hcs => Sm.out ?_ | go_step | omega | (simp only [maxLen_eq]; omega) | exact trivial
      (refine OutQ.drop _ _ (List.Perm.refl _) (by simp only [resv, ZK, look, loadv, loadn, loadnm, load1, load1m, hget, ↓reduceIte, Nat.reduceEqDiff, Nat.reduceAdd, Nat.reduceMul, Nat.reduceLeDiff, Nat.reduceLT, reduceCtorEq, TFPtL, FR.out]) ⟨false, ⟨fun _ => hz, fun _ => rfl⟩, (by simp only [resv, resA, ZK, look, loadv, loadn, loadnm, load1, load1m, hget, ↓reduceIte, Nat.reduceEqDiff, Nat.reduceAdd, Nat.reduceMul, Nat.reduceLeDiff, Nat.reduceLT, reduceCtorEq, TFPtL, FR.out]; first | done | rfl), rfl⟩)
theorem long_ok (L : List Ac) (h : L.length ≤ 60 ∧ ∀ a ∈ L, a.z.length ≤ 2000) : ACt Try.prog 7 [.sl L.length (acs L)] [] (Fn (bv false)) :=
  (long_ct L).mono fun r F' ⟨z, h1, h2, h3⟩ => by rw [h1.2 h] at h2; exact ⟨h2, h3⟩
theorem long_no (L : List Ac) (h : ¬ (L.length ≤ 60 ∧ ∀ a ∈ L, a.z.length ≤ 2000)) : ACt Try.prog 7 [.sl L.length (acs L)] [] (Fn (bv true)) :=
  (long_ct L).mono fun r F' ⟨z, h1, h2, h3⟩ => by
    have : z = true := by cases z with
      | true => rfl
      | false => exact absurd (h1.1 rfl) h
    rw [this] at h2; exact ⟨h2, h3⟩
theorem long_b (L : List Ac) : ∃ z : Bool, (z = false → L.length ≤ 60 ∧ ∀ a ∈ L, a.z.length ≤ 2000) ∧ ACt Try.prog 7 [.sl L.length (acs L)] [] (Fn (bv z)) := by
  by_cases h : L.length ≤ 60 ∧ ∀ a ∈ L, a.z.length ≤ 2000
  · exact ⟨false, fun _ => h, long_ok L h⟩
  · exact ⟨true, (fun h => absurd h (by decide)), long_no L h⟩
theorem Wk.nil0 {env : List (Nat × AV)} {R : Hp} {b sz ty : Nat} {x : AV} : Wk ⟨env, (b, .cells [x, nl] sz ty) :: R⟩ ⟨env, (b, .cells [x, .slz .u8 []] sz ty) :: R⟩ := by
  intro cx n a w ok
  have hg : hget ((b, MB.cells [x, nl] sz ty) :: R) b = some (.cells [x, nl] sz ty) := by simp [hget]
  obtain ⟨h1, h2⟩ := ok.world.conv (m' := .cells [x, .slz .u8 []] sz ty) (hget_mem hg) (fun I hm => by
    obtain ⟨cur, c1, c2, c3, c4⟩ := hm
    refine ⟨cur, c1, c2, c3, fun i hi => ?_⟩
    have hi2 : i < 2 := hi
    rcases (by omega : i = 0 ∨ i = 1) with rfl | rfl
    · exact c4 0 (by simp)
    · exact Rep.nilz (c4 1 (by simp)))
  have e : hset ((b, MB.cells [x, nl] sz ty) :: R) b (.cells [x, .slz .u8 []] sz ty) = (b, .cells [x, .slz .u8 []] sz ty) :: R := by simp [hset]
  rw [e] at h1 h2
  exact ⟨ok.defers, ok.size, fun i => (ok.reps i).mono fun c hc => ⟨(h2 c).1 hc, rfl⟩, h1⟩
theorem put_up {c s n f m : Nat} {W : Bs} (y b : Nat) (a : DA) (l : DL) (hA : AOk c a) (hS : Stl s n (ub W) a) (hW : W.length = n * s) (hl : LOk b a l) (hfm : f + 2 * m ≤ n) (hm : 1 ≤ m) (hms : m * s ≤ 5000) (z : Bs) (hz : z.length ≤ 2000) (hc : c + 2 * m ≤ 900) (hf : a.f = -1) :
    ∃ X : DA, ACt Try.prog 15 [pt y 0, .slz .u8 (ub z)] ((y, slO b f m (slP W f m s) false) :: dH b a l) (fun r F' => ∃ q : LS b X, r = iv .i64 (rpE (slP W f m s) (m * s) (ub z)).2 ∧ F' = (y, slO b f m (rpE (slP W f m s) (m * s) (ub z)).1 false) :: dH b X q.1) ∧ AOk (c + 2 * m + 2) X ∧ X.f = -1 ∧
      ∃ W', Stl s n (ub W') X ∧ W'.length = n * s ∧ slP W' f m s = (rpE (slP W f m s) (m * s) (ub z)).1 ∧ W'.take (f * s) = W.take (f * s) ∧ W'.drop ((f + 2 * m) * s) = W.drop ((f + 2 * m) * s) := by
  obtain ⟨X, E1, ov, h1, h2, h3⟩ := put_spec y b a l hA hS hW hl hfm hm hms z hz hc
  rcases h3 with ⟨g1, rfl, rfl, g4, g5, W', g6, g7, g8, g9, g10⟩ | ⟨g1, g2, g3, rfl, rfl, g6⟩ | ⟨-, g2, -⟩
  · rw [g1] at h1
    refine ⟨X.1, ?_, h2, g5 hf, W', g6, g7, g8, g9, g10⟩
    rw [g4]; exact h1
  · refine ⟨X.1, ?_, h2, by rw [g3]; exact hf, W, by rw [g3]; exact hS, hW, g6.symm, rfl, rfl⟩
    rw [g6, ← g1]; exact h1
  · exact absurd hf g2
end Go.Proofs.Yteoajodoejoccaa
