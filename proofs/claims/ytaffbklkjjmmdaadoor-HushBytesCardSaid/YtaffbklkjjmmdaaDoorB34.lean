/-
  The walks and the laws that the statement leans on, part 34.
-/
import Derived.Test.YtaffbklkjjmmdaaDoorB10
import Derived.Test.YtaffbklkjjmmdaaDoorB33
namespace Go.Proofs.YtaffbklkjjmmdaaDoor
open Go
set_option linter.unusedVariables false
set_option linter.unusedSimpArgs false
set_option linter.defProp false
def TFHuM :=
  And.intro (And.intro (And.intro (And.intro (And.intro tyc0 tyc3) (And.intro zmb3 tyc4)) (And.intro (And.intro zmb4 tyc22) (And.intro elt22 mkz22))) (And.intro (And.intro (And.intro mkc22 apT22) (And.intro elk22 zmb22)) (And.intro (And.intro tyc32 foff32_0) (And.intro fpart32_0 (And.intro foff32_1 fpart32_1))))) (And.intro (And.intro (And.intro (And.intro foff32_2 fpart32_2) (And.intro foff32_3 fpart32_3)) (And.intro (And.intro foff32_4 fpart32_4) (And.intro fe32 zmb32))) (And.intro (And.intro (And.intro bldT32 tyc62) (And.intro zmb62 Tryd.underlying0)) (And.intro (And.intro Tryd.underlying3 Tryd.underlying4) (And.intro Tryd.underlying22 (And.intro Tryd.underlying32 Tryd.underlying62)))))
theorem Y1HuM {G R : Prop} (r : R) (h : R → G := by intro r; first | (apply WP.region; exact rvc_sound _ _ (Sm.out r)) | exact WP.drawK rfl mixed (by decide +kernel) (Sm.out r) | (apply WP.block; exact r) | (apply WP.skip; exact Yq r) | (apply WP.exit; exact Yq r) | (apply WP.ret; exact Sm.out r) | exact WP.cond rfl (fun _ => r) (fun hg => absurd hg (by decide)) | exact WP.cond rfl (fun hg => absurd hg (by decide)) (fun _ => r) | exact Rt.mk (And.intro (fun _ => Sm.out r) fun hg => absurd hg (by decide)) | exact Rt.mk (And.intro (fun hg => absurd hg (by decide)) fun _ => Sm.out r)) : G := h r
theorem YzHuM {G R : Prop} (r : R) (h : R → G := by intro r; first | (apply ExG.no; exact Sm.out r) | (apply Or.inl; apply ExG.no; exact Sm.out r) | exact Or.inl (And.intro (fun hg => absurd hg (by decide)) (ExG.no (Sm.out r)))) : G := h r
theorem YsHuM0 {P Q : Prop} (q : Q) (h : P = Q := by (try (conv => lhs; simp -dsimp only [ZK, rvc, capA, appA, litL, mkfv, drawF, headN, pureH, stp, dvc, calleeOf, gcall, pev, eff, newB, okd, og, ogs, ogo, ogp, slv, bltv, opd, litv, strip, one, both, putE, St.put, look, gdOf, gdv, picka, pickv, pickw, binv, bini, bins, binb, binp, binq, isSlT, bina, shp, eqCells, unv, convv, nilv, faddv, addp, idxav, idxp, load1, load1m, loadn, loadnm, loadv, hget, hset, hrep, hdel, slicev, slice3v, bnd, shift1, lenv, capv, IntKind.bits, extractv, fieldv, indexv, min2v, max2v, mkiv, tasv, tasz, cellsA, fillA, buildv, stC, oneC, rowMB, intsA, plN, appE, appZ, appC, appS, srcB, appNZ, appNC, VwL, srcC, srcZ, srcM, isBoolT, isPtrT, isSliceT, uOk, Value.oneCell', Nat.reducePow, Int.reducePow, Nat.reduceAdd, Nat.reduceMul, Nat.reduceSub, Nat.reduceLT, Nat.reduceLeDiff, Nat.reduceEqDiff, Nat.reduceBEq, Nat.reduceDiv, Nat.reduceMod, ↓reduceIte, reduceCtorEq, Int.reduceToNat, Int.reduceLT, Int.reduceLE, TFHuM, SeqQ, BlkQ, LoopQ, BodyQ, dkn, kst, fvOf, beq_self_eq_true, Bool.true_beq, Bool.false_beq, Bool.not_true, Bool.not_false, FA.out, FR.out])) <;> exact rfl) : P := h.mpr q
theorem YsHuM1 {P Q : Prop} (q : Q) (h : P = Q := by (try (conv => lhs; simp -dsimp only [ZK, rvc, capA, appA, litL, mkfv, drawF, headN, pureH, stp, dvc, calleeOf, gcall, pev, eff, newB, okd, og, ogs, ogo, ogp, slv, bltv, opd, litv, strip, one, both, putE, St.put, look, gdOf, gdv, picka, pickv, pickw, binv, bini, bins, binb, binp, binq, isSlT, bina, shp, eqCells, unv, convv, nilv, faddv, addp, idxav, idxp, load1, load1m, loadn, loadnm, loadv, hget, hset, hrep, hdel, slicev, slice3v, bnd, shift1, lenv, capv, IntKind.bits, extractv, fieldv, indexv, min2v, max2v, mkiv, tasv, tasz, cellsA, fillA, buildv, stC, oneC, rowMB, intsA, plN, appE, appZ, appC, appS, srcB, appNZ, appNC, VwL, srcC, srcZ, srcM, isBoolT, isPtrT, isSliceT, uOk, Value.oneCell', Nat.reducePow, Int.reducePow, Nat.reduceAdd, Nat.reduceMul, Nat.reduceSub, Nat.reduceLT, Nat.reduceLeDiff, Nat.reduceEqDiff, Nat.reduceBEq, Nat.reduceDiv, Nat.reduceMod, ↓reduceIte, reduceCtorEq, Int.reduceToNat, Int.reduceLT, Int.reduceLE, TFHuM, SeqQ, BlkQ, LoopQ, BodyQ, drawSR, dvm, xst, putE, hdel, List.mem_cons, List.mem_singleton, FA.out, FR.out])) <;> exact rfl) : P := h.mpr q
structure InI (l D : List Sl) (a b i j n : Nat) : Prop where
  len : D.length = n
  perm : D.Perm l
  out : Out l D a b
  aj : a ≤ j
  ji : j ≤ i
  ib : i < b
  s1 : ∀ p q, a ≤ p → p < q → q ≤ i → p ≠ j → q ≠ j → (at_ D p).f ≤ (at_ D q).f
  s2 : ∀ q, j < q → q ≤ i → (at_ D j).f ≤ (at_ D q).f
theorem InI.start {l D : List Sl} {a b i n : Nat} (hl : D.length = n) (hp : D.Perm l) (ho : Out l D a b) (hs : SegS D a i) (h1 : a ≤ i) (hb : i < b) : InI l D a b i i n :=
  ⟨hl, hp, ho, h1, Nat.le_refl _, hb, fun p q ha hpq hq hp1 hq1 => hs p q ha hpq (by omega), fun q h1 h2 => by omega⟩
theorem InI.done {l D : List Sl} {a b i j n : Nat} (h : InI l D a b i j n) (hx : j = a ∨ (at_ D (j - 1)).f ≤ (at_ D j).f) : SegS D a (i + 1) := by
  intro p q ha hpq hq
  by_cases h1 : p = j
  · subst h1; exact h.s2 q hpq (by omega)
  · by_cases h2 : q = j
    · subst h2
      rcases hx with hx | hx
      · omega
      · by_cases h3 : p = q - 1
        · rw [h3]; exact hx
        · exact Int.le_trans (h.s1 p (q - 1) ha (by omega) (by omega) (by omega) (by omega)) hx
    · exact h.s1 p q ha hpq (by omega) h1 h2
theorem InI.step {l D : List Sl} {a b i j n : Nat} (h : InI l D a b i j n) (hb : b ≤ n) (hj : a < j) (hx : (at_ D j).f < (at_ D (j - 1)).f) : InI l (swp D j (j - 1)) a b i (j - 1) n := by
  have l1 : j < D.length := by have := h.len; have := h.ji; have := h.ib; omega
  have l2 : j - 1 < D.length := by omega
  have e := swp_at D l1 l2
  have hji := h.ji
  have hib := h.ib
  refine ⟨by rw [swp_len]; exact h.len, (swp_count D l1 l2).trans h.perm, fun p hp => ?_, by omega, by omega, h.ib, fun p q ha hpq hq hp1 hq1 => ?_, fun q h1 h2 => ?_⟩
  · rw [e p, if_neg (by omega), if_neg (by omega)]; exact h.out p hp
  · rw [e p, e q, if_neg hp1, if_neg hq1]
    by_cases hpj : p = j
    · rw [if_pos hpj, if_neg (by omega)]
      exact h.s1 (j - 1) q (by omega) (by omega) hq (by omega) (by omega)
    · rw [if_neg hpj]
      by_cases hqj : q = j
      · rw [if_pos hqj]
        exact h.s1 p (j - 1) ha (by omega) (by omega) hpj (by omega)
      · rw [if_neg hqj]
        exact h.s1 p q ha hpq hq hpj hqj
  · rw [e (j - 1), e q, if_pos rfl, if_neg (by omega)]
    by_cases hqj : q = j
    · rw [if_pos hqj]; omega
    · rw [if_neg hqj]
      exact h.s2 q (by omega) h2
theorem fb_at {l D : List Sl} {p : Nat} (hf : ∀ e ∈ l, fb e) (hp : D.Perm l) (h : p < D.length) : fb (at_ D p) := by
  rw [at_get D h]
  exact hf _ (hp.mem_iff.1 (List.getElem_mem h))
theorem scs_at (D : List Sl) (p : Nat) (h : p < D.length) : (scs D).drop (p * 5) = sc (at_ D p) (scs (D.drop (p + 1))) := by
  rw [scs_drop D p h, at_get D h]
structure StI where
  i : Nat
  D : List Sl
set_option maxHeartbeats 8000000 in
theorem ins_ct (l : List Sl) (x n k a b : Nat) (hn : l.length = n) (hl : n ≤ 100000) (hk : n ≤ k ∧ k ≤ 9223372036854775807) (hb : b ≤ n) (hab : a ≤ b) (hf : ∀ e ∈ l, fb e) :
    ACt Tryd.prog 79 [ms x 0 n k, iv .i64 (a : Int), iv .i64 (b : Int), .lit (.func (.func 39) #[] #[])] [(x, .cells (scs l) (k * 5) 32)]
      (fun r F' => ∃ g, (g.Perm l ∧ SegS g a b ∧ Out l g a b) ∧ r = .tup [] ∧ F' = [(x, .cells (scs g) (k * 5) 32)]) := by
  have s0 : IntKind.i64.wrap ((a : Int) + 1) = ((a + 1 : Nat) : Int) := by rw [wrap_i64 (by omega) (by omega)]; omega
  obtain ⟨C, hC⟩ : ∃ C, C = scs l := ⟨_, rfl⟩
  rw [← hC]
  refine ACt.intro Tryd.func79 rfl (by kernel_rfl) (by simp [Tryd.ntmps79]) (fun cx => ?_)
  simp only [argE, Tryd.ntmps79, Tryd.results79]
  first | (have FRx := FR; clear FRx) | have FR := fr0S
  have FA := Sm.mk (And.intro TFHuM s0)
  repeat' first | (apply Sm.mk; refine Ys ?_) | refine WP.seq fun K hK => ?_ | (apply Ob.mk; exact Yo) | refine And.intro (Ob.out ?_) ?_ | refine Y1HuM ?_ | refine YzHuM ?_ | (refine WP.cond rfl (fun hc => ?_) (fun hc => ?_) <;> (try simp only [ZC, reduceCtorEq, ZD] at hc) <;> (try exact absurd hc (by decide)) <;> (try (exfalso; omega))) | refine Rt.mk (And.intro (fun hg => Sm.out ?_) fun hg => Sm.out ?_) | (refine Nu.mk ?_; first | (fail_if_success have := nb1); intro nb1 | (fail_if_success have := nb2); intro nb2 | (fail_if_success have := nb3); intro nb3 | (fail_if_success have := nb4); intro nb4 | intro nbz) | (apply Yfr; refine Yf FR fun hFRb FR => ?_) | refine Two.mk ?_ ?_ | (apply Yxc; exact Yx) | refine Cs.mk fun hcs => Sm.out ?_ | go_step | omega | (simp only [maxLen_eq]; omega) | exact trivial
  refine WP.loop (Γ := StI) (fun g => ⟨[(8, iv .i64 (g.i : Int)), (0, ms x 0 n k), (1, iv .i64 (a : Int)), (2, iv .i64 (b : Int)), (3, .lit (.func (.func 39) #[] #[]))], [(x, .cells (scs g.D) (k * 5) 32)]⟩)
    (fun g => a + 1 ≤ g.i ∧ (g.i ≤ b ∨ g.i = a + 1) ∧ g.D.length = n ∧ g.D.Perm l ∧ SegS g.D a g.i ∧ Out l g.D a b) (fun g => b - g.i) ⟨a + 1, l⟩
    ⟨Nat.le_refl _, .inr rfl, hn, List.Perm.refl _, fun p q h1 h2 h3 => by simp only at h3; omega, fun p _ => rfl⟩ (Sub.pick (by simp [pickB, hget, hdel, FR.out, hC]) (by simp [look, hC])) ?_
  intro ⟨i, D⟩ ⟨hi, hib, hD, hP, hS, hO⟩
  simp only at hi hib hD hP hS hO ⊢
  have FR : Sm (¬ ((1 : Nat) = 0)) := Sm.mk Nat.one_ne_zero
  by_cases hin : i < b
  · have ki : decide ((i : Int) < (b : Int)) = true := decide_eq_true (by omega)
    have s1 : IntKind.i64.wrap ((i : Int) + 1) = ((i + 1 : Nat) : Int) := by rw [wrap_i64 (by omega) (by omega)]; omega
    obtain ⟨C1, hC1⟩ : ∃ C, C = scs D := ⟨_, rfl⟩
    rw [← hC1]
    first | (have FRx := FR; clear FRx) | have FR := fr0S
    have FA := Sm.mk (And.intro TFHuM ki)
    repeat' first | (apply Sm.mk; refine Ys ?_) | refine WP.seq fun K hK => ?_ | (apply Ob.mk; exact Yo) | refine And.intro (Ob.out ?_) ?_ | refine Y1HuM ?_ | refine YzHuM ?_ | (refine WP.cond rfl (fun hc => ?_) (fun hc => ?_) <;> (try simp only [ZC, reduceCtorEq, ZD] at hc) <;> (try exact absurd hc (by decide)) <;> (try (exfalso; omega))) | refine Rt.mk (And.intro (fun hg => Sm.out ?_) fun hg => Sm.out ?_) | (refine Nu.mk ?_; first | (fail_if_success have := nb1); intro nb1 | (fail_if_success have := nb2); intro nb2 | (fail_if_success have := nb3); intro nb3 | (fail_if_success have := nb4); intro nb4 | intro nbz) | (apply Yfr; refine Yf FR fun hFRb FR => ?_) | refine Two.mk ?_ ?_ | (apply Yxc; exact Yx) | refine Cs.mk fun hcs => Sm.out ?_ | go_step | omega | (simp only [maxLen_eq]; omega) | exact trivial
    refine WP.loop (Γ := StI) (fun g => ⟨[(9, iv .i64 (g.i : Int)), (8, iv .i64 (i : Int)), (0, ms x 0 n k), (1, iv .i64 (a : Int)), (2, iv .i64 (b : Int)), (3, .lit (.func (.func 39) #[] #[]))], [(x, .cells (scs g.D) (k * 5) 32)]⟩)
      (fun g => InI l g.D a b i g.i n) (fun g => g.i) ⟨i, D⟩ (InI.start hD hP hO hS (by omega) hin) (Sub.pick (by simp [pickB, hget, hdel, FR.out, hC1]) (by simp [look, hC1])) ?_
    intro ⟨j, E⟩ hI
    simp only at hI ⊢
    have FR : Sm (¬ ((1 : Nat) = 0)) := Sm.mk Nat.one_ne_zero
    have hE := hI.len
    have hji := hI.ji
    have haj := hI.aj
    have hCl := scs_len E
    rw [hE] at hCl
    by_cases hja : a < j
    · have kj : decide ((j : Int) > (a : Int)) = true := decide_eq_true (by omega)
      obtain ⟨m, rfl⟩ : ∃ m, j = m + 1 := ⟨j - 1, by omega⟩
      have s2 : IntKind.i64.wrap (((m + 1 : Nat) : Int) - 1) = (m : Int) := by rw [wrap_i64 (by omega) (by omega)]; omega
      have hd1 := scs_at E (m + 1) (by omega)
      have hd2 := scs_at E m (by omega)
      have cF := cmp_ct (at_ E (m + 1)) (at_ E m) (fb_at hf hI.perm (by omega)) (fb_at hf hI.perm (by omega))
      have hlt := cmp_lt (at_ E (m + 1)) (at_ E m)
      have hst := fun h => hI.step hb hja h
      have hdn := fun h => hI.done (.inr h)
      rw [Nat.add_sub_cancel] at hst hdn
      have h5a := scs_set5 E (m + 1) (by omega) (at_ E m)
      have h5b := scs_set5 (E.set (m + 1) (at_ E m)) m (by rw [List.length_set]; omega) (at_ E (m + 1))
      have hCm := scs_len (E.set (m + 1) (at_ E m))
      rw [List.length_set, hE] at hCm
      have hsw : swp E (m + 1) m = (E.set (m + 1) (at_ E m)).set m (at_ E (m + 1)) := rfl
      obtain ⟨E2, hE2⟩ : ∃ G, G = swp E (m + 1) m := ⟨_, rfl⟩
      rw [← hsw, ← hE2] at h5b
      simp only [← hE2] at hst
      clear hsw hE2
      obtain ⟨C3, hC3⟩ : ∃ C, C = scs (E.set (m + 1) (at_ E m)) := ⟨_, rfl⟩
      rw [← hC3] at h5a h5b hCm
      clear hC3
      obtain ⟨C2, hC2⟩ : ∃ C, C = scs E := ⟨_, rfl⟩
      rw [← hC2] at hd1 hd2 hCl h5a ⊢
      obtain ⟨u, hu⟩ : ∃ u, at_ E (m + 1) = u := ⟨_, rfl⟩
      obtain ⟨v, hv⟩ : ∃ v, at_ E m = v := ⟨_, rfl⟩
      rw [hu] at hd1 cF hlt hst hdn h5b
      rw [hv] at hd2 cF hlt hst hdn h5a
      clear hu hv
      obtain ⟨q, hq⟩ : ∃ q, decide (u.f < v.f) = q := ⟨_, rfl⟩
      rw [hq] at hlt
      have hst2 : q = true → InI l E2 a b i m n := fun h => hst (of_decide_eq_true (hq.trans h))
      have hdn2 : q = false → SegS E a (i + 1) := fun h => hdn (by have := of_decide_eq_false (hq.trans h); omega)
      clear hst hdn hq
      obtain ⟨z, hz⟩ : ∃ z : Int, cmpI u v = z := ⟨_, rfl⟩
      rw [hz] at cF hlt
      clear hz
      have q1 : (m + 1 + 1) * 5 ≤ C2.length := by omega
      have q2 : (m + 1) * 5 ≤ C2.length := by omega
      have q3 : (m + 1) * 5 ≤ C3.length := by omega
      have q4 : m + 1 < n := by omega
      have q5 : m < n := by omega
      obtain ⟨un, ug, uw, uf, ut⟩ := u
      obtain ⟨vn, vg, vw, vf, vt⟩ := v
      simp only at hd1 hd2 cF h5a h5b
      have hP2 := hI.perm
      have hO2 := hI.out
      clear hI hS hO hP
      cases q with
      | true =>
        have hst2 := hst2 rfl
        first | (have FRx := FR; clear FRx) | have FR := fr0S
        have FA := Sm.mk (TFHuM)
        repeat' first | (apply Sm.mk; refine Ys ?_) | refine WP.seq fun K hK => ?_ | (apply Ob.mk; exact Yo) | refine And.intro (Ob.out ?_) ?_ | ((fail_if_success (show WP _ _ _ (.region 4 _ _) _ _)); refine Y1HuM ?_) | refine YzHuM ?_ | (refine WP.cond rfl (fun hc => ?_) (fun hc => ?_) <;> (try simp only [ZC, reduceCtorEq, ZD] at hc) <;> (try exact absurd hc (by decide)) <;> (try (exfalso; omega))) | refine Rt.mk (And.intro (fun hg => Sm.out ?_) fun hg => Sm.out ?_) | (refine Nu.mk ?_; first | (fail_if_success have := nb1); intro nb1 | (fail_if_success have := nb2); intro nb2 | (fail_if_success have := nb3); intro nb3 | (fail_if_success have := nb4); intro nb4 | intro nbz) | (apply Yfr; refine Yf FR fun hFRb FR => ?_) | refine Two.mk ?_ ?_ | (apply Yxc; exact Yx) | refine Cs.mk fun hcs => Sm.out ?_ | go_step | omega | (simp only [maxLen_eq]; omega) | exact trivial
        refine WP.drawV (k := 17) mixed (by decide +kernel) (Sm.out ?_)
        first | (have FRx := FR; clear FRx) | have FR := fr0S
        have FA := Sm.mk (And.intro TFHuM (And.intro kj (And.intro s2 (And.intro hd1 (And.intro hd2 (And.intro q1 (And.intro q2 (And.intro q3 (And.intro q4 (And.intro q5 (And.intro hCl hlt)))))))))))
        repeat' first | (apply Sm.mk; refine YsHuM0 ?_) | refine WP.seq fun K hK => ?_ | (apply Ob.mk; exact Yo) | refine And.intro (Ob.out ?_) ?_ | ((fail_if_success (show WP _ _ _ (.region 6 _ _) _ _)); refine Y1HuM ?_) | refine Yc (c := cF) (r := ?_) | refine YzHuM ?_ | (refine WP.cond rfl (fun hc => ?_) (fun hc => ?_) <;> (try simp only [ZC, reduceCtorEq, ZD] at hc) <;> (try exact absurd hc (by decide)) <;> (try (exfalso; omega))) | refine Rt.mk (And.intro (fun hg => Sm.out ?_) fun hg => Sm.out ?_) | (refine Nu.mk ?_; first | (fail_if_success have := nb1); intro nb1 | (fail_if_success have := nb2); intro nb2 | (fail_if_success have := nb3); intro nb3 | (fail_if_success have := nb4); intro nb4 | intro nbz) | (apply Yfr; refine Yf FR fun hFRb FR => ?_) | refine Two.mk ?_ ?_ | (apply Yxc; exact Yx) | refine Cs.mk fun hcs => Sm.out ?_ | go_step | omega | (simp only [maxLen_eq]; omega) | exact trivial
        refine WP.drawS3 (is := 15) (k := 16) x ((m + 1) * 5) [9, 13] mixed (by decide +kernel) (by decide +kernel) (by decide +kernel) (Sm.out ?_)
        first | (have FRx := FR; clear FRx) | have FR := fr0S
        have FA := Sm.mk (And.intro TFHuM (And.intro s2 (And.intro hd1 (And.intro hd2 (And.intro q1 (And.intro q2 (And.intro q3 (And.intro q4 (And.intro q5 (And.intro hCl (And.intro h5a (And.intro hCm h5b))))))))))))
        repeat' first | (apply Sm.mk; refine YsHuM1 ?_) | refine WP.seq fun K hK => ?_ | (apply Ob.mk; exact Yo) | refine And.intro (Ob.out ?_) ?_ | refine Y1HuM ?_ | refine YzHuM ?_ | (refine WP.cond rfl (fun hc => ?_) (fun hc => ?_) <;> (try simp only [ZC, reduceCtorEq, ZD] at hc) <;> (try exact absurd hc (by decide)) <;> (try (exfalso; omega))) | refine Rt.mk (And.intro (fun hg => Sm.out ?_) fun hg => Sm.out ?_) | (refine Nu.mk ?_; first | (fail_if_success have := nb1); intro nb1 | (fail_if_success have := nb2); intro nb2 | (fail_if_success have := nb3); intro nb3 | (fail_if_success have := nb4); intro nb4 | intro nbz) | (apply Yfr; refine Yf FR fun hFRb FR => ?_) | refine Two.mk ?_ ?_ | (apply Yxc; exact Yx) | refine Cs.mk fun hcs => Sm.out ?_ | go_step | omega | (simp only [maxLen_eq]; omega) | exact trivial
        exact ⟨⟨m, E2⟩, hst2, by simp only; omega, (Sub.pick (by simp [pickB, hget, hdel, FR.out, h5b]) (by simp [look, h5b]))⟩
      | false =>
        first | (have FRx := FR; clear FRx) | have FR := fr0S
        have FA := Sm.mk (TFHuM)
        repeat' first | (apply Sm.mk; refine Ys ?_) | refine WP.seq fun K hK => ?_ | (apply Ob.mk; exact Yo) | refine And.intro (Ob.out ?_) ?_ | ((fail_if_success (show WP _ _ _ (.region 4 _ _) _ _)); refine Y1HuM ?_) | refine YzHuM ?_ | (refine WP.cond rfl (fun hc => ?_) (fun hc => ?_) <;> (try simp only [ZC, reduceCtorEq, ZD] at hc) <;> (try exact absurd hc (by decide)) <;> (try (exfalso; omega))) | refine Rt.mk (And.intro (fun hg => Sm.out ?_) fun hg => Sm.out ?_) | (refine Nu.mk ?_; first | (fail_if_success have := nb1); intro nb1 | (fail_if_success have := nb2); intro nb2 | (fail_if_success have := nb3); intro nb3 | (fail_if_success have := nb4); intro nb4 | intro nbz) | (apply Yfr; refine Yf FR fun hFRb FR => ?_) | refine Two.mk ?_ ?_ | (apply Yxc; exact Yx) | refine Cs.mk fun hcs => Sm.out ?_ | go_step | omega | (simp only [maxLen_eq]; omega) | exact trivial
        refine WP.drawV (k := 17) mixed (by decide +kernel) (Sm.out ?_)
        first | (have FRx := FR; clear FRx) | have FR := fr0S
        have FA := Sm.mk (And.intro TFHuM (And.intro kj (And.intro s1 (And.intro s2 (And.intro hd1 (And.intro hd2 (And.intro q1 (And.intro q2 (And.intro q3 (And.intro q4 (And.intro q5 (And.intro hCl hlt))))))))))))
        repeat' first | (apply Sm.mk; refine YsHuM0 ?_) | refine WP.seq fun K hK => ?_ | (apply Ob.mk; exact Yo) | refine And.intro (Ob.out ?_) ?_ | refine Y1HuM ?_ | refine Yc (c := cF) (r := ?_) | refine YzHuM ?_ | (refine WP.cond rfl (fun hc => ?_) (fun hc => ?_) <;> (try simp only [ZC, reduceCtorEq, ZD] at hc) <;> (try exact absurd hc (by decide)) <;> (try (exfalso; omega))) | refine Rt.mk (And.intro (fun hg => Sm.out ?_) fun hg => Sm.out ?_) | (refine Nu.mk ?_; first | (fail_if_success have := nb1); intro nb1 | (fail_if_success have := nb2); intro nb2 | (fail_if_success have := nb3); intro nb3 | (fail_if_success have := nb4); intro nb4 | intro nbz) | (apply Yfr; refine Yf FR fun hFRb FR => ?_) | refine Two.mk ?_ ?_ | (apply Yxc; exact Yx) | refine Cs.mk fun hcs => Sm.out ?_ | go_step | omega | (simp only [maxLen_eq]; omega) | exact trivial
        exact ⟨⟨i + 1, E⟩, ⟨by simp only; omega, by simp only; omega, hE, hP2, hdn2 rfl, hO2⟩, by simp only; omega, (Sub.pick (by simp [pickB, hget, hdel, FR.out, hC2]) (by simp [look, hC2]))⟩
    · obtain rfl : j = a := by omega
      have kj : decide ((j : Int) > (j : Int)) = false := decide_eq_false (by omega)
      have hdn := hI.done (.inl rfl)
      obtain ⟨C2, hC2⟩ : ∃ C, C = scs E := ⟨_, rfl⟩
      rw [← hC2]
      first | (have FRx := FR; clear FRx) | have FR := fr0S
      have FA := Sm.mk (TFHuM)
      repeat' first | (apply Sm.mk; refine Ys ?_) | refine WP.seq fun K hK => ?_ | (apply Ob.mk; exact Yo) | refine And.intro (Ob.out ?_) ?_ | ((fail_if_success (show WP _ _ _ (.region 4 _ _) _ _)); refine Y1HuM ?_) | refine YzHuM ?_ | (refine WP.cond rfl (fun hc => ?_) (fun hc => ?_) <;> (try simp only [ZC, reduceCtorEq, ZD] at hc) <;> (try exact absurd hc (by decide)) <;> (try (exfalso; omega))) | refine Rt.mk (And.intro (fun hg => Sm.out ?_) fun hg => Sm.out ?_) | (refine Nu.mk ?_; first | (fail_if_success have := nb1); intro nb1 | (fail_if_success have := nb2); intro nb2 | (fail_if_success have := nb3); intro nb3 | (fail_if_success have := nb4); intro nb4 | intro nbz) | (apply Yfr; refine Yf FR fun hFRb FR => ?_) | refine Two.mk ?_ ?_ | (apply Yxc; exact Yx) | refine Cs.mk fun hcs => Sm.out ?_ | go_step | omega | (simp only [maxLen_eq]; omega) | exact trivial
      refine WP.drawV (k := 17) mixed (by decide +kernel) (Sm.out ?_)
      first | (have FRx := FR; clear FRx) | have FR := fr0S
      have FA := Sm.mk (And.intro TFHuM (And.intro kj s1))
      repeat' first | (apply Sm.mk; refine YsHuM0 ?_) | refine WP.seq fun K hK => ?_ | (apply Ob.mk; exact Yo) | refine And.intro (Ob.out ?_) ?_ | refine Y1HuM ?_ | refine YzHuM ?_ | (refine WP.cond rfl (fun hc => ?_) (fun hc => ?_) <;> (try simp only [ZC, reduceCtorEq, ZD] at hc) <;> (try exact absurd hc (by decide)) <;> (try (exfalso; omega))) | refine Rt.mk (And.intro (fun hg => Sm.out ?_) fun hg => Sm.out ?_) | (refine Nu.mk ?_; first | (fail_if_success have := nb1); intro nb1 | (fail_if_success have := nb2); intro nb2 | (fail_if_success have := nb3); intro nb3 | (fail_if_success have := nb4); intro nb4 | intro nbz) | (apply Yfr; refine Yf FR fun hFRb FR => ?_) | refine Two.mk ?_ ?_ | (apply Yxc; exact Yx) | refine Cs.mk fun hcs => Sm.out ?_ | go_step | omega | (simp only [maxLen_eq]; omega) | exact trivial
      exact ⟨⟨i + 1, E⟩, ⟨by simp only; omega, by simp only; omega, hE, hI.perm, hdn, hI.out⟩, by simp only; omega, (Sub.pick (by simp [pickB, hget, hdel, FR.out, hC2]) (by simp [look, hC2]))⟩
  · have ki : decide ((i : Int) < (b : Int)) = false := decide_eq_false (by omega)
    have hS2 : SegS D a b := fun p q h1 h2 h3 => hS p q h1 h2 (by omega)
    obtain ⟨C1, hC1⟩ : ∃ C, C = scs D := ⟨_, rfl⟩
    rw [← hC1]
    first | (have FRx := FR; clear FRx) | have FR := fr0S
    have FA := Sm.mk (And.intro TFHuM ki)
    repeat' first | (apply Sm.mk; refine Ys ?_) | refine WP.seq fun K hK => ?_ | (apply Ob.mk; exact Yo) | refine And.intro (Ob.out ?_) ?_ | refine Y1HuM ?_ | refine YzHuM ?_ | (refine WP.cond rfl (fun hc => ?_) (fun hc => ?_) <;> (try simp only [ZC, reduceCtorEq, ZD] at hc) <;> (try exact absurd hc (by decide)) <;> (try (exfalso; omega))) | refine Rt.mk (And.intro (fun hg => Sm.out ?_) fun hg => Sm.out ?_) | (refine Nu.mk ?_; first | (fail_if_success have := nb1); intro nb1 | (fail_if_success have := nb2); intro nb2 | (fail_if_success have := nb3); intro nb3 | (fail_if_success have := nb4); intro nb4 | intro nbz) | (apply Yfr; refine Yf FR fun hFRb FR => ?_) | refine Two.mk ?_ ?_ | (apply Yxc; exact Yx) | refine Cs.mk fun hcs => Sm.out ?_ | go_step | omega | (simp only [maxLen_eq]; omega) | exact trivial
    (refine OutQ.drop _ _ (perm1 (by simp only [hget, hdel, ↓reduceIte, if_true, if_false, FR.out, hC1]; first | done | rfl)) (by simp only [resv, ZK, look, loadv, loadn, loadnm, load1, load1m, hget, ↓reduceIte, Nat.reduceEqDiff, Nat.reduceAdd, Nat.reduceMul, Nat.reduceLeDiff, Nat.reduceLT, reduceCtorEq, TFHuM, FR.out, hC1]) ⟨D, ⟨hP, hS2, hO⟩, (by simp only [resv, resA, ZK, look, loadv, loadn, loadnm, load1, load1m, hget, ↓reduceIte, Nat.reduceEqDiff, Nat.reduceAdd, Nat.reduceMul, Nat.reduceLeDiff, Nat.reduceLT, reduceCtorEq, TFHuM, FR.out, hC1]; first | done | rfl), rfl⟩)
end Go.Proofs.YtaffbklkjjmmdaaDoor
