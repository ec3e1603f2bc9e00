/-
  The walks and the laws that the statement leans on, part 32.
-/
import Derived.Test.YtaffbklkjjmmdaaDoorC7
import Derived.Test.YtaffbklkjjmmdaaDoorC8
import Derived.Test.YtaffbklkjjmmdaaDoorC9
import Derived.Test.YtaffbklkjjmmdaaDoorC31
namespace Go.Proofs.YtaffbklkjjmmdaaDoor
open Go
set_option linter.unusedVariables false
set_option linter.unusedSimpArgs false
set_option linter.defProp false
def TFHuM :=
  And.intro (And.intro (And.intro (And.intro (And.intro tyc0 tyc3) (And.intro zmb3 tyc4)) (And.intro (And.intro zmb4 tyc22) (And.intro elt22 mkz22))) (And.intro (And.intro (And.intro mkc22 apT22) (And.intro elk22 zmb22)) (And.intro (And.intro tyc32 foff32_0) (And.intro fpart32_0 (And.intro foff32_1 fpart32_1))))) (And.intro (And.intro (And.intro (And.intro foff32_2 fpart32_2) (And.intro foff32_3 fpart32_3)) (And.intro (And.intro foff32_4 fpart32_4) (And.intro fe32 zmb32))) (And.intro (And.intro (And.intro bldT32 tyc62) (And.intro zmb62 Tryd.underlying0)) (And.intro (And.intro Tryd.underlying3 Tryd.underlying4) (And.intro Tryd.underlying22 (And.intro Tryd.underlying32 Tryd.underlying62)))))
theorem Y1HuM {G R : Prop} (r : R) (h : R → G := by intro r; first | (apply WP.region; exact rvc_sound _ _ (Sm.out r)) | exact WP.drawK rfl mixed (by decide +kernel) (Sm.out r) | (apply WP.block; exact r) | (apply WP.skip; exact Yq r) | (apply WP.exit; exact Yq r) | (apply WP.ret; exact Sm.out r) | exact WP.cond rfl (fun _ => r) (fun hg => absurd hg (by decide)) | exact WP.cond rfl (fun hg => absurd hg (by decide)) (fun _ => r) | exact Rt.mk (And.intro (fun _ => Sm.out r) fun hg => absurd hg (by decide)) | exact Rt.mk (And.intro (fun hg => absurd hg (by decide)) fun _ => Sm.out r)) : G := h r
theorem YzHuM {G R : Prop} (r : R) (h : R → G := by intro r; first | (apply ExG.no; exact Sm.out r) | (apply Or.inl; apply ExG.no; exact Sm.out r) | exact Or.inl (And.intro (fun hg => absurd hg (by decide)) (ExG.no (Sm.out r)))) : G := h r
theorem YsHuM0 {P Q : Prop} (q : Q) (h : P = Q := by (try (conv => lhs; simp -dsimp only [ZK, rvc, capA, appA, litL, mkfv, drawF, headN, pureH, stp, dvc, calleeOf, gcall, pev, eff, newB, okd, og, ogs, ogo, ogp, slv, bltv, opd, litv, strip, one, both, putE, St.put, look, gdOf, gdv, picka, pickv, pickw, binv, bini, bins, binb, binp, binq, isSlT, bina, shp, eqCells, unv, convv, nilv, faddv, addp, idxav, idxp, load1, load1m, loadn, loadnm, loadv, hget, hset, hrep, hdel, slicev, slice3v, bnd, shift1, lenv, capv, IntKind.bits, extractv, fieldv, indexv, min2v, max2v, mkiv, tasv, tasz, cellsA, fillA, buildv, stC, oneC, rowMB, intsA, plN, appE, appZ, appC, appS, srcB, appNZ, appNC, VwL, srcC, srcZ, srcM, isBoolT, isPtrT, isSliceT, uOk, Value.oneCell', Nat.reducePow, Int.reducePow, Nat.reduceAdd, Nat.reduceMul, Nat.reduceSub, Nat.reduceLT, Nat.reduceLeDiff, Nat.reduceEqDiff, Nat.reduceBEq, Nat.reduceDiv, Nat.reduceMod, ↓reduceIte, reduceCtorEq, Int.reduceToNat, Int.reduceLT, Int.reduceLE, TFHuM, SeqQ, BlkQ, LoopQ, BodyQ, dkn, kst, fvOf, beq_self_eq_true, Bool.true_beq, Bool.false_beq, Bool.not_true, Bool.not_false, FA.out, FR.out])) <;> exact rfl) : P := h.mpr q
theorem YsHuM1 {P Q : Prop} (q : Q) (h : P = Q := by (try (conv => lhs; simp -dsimp only [ZK, rvc, capA, appA, litL, mkfv, drawF, headN, pureH, stp, dvc, calleeOf, gcall, pev, eff, newB, okd, og, ogs, ogo, ogp, slv, bltv, opd, litv, strip, one, both, putE, St.put, look, gdOf, gdv, picka, pickv, pickw, binv, bini, bins, binb, binp, binq, isSlT, bina, shp, eqCells, unv, convv, nilv, faddv, addp, idxav, idxp, load1, load1m, loadn, loadnm, loadv, hget, hset, hrep, hdel, slicev, slice3v, bnd, shift1, lenv, capv, IntKind.bits, extractv, fieldv, indexv, min2v, max2v, mkiv, tasv, tasz, cellsA, fillA, buildv, stC, oneC, rowMB, intsA, plN, appE, appZ, appC, appS, srcB, appNZ, appNC, VwL, srcC, srcZ, srcM, isBoolT, isPtrT, isSliceT, uOk, Value.oneCell', Nat.reducePow, Int.reducePow, Nat.reduceAdd, Nat.reduceMul, Nat.reduceSub, Nat.reduceLT, Nat.reduceLeDiff, Nat.reduceEqDiff, Nat.reduceBEq, Nat.reduceDiv, Nat.reduceMod, ↓reduceIte, reduceCtorEq, Int.reduceToNat, Int.reduceLT, Int.reduceLE, TFHuM, SeqQ, BlkQ, LoopQ, BodyQ, drawSR, dvm, xst, putE, hdel, List.mem_cons, List.mem_singleton, FA.out, FR.out])) <;> exact rfl) : P := h.mpr q
structure InI (l D : List Sl) (a b i j n : Nat) : Prop where
  len : D.length = n
  perm : D.Perm l
  out : Out l D a b
  aj : a ≤ j
  ji : j ≤ i
  ib : i < b
  s1 : ∀ p q, a ≤ p → p < q → q ≤ i → p ≠ j → q ≠ j → (at_ D p).f ≤ (at_ D q).f
  s2 : ∀ q, j < q → q ≤ i → (at_ D j).f ≤ (at_ D q).f
theorem InI.start {l D : List Sl} {a b i n : Nat} (hl : D.length = n) (hp : D.Perm l) (ho : Out l D a b) (hs : SegS D a i) (h1 : a ≤ i) (hb : i < b) : InI l D a b i i n :=
  ⟨hl, hp, ho, h1, Nat.le_refl _, hb, fun p q ha hpq hq hp1 hq1 => hs p q ha hpq (by omega), fun q h1 h2 => by omega⟩
theorem InI.done {l D : List Sl} {a b i j n : Nat} (h : InI l D a b i j n) (hx : j = a ∨ (at_ D (j - 1)).f ≤ (at_ D j).f) : SegS D a (i + 1) := by
  intro p q ha hpq hq
  by_cases h1 : p = j
  · subst h1; exact h.s2 q hpq (by omega)
  · by_cases h2 : q = j
    · subst h2
      rcases hx with hx | hx
      · omega
      · by_cases h3 : p = q - 1
        · rw [h3]; exact hx
        · exact Int.le_trans (h.s1 p (q - 1) ha (by omega) (by omega) (by omega) (by omega)) hx
    · exact h.s1 p q ha hpq (by omega) h1 h2
theorem InI.step {l D : List Sl} {a b i j n : Nat} (h : InI l D a b i j n) (hb : b ≤ n) (hj : a < j) (hx : (at_ D j).f < (at_ D (j - 1)).f) : InI l (swp D j (j - 1)) a b i (j - 1) n := by
  have l1 : j < D.length := by have := h.len; have := h.ji; have := h.ib; omega
  have l2 : j - 1 < D.length := by omega
  have e := swp_at D l1 l2
  have hji := h.ji
  have hib := h.ib
  refine ⟨by rw [swp_len]; exact h.len, (swp_count D l1 l2).trans h.perm, fun p hp => ?_, by omega, by omega, h.ib, fun p q ha hpq hq hp1 hq1 => ?_, fun q h1 h2 => ?_⟩
  · rw [e p, if_neg (by omega), if_neg (by omega)]; exact h.out p hp
  · rw [e p, e q, if_neg hp1, if_neg hq1]
    by_cases hpj : p = j
    · rw [if_pos hpj, if_neg (by omega)]
      exact h.s1 (j - 1) q (by omega) (by omega) hq (by omega) (by omega)
    · rw [if_neg hpj]
      by_cases hqj : q = j
      · rw [if_pos hqj]
        exact h.s1 p (j - 1) ha (by omega) (by omega) hpj (by omega)
      · rw [if_neg hqj]
        exact h.s1 p q ha hpq hq hpj hqj
  · rw [e (j - 1), e q, if_pos rfl, if_neg (by omega)]
    by_cases hqj : q = j
    · rw [if_pos hqj]; omega
    · rw [if_neg hqj]
      exact h.s2 q (by omega) h2
theorem fb_at {l D : List Sl} {p : Nat} (hf : ∀ e ∈ l, fb e) (hp : D.Perm l) (h : p < D.length) : fb (at_ D p) := by
  rw [at_get D h]
  exact hf _ (hp.mem_iff.1 (List.getElem_mem h))
theorem scs_at (D : List Sl) (p : Nat) (h : p < D.length) : (scs D).drop (p * 5) = sc (at_ D p) (scs (D.drop (p + 1))) := by
  rw [scs_drop D p h, at_get D h]
structure StI where
  i : Nat
  D : List Sl
set_option maxHeartbeats 8000000 in
theorem ins_ct (l : List Sl) (x n k a b : Nat) (hn : l.length = n) (hl : n ≤ 100000) (hk : n ≤ k ∧ k ≤ 9223372036854775807) (hb : b ≤ n) (hab : a ≤ b) (hf : ∀ e ∈ l, fb e) :
    ACt Tryd.prog 79 [ms x 0 n k, iv .i64 (a : Int), iv .i64 (b : Int), .lit (.func (.func 39) #[] #[])] [(x, .cells (scs l) (k * 5) 32)]
      (fun r F' => ∃ g, (g.Perm l ∧ SegS g a b ∧ Out l g a b) ∧ r = .tup [] ∧ F' = [(x, .cells (scs g) (k * 5) 32)]) := by
  have s0 : IntKind.i64.wrap ((a : Int) + 1) = ((a + 1 : Nat) : Int) := by rw [wrap_i64 (by omega) (by omega)]; omega
  obtain ⟨C, hC⟩ : ∃ C, C = scs l := ⟨_, rfl⟩
  rw [← hC]
  refine ACt.intro Tryd.func79 rfl (by kernel_rfl) (by simp [Tryd.ntmps79]) (fun cx => ?_)
  simp only [argE, Tryd.ntmps79, Tryd.results79]
  first | (have FRx := FR; clear FRx) | have FR := fr0S
  have FA := Sm.mk (And.intro TFHuM s0)
  repeat' first | (apply Sm.mk; refine Ys ?_) | refine WP.seq fun K hK => ?_ | (apply Ob.mk; exact Yo) | refine And.intro (Ob.out ?_) ?_ | refine Y1HuM ?_ | refine YzHuM ?_ | (refine WP.cond rfl (fun hc => ?_) (fun hc => ?_) <;> (try simp only [ZC, reduceCtorEq, ZD] at hc) <;> (try exact absurd hc (by decide)) <;> (try (exfalso; omega))) | refine Rt.mk (And.intro (fun hg => Sm.out ?_) fun hg => Sm.out ?_) | (refine Nu.mk ?_; first | (fail_if_success have := nb1); intro nb1 | (fail_if_success have := nb2); intro nb2 | (fail_if_success have := nb3); intro nb3 | (fail_if_success have := nb4); intro nb4 | intro nbz) | (apply Yfr; refine Yf FR fun hFRb FR => ?_) | refine Two.mk ?_ ?_ | (apply Yxc; exact Yx) | refine Cs.mk fun hcs => Sm.out ?_ | go_step | omega | (simp only [maxLen_eq]; omega) | exact trivial
  refine WP.loop (Γ := StI) (fun g => ⟨[(8, iv .i64 (g.i : Int)), (0, ms x 0 n k), (1, iv .i64 (a : Int)), (2, iv .i64 (b : Int)), (3, .lit (.func (.func 39) #[] #[]))], [(x, .cells (scs g.D) (k * 5) 32)]⟩)
    (fun g => a + 1 ≤ g.i ∧ (g.i ≤ b ∨ g.i = a + 1) ∧ g.D.length = n ∧ g.D.Perm l ∧ SegS g.D a g.i ∧ Out l g.D a b) (fun g => b - g.i) ⟨a + 1, l⟩
    ⟨Nat.le_refl _, .inr rfl, hn, List.Perm.refl _, fun p q h1 h2 h3 => by simp only at h3; omega, fun p _ => rfl⟩ (Sub.pick (by simp [pickB, hget, hdel, FR.out, hC]) (by simp [look, hC])) ?_
  intro ⟨i, D⟩ ⟨hi, hib, hD, hP, hS, hO⟩
  simp only at hi hib hD hP hS hO ⊢
  have FR : Sm (¬ ((1 : Nat) = 0)) := Sm.mk Nat.one_ne_zero
  by_cases hin : i < b
  · have ki : decide ((i : Int) < (b : Int)) = true := decide_eq_true (by omega)
    have s1 : IntKind.i64.wrap ((i : Int) + 1) = ((i + 1 : Nat) : Int) := by rw [wrap_i64 (by omega) (by omega)]; omega
    obtain ⟨C1, hC1⟩ : ∃ C, C = scs D := ⟨_, rfl⟩
    rw [← hC1]
    first | (have FRx := FR; clear FRx) | have FR := fr0S
    have FA := Sm.mk (And.intro TFHuM ki)
    repeat' first | (apply Sm.mk; refine Ys ?_) | refine WP.seq fun K hK => ?_ | (apply Ob.mk; exact Yo) | refine And.intro (Ob.out ?_) ?_ | refine Y1HuM ?_ | refine YzHuM ?_ | (refine WP.cond rfl (fun hc => ?_) (fun hc => ?_) <;> (try simp only [ZC, reduceCtorEq, ZD] at hc) <;> (try exact absurd hc (by decide)) <;> (try (exfalso; omega))) | refine Rt.mk (And.intro (fun hg => Sm.out ?_) fun hg => Sm.out ?_) | (refine Nu.mk ?_; first | (fail_if_success have := nb1); intro nb1 | (fail_if_success have := nb2); intro nb2 | (fail_if_success have := nb3); intro nb3 | (fail_if_success have := nb4); intro nb4 | intro nbz) | (apply Yfr; refine Yf FR fun hFRb FR => ?_) | refine Two.mk ?_ ?_ | (apply Yxc; exact Yx) | refine Cs.mk fun hcs => Sm.out ?_ | go_step | omega | (simp only [maxLen_eq]; omega) | exact trivial
    refine WP.loop (Γ := StI) (fun g => ⟨[(9, iv .i64 (g.i : Int)), (8, iv .i64 (i : Int)), (0, ms x 0 n k), (1, iv .i64 (a : Int)), (2, iv .i64 (b : Int)), (3, .lit (.func (.func 39) #[] #[]))], [(x, .cells (scs g.D) (k * 5) 32)]⟩)
      (fun g => InI l g.D a b i g.i n) (fun g => g.i) ⟨i, D⟩ (InI.start hD hP hO hS (by omega) hin) (Sub.pick (by simp [pickB, hget, hdel, FR.out, hC1]) (by simp [look, hC1])) ?_
    intro ⟨j, E⟩ hI
    simp only at hI ⊢
    have FR : Sm (¬ ((1 : Nat) = 0)) := Sm.mk Nat.one_ne_zero
    have hE := hI.len
    have hji := hI.ji
    have haj := hI.aj
    have hCl := scs_len E
    rw [hE] at hCl
    by_cases hja : a < j
    · have kj : decide ((j : Int) > (a : Int)) = true := decide_eq_true (by omega)
      obtain ⟨m, rfl⟩ : ∃ m, j = m + 1 := ⟨j - 1, by omega⟩
      have s2 : IntKind.i64.wrap (((m + 1 : Nat) : Int) - 1) = (m : Int) := by rw [wrap_i64 (by omega) (by omega)]; omega
      have hd1 := scs_at E (m + 1) (by omega)
      have hd2 := scs_at E m (by omega)
      have cF := cmp_ct (at_ E (m + 1)) (at_ E m) (fb_at hf hI.perm (by omega)) (fb_at hf hI.perm (by omega))
      have hlt := cmp_lt (at_ E (m + 1)) (at_ E m)
      have hst := fun h => hI.step hb hja h
      have hdn := fun h => hI.done (.inr h)
      rw [Nat.add_sub_cancel] at hst hdn
      have h5a := scs_set5 E (m + 1) (by omega) (at_ E m)
      have h5b := scs_set5 (E.set (m + 1) (at_ E m)) m (by rw [List.length_set]; omega) (at_ E (m + 1))
      have hCm := scs_len (E.set (m + 1) (at_ E m))
      rw [List.length_set, hE] at hCm
      have hsw : swp E (m + 1) m = (E.set (m + 1) (at_ E m)).set m (at_ E (m + 1)) := rfl
      obtain ⟨E2, hE2⟩ : ∃ G, G = swp E (m + 1) m := ⟨_, rfl⟩
      rw [← hsw, ← hE2] at h5b
      simp only [← hE2] at hst
      clear hsw hE2
      obtain ⟨C3, hC3⟩ : ∃ C, C = scs (E.set (m + 1) (at_ E m)) := ⟨_, rfl⟩
      rw [← hC3] at h5a h5b hCm
      clear hC3
      obtain ⟨C2, hC2⟩ : ∃ C, C = scs E := ⟨_, rfl⟩
      rw [← hC2] at hd1 hd2 hCl h5a ⊢
      obtain ⟨u, hu⟩ : ∃ u, at_ E (m + 1) = u := ⟨_, rfl⟩
      obtain ⟨v, hv⟩ : ∃ v, at_ E m = v := ⟨_, rfl⟩
      rw [hu] at hd1 cF hlt hst hdn h5b
      rw [hv] at hd2 cF hlt hst hdn h5a
      clear hu hv
      obtain ⟨q, hq⟩ : ∃ q, decide (u.f < v.f) = q := ⟨_, rfl⟩
      rw [hq] at hlt
      have hst2 : q = true → InI l E2 a b i m n := fun h => hst (of_decide_eq_true (hq.trans h))
      have hdn2 : q = false → SegS E a (i + 1) := fun h => hdn (by have := of_decide_eq_false (hq.trans h); omega)
      clear hst hdn hq
      obtain ⟨z, hz⟩ : ∃ z : Int, cmpI u v = z := ⟨_, rfl⟩
      rw [hz] at cF hlt
      clear hz
      have q1 : (m + 1 + 1) * 5 ≤ C2.length := by omega
      have q2 : (m + 1) * 5 ≤ C2.length := by omega
      have q3 : (m + 1) * 5 ≤ C3.length := by omega
      have q4 : m + 1 < n := by omega
      have q5 : m < n := by omega
      obtain ⟨un, ug, uw, uf, ut⟩ := u
      obtain ⟨vn, vg, vw, vf, vt⟩ := v
      simp only at hd1 hd2 cF h5a h5b
      have hP2 := hI.perm
      have hO2 := hI.out
      clear hI hS hO hP
      cases q with
      | true =>
        have hst2 := hst2 rfl
        first | (have FRx := FR; clear FRx) | have FR := fr0S
        have FA := Sm.mk (TFHuM)
        repeat' first | (apply Sm.mk; refine Ys ?_) | refine WP.seq fun K hK => ?_ | (apply Ob.mk; exact Yo) | refine And.intro (Ob.out ?_) ?_ | ((fail_if_success (show WP _ _ _ (.region 4 _ _) _ _)); refine Y1HuM ?_) | refine YzHuM ?_ | (refine WP.cond rfl (fun hc => ?_) (fun hc => ?_) <;> (try simp only [ZC, reduceCtorEq, ZD] at hc) <;> (try exact absurd hc (by decide)) <;> (try (exfalso; omega))) | refine Rt.mk (And.intro (fun hg => Sm.out ?_) fun hg => Sm.out ?_) | (refine Nu.mk ?_; first | (fail_if_success have := nb1); intro nb1 | (fail_if_success have := nb2); intro nb2 | (fail_if_success have := nb3); intro nb3 | (fail_if_success have := nb4); intro nb4 | intro nbz) | (apply Yfr; refine Yf FR fun hFRb FR => ?_) | refine Two.mk ?_ ?_ | (apply Yxc; exact Yx) | refine Cs.mk fun hcs => Sm.out ?_ | go_step | omega | (simp only [maxLen_eq]; omega) | exact trivial
        refine WP.drawV (k := 17) mixed (by decide +kernel) (Sm.out ?_)
        first | (have FRx := FR; clear FRx) | have FR := fr0S
        have FA := Sm.mk (And.intro TFHuM (And.intro kj (And.intro s2 (And.intro hd1 (And.intro hd2 (And.intro q1 (And.intro q2 (And.intro q3 (And.intro q4 (And.intro q5 (And.intro hCl hlt)))))))))))
        repeat' first | (apply Sm.mk; refine YsHuM0 ?_) | refine WP.seq fun K hK => ?_ | (apply Ob.mk; exact Yo) | refine And.intro (Ob.out ?_) ?_ | ((fail_if_success (show WP _ _ _ (.region 6 _ _) _ _)); refine Y1HuM ?_) | refine Yc (c := cF) (r := ?_) | refine YzHuM ?_ | (refine WP.cond rfl (fun hc => ?_) (fun hc => ?_) <;> (try simp only [ZC, reduceCtorEq, ZD] at hc) <;> (try exact absurd hc (by decide)) <;> (try (exfalso; omega))) | refine Rt.mk (And.intro (fun hg => Sm.out ?_) fun hg => Sm.out ?_) | (refine Nu.mk ?_; first | (fail_if_success have := nb1); intro nb1 | (fail_if_success have := nb2); intro nb2 | (fail_if_success have := nb3); intro nb3 | (fail_if_success have := nb4); intro nb4 | intro nbz) | (apply Yfr; refine Yf FR fun hFRb FR => ?_) | refine Two.mk ?_ ?_ | (apply Yxc; exact Yx) | refine Cs.mk fun hcs => Sm.out ?_ | go_step | omega | (simp only [maxLen_eq]; omega) | exact trivial
        refine WP.drawS3 (is := 15) (k := 16) x ((m + 1) * 5) [9, 13] mixed (by decide +kernel) (by decide +kernel) (by decide +kernel) (Sm.out ?_)
        first | (have FRx := FR; clear FRx) | have FR := fr0S
        have FA := Sm.mk (And.intro TFHuM (And.intro s2 (And.intro hd1 (And.intro hd2 (And.intro q1 (And.intro q2 (And.intro q3 (And.intro q4 (And.intro q5 (And.intro hCl (And.intro h5a (And.intro hCm h5b))))))))))))
        repeat' first | (apply Sm.mk; refine YsHuM1 ?_) | refine WP.seq fun K hK => ?_ | (apply Ob.mk; exact Yo) | refine And.intro (Ob.out ?_) ?_ | refine Y1HuM ?_ | refine YzHuM ?_ | (refine WP.cond rfl (fun hc => ?_) (fun hc => ?_) <;> (try simp only [ZC, reduceCtorEq, ZD] at hc) <;> (try exact absurd hc (by decide)) <;> (try (exfalso; omega))) | refine Rt.mk (And.intro (fun hg => Sm.out ?_) fun hg => Sm.out ?_) | (refine Nu.mk ?_; first | (fail_if_success have := nb1); intro nb1 | (fail_if_success have := nb2); intro nb2 | (fail_if_success have := nb3); intro nb3 | (fail_if_success have := nb4); intro nb4 | intro nbz) | (apply Yfr; refine Yf FR fun hFRb FR => ?_) | refine Two.mk ?_ ?_ | (apply Yxc; exact Yx) | refine Cs.mk fun hcs => Sm.out ?_ | go_step | omega | (simp only [maxLen_eq]; omega) | exact trivial
        exact ⟨⟨m, E2⟩, hst2, by simp only; omega, (Sub.pick (by simp [pickB, hget, hdel, FR.out, h5b]) (by simp [look, h5b]))⟩
      | false =>
        first | (have FRx := FR; clear FRx) | have FR := fr0S
        have FA := Sm.mk (TFHuM)
        repeat' first | (apply Sm.mk; refine Ys ?_) | refine WP.seq fun K hK => ?_ | (apply Ob.mk; exact Yo) | refine And.intro (Ob.out ?_) ?_ | ((fail_if_success (show WP _ _ _ (.region 4 _ _) _ _)); refine Y1HuM ?_) | refine YzHuM ?_ | (refine WP.cond rfl (fun hc => ?_) (fun hc => ?_) <;> (try simp only [ZC, reduceCtorEq, ZD] at hc) <;> (try exact absurd hc (by decide)) <;> (try (exfalso; omega))) | refine Rt.mk (And.intro (fun hg => Sm.out ?_) fun hg => Sm.out ?_) | (refine Nu.mk ?_; first | (fail_if_success have := nb1); intro nb1 | (fail_if_success have := nb2); intro nb2 | (fail_if_success have := nb3); intro nb3 | (fail_if_success have := nb4); intro nb4 | intro nbz) | (apply Yfr; refine Yf FR fun hFRb FR => ?_) | refine Two.mk ?_ ?_ | (apply Yxc; exact Yx) | refine Cs.mk fun hcs => Sm.out ?_ | go_step | omega | (simp only [maxLen_eq]; omega) | exact trivial
        refine WP.drawV (k := 17) mixed (by decide +kernel) (Sm.out ?_)
        first | (have FRx := FR; clear FRx) | have FR := fr0S
        have FA := Sm.mk (And.intro TFHuM (And.intro kj (And.intro s1 (And.intro s2 (And.intro hd1 (And.intro hd2 (And.intro q1 (And.intro q2 (And.intro q3 (And.intro q4 (And.intro q5 (And.intro hCl hlt))))))))))))
        repeat' first | (apply Sm.mk; refine YsHuM0 ?_) | refine WP.seq fun K hK => ?_ | (apply Ob.mk; exact Yo) | refine And.intro (Ob.out ?_) ?_ | refine Y1HuM ?_ | refine Yc (c := cF) (r := ?_) | refine YzHuM ?_ | (refine WP.cond rfl (fun hc => ?_) (fun hc => ?_) <;> (try simp only [ZC, reduceCtorEq, ZD] at hc) <;> (try exact absurd hc (by decide)) <;> (try (exfalso; omega))) | refine Rt.mk (And.intro (fun hg => Sm.out ?_) fun hg => Sm.out ?_) | (refine Nu.mk ?_; first | (fail_if_success have := nb1); intro nb1 | (fail_if_success have := nb2); intro nb2 | (fail_if_success have := nb3); intro nb3 | (fail_if_success have := nb4); intro nb4 | intro nbz) | (apply Yfr; refine Yf FR fun hFRb FR => ?_) | refine Two.mk ?_ ?_ | (apply Yxc; exact Yx) | refine Cs.mk fun hcs => Sm.out ?_ | go_step | omega | (simp only [maxLen_eq]; omega) | exact trivial
        exact ⟨⟨i + 1, E⟩, ⟨by simp only; omega, by simp only; omega, hE, hP2, hdn2 rfl, hO2⟩, by simp only; omega, (Sub.pick (by simp [pickB, hget, hdel, FR.out, hC2]) (by simp [look, hC2]))⟩
    · obtain rfl : j = a := by omega
      have kj : decide ((j : Int) > (j : Int)) = false := decide_eq_false (by omega)
      have hdn := hI.done (.inl rfl)
      obtain ⟨C2, hC2⟩ : ∃ C, C = scs E := ⟨_, rfl⟩
      rw [← hC2]
      first | (have FRx := FR; clear FRx) | have FR := fr0S
      have FA := Sm.mk (TFHuM)
      repeat' first | (apply Sm.mk; refine Ys ?_) | refine WP.seq fun K hK => ?_ | (apply Ob.mk; exact Yo) | refine And.intro (Ob.out ?_) ?_ | ((fail_if_success (show WP _ _ _ (.region 4 _ _) _ _)); refine Y1HuM ?_) | refine YzHuM ?_ | (refine WP.cond rfl (fun hc => ?_) (fun hc => ?_) <;> (try simp only [ZC, reduceCtorEq, ZD] at hc) <;> (try exact absurd hc (by decide)) <;> (try (exfalso; omega))) | refine Rt.mk (And.intro (fun hg => Sm.out ?_) fun hg => Sm.out ?_) | (refine Nu.mk ?_; first | (fail_if_success have := nb1); intro nb1 | (fail_if_success have := nb2); intro nb2 | (fail_if_success have := nb3); intro nb3 | (fail_if_success have := nb4); intro nb4 | intro nbz) | (apply Yfr; refine Yf FR fun hFRb FR => ?_) | refine Two.mk ?_ ?_ | (apply Yxc; exact Yx) | refine Cs.mk fun hcs => Sm.out ?_ | go_step | omega | (simp only [maxLen_eq]; omega) | exact trivial
      refine WP.drawV (k := 17) mixed (by decide +kernel) (Sm.out ?_)
      first | (have FRx := FR; clear FRx) | have FR := fr0S
      have FA := Sm.mk (And.intro TFHuM (And.intro kj s1))
      repeat' first | (apply Sm.mk; refine YsHuM0 ?_) | refine WP.seq fun K hK => ?_ | (apply Ob.mk; exact Yo) | refine And.intro (Ob.out ?_) ?_ | refine Y1HuM ?_ | refine YzHuM ?_ | (refine WP.cond rfl (fun hc => ?_) (fun hc => ?_) <;> (try simp only [ZC, reduceCtorEq, ZD] at hc) <;> (try exact absurd hc (by decide)) <;> (try (exfalso; omega))) | refine Rt.mk (And.intro (fun hg => Sm.out ?_) fun hg => Sm.out ?_) | (refine Nu.mk ?_; first | (fail_if_success have := nb1); intro nb1 | (fail_if_success have := nb2); intro nb2 | (fail_if_success have := nb3); intro nb3 | (fail_if_success have := nb4); intro nb4 | intro nbz) | (apply Yfr; refine Yf FR fun hFRb FR => ?_) | refine Two.mk ?_ ?_ | (apply Yxc; exact Yx) | refine Cs.mk fun hcs => Sm.out ?_ | go_step | omega | (simp only [maxLen_eq]; omega) | exact trivial
      exact ⟨⟨i + 1, E⟩, ⟨by simp only; omega, by simp only; omega, hE, hI.perm, hdn, hI.out⟩, by simp only; omega, (Sub.pick (by simp [pickB, hget, hdel, FR.out, hC2]) (by simp [look, hC2]))⟩
  · have ki : decide ((i : Int) < (b : Int)) = false := decide_eq_false (by omega)
    have hS2 : SegS D a b := fun p q h1 h2 h3 => hS p q h1 h2 (by omega)
    obtain ⟨C1, hC1⟩ : ∃ C, C = scs D := ⟨_, rfl⟩
    rw [← hC1]
    first | (have FRx := FR; clear FRx) | have FR := fr0S
    have FA := Sm.mk (And.intro TFHuM ki)
    repeat' first | (apply Sm.mk; refine Ys ?_) | refine WP.seq fun K hK => ?_ | (apply Ob.mk; exact Yo) | refine And.intro (Ob.out ?_) ?_ | refine Y1HuM ?_ | refine YzHuM ?_ | (refine WP.cond rfl (fun hc => ?_) (fun hc => ?_) <;> (try simp only [ZC, reduceCtorEq, ZD] at hc) <;> (try exact absurd hc (by decide)) <;> (try (exfalso; omega))) | refine Rt.mk (And.intro (fun hg => Sm.out ?_) fun hg => Sm.out ?_) | (refine Nu.mk ?_; first | (fail_if_success have := nb1); intro nb1 | (fail_if_success have := nb2); intro nb2 | (fail_if_success have := nb3); intro nb3 | (fail_if_success have := nb4); intro nb4 | intro nbz) | (apply Yfr; refine Yf FR fun hFRb FR => ?_) | refine Two.mk ?_ ?_ | (apply Yxc; exact Yx) | refine Cs.mk fun hcs => Sm.out ?_ | go_step | omega | (simp only [maxLen_eq]; omega) | exact trivial
    (refine OutQ.drop _ _ (perm1 (by simp only [hget, hdel, ↓reduceIte, if_true, if_false, FR.out, hC1]; first | done | rfl)) (by simp only [resv, ZK, look, loadv, loadn, loadnm, load1, load1m, hget, ↓reduceIte, Nat.reduceEqDiff, Nat.reduceAdd, Nat.reduceMul, Nat.reduceLeDiff, Nat.reduceLT, reduceCtorEq, TFHuM, FR.out, hC1]) ⟨D, ⟨hP, hS2, hO⟩, (by simp only [resv, resA, ZK, look, loadv, loadn, loadnm, load1, load1m, hget, ↓reduceIte, Nat.reduceEqDiff, Nat.reduceAdd, Nat.reduceMul, Nat.reduceLeDiff, Nat.reduceLT, reduceCtorEq, TFHuM, FR.out, hC1]; first | done | rfl), rfl⟩)
end Go.Proofs.YtaffbklkjjmmdaaDoor
namespace Go.Proofs.YtaffbklkjjmmdaaDoor.Wi
open Go
def lenN (q : Nat) : Nat := if q = 0 then 0 else Nat.log2 q + 1
theorem lenN_le {q d : Nat} : lenN q ≤ d ↔ q < 2 ^ d := by
  unfold lenN
  by_cases h : q = 0
  · subst h; simp [Nat.two_pow_pos]
  · rw [if_neg h, ← Nat.log2_lt h]; omega
theorem wrap_i64_nat {n : Nat} (h : n < 9223372036854775808) : IntKind.i64.wrap (n : Int) = (n : Int) := wrap_i64 (by omega) (by omega)
end Go.Proofs.YtaffbklkjjmmdaaDoor.Wi
namespace Go.Proofs.YtaffbklkjjmmdaaDoor.Wi
open Go
set_option linter.unusedVariables false
set_option linter.unusedSimpArgs false
set_option linter.defProp false
def TFWiA :=
  And.intro (And.intro (And.intro (And.intro tyc3 zmb3) (And.intro tyc4 zmb4)) (And.intro (And.intro tyc5 zmb5) (And.intro tyc9 (And.intro zmb9 tyc23)))) (And.intro (And.intro (And.intro zmb23 tyc92) (And.intro zmb92 Tryd.underlying3)) (And.intro (And.intro Tryd.underlying4 Tryd.underlying5) (And.intro Tryd.underlying9 (And.intro Tryd.underlying23 Tryd.underlying92))))
theorem Y1WiA {G R : Prop} (r : R) (h : R → G := by intro r; first | (apply WP.region; exact rvc_sound _ _ (Sm.out r)) | exact WP.drawK rfl mixed (by decide +kernel) (Sm.out r) | (apply WP.block; exact r) | (apply WP.skip; exact Yq r) | (apply WP.exit; exact Yq r) | (apply WP.ret; exact Sm.out r) | exact WP.cond rfl (fun _ => r) (fun hg => absurd hg (by decide)) | exact WP.cond rfl (fun hg => absurd hg (by decide)) (fun _ => r) | exact Rt.mk (And.intro (fun _ => Sm.out r) fun hg => absurd hg (by decide)) | exact Rt.mk (And.intro (fun hg => absurd hg (by decide)) fun _ => Sm.out r)) : G := h r
theorem YzWiA {G R : Prop} (r : R) (h : R → G := by intro r; first | (apply ExG.no; exact Sm.out r) | (apply Or.inl; apply ExG.no; exact Sm.out r) | exact Or.inl (And.intro (fun hg => absurd hg (by decide)) (ExG.no (Sm.out r)))) : G := h r
theorem YsWiA0 {P Q : Prop} (q : Q) (h : P = Q := by (try (conv => lhs; simp -dsimp only [ZK, rvc, capA, appA, litL, mkfv, drawF, headN, pureH, stp, dvc, calleeOf, gcall, pev, eff, newB, okd, og, ogs, ogo, ogp, slv, bltv, opd, litv, strip, one, both, putE, St.put, look, gdOf, gdv, picka, pickv, pickw, binv, bini, bins, binb, binp, binq, isSlT, bina, shp, eqCells, unv, convv, nilv, faddv, addp, idxav, idxp, load1, load1m, loadn, loadnm, loadv, hget, hset, hrep, hdel, slicev, slice3v, bnd, shift1, lenv, capv, IntKind.bits, extractv, fieldv, indexv, min2v, max2v, mkiv, tasv, tasz, cellsA, fillA, buildv, stC, oneC, rowMB, intsA, plN, appE, appZ, appC, appS, srcB, appNZ, appNC, VwL, srcC, srcZ, srcM, isBoolT, isPtrT, isSliceT, uOk, Value.oneCell', Nat.reducePow, Int.reducePow, Nat.reduceAdd, Nat.reduceMul, Nat.reduceSub, Nat.reduceLT, Nat.reduceLeDiff, Nat.reduceEqDiff, Nat.reduceBEq, Nat.reduceDiv, Nat.reduceMod, ↓reduceIte, reduceCtorEq, Int.reduceToNat, Int.reduceLT, Int.reduceLE, TFWiA, SeqQ, BlkQ, LoopQ, BodyQ, tab8_eq, tab8_size, tab8_at, FA.out, FR])) <;> exact rfl) : P := h.mpr q
abbrev nu (n : Nat) : AV := iv .u64 (n : Int)
theorem lenN_shift {k x : Nat} (h : 2 ^ k ≤ x) : lenN x = k + lenN (x / 2 ^ k) := by
  have hx : 0 < x := Nat.lt_of_lt_of_le (Nat.two_pow_pos k) h
  have a : ∀ d, lenN x ≤ k + d ↔ lenN (x / 2 ^ k) ≤ d := fun d => by
    rw [lenN_le, lenN_le, Nat.div_lt_iff_lt_mul (Nat.two_pow_pos k), Nat.pow_add, Nat.mul_comm]
  have b : k ≤ lenN x := by
    apply Classical.byContradiction; intro hk
    have := lenN_le.1 (show lenN x ≤ k - 1 + 0 by omega)
    have h2 : 2 ^ (k - 1 + 0) ≤ 2 ^ k := Nat.pow_le_pow_right (by omega) (by omega)
    omega
  have h1 := (a (lenN (x / 2 ^ k))).2 (Nat.le_refl _)
  have h2 := (a (lenN x - k)).1 (by omega)
  omega
def tab8 : ByteArray := ⟨List.toArray (List.append (List.append [0, 1, 2, 2, 3, 3, 3, 3, 4, 4, 4, 4, 4, 4, 4, 4, 5, 5, 5, 5, 5, 5, 5, 5, 5, 5, 5, 5, 5, 5, 5, 5, 6, 6, 6, 6, 6, 6, 6, 6, 6, 6, 6, 6, 6, 6, 6, 6, 6, 6, 6, 6, 6, 6, 6, 6, 6, 6, 6, 6, 6, 6, 6, 6] [7, 7, 7, 7, 7, 7, 7, 7, 7, 7, 7, 7, 7, 7, 7, 7, 7, 7, 7, 7, 7, 7, 7, 7, 7, 7, 7, 7, 7, 7, 7, 7, 7, 7, 7, 7, 7, 7, 7, 7, 7, 7, 7, 7, 7, 7, 7, 7, 7, 7, 7, 7, 7, 7, 7, 7, 7, 7, 7, 7, 7, 7, 7, 7]) (List.append [8, 8, 8, 8, 8, 8, 8, 8, 8, 8, 8, 8, 8, 8, 8, 8, 8, 8, 8, 8, 8, 8, 8, 8, 8, 8, 8, 8, 8, 8, 8, 8, 8, 8, 8, 8, 8, 8, 8, 8, 8, 8, 8, 8, 8, 8, 8, 8, 8, 8, 8, 8, 8, 8, 8, 8, 8, 8, 8, 8, 8, 8, 8, 8] [8, 8, 8, 8, 8, 8, 8, 8, 8, 8, 8, 8, 8, 8, 8, 8, 8, 8, 8, 8, 8, 8, 8, 8, 8, 8, 8, 8, 8, 8, 8, 8, 8, 8, 8, 8, 8, 8, 8, 8, 8, 8, 8, 8, 8, 8, 8, 8, 8, 8, 8, 8, 8, 8, 8, 8, 8, 8, 8, 8, 8, 8, 8, 8]))⟩
theorem tab8_eq : (⟨List.toArray (List.append (List.append [0, 1, 2, 2, 3, 3, 3, 3, 4, 4, 4, 4, 4, 4, 4, 4, 5, 5, 5, 5, 5, 5, 5, 5, 5, 5, 5, 5, 5, 5, 5, 5, 6, 6, 6, 6, 6, 6, 6, 6, 6, 6, 6, 6, 6, 6, 6, 6, 6, 6, 6, 6, 6, 6, 6, 6, 6, 6, 6, 6, 6, 6, 6, 6] [7, 7, 7, 7, 7, 7, 7, 7, 7, 7, 7, 7, 7, 7, 7, 7, 7, 7, 7, 7, 7, 7, 7, 7, 7, 7, 7, 7, 7, 7, 7, 7, 7, 7, 7, 7, 7, 7, 7, 7, 7, 7, 7, 7, 7, 7, 7, 7, 7, 7, 7, 7, 7, 7, 7, 7, 7, 7, 7, 7, 7, 7, 7, 7]) (List.append [8, 8, 8, 8, 8, 8, 8, 8, 8, 8, 8, 8, 8, 8, 8, 8, 8, 8, 8, 8, 8, 8, 8, 8, 8, 8, 8, 8, 8, 8, 8, 8, 8, 8, 8, 8, 8, 8, 8, 8, 8, 8, 8, 8, 8, 8, 8, 8, 8, 8, 8, 8, 8, 8, 8, 8, 8, 8, 8, 8, 8, 8, 8, 8] [8, 8, 8, 8, 8, 8, 8, 8, 8, 8, 8, 8, 8, 8, 8, 8, 8, 8, 8, 8, 8, 8, 8, 8, 8, 8, 8, 8, 8, 8, 8, 8, 8, 8, 8, 8, 8, 8, 8, 8, 8, 8, 8, 8, 8, 8, 8, 8, 8, 8, 8, 8, 8, 8, 8, 8, 8, 8, 8, 8, 8, 8, 8, 8]))⟩ : ByteArray) = tab8 := rfl
theorem tab8_size : tab8.size = 256 := by decide +kernel
theorem tab8_all : ∀ i : Nat, i < 256 → (tab8.data.toList.getD i 0).toNat = lenN i := by decide +kernel
theorem tab8_at (n : Nat) : (tab8.data.toList.getD (n % 256) 0).toNat = lenN (n % 256) := tab8_all (n % 256) (Nat.mod_lt _ (by omega))
theorem lenN_bd {x d : Nat} (h : x < 2 ^ d) : lenN x ≤ d := lenN_le.2 h
set_option maxRecDepth 8000 in
set_option maxHeartbeats 1000000 in
theorem len64_ct (x : Nat) (hx : x < 18446744073709551616) : ACt Tryd.prog 88 [nu x] [] (Fn (iv .i64 ((lenN x : Nat) : Int))) := by
  refine ACt.intro Tryd.func88 rfl (by kernel_rfl) (by simp [Tryd.ntmps88]) (fun cx => ?_)
  simp only [argE, Tryd.ntmps88, Tryd.results88]
  have s1 : ∀ n : Nat, (n : Int).fdiv 4294967296 = ((n / 4294967296 : Nat) : Int) := fun n => by rw [Int.fdiv_eq_ediv_of_nonneg _ (by omega)]; simp
  have s2 : ∀ n : Nat, (n : Int).fdiv 65536 = ((n / 65536 : Nat) : Int) := fun n => by rw [Int.fdiv_eq_ediv_of_nonneg _ (by omega)]; simp
  have s3 : ∀ n : Nat, (n : Int).fdiv 256 = ((n / 256 : Nat) : Int) := fun n => by rw [Int.fdiv_eq_ediv_of_nonneg _ (by omega)]; simp
  have w8 : ∀ n : Nat, IntKind.u8.wrap (n : Int) = ((n % 256 : Nat) : Int) := fun n => by rw [wrap_u8_mod]; omega
  have l8 : ∀ n : Nat, lenN (n % 256) ≤ 8 := fun n => lenN_bd (by have := Nat.mod_lt n (show 256 > 0 by omega); omega)
  have wl : ∀ n : Nat, IntKind.i64.wrap ((lenN (n % 256) : Nat) : Int) = ((lenN (n % 256) : Nat) : Int) := fun n => wrap_i64_nat (by have := l8 n; omega)
  have a0 : ∀ n : Nat, IntKind.i64.wrap (0 + ((lenN (n % 256) : Nat) : Int)) = ((lenN (n % 256) : Nat) : Int) := fun n => by rw [Int.zero_add]; exact wl n
  have a : ∀ (k : Int) (n : Nat), 0 ≤ k → k ≤ 1000 → IntKind.i64.wrap (k + ((lenN (n % 256) : Nat) : Int)) = k + ((lenN (n % 256) : Nat) : Int) := fun k n h1 h2 => wrap_i64 (by omega) (by have := l8 n; omega)
  have b1 : IntKind.i64.wrap (32 + 16) = 48 := by decide
  have b2 : IntKind.i64.wrap (48 + 8) = 56 := by decide
  have b3 : IntKind.i64.wrap (32 + 8) = 40 := by decide
  have b4 : IntKind.i64.wrap (0 + 16) = 16 := by decide
  have b5 : IntKind.i64.wrap (16 + 8) = 24 := by decide
  have b6 : IntKind.i64.wrap (0 + 8) = 8 := by decide
  have c8 := fun n => a 8 n (by decide) (by decide)
  have c16 := fun n => a 16 n (by decide) (by decide)
  have c24 := fun n => a 24 n (by decide) (by decide)
  have c32 := fun n => a 32 n (by decide) (by decide)
  have c40 := fun n => a 40 n (by decide) (by decide)
  have c48 := fun n => a 48 n (by decide) (by decide)
  have c56 := fun n => a 56 n (by decide) (by decide)
  have r1 : 4294967296 ≤ x → lenN x = 32 + lenN (x / 4294967296) := lenN_shift (k := 32)
  have r2 : ∀ y, 65536 ≤ y → lenN y = 16 + lenN (y / 65536) := fun y => lenN_shift (k := 16)
  have r3 : ∀ y, 256 ≤ y → lenN y = 8 + lenN (y / 256) := fun y => lenN_shift (k := 8)
  first | (have FRx := FR; clear FRx) | have FR := fr0
  have FA := Sm.mk (And.intro TFWiA (And.intro s1 (And.intro s2 (And.intro s3 (And.intro w8 (And.intro wl (And.intro a0 (And.intro b1 (And.intro b2 (And.intro b3 (And.intro b4 (And.intro b5 (And.intro b6 (And.intro c8 (And.intro c16 (And.intro c24 (And.intro c32 (And.intro c40 (And.intro c48 c56)))))))))))))))))))
  repeat' first | (apply Sm.mk; refine YsWiA0 ?_) | refine WP.seq fun K hK => ?_ | (apply Ob.mk; exact Yo) | refine And.intro (Ob.out ?_) ?_ | refine Y1WiA ?_ | refine YzWiA ?_ | (refine WP.cond rfl (fun hc => ?_) (fun hc => ?_) <;> (try simp only [ZC, reduceCtorEq, ZD] at hc) <;> (try exact absurd hc (by decide)) <;> (try (exfalso; omega))) | refine Rt.mk (And.intro (fun hg => Sm.out ?_) fun hg => Sm.out ?_) | (refine Nu.mk ?_; first | (fail_if_success have := nb1); intro nb1 | (fail_if_success have := nb2); intro nb2 | (fail_if_success have := nb3); intro nb3 | intro nbz) | (refine Fr.mk ?_; intro hfr; replace FR := And.intro hfr FR; clear hfr; refine Sm.out ?_) | refine Two.mk ?_ ?_ | (apply Yxc; exact Yx) | refine Cs.mk fun hcs => Sm.out ?_ | go_step | omega | (simp only [maxLen_eq]; omega) | exact trivial
  all_goals (refine Ygn ?_; try exact trivial)
  all_goals
    first
    | (rw [Nat.mod_eq_of_lt (by omega)]; done)
    | (rw [Nat.mod_eq_of_lt (by omega)]
       have q1 := r2 x
       have q2 := r2 (x / 4294967296)
       have q3 := r3 x
       have q4 := r3 (x / 4294967296)
       have q5 := r3 (x / 65536)
       have q6 := r3 (x / 4294967296 / 65536)
       omega)
end Go.Proofs.YtaffbklkjjmmdaaDoor.Wi
