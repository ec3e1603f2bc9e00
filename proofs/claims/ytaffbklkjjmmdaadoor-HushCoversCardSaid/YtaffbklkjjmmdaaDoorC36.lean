/-
  The walks and the laws that the statement leans on, part 36.
-/
import Derived.Test.YtaffbklkjjmmdaaDoorC9
import Derived.Test.YtaffbklkjjmmdaaDoorC35
namespace Go.Proofs.YtaffbklkjjmmdaaDoor
open Go
set_option linter.unusedVariables false
set_option linter.unusedSimpArgs false
set_option linter.defProp false
def TFHuT :=
  And.intro (And.intro (And.intro (And.intro (And.intro tyc0 (And.intro tyc2 zmb2)) (And.intro tyc3 (And.intro zmb3 tyc4))) (And.intro (And.intro zmb4 (And.intro tyc9 zmb9)) (And.intro (And.intro tyc22 elt22) (And.intro mkz22 mkc22)))) (And.intro (And.intro (And.intro apT22 (And.intro elk22 zmb22)) (And.intro tyc25 (And.intro foff25_0 fpart25_0))) (And.intro (And.intro foff25_1 (And.intro fpart25_1 foff25_2)) (And.intro (And.intro fpart25_2 foff25_3) (And.intro fpart25_3 foff25_4))))) (And.intro (And.intro (And.intro (And.intro fpart25_4 (And.intro fe25 zmb25)) (And.intro bldT25 (And.intro tyc32 foff32_0))) (And.intro (And.intro fpart32_0 (And.intro foff32_1 fpart32_1)) (And.intro (And.intro foff32_2 fpart32_2) (And.intro foff32_3 fpart32_3)))) (And.intro (And.intro (And.intro foff32_4 (And.intro fpart32_4 fe32)) (And.intro zmb32 (And.intro bldT32 Tryd.underlying0))) (And.intro (And.intro Tryd.underlying2 (And.intro Tryd.underlying3 Tryd.underlying4)) (And.intro (And.intro Tryd.underlying9 Tryd.underlying22) (And.intro Tryd.underlying25 Tryd.underlying32)))))
theorem Y1HuT {G R : Prop} (r : R) (h : R → G := by intro r; first | (apply WP.region; exact rvc_sound _ _ (Sm.out r)) | exact WP.drawK rfl mixed (by decide +kernel) (Sm.out r) | (apply WP.block; exact r) | (apply WP.skip; exact Yq r) | (apply WP.exit; exact Yq r) | (apply WP.ret; exact Sm.out r) | exact WP.cond rfl (fun _ => r) (fun hg => absurd hg (by decide)) | exact WP.cond rfl (fun hg => absurd hg (by decide)) (fun _ => r) | exact Rt.mk (And.intro (fun _ => Sm.out r) fun hg => absurd hg (by decide)) | exact Rt.mk (And.intro (fun hg => absurd hg (by decide)) fun _ => Sm.out r)) : G := h r
theorem YzHuT {G R : Prop} (r : R) (h : R → G := by intro r; first | (apply ExG.no; exact Sm.out r) | (apply Or.inl; apply ExG.no; exact Sm.out r) | exact Or.inl (And.intro (fun hg => absurd hg (by decide)) (ExG.no (Sm.out r)))) : G := h r
theorem YsHuT0 {P Q : Prop} (q : Q) (h : P = Q := by (try (conv => lhs; simp -dsimp only [ZK, rvc, capA, appA, litL, mkfv, drawF, headN, pureH, stp, dvc, calleeOf, gcall, pev, eff, newB, okd, og, ogs, ogo, ogp, slv, bltv, opd, litv, strip, one, both, putE, St.put, look, gdOf, gdv, picka, pickv, pickw, binv, bini, bins, binb, binp, binq, isSlT, bina, shp, eqCells, unv, convv, nilv, faddv, addp, idxav, idxp, load1, load1m, loadn, loadnm, loadv, hget, hset, hrep, hdel, slicev, slice3v, bnd, shift1, lenv, capv, IntKind.bits, extractv, fieldv, indexv, min2v, max2v, mkiv, tasv, tasz, cellsA, fillA, buildv, stC, oneC, rowMB, intsA, plN, appE, appZ, appC, appS, srcB, appNZ, appNC, VwL, srcC, srcZ, srcM, isBoolT, isPtrT, isSliceT, uOk, Value.oneCell', Nat.reducePow, Int.reducePow, Nat.reduceAdd, Nat.reduceMul, Nat.reduceSub, Nat.reduceLT, Nat.reduceLeDiff, Nat.reduceEqDiff, Nat.reduceBEq, Nat.reduceDiv, Nat.reduceMod, ↓reduceIte, reduceCtorEq, Int.reduceToNat, Int.reduceLT, Int.reduceLE, TFHuT, SeqQ, BlkQ, LoopQ, BodyQ, hin, FA.out, FR.out])) <;> exact rfl) : P := h.mpr q
def prs (l : List Sl) : List (Int × Int) := l.map fun s => (s.f, s.t)
theorem qt_cov (l : List Sl) (k : Ky) (t : Int) : qtB l k t = true ↔ covP (prs (l.filter fun s => abB s k)) t := by
  unfold qtB covP prs cvB
  rw [List.any_eq_true]
  constructor
  · rintro ⟨s, hs, h⟩
    simp only [Bool.and_eq_true, decide_eq_true_eq] at h
    exact ⟨(s.f, s.t), List.mem_map.2 ⟨s, List.mem_filter.2 ⟨hs, h.2⟩, rfl⟩, h.1.1, h.1.2⟩
  · rintro ⟨p, hp, h1, h2⟩
    obtain ⟨s, hs, rfl⟩ := List.mem_map.1 hp
    obtain ⟨hs, ha⟩ := List.mem_filter.1 hs
    refine ⟨s, hs, ?_⟩
    simp only [Bool.and_eq_true, decide_eq_true_eq]
    exact ⟨⟨h1, h2⟩, ha⟩
theorem untV_spec (l : List Sl) (k : Ky) (now : Int) : now ≤ untV l k now ∧ (∀ y, now ≤ y → y < untV l k now → qtB l k y = true) ∧ qtB l k (untV l k now) = false ∧
    (untV l k now = now ∨ ∃ s ∈ l, abB s k = true ∧ untV l k now = s.t) ∧ (∀ t, now < t → qtB l k t = false → untV l k now ≤ t) := by
  have hm := List.mergeSort_perm (l.filter fun s => abB s k) (fun a b => decide (a.f ≤ b.f))
  have hw : (prs ((l.filter fun s => abB s k).mergeSort fun a b => decide (a.f ≤ b.f))).Pairwise (fun a b => a.1 ≤ b.1) := by
    unfold prs
    rw [List.pairwise_map]
    have := List.pairwise_mergeSort (le := fun a b : Sl => decide (a.f ≤ b.f)) (fun a b c h1 h2 => by simp only [decide_eq_true_eq] at *; omega) (fun a b => by simp only [Bool.or_eq_true, decide_eq_true_eq]; omega) (l.filter fun s => abB s k)
    exact this.imp fun h => by simpa using h
  have hu : untV l k now = unt (prs ((l.filter fun s => abB s k).mergeSort fun a b => decide (a.f ≤ b.f))) now := by
    unfold untV; rw [unS_eq]; rfl
  have hq : ∀ t, qtB l k t = true ↔ covP (prs ((l.filter fun s => abB s k).mergeSort fun a b => decide (a.f ≤ b.f))) t := fun t => by
    rw [qt_cov]; exact covP_perm (hm.symm.map _) t
  have hn : ∀ t, qtB l k t = false ↔ ¬ covP (prs ((l.filter fun s => abB s k).mergeSort fun a b => decide (a.f ≤ b.f))) t := fun t => by
    rw [← hq]; simp
  obtain ⟨h1, h2, h3, h4⟩ := unt_spec _ now hw
  rw [← hu] at h1 h2 h3 h4
  refine ⟨h1, fun y y1 y2 => (hq y).2 (h2 y y1 y2), (hn _).2 h3, ?_, fun t t1 t2 => by rw [hu]; exact unt_least hw t1 ((hn t).1 t2)⟩
  rcases h4 with h4 | ⟨p, hp, h4⟩
  · exact .inl h4
  · right
    obtain ⟨s, hs, rfl⟩ := List.mem_map.1 hp
    have hs := hm.mem_iff.1 hs
    obtain ⟨h5, h6⟩ := List.mem_filter.1 hs
    exact ⟨s, h5, h6, h4⟩
theorem qt_nn {l : List Sl} {k : Ky} {now : Int} (h : qtB l k now = true) : 0 ≤ now := by
  unfold qtB at h
  obtain ⟨s, hs, h⟩ := List.any_eq_true.1 h
  unfold cvB at h
  simp only [Bool.and_eq_true, decide_eq_true_eq] at h
  have := ab_fb h.2
  unfold fb at this
  omega
def Cd (l : List Sl) (k : Ky) (now : Int) (p : Nat) : Prop := now < (at_ l p).t ∧ qtB l k (at_ l p).t = false
def BsI (l : List Sl) (k : Ky) (now : Int) (i : Nat) (b : Int) : Prop := (b = -1 ∧ ∀ p, p < i → ¬ Cd l k now p) ∨ (0 ≤ b ∧ (∃ p, p < i ∧ Cd l k now p ∧ b = (at_ l p).t) ∧ ∀ p, p < i → Cd l k now p → b ≤ (at_ l p).t)
theorem bs_take {l : List Sl} {k : Ky} {now b : Int} {i : Nat} (h0 : 0 ≤ now) (h : BsI l k now i b) (hc : Cd l k now i) (hb : b < 0 ∨ (at_ l i).t < b) : BsI l k now (i + 1) (at_ l i).t := by
  have h1 := hc.1
  refine .inr ⟨by omega, ⟨i, Nat.lt_succ_self i, hc, rfl⟩, fun p hp hp2 => ?_⟩
  by_cases e : p = i
  · rw [e]; exact Int.le_refl _
  · rcases h with ⟨h2, h3⟩ | ⟨h2, -, h3⟩
    · exact absurd hp2 (h3 p (by omega))
    · have := h3 p (by omega) hp2
      omega
theorem bs_skip {l : List Sl} {k : Ky} {now b : Int} {i : Nat} (h : BsI l k now i b) (hc : ¬ (Cd l k now i ∧ (b < 0 ∨ (at_ l i).t < b))) : BsI l k now (i + 1) b := by
  rcases h with ⟨h2, h3⟩ | ⟨h2, ⟨q, hq, hq2, hq3⟩, h3⟩
  · refine .inl ⟨h2, fun p hp hp2 => ?_⟩
    by_cases e : p = i
    · subst e; exact hc ⟨hp2, by omega⟩
    · exact h3 p (by omega) hp2
  · refine .inr ⟨h2, ⟨q, by omega, hq2, hq3⟩, fun p hp hp2 => ?_⟩
    by_cases e : p = i
    · subst e
      apply Classical.byContradiction
      intro hn
      exact hc ⟨hp2, by omega⟩
    · exact h3 p (by omega) hp2
theorem bs_end {l : List Sl} {k : Ky} {now b : Int} {n : Nat} (hn : l.length = n) (h : BsI l k now n b) (hq : qtB l k now = true) : b = untV l k now := by
  obtain ⟨h1, h2, h3, h4, h5⟩ := untV_spec l k now
  have hne : untV l k now ≠ now := fun e => by rw [e, hq] at h3; cases h3
  rcases h4 with h4 | ⟨s, hs, ha, hu⟩
  · exact absurd h4 hne
  obtain ⟨p, hp, rfl⟩ := List.getElem_of_mem hs
  have hat := at_get l hp
  have hC : Cd l k now p := ⟨by rw [hat, ← hu]; omega, by rw [hat, ← hu]; exact h3⟩
  rcases h with ⟨-, hno⟩ | ⟨-, ⟨q, hq1, hq2, hq3⟩, hle⟩
  · exact absurd hC (hno p (by omega))
  · have a1 := hle p (by omega) hC
    rw [hat, ← hu] at a1
    have a2 := h5 _ hq2.1 hq2.2
    rw [← hq3] at a2
    omega
structure RuG where
  i : Nat
  b : Int
set_option maxHeartbeats 4000000 in
theorem runtil_ct (l : List Sl) (k : Ky) (now : Int) (n : Nat) (hn : l.length = n) (hl : n ≤ 100000) (hz : ∀ e ∈ l, Sz e) (hk : k.g.size ≤ 5000) :
    ACt Tryd.prog 16 [.sl n (scs l), kv k, iv .i64 now] [] (Fn (iv .i64 (untV l k now))) := by
  have cQ := fun t => rquiet_ct l k t n hn hl hz hk
  have hCl := scs_len l
  have hdr := scs_at l
  rw [hn] at hCl
  cases hq : qtB l k now with
  | false =>
    have hR : untV l k now = now := by
      obtain ⟨h1, h2, -, -, -⟩ := untV_spec l k now
      apply Classical.byContradiction
      intro h
      have := h2 now (Int.le_refl _) (by omega)
      rw [hq] at this; cases this
    have c1 := cQ now
    rw [hq] at c1
    rw [hR]
    obtain ⟨C, hC⟩ : ∃ C, C = scs l := ⟨_, rfl⟩
    rw [← hC] at c1 ⊢
    obtain ⟨kg, kr, kp, ke, ks⟩ := k
    refine ACt.intro Tryd.func16 rfl (by kernel_rfl) (by simp [Tryd.ntmps16]) (fun cx => ?_)
    simp only [argE, Tryd.ntmps16, Tryd.results16]
    first | (have FRx := FR; clear FRx) | have FR := fr0S
    have FA := Sm.mk (TFHuT)
    repeat' first | (apply Sm.mk; refine Ys ?_) | refine WP.seq fun K hK => ?_ | (apply Ob.mk; exact Yo) | refine And.intro (Ob.out ?_) ?_ | refine Y1HuT ?_ | refine Yc (c := c1) (r := ?_) | refine YzHuT ?_ | (refine WP.cond rfl (fun hc => ?_) (fun hc => ?_) <;> (try simp only [ZC, reduceCtorEq, ZD] at hc) <;> (try exact absurd hc (by decide)) <;> (try (exfalso; omega))) | refine Rt.mk (And.intro (fun hg => Sm.out ?_) fun hg => Sm.out ?_) | (refine Nu.mk ?_; first | (fail_if_success have := nb1); intro nb1 | (fail_if_success have := nb2); intro nb2 | (fail_if_success have := nb3); intro nb3 | (fail_if_success have := nb4); intro nb4 | intro nbz) | (apply Yfr; refine Yf FR fun hFRb FR => ?_) | refine Two.mk ?_ ?_ | (apply Yxc; exact Yx) | refine Cs.mk fun hcs => Sm.out ?_ | go_step | omega | (simp only [maxLen_eq]; omega) | exact trivial
    (refine Yg ?_; try exact trivial)
  | true =>
    have h0 := qt_nn hq
    have hE := fun b (h : BsI l k now n b) => bs_end hn h hq
    have hT := fun i b (h : BsI l k now i b) => bs_take h0 h
    have hS := fun i b (h : BsI l k now i b) => bs_skip h
    have c1 := cQ now
    rw [hq] at c1
    obtain ⟨R, hR⟩ : ∃ R, R = untV l k now := ⟨_, rfl⟩
    rw [← hR] at hE ⊢
    obtain ⟨C, hC⟩ : ∃ C, C = scs l := ⟨_, rfl⟩
    simp only [← hC] at hCl hdr cQ c1 ⊢
    have hB0 : BsI l k now 0 (-1) := .inl ⟨rfl, fun p hp => absurd hp (Nat.not_lt_zero _)⟩
    obtain ⟨B, hB⟩ : ∃ B : Nat → Int → Prop, B = BsI l k now := ⟨_, rfl⟩
    simp only [← hB] at hE hT hS hB0
    have hCd : ∀ i, Cd l k now i ↔ now < (at_ l i).t ∧ qtB l k (at_ l i).t = false := fun i => Iff.rfl
    obtain ⟨D, hD⟩ : ∃ D : Nat → Prop, D = Cd l k now := ⟨_, rfl⟩
    simp only [← hD] at hT hS hCd
    obtain ⟨qt, hqt⟩ : ∃ qt : Int → Bool, qt = qtB l k := ⟨_, rfl⟩
    simp only [← hqt] at hCd cQ
    obtain ⟨kg, kr, kp, ke, ks⟩ := k
    clear hR hC hB hD hqt hz hk hq
    refine ACt.intro Tryd.func16 rfl (by kernel_rfl) (by simp [Tryd.ntmps16]) (fun cx => ?_)
    simp only [argE, Tryd.ntmps16, Tryd.results16]
    first | (have FRx := FR; clear FRx) | have FR := fr0S
    have FA := Sm.mk (TFHuT)
    repeat' first | (apply Sm.mk; refine Ys ?_) | refine WP.seq fun K hK => ?_ | (apply Ob.mk; exact Yo) | refine And.intro (Ob.out ?_) ?_ | refine Y1HuT ?_ | refine Yc (c := c1) (r := ?_) | refine YzHuT ?_ | (refine WP.cond rfl (fun hc => ?_) (fun hc => ?_) <;> (try simp only [ZC, reduceCtorEq, ZD] at hc) <;> (try exact absurd hc (by decide)) <;> (try (exfalso; omega))) | refine Rt.mk (And.intro (fun hg => Sm.out ?_) fun hg => Sm.out ?_) | (refine Nu.mk ?_; first | (fail_if_success have := nb1); intro nb1 | (fail_if_success have := nb2); intro nb2 | (fail_if_success have := nb3); intro nb3 | (fail_if_success have := nb4); intro nb4 | intro nbz) | (apply Yfr; refine Yf FR fun hFRb FR => ?_) | refine Two.mk ?_ ?_ | (apply Yxc; exact Yx) | refine Cs.mk fun hcs => Sm.out ?_ | go_step | omega | (simp only [maxLen_eq]; omega) | exact trivial
    refine WP.loop (Γ := RuG) (fun g => ⟨[(8, iv .i64 (g.i : Int)), (7, iv .i64 g.b), (0, .sl n C), (4, pt nb1 0), (2, iv .i64 now)], [(nb1, .cells [.lit (.string kg), .lit (.string kr), bv kp, iv .u64 ke, bv ks] 5 25)]⟩) (fun g => g.i ≤ n ∧ B g.i g.b) (fun g => n - g.i) ⟨0, -1⟩ ⟨Nat.zero_le _, hB0⟩ (Sub.pick (by simp [pickB, hget, hdel, FR.out]) (by simp [look])) ?_
    intro ⟨i, b⟩ ⟨hi, hb⟩
    simp only at hi hb ⊢
    have FR : Sm (¬ ((1 : Nat) = 0)) := Sm.mk Nat.one_ne_zero
    by_cases hin : i < n
    · have ki : decide ((i : Int) < (n : Int)) = true := decide_eq_true (by omega)
      have s1 : IntKind.i64.wrap ((i : Int) + 1) = ((i + 1 : Nat) : Int) := by rw [wrap_i64 (by omega) (by omega)]; omega
      have hd := hdr i (by omega)
      have hT := hT i b hb
      have hS := hS i b hb
      have hCd := hCd i
      have q1 : (i + 1) * 5 ≤ C.length := by omega
      obtain ⟨v, hv⟩ : ∃ x, x = at_ l i := ⟨_, rfl⟩
      rw [← hv] at hd hT hS hCd
      clear hv
      obtain ⟨vn, vg, vw, vf, vt⟩ := v
      simp only at hd hT hS hCd
      have cF := cQ vt
      obtain ⟨z, hz⟩ : ∃ z, qt vt = z := ⟨_, rfl⟩
      rw [hz] at cF hCd
      obtain ⟨x1, hx1⟩ : ∃ x, decide (vt > now) = x := ⟨_, rfl⟩
      obtain ⟨x2, hx2⟩ : ∃ x, decide (b < 0) = x := ⟨_, rfl⟩
      obtain ⟨x3, hx3⟩ : ∃ x, decide (vt < b) = x := ⟨_, rfl⟩
      obtain ⟨q, hq⟩ : ∃ q, (x1 && !z && (x2 || x3)) = q := ⟨_, rfl⟩
      have hq2 : q = true ↔ D i ∧ (b < 0 ∨ vt < b) := by
        rw [← hq, hCd, ← hx1, ← hx2, ← hx3]
        simp only [Bool.and_eq_true, Bool.or_eq_true, decide_eq_true_eq, Bool.not_eq_true', gt_iff_lt]
      clear hz hCd
      cases q with
      | true =>
        have h2 := hq2.1 rfl
        have h3 := hT h2.1 h2.2
        first | (have FRx := FR; clear FRx) | have FR := fr0S
        have FA := Sm.mk (And.intro TFHuT (And.intro ki (And.intro hd (And.intro q1 (And.intro s1 (And.intro hx1 (And.intro hx2 (And.intro hx3 hq))))))))
        repeat' first | (apply Sm.mk; refine YsHuT0 ?_) | refine WP.seq fun K hK => ?_ | (apply Ob.mk; exact Yo) | refine And.intro (Ob.out ?_) ?_ | refine Y1HuT ?_ | refine Yc (c := cF) (r := ?_) | refine YzHuT ?_ | (refine WP.cond rfl (fun hc => ?_) (fun hc => ?_) <;> (try simp only [ZC, reduceCtorEq, ZD] at hc) <;> (try exact absurd hc (by decide)) <;> (try (exfalso; omega))) | refine Rt.mk (And.intro (fun hg => Sm.out ?_) fun hg => Sm.out ?_) | (refine Nu.mk ?_; first | (fail_if_success have := nb1); intro nb1 | (fail_if_success have := nb2); intro nb2 | (fail_if_success have := nb3); intro nb3 | (fail_if_success have := nb4); intro nb4 | intro nbz) | (apply Yfr; refine Yf FR fun hFRb FR => ?_) | refine Two.mk ?_ ?_ | (apply Yxc; exact Yx) | refine Cs.mk fun hcs => Sm.out ?_ | go_step | omega | (simp only [maxLen_eq]; omega) | exact trivial
        exact ⟨⟨i + 1, vt⟩, ⟨by simp only; omega, h3⟩, by simp only; omega, (Sub.pick (by simp [pickB, hget, hdel, FR.out]) (by simp [look]))⟩
      | false =>
        have h3 := hS fun h => by have := hq2.2 h; cases this
        first | (have FRx := FR; clear FRx) | have FR := fr0S
        have FA := Sm.mk (And.intro TFHuT (And.intro ki (And.intro hd (And.intro q1 (And.intro s1 (And.intro hx1 (And.intro hx2 (And.intro hx3 hq))))))))
        repeat' first | (apply Sm.mk; refine YsHuT0 ?_) | refine WP.seq fun K hK => ?_ | (apply Ob.mk; exact Yo) | refine And.intro (Ob.out ?_) ?_ | refine Y1HuT ?_ | refine Yc (c := cF) (r := ?_) | refine YzHuT ?_ | (refine WP.cond rfl (fun hc => ?_) (fun hc => ?_) <;> (try simp only [ZC, reduceCtorEq, ZD] at hc) <;> (try exact absurd hc (by decide)) <;> (try (exfalso; omega))) | refine Rt.mk (And.intro (fun hg => Sm.out ?_) fun hg => Sm.out ?_) | (refine Nu.mk ?_; first | (fail_if_success have := nb1); intro nb1 | (fail_if_success have := nb2); intro nb2 | (fail_if_success have := nb3); intro nb3 | (fail_if_success have := nb4); intro nb4 | intro nbz) | (apply Yfr; refine Yf FR fun hFRb FR => ?_) | refine Two.mk ?_ ?_ | (apply Yxc; exact Yx) | refine Cs.mk fun hcs => Sm.out ?_ | go_step | omega | (simp only [maxLen_eq]; omega) | exact trivial
        exact ⟨⟨i + 1, b⟩, ⟨by simp only; omega, h3⟩, by simp only; omega, (Sub.pick (by simp [pickB, hget, hdel, FR.out]) (by simp [look]))⟩
    · have ki : decide ((i : Int) < (n : Int)) = false := decide_eq_false (by omega)
      obtain rfl : i = n := by omega
      have hr := hE b hb
      first | (have FRx := FR; clear FRx) | have FR := fr0S
      have FA := Sm.mk (And.intro TFHuT ki)
      repeat' first | (apply Sm.mk; refine Ys ?_) | refine WP.seq fun K hK => ?_ | (apply Ob.mk; exact Yo) | refine And.intro (Ob.out ?_) ?_ | refine Y1HuT ?_ | refine YzHuT ?_ | (refine WP.cond rfl (fun hc => ?_) (fun hc => ?_) <;> (try simp only [ZC, reduceCtorEq, ZD] at hc) <;> (try exact absurd hc (by decide)) <;> (try (exfalso; omega))) | refine Rt.mk (And.intro (fun hg => Sm.out ?_) fun hg => Sm.out ?_) | (refine Nu.mk ?_; first | (fail_if_success have := nb1); intro nb1 | (fail_if_success have := nb2); intro nb2 | (fail_if_success have := nb3); intro nb3 | (fail_if_success have := nb4); intro nb4 | intro nbz) | (apply Yfr; refine Yf FR fun hFRb FR => ?_) | refine Two.mk ?_ ?_ | (apply Yxc; exact Yx) | refine Cs.mk fun hcs => Sm.out ?_ | go_step | omega | (simp only [maxLen_eq]; omega) | exact trivial
      (have FA := Sm.mk (And.intro hr FA.out); refine Yg ?_; try exact trivial)
def TFHuW :=
  And.intro (And.intro (And.intro (And.intro (And.intro tyc0 tyc3) (And.intro zmb3 tyc4)) (And.intro (And.intro zmb4 tyc9) (And.intro zmb9 tyc22))) (And.intro (And.intro (And.intro elt22 mkz22) (And.intro mkc22 apT22)) (And.intro (And.intro elk22 zmb22) (And.intro tyc32 (And.intro foff32_0 fpart32_0))))) (And.intro (And.intro (And.intro (And.intro foff32_1 fpart32_1) (And.intro foff32_2 fpart32_2)) (And.intro (And.intro foff32_3 fpart32_3) (And.intro foff32_4 fpart32_4))) (And.intro (And.intro (And.intro fe32 zmb32) (And.intro bldT32 Tryd.underlying0)) (And.intro (And.intro Tryd.underlying3 Tryd.underlying4) (And.intro Tryd.underlying9 (And.intro Tryd.underlying22 Tryd.underlying32)))))
theorem Y1HuW {G R : Prop} (r : R) (h : R → G := by intro r; first | (apply WP.region; exact rvc_sound _ _ (Sm.out r)) | exact WP.drawK rfl mixed (by decide +kernel) (Sm.out r) | (apply WP.block; exact r) | (apply WP.skip; exact Yq r) | (apply WP.exit; exact Yq r) | (apply WP.ret; exact Sm.out r) | exact WP.cond rfl (fun _ => r) (fun hg => absurd hg (by decide)) | exact WP.cond rfl (fun hg => absurd hg (by decide)) (fun _ => r) | exact Rt.mk (And.intro (fun _ => Sm.out r) fun hg => absurd hg (by decide)) | exact Rt.mk (And.intro (fun hg => absurd hg (by decide)) fun _ => Sm.out r)) : G := h r
theorem YzHuW {G R : Prop} (r : R) (h : R → G := by intro r; first | (apply ExG.no; exact Sm.out r) | (apply Or.inl; apply ExG.no; exact Sm.out r) | exact Or.inl (And.intro (fun hg => absurd hg (by decide)) (ExG.no (Sm.out r)))) : G := h r
theorem YsHuW0 {P Q : Prop} (q : Q) (h : P = Q := by (try (conv => lhs; simp -dsimp only [ZK, rvc, capA, appA, litL, mkfv, drawF, headN, pureH, stp, dvc, calleeOf, gcall, pev, eff, newB, okd, og, ogs, ogo, ogp, slv, bltv, opd, litv, strip, one, both, putE, St.put, look, gdOf, gdv, picka, pickv, pickw, binv, bini, bins, binb, binp, binq, isSlT, bina, shp, eqCells, unv, convv, nilv, faddv, addp, idxav, idxp, load1, load1m, loadn, loadnm, loadv, hget, hset, hrep, hdel, slicev, slice3v, bnd, shift1, lenv, capv, IntKind.bits, extractv, fieldv, indexv, min2v, max2v, mkiv, tasv, tasz, cellsA, fillA, buildv, stC, oneC, rowMB, intsA, plN, appE, appZ, appC, appS, srcB, appNZ, appNC, VwL, srcC, srcZ, srcM, isBoolT, isPtrT, isSliceT, uOk, Value.oneCell', Nat.reducePow, Int.reducePow, Nat.reduceAdd, Nat.reduceMul, Nat.reduceSub, Nat.reduceLT, Nat.reduceLeDiff, Nat.reduceEqDiff, Nat.reduceBEq, Nat.reduceDiv, Nat.reduceMod, ↓reduceIte, reduceCtorEq, Int.reduceToNat, Int.reduceLT, Int.reduceLE, TFHuW, SeqQ, BlkQ, LoopQ, BodyQ, hin, FA.out, FR.out])) <;> exact rfl) : P := h.mpr q
def hvS (s : Sl) : Bool := decide ((s.nm.size : Int) > 500) || decide ((s.gl.size : Int) > 500)
def hvL (l : List Sl) : Bool := decide (30 < l.length) || l.any hvS
theorem hvL_f {l : List Sl} (h : hvL l = false) : l.length ≤ 30 ∧ ∀ e ∈ l, Sz e := by
  unfold hvL at h
  simp only [Bool.or_eq_false_iff, decide_eq_false_iff_not] at h
  refine ⟨by omega, fun e he => ?_⟩
  have h2 := List.any_eq_false.1 h.2 e he
  unfold hvS at h2
  simp only [Bool.or_eq_true, decide_eq_true_eq] at h2
  exact ⟨by omega, by omega⟩
theorem lheavy_ct (l : List Sl) (n : Nat) (hn : l.length = n) : ACt Tryd.prog 7 [.sl n (scs l)] [] (Fn (bv (hvL l))) := by
  have hCl := scs_len l
  have hdr := scs_at l
  obtain ⟨R, hR⟩ : ∃ R, R = hvL l := ⟨_, rfl⟩
  rw [← hR]
  unfold hvL at hR
  rw [hn] at hCl hR
  have hst := fun (i : Nat) (h : i < l.length) => congrArg (fun z => z.any hvS) (List.drop_eq_getElem_cons h)
  simp only [List.any_cons] at hst
  have hat := fun (i : Nat) (h : i < l.length) => at_get l h
  obtain ⟨C, hC⟩ : ∃ C, C = scs l := ⟨_, rfl⟩
  rw [← hC] at hCl hdr ⊢
  clear hC
  by_cases hb : 30 < n
  · have k0 : decide ((n : Int) > 30) = true := decide_eq_true (by omega)
    have e : R = true := by rw [hR, decide_eq_true hb]; rfl
    refine ACt.intro Tryd.func7 rfl (by kernel_rfl) (by simp [Tryd.ntmps7]) (fun cx => ?_)
    simp only [argE, Tryd.ntmps7, Tryd.results7]
    first | (have FRx := FR; clear FRx) | have FR := fr0S
    have FA := Sm.mk (And.intro TFHuW k0)
    repeat' first | (apply Sm.mk; refine Ys ?_) | refine WP.seq fun K hK => ?_ | (apply Ob.mk; exact Yo) | refine And.intro (Ob.out ?_) ?_ | refine Y1HuW ?_ | refine YzHuW ?_ | (refine WP.cond rfl (fun hc => ?_) (fun hc => ?_) <;> (try simp only [ZC, reduceCtorEq, ZD] at hc) <;> (try exact absurd hc (by decide)) <;> (try (exfalso; omega))) | refine Rt.mk (And.intro (fun hg => Sm.out ?_) fun hg => Sm.out ?_) | (refine Nu.mk ?_; first | (fail_if_success have := nb1); intro nb1 | (fail_if_success have := nb2); intro nb2 | (fail_if_success have := nb3); intro nb3 | (fail_if_success have := nb4); intro nb4 | intro nbz) | (apply Yfr; refine Yf FR fun hFRb FR => ?_) | refine Two.mk ?_ ?_ | (apply Yxc; exact Yx) | refine Cs.mk fun hcs => Sm.out ?_ | go_step | omega | (simp only [maxLen_eq]; omega) | exact trivial
    (have FA := Sm.mk (And.intro e FA.out); refine Yg ?_; try exact trivial)
  have k0 : decide ((n : Int) > 30) = false := decide_eq_false (by omega)
  rw [decide_eq_false hb, Bool.false_or] at hR
  refine ACt.intro Tryd.func7 rfl (by kernel_rfl) (by simp [Tryd.ntmps7]) (fun cx => ?_)
  simp only [argE, Tryd.ntmps7, Tryd.results7]
  first | (have FRx := FR; clear FRx) | have FR := fr0S
  have FA := Sm.mk (And.intro TFHuW k0)
  repeat' first | (apply Sm.mk; refine Ys ?_) | refine WP.seq fun K hK => ?_ | (apply Ob.mk; exact Yo) | refine And.intro (Ob.out ?_) ?_ | refine Y1HuW ?_ | refine YzHuW ?_ | (refine WP.cond rfl (fun hc => ?_) (fun hc => ?_) <;> (try simp only [ZC, reduceCtorEq, ZD] at hc) <;> (try exact absurd hc (by decide)) <;> (try (exfalso; omega))) | refine Rt.mk (And.intro (fun hg => Sm.out ?_) fun hg => Sm.out ?_) | (refine Nu.mk ?_; first | (fail_if_success have := nb1); intro nb1 | (fail_if_success have := nb2); intro nb2 | (fail_if_success have := nb3); intro nb3 | (fail_if_success have := nb4); intro nb4 | intro nbz) | (apply Yfr; refine Yf FR fun hFRb FR => ?_) | refine Two.mk ?_ ?_ | (apply Yxc; exact Yx) | refine Cs.mk fun hcs => Sm.out ?_ | go_step | omega | (simp only [maxLen_eq]; omega) | exact trivial
  refine WP.loop (Γ := Nat) (fun i => ⟨[(3, iv .i64 (i : Int)), (0, .sl n C)], []⟩) (fun i => i ≤ n ∧ R = (l.drop i).any hvS) (fun i => n - i) 0 ⟨Nat.zero_le _, by rw [List.drop_zero]; exact hR⟩ (Sub.pick (by simp [pickB, hget, hdel, FR.out]) (by simp [look])) ?_
  intro i ⟨hi, hr⟩
  have FR : Sm (¬ ((1 : Nat) = 0)) := Sm.mk Nat.one_ne_zero
  by_cases hin : i < n
  · have ki : decide ((i : Int) < (n : Int)) = true := decide_eq_true (by omega)
    have s1 : IntKind.i64.wrap ((i : Int) + 1) = ((i + 1 : Nat) : Int) := by rw [wrap_i64 (by omega) (by omega)]; omega
    have hd := hdr i (by omega)
    rw [hst i (by omega), ← hat i (by omega)] at hr
    have q1 : (i + 1) * 5 ≤ C.length := by omega
    obtain ⟨v, hv⟩ : ∃ x, x = at_ l i := ⟨_, rfl⟩
    rw [← hv] at hd hr
    clear hv
    obtain ⟨vn, vg, vw, vf, vt⟩ := v
    unfold hvS at hr
    simp only at hd hr
    obtain ⟨x, hx⟩ : ∃ x, decide ((vn.size : Int) > 500) = x := ⟨_, rfl⟩
    obtain ⟨y, hy⟩ : ∃ y, decide ((vg.size : Int) > 500) = y := ⟨_, rfl⟩
    rw [hx, hy] at hr
    obtain ⟨q, hq⟩ : ∃ q, (x || y) = q := ⟨_, rfl⟩
    rw [hq] at hr
    cases q with
    | true =>
      have e : R = true := by rw [hr]; rfl
      first | (have FRx := FR; clear FRx) | have FR := fr0S
      have FA := Sm.mk (And.intro TFHuW (And.intro ki (And.intro hd (And.intro q1 (And.intro s1 (And.intro hx (And.intro hy hq)))))))
      repeat' first | (apply Sm.mk; refine YsHuW0 ?_) | refine WP.seq fun K hK => ?_ | (apply Ob.mk; exact Yo) | refine And.intro (Ob.out ?_) ?_ | refine Y1HuW ?_ | refine YzHuW ?_ | (refine WP.cond rfl (fun hc => ?_) (fun hc => ?_) <;> (try simp only [ZC, reduceCtorEq, ZD] at hc) <;> (try exact absurd hc (by decide)) <;> (try (exfalso; omega))) | refine Rt.mk (And.intro (fun hg => Sm.out ?_) fun hg => Sm.out ?_) | (refine Nu.mk ?_; first | (fail_if_success have := nb1); intro nb1 | (fail_if_success have := nb2); intro nb2 | (fail_if_success have := nb3); intro nb3 | (fail_if_success have := nb4); intro nb4 | intro nbz) | (apply Yfr; refine Yf FR fun hFRb FR => ?_) | refine Two.mk ?_ ?_ | (apply Yxc; exact Yx) | refine Cs.mk fun hcs => Sm.out ?_ | go_step | omega | (simp only [maxLen_eq]; omega) | exact trivial
      (have FA := Sm.mk (And.intro e FA.out); refine Yg ?_; try exact trivial)
    | false =>
      have hr : R = (l.drop (i + 1)).any hvS := by rw [hr]; rfl
      first | (have FRx := FR; clear FRx) | have FR := fr0S
      have FA := Sm.mk (And.intro TFHuW (And.intro ki (And.intro hd (And.intro q1 (And.intro s1 (And.intro hx (And.intro hy hq)))))))
      repeat' first | (apply Sm.mk; refine YsHuW0 ?_) | refine WP.seq fun K hK => ?_ | (apply Ob.mk; exact Yo) | refine And.intro (Ob.out ?_) ?_ | refine Y1HuW ?_ | refine YzHuW ?_ | (refine WP.cond rfl (fun hc => ?_) (fun hc => ?_) <;> (try simp only [ZC, reduceCtorEq, ZD] at hc) <;> (try exact absurd hc (by decide)) <;> (try (exfalso; omega))) | refine Rt.mk (And.intro (fun hg => Sm.out ?_) fun hg => Sm.out ?_) | (refine Nu.mk ?_; first | (fail_if_success have := nb1); intro nb1 | (fail_if_success have := nb2); intro nb2 | (fail_if_success have := nb3); intro nb3 | (fail_if_success have := nb4); intro nb4 | intro nbz) | (apply Yfr; refine Yf FR fun hFRb FR => ?_) | refine Two.mk ?_ ?_ | (apply Yxc; exact Yx) | refine Cs.mk fun hcs => Sm.out ?_ | go_step | omega | (simp only [maxLen_eq]; omega) | exact trivial
      exact ⟨i + 1, ⟨by omega, hr⟩, by omega, (Sub.pick (by simp [pickB, hget, hdel, FR.out]) (by simp [look]))⟩
  · have ki : decide ((i : Int) < (n : Int)) = false := decide_eq_false (by omega)
    rw [List.drop_eq_nil_of_le (by omega)] at hr
    have e : R = false := hr
    first | (have FRx := FR; clear FRx) | have FR := fr0S
    have FA := Sm.mk (And.intro TFHuW ki)
    repeat' first | (apply Sm.mk; refine Ys ?_) | refine WP.seq fun K hK => ?_ | (apply Ob.mk; exact Yo) | refine And.intro (Ob.out ?_) ?_ | refine Y1HuW ?_ | refine YzHuW ?_ | (refine WP.cond rfl (fun hc => ?_) (fun hc => ?_) <;> (try simp only [ZC, reduceCtorEq, ZD] at hc) <;> (try exact absurd hc (by decide)) <;> (try (exfalso; omega))) | refine Rt.mk (And.intro (fun hg => Sm.out ?_) fun hg => Sm.out ?_) | (refine Nu.mk ?_; first | (fail_if_success have := nb1); intro nb1 | (fail_if_success have := nb2); intro nb2 | (fail_if_success have := nb3); intro nb3 | (fail_if_success have := nb4); intro nb4 | intro nbz) | (apply Yfr; refine Yf FR fun hFRb FR => ?_) | refine Two.mk ?_ ?_ | (apply Yxc; exact Yx) | refine Cs.mk fun hcs => Sm.out ?_ | go_step | omega | (simp only [maxLen_eq]; omega) | exact trivial
    (have FA := Sm.mk (And.intro e FA.out); refine Yg ?_; try exact trivial)
end Go.Proofs.YtaffbklkjjmmdaaDoor
