/-
  The walks and the laws that the statement leans on, part 24.
-/
import Derived.Test.YtmbecppmkglmhaaDoorC11
import Derived.Test.YtmbecppmkglmhaaDoorC23
namespace Go.Proofs.YtmbecppmkglmhaaDoor
open Go
set_option linter.unusedVariables false
set_option linter.unusedSimpArgs false
set_option linter.defProp false
def TFWlF :=
  And.intro (And.intro (And.intro (And.intro tyc3 (And.intro zmb3 tyc4)) (And.intro (And.intro zmb4 tyc5) (And.intro zmb5 tyc22))) (And.intro (And.intro elt22 (And.intro mkz22 apT22)) (And.intro (And.intro elk22 zmb22) (And.intro tyc26 mth26_27)))) (And.intro (And.intro (And.intro mth26_26 (And.intro mth26_28 con26)) (And.intro (And.intro zmb26 tyc29) (And.intro zmb29 tyc61))) (And.intro (And.intro Tryd.underlying3 (And.intro Tryd.underlying4 Tryd.underlying5)) (And.intro (And.intro Tryd.underlying22 Tryd.underlying26) (And.intro Tryd.underlying29 Tryd.underlying61))))
theorem Y1WlF {G R : Prop} (r : R) (h : R → G := by intro r; first | (apply WP.region; exact rvc_sound _ _ (Sm.out r)) | exact WP.drawK rfl mixed (by decide +kernel) (Sm.out r) | (apply WP.block; exact r) | (apply WP.skip; exact Yq r) | (apply WP.exit; exact Yq r) | (apply WP.ret; exact Sm.out r) | exact WP.cond rfl (fun _ => r) (fun hg => absurd hg (by decide)) | exact WP.cond rfl (fun hg => absurd hg (by decide)) (fun _ => r) | exact Rt.mk (And.intro (fun _ => Sm.out r) fun hg => absurd hg (by decide)) | exact Rt.mk (And.intro (fun hg => absurd hg (by decide)) fun _ => Sm.out r)) : G := h r
theorem YzWlF {G R : Prop} (r : R) (h : R → G := by intro r; first | (apply ExG.no; exact Sm.out r) | (apply Or.inl; apply ExG.no; exact Sm.out r) | exact Or.inl (And.intro (fun hg => absurd hg (by decide)) (ExG.no (Sm.out r)))) : G := h r
theorem YsWlF0 {P Q : Prop} (q : Q) (h : P = Q := by (try (conv => lhs; simp -dsimp only [ZK, rvc, capA, appA, litL, mkfv, drawF, headN, pureH, stp, dvc, calleeOf, gcall, pev, eff, newB, okd, og, ogs, ogo, ogp, slv, bltv, opd, litv, strip, one, both, putE, St.put, look, gdOf, gdv, picka, pickv, pickw, binv, bini, bins, binb, binp, binq, isSlT, bina, shp, eqCells, unv, convv, nilv, faddv, addp, idxav, idxp, load1, load1m, loadn, loadnm, loadv, hget, hset, hrep, hdel, slicev, slice3v, bnd, shift1, lenv, capv, IntKind.bits, extractv, fieldv, indexv, min2v, max2v, mkiv, tasv, tasz, cellsA, fillA, buildv, stC, oneC, rowMB, intsA, plN, appE, appZ, appC, appS, srcB, appNZ, appNC, VwL, srcC, srcZ, srcM, isBoolT, isPtrT, isSliceT, uOk, Value.oneCell', Nat.reducePow, Int.reducePow, Nat.reduceAdd, Nat.reduceMul, Nat.reduceSub, Nat.reduceLT, Nat.reduceLeDiff, Nat.reduceEqDiff, Nat.reduceBEq, Nat.reduceDiv, Nat.reduceMod, ↓reduceIte, reduceCtorEq, Int.reduceToNat, Int.reduceLT, Int.reduceLE, TFWlF, SeqQ, BlkQ, LoopQ, BodyQ, List.length_nil, FA.out, FR.out])) <;> exact rfl) : P := h.mpr q
structure LyG where
  a : DA
  i : Nat
  z : List Int
  l : DL
set_option maxRecDepth 20000 in
theorem lay_ct {c : Nat} (b : Nat) (a : DA) (l : DL) (hA : AOk c a) (hl : LOk b a l) (i : Nat) (z : List Int) (hi : i ≤ 100000) (hz : z.length ≤ 1000000) (hc : c + (cks a.size z).length ≤ 990) :
    ACt Tryd.prog 61 [pt b 0, iv .i64 (i : Int), .slz .u8 z] (dH b a l) (fun r F' => ∃ q : LS b (lyR a i (cks a.size z)).1, r = iv .i64 (lyR a i (cks a.size z)).2 ∧ F' = dH b (lyR a i (cks a.size z)).1 q.1) := by
  obtain ⟨R, hR⟩ : ∃ R, R = lyR a i (cks a.size z) := ⟨_, rfl⟩
  rw [← hR]
  obtain ⟨s, hs⟩ : ∃ s, a.size = s := ⟨_, rfl⟩
  rw [hs] at hR hc
  have hs1 : 1 ≤ s := by have := hA.s1; omega
  have hs2 : s ≤ 512 := by have := hA.s2; omega
  refine ACt.intro Tryd.func61 rfl (by kernel_rfl) (by simp [Tryd.ntmps61]) (fun cx => ?_)
  simp only [argE, Tryd.ntmps61, Tryd.results61]
  first | (have FRx := FR; clear FRx) | have FR := fr0S
  have FA := Sm.mk (TFWlF)
  repeat' first | (apply Sm.mk; refine Ys ?_) | refine WP.seq fun K hK => ?_ | (apply Ob.mk; exact Yo) | refine And.intro (Ob.out ?_) ?_ | refine Y1WlF ?_ | refine YzWlF ?_ | (refine WP.cond rfl (fun hc => ?_) (fun hc => ?_) <;> (try simp only [ZC, reduceCtorEq, ZD] at hc) <;> (try exact absurd hc (by decide)) <;> (try (exfalso; omega))) | refine Rt.mk (And.intro (fun hg => Sm.out ?_) fun hg => Sm.out ?_) | (refine Nu.mk ?_; first | (fail_if_success have := nb1); intro nb1 | (fail_if_success have := nb2); intro nb2 | (fail_if_success have := nb3); intro nb3 | (fail_if_success have := nb4); intro nb4 | (fail_if_success have := nb5); intro nb5 | (fail_if_success have := nb6); intro nb6 | intro nbz) | (apply Yfr; refine Yf FR fun hFRb FR => ?_) | refine Two.mk ?_ ?_ | (apply Yxc; exact Yx) | refine Cs.mk fun hcs => Sm.out ?_ | go_step | omega | (simp only [maxLen_eq]; omega) | exact trivial
  refine WP.loop (Γ := LyG) (fun g => ⟨[(0, pt b 0), (1, iv .i64 (g.i : Int)), (2, .slz .u8 g.z)], dH b g.a g.l⟩) (fun g => lyR g.a g.i (cks s g.z) = R ∧ g.a.size = s ∧ LOk b g.a g.l ∧ (∃ c, AOk c g.a ∧ c + (cks s g.z).length ≤ 990) ∧ g.i + (cks s g.z).length ≤ 110000 ∧ g.z.length ≤ 1000000) (fun g => g.z.length) ⟨a, i, z, l⟩
    ⟨hR.symm, hs, hl, ⟨c, hA, hc⟩, by simp only; omega, hz⟩ (Sub.of_env [] (pmz _) (by simp [look])) ?_
  clear hR hs hl hA hi hz hc
  intro ⟨a, i, z, l⟩ ⟨hR, hs, hl, ⟨c, hA, hc⟩, hi, hz⟩
  simp only at hR hs hl hA hc hi hz ⊢
  have FR : Sm (¬ ((1 : Nat) = 0)) := Sm.mk Nat.one_ne_zero
  by_cases h0 : z = []
  · subst h0
    have k0 : decide (((0 : Nat) : Int) > 0) = false := by decide
    have cS := sync_d hA hl (by omega)
    rw [cks_nil] at hR
    unfold lyR at hR
    subst hR
    first | (have FRx := FR; clear FRx) | have FR := fr0S
    have FA := Sm.mk (And.intro TFWlF k0)
    repeat' first | (apply Sm.mk; refine YsWlF0 ?_) | refine WP.seq fun K hK => ?_ | (apply Ob.mk; exact Yo) | refine And.intro (Ob.out ?_) ?_ | refine Y1WlF ?_ | (refine CallV.exM (cS) (pmz _) (fun g => Sm.out ?_)) | refine YzWlF ?_ | (refine WP.cond rfl (fun hc => ?_) (fun hc => ?_) <;> (try simp only [ZC, reduceCtorEq, ZD] at hc) <;> (try exact absurd hc (by decide)) <;> (try (exfalso; omega))) | refine Rt.mk (And.intro (fun hg => Sm.out ?_) fun hg => Sm.out ?_) | (refine Nu.mk ?_; first | (fail_if_success have := nb1); intro nb1 | (fail_if_success have := nb2); intro nb2 | (fail_if_success have := nb3); intro nb3 | (fail_if_success have := nb4); intro nb4 | (fail_if_success have := nb5); intro nb5 | (fail_if_success have := nb6); intro nb6 | intro nbz) | (apply Yfr; refine Yf FR fun hFRb FR => ?_) | refine Two.mk ?_ ?_ | (apply Yxc; exact Yx) | refine Cs.mk fun hcs => Sm.out ?_ | go_step | omega | (simp only [maxLen_eq]; omega) | exact trivial
    (refine OutQ.drop _ _ (pmz _) (by simp only [resv, ZK, look, loadv, loadn, loadnm, load1, load1m, hget, ↓reduceIte, Nat.reduceEqDiff, Nat.reduceAdd, Nat.reduceMul, Nat.reduceLeDiff, Nat.reduceLT, reduceCtorEq, TFWlF, FR.out]) ⟨g, (by simp only [resv, resA, ZK, look, loadv, loadn, loadnm, load1, load1m, hget, ↓reduceIte, Nat.reduceEqDiff, Nat.reduceAdd, Nat.reduceMul, Nat.reduceLeDiff, Nat.reduceLT, reduceCtorEq, TFWlF, FR.out]; first | done | rfl), rfl⟩)
  · have hz0 : z.length ≠ 0 := fun h => h0 (List.eq_nil_of_length_eq_zero h)
    have k0 : decide ((z.length : Int) > 0) = true := decide_eq_true (by omega)
    have cZ := size_d b a l
    rw [hs] at cZ
    rw [cks_cons hs1 h0] at hR hc hi
    simp only [List.length_cons] at hc hi
    obtain ⟨k, hk⟩ : ∃ k, k = min z.length s := ⟨_, rfl⟩
    have hmin : (if (s : Int) < (z.length : Int) then (s : Int) else (z.length : Int)) = (k : Int) := by split <;> omega
    have ht : z.take k = z.take s := by rw [hk]; by_cases h : s ≤ z.length; · rw [Nat.min_eq_right h]
                                        · rw [Nat.min_eq_left (by omega), List.take_of_length_le (Nat.le_refl _), List.take_of_length_le (by omega)]
    have hd : z.drop k = z.drop s := by rw [hk]; by_cases h : s ≤ z.length; · rw [Nat.min_eq_right h]
                                        · rw [Nat.min_eq_left (by omega), List.drop_of_length_le (Nat.le_refl _), List.drop_of_length_le (by omega)]
    have q1 : k ≤ z.length := by omega
    have hzd : (z.drop s).length < z.length := by simp only [List.length_drop]; omega
    have htl : z.take z.length = z := List.take_length
    have cW := write_d hA hl (by omega) (i : Int) (z.take s)
    have hA2 := wrA_ok hA (i : Int) (z.take s)
    have hs3 : (wrA a i (z.take s)).size = s := by
      unfold wrA; split; exact hs; split <;> exact hs
    have s1 : IntKind.i64.wrap ((i : Int) + 1) = ((i + 1 : Nat) : Int) := by rw [wrap_i64 (by omega) (by omega)]; omega
    unfold lyR at hR
    obtain ⟨C, hC⟩ : ∃ C, C = wrC a i (z.take s).length := ⟨_, rfl⟩
    rw [← hC] at hR cW
    by_cases hC0 : C = 0
    · have kC : (C != 0) = false := by rw [hC0]; rfl
      rw [if_pos hC0] at hR
      first | (have FRx := FR; clear FRx) | have FR := fr0S
      have FA := Sm.mk (And.intro TFWlF (And.intro k0 (And.intro hmin (And.intro ht (And.intro q1 kC)))))
      repeat' first | (apply Sm.mk; refine Ys ?_) | refine WP.seq fun K hK => ?_ | (apply Ob.mk; exact Yo) | refine And.intro (Ob.out ?_) ?_ | ((fail_if_success (show WP _ _ _ (.region 6 _ _) _ _)); refine Y1WlF ?_) | refine CallV.updM (cZ) (pmz _) (Sm.out ?_) | ((first | refine ExF.up ?_ (cZ) (Sm.out ?_) | refine ExG.up ?_ (fun _ => cZ) (Sm.out ?_) | refine ExG.upJ ?_ (fun _ => cZ) (Sm.out ?_) | refine ExG.upI ?_ (fun _ => cZ) (Ob.out ?_) (Sm.out ?_)); focus (exact ⟨_, (pmz _)⟩)) | (refine CallV.exM (cW) (pmz _) (fun g => Sm.out ?_)) | refine YzWlF ?_ | (refine WP.cond rfl (fun hc => ?_) (fun hc => ?_) <;> (try simp only [ZC, reduceCtorEq, ZD] at hc) <;> (try exact absurd hc (by decide)) <;> (try (exfalso; omega))) | refine Rt.mk (And.intro (fun hg => Sm.out ?_) fun hg => Sm.out ?_) | (refine Nu.mk ?_; first | (fail_if_success have := nb1); intro nb1 | (fail_if_success have := nb2); intro nb2 | (fail_if_success have := nb3); intro nb3 | (fail_if_success have := nb4); intro nb4 | (fail_if_success have := nb5); intro nb5 | (fail_if_success have := nb6); intro nb6 | intro nbz) | (apply Yfr; refine Yf FR fun hFRb FR => ?_) | refine Two.mk ?_ ?_ | (apply Yxc; exact Yx) | refine Cs.mk fun hcs => Sm.out ?_ | go_step | omega | (simp only [maxLen_eq]; omega) | exact trivial
      obtain ⟨l2, hl2⟩ := g
      simp only [List.append_nil]
      first | (have FRx := FR; clear FRx) | have FR := fr0S
      have FA := Sm.mk (And.intro TFWlF (And.intro hd (And.intro htl (And.intro q1 s1))))
      repeat' first | (apply Sm.mk; refine Ys ?_) | refine WP.seq fun K hK => ?_ | (apply Ob.mk; exact Yo) | refine And.intro (Ob.out ?_) ?_ | refine Y1WlF ?_ | refine YzWlF ?_ | (refine WP.cond rfl (fun hc => ?_) (fun hc => ?_) <;> (try simp only [ZC, reduceCtorEq, ZD] at hc) <;> (try exact absurd hc (by decide)) <;> (try (exfalso; omega))) | refine Rt.mk (And.intro (fun hg => Sm.out ?_) fun hg => Sm.out ?_) | (refine Nu.mk ?_; first | (fail_if_success have := nb1); intro nb1 | (fail_if_success have := nb2); intro nb2 | (fail_if_success have := nb3); intro nb3 | (fail_if_success have := nb4); intro nb4 | (fail_if_success have := nb5); intro nb5 | (fail_if_success have := nb6); intro nb6 | intro nbz) | (apply Yfr; refine Yf FR fun hFRb FR => ?_) | refine Two.mk ?_ ?_ | (apply Yxc; exact Yx) | refine Cs.mk fun hcs => Sm.out ?_ | go_step | omega | (simp only [maxLen_eq]; omega) | exact trivial
      exact ⟨⟨wrA a i (z.take s), i + 1, z.drop s, l2⟩, ⟨hR, hs3, hl2, ⟨c + 1, hA2, by simp only; omega⟩, by simp only; omega, by simp only; omega⟩, hzd, Sub.of_env [] (pmz _) (by simp [look, hd, s1])⟩
    · have kC : (C != 0) = true := by simpa using hC0
      rw [if_neg hC0] at hR
      subst hR
      first | (have FRx := FR; clear FRx) | have FR := fr0S
      have FA := Sm.mk (And.intro TFWlF (And.intro k0 (And.intro hmin (And.intro ht (And.intro q1 kC)))))
      repeat' first | (apply Sm.mk; refine Ys ?_) | refine WP.seq fun K hK => ?_ | (apply Ob.mk; exact Yo) | refine And.intro (Ob.out ?_) ?_ | refine Y1WlF ?_ | refine CallV.updM (cZ) (pmz _) (Sm.out ?_) | ((first | refine ExF.up ?_ (cZ) (Sm.out ?_) | refine ExG.up ?_ (fun _ => cZ) (Sm.out ?_) | refine ExG.upJ ?_ (fun _ => cZ) (Sm.out ?_) | refine ExG.upI ?_ (fun _ => cZ) (Ob.out ?_) (Sm.out ?_)); focus (exact ⟨_, (pmz _)⟩)) | (refine CallV.exM (cW) (pmz _) (fun g => Sm.out ?_)) | refine YzWlF ?_ | (refine WP.cond rfl (fun hc => ?_) (fun hc => ?_) <;> (try simp only [ZC, reduceCtorEq, ZD] at hc) <;> (try exact absurd hc (by decide)) <;> (try (exfalso; omega))) | refine Rt.mk (And.intro (fun hg => Sm.out ?_) fun hg => Sm.out ?_) | (refine Nu.mk ?_; first | (fail_if_success have := nb1); intro nb1 | (fail_if_success have := nb2); intro nb2 | (fail_if_success have := nb3); intro nb3 | (fail_if_success have := nb4); intro nb4 | (fail_if_success have := nb5); intro nb5 | (fail_if_success have := nb6); intro nb6 | intro nbz) | (apply Yfr; refine Yf FR fun hFRb FR => ?_) | refine Two.mk ?_ ?_ | (apply Yxc; exact Yx) | refine Cs.mk fun hcs => Sm.out ?_ | go_step | omega | (simp only [maxLen_eq]; omega) | exact trivial
      (refine OutQ.drop _ _ (pmz _) (by simp only [resv, ZK, look, loadv, loadn, loadnm, load1, load1m, hget, ↓reduceIte, Nat.reduceEqDiff, Nat.reduceAdd, Nat.reduceMul, Nat.reduceLeDiff, Nat.reduceLT, reduceCtorEq, TFWlF, FR.out]) ⟨g, (by simp only [resv, resA, ZK, look, loadv, loadn, loadnm, load1, load1m, hget, ↓reduceIte, Nat.reduceEqDiff, Nat.reduceAdd, Nat.reduceMul, Nat.reduceLeDiff, Nat.reduceLT, reduceCtorEq, TFWlF, FR.out]; first | done | rfl), rfl⟩)
def rgV : List Int → Nat → Nat → AV
  | [], _, _ => nl
  | z :: r, x, k => ms x 0 (z :: r).length k
def rgH : List Int → Nat → Nat → Hp
  | [], _, _ => []
  | z :: r, x, k => [(x, .zs .u8 (z :: r) k 5)]
theorem rgV_ne {L : List Int} (h : L ≠ []) (x k : Nat) : rgV L x k = ms x 0 L.length k := by
  cases L with
  | nil => exact absurd rfl h
  | cons z r => rfl
theorem rgH_ne {L : List Int} (h : L ≠ []) (x k : Nat) : rgH L x k = [(x, .zs .u8 L k 5)] := by
  cases L with
  | nil => exact absurd rfl h
  | cons z r => rfl
theorem pm1 (m : Nat × MB) (T : Hp) : (m :: T).Perm (T ++ [m]) := List.perm_append_comm (l₁ := [m]) (l₂ := T)
structure RgG where
  j : Nat
  x : Nat
  k : Nat
set_option maxRecDepth 20000 in
theorem region_ct {c s n : Nat} {T : List Int} (b : Nat) (a : DA) (l : DL) (hA : AOk c a) (hS : Stl s n T a) (hl : LOk b a l) (f m : Nat) (hfm : f + m ≤ n) (hm : 1 ≤ m) :
    ACt Tryd.prog 58 [pt b 0, iv .i64 (f : Int), iv .i64 (m : Int)] (dH b a l) (fun r F' => r = .tup [.slz .u8 ((T.drop (f * s)).take (m * s)), iv .i64 0] ∧ F' = dH b a l) := by
  have hs : a.size = s := hS.s
  have hn : a.n = n := hS.n
  have hn2 := hA.n2
  have hs1 := hA.s1
  have hs2 := hA.s2
  have hfl := flat_len (size := s) a.S (by rw [← hs]; exact hA.Sr)
  rw [hS.T, hA.Sl, hn] at hfl
  have hms : m * s ≤ 400 * 512 := Nat.mul_le_mul (by omega) (by omega)
  have hrow := fun j (hj : j < m) => flat_get (s := s) (L := a.S) (i := f + j) (by rw [← hs]; exact hA.Sr) (by rw [hA.Sl]; omega)
  have cR := fun j (hj : j < m) => readok_d b a l hA hl (f + j) (by omega) hS.dk
  rw [hS.T] at hrow
  refine ACt.intro Tryd.func58 rfl (by kernel_rfl) (by simp [Tryd.ntmps58]) (fun cx => ?_)
  simp only [argE, Tryd.ntmps58, Tryd.results58]
  first | (have FRx := FR; clear FRx) | have FR := fr0S
  have FA := Sm.mk (TFWlF)
  repeat' first | (apply Sm.mk; refine Ys ?_) | refine WP.seq fun K hK => ?_ | (apply Ob.mk; exact Yo) | refine And.intro (Ob.out ?_) ?_ | refine Y1WlF ?_ | refine YzWlF ?_ | (refine WP.cond rfl (fun hc => ?_) (fun hc => ?_) <;> (try simp only [ZC, reduceCtorEq, ZD] at hc) <;> (try exact absurd hc (by decide)) <;> (try (exfalso; omega))) | refine Rt.mk (And.intro (fun hg => Sm.out ?_) fun hg => Sm.out ?_) | (refine Nu.mk ?_; first | (fail_if_success have := nb1); intro nb1 | (fail_if_success have := nb2); intro nb2 | (fail_if_success have := nb3); intro nb3 | (fail_if_success have := nb4); intro nb4 | (fail_if_success have := nb5); intro nb5 | (fail_if_success have := nb6); intro nb6 | intro nbz) | (apply Yfr; refine Yf FR fun hFRb FR => ?_) | refine Two.mk ?_ ?_ | (apply Yxc; exact Yx) | refine Cs.mk fun hcs => Sm.out ?_ | go_step | omega | (simp only [maxLen_eq]; omega) | exact trivial
  refine WP.loop (Γ := RgG) (fun g => ⟨[(13, iv .i64 (g.j : Int)), (12, iv .i64 (m : Int)), (8, rgV ((T.drop (f * s)).take (g.j * s)) g.x g.k), (0, pt b 0), (1, iv .i64 (f : Int))], rgH ((T.drop (f * s)).take (g.j * s)) g.x g.k ++ dH b a l⟩)
    (fun g => g.j ≤ m ∧ g.j * s ≤ g.k ∧ g.k ≤ 9223372036854775807) (fun g => m - g.j) ⟨0, 0, 0⟩ ⟨Nat.zero_le _, by simp, by simp⟩ (Sub.of_env [] (by simp [rgH]) (by simp [look, rgV])) ?_
  intro ⟨j, x, k⟩ ⟨hj, hk1, hk2⟩
  simp only at hj hk1 hk2 ⊢
  have FR : Sm (¬ ((1 : Nat) = 0)) := Sm.mk Nat.one_ne_zero
  have acl : ((T.drop (f * s)).take (j * s)).length = j * s := by
    have h1 := Nat.mul_le_mul_right s (show f + j ≤ n by omega)
    rw [Nat.add_mul] at h1
    rw [List.length_take, List.length_drop]; omega
  by_cases hjm : j < m
  · have kj : decide ((j : Int) < (m : Int)) = true := decide_eq_true (by omega)
    have w1 : IntKind.i64.wrap ((f : Int) + (j : Int)) = ((f + j : Nat) : Int) := by rw [wrap_i64 (by omega) (by omega)]; omega
    have w2 : IntKind.i64.wrap ((j : Int) + 1) = ((j + 1 : Nat) : Int) := by rw [wrap_i64 (by omega) (by omega)]; omega
    have cR := cR j hjm
    rw [hrow j hjm] at cR
    have ac2 : (T.drop (f * s)).take ((j + 1) * s) = (T.drop (f * s)).take (j * s) ++ (T.drop ((f + j) * s)).take s := by
      rw [Nat.add_mul, Nat.one_mul, List.take_add, List.drop_drop, Nat.add_mul f j]
    have rl : ((T.drop ((f + j) * s)).take s).length = s := by
      have h1 := Nat.mul_le_mul_right s (show f + j + 1 ≤ n by omega)
      rw [Nat.add_mul, Nat.one_mul] at h1
      rw [List.length_take, List.length_drop]; omega
    have jms : j * s + s ≤ m * s := by
      have := Nat.mul_le_mul_right s (show j + 1 ≤ m by omega)
      rwa [Nat.add_mul, Nat.one_mul] at this
    obtain ⟨Y, hY⟩ : ∃ Y, Y = (T.drop ((f + j) * s)).take s := ⟨_, rfl⟩
    rw [← hY] at cR ac2 rl
    obtain ⟨A, hA⟩ : ∃ A, A = (T.drop (f * s)).take (j * s) := ⟨_, rfl⟩
    rw [← hA] at ac2 acl ⊢
    clear hrow hA hY
    have k00 : ((0 : Int) != 0) = false := rfl
    have js1 : (j + 1) * s = j * s + s := by rw [Nat.add_mul, Nat.one_mul]
    by_cases hA0 : A = []
    · subst hA0
      rw [show rgV [] x k = nl from rfl, show rgH [] x k = [] from rfl, List.nil_append]
      have acl0 : j * s = 0 := by simpa using acl.symm
      have hY1 : Y ≠ [] := fun h => by rw [h] at rl; simp at rl; omega
      have r0 : 0 < Y.length := by rw [rl]; omega
      first | (have FRx := FR; clear FRx) | have FR := fr0S
      have FA := Sm.mk (And.intro TFWlF (And.intro kj (And.intro w1 (And.intro w2 (And.intro k00 (And.intro rl r0))))))
      repeat' first | (apply Sm.mk; refine Ys ?_) | refine WP.seq fun K hK => ?_ | (apply Ob.mk; exact Yo) | refine And.intro (Ob.out ?_) ?_ | refine Y1WlF ?_ | refine CallV.updM (cR) (pmz _) (Sm.out ?_) | ((first | refine ExF.up ?_ (cR) (Sm.out ?_) | refine ExG.up ?_ (fun _ => cR) (Sm.out ?_) | refine ExG.upJ ?_ (fun _ => cR) (Sm.out ?_) | refine ExG.upI ?_ (fun _ => cR) (Ob.out ?_) (Sm.out ?_)); focus (exact ⟨_, (pmz _)⟩)) | refine YzWlF ?_ | (refine WP.cond rfl (fun hc => ?_) (fun hc => ?_) <;> (try simp only [ZC, reduceCtorEq, ZD] at hc) <;> (try exact absurd hc (by decide)) <;> (try (exfalso; omega))) | refine Rt.mk (And.intro (fun hg => Sm.out ?_) fun hg => Sm.out ?_) | (refine Nu.mk ?_; first | (fail_if_success have := nb1); intro nb1 | (fail_if_success have := nb2); intro nb2 | (fail_if_success have := nb3); intro nb3 | (fail_if_success have := nb4); intro nb4 | (fail_if_success have := nb5); intro nb5 | (fail_if_success have := nb6); intro nb6 | intro nbz) | (apply Yfr; refine Yf FR fun hFRb FR => ?_) | refine Two.mk ?_ ?_ | (apply Yxc; exact Yx) | refine Cs.mk fun hcs => Sm.out ?_ | go_step | omega | (simp only [maxLen_eq]; omega) | exact trivial
      have e1 := rgV_ne hY1 nb1 nb2
      have e2 := rgH_ne hY1 nb1 nb2
      rw [List.nil_append] at ac2
      exact ⟨⟨j + 1, nb1, nb2⟩, ⟨by simp only; omega, by simp only; omega, by simp only; omega⟩, by simp only; omega, Sub.of_env [] (by simp [ac2, e2]) (by simp [look, ac2, e1, rl])⟩
    · rw [rgV_ne hA0, rgH_ne hA0]
      simp only [List.cons_append, List.nil_append]
      have cR2 := cR.lookU (pm1 (x, .zs .u8 A k 5) (dH b a l))
      have hA1 : A ++ Y ≠ [] := by simp [hA0]
      first | (have FRx := FR; clear FRx) | have FR := fr0S
      have FA := Sm.mk (And.intro TFWlF (And.intro kj (And.intro w1 (And.intro w2 (And.intro k00 (And.intro rl (And.intro acl (And.intro hk1 hk2))))))))
      repeat' first | (apply Sm.mk; refine Ys ?_) | refine WP.seq fun K hK => ?_ | (apply Ob.mk; exact Yo) | refine And.intro (Ob.out ?_) ?_ | refine Y1WlF ?_ | refine CallV.updM (cR2) (pmz _) (Sm.out ?_) | ((first | refine ExF.up ?_ (cR2) (Sm.out ?_) | refine ExG.up ?_ (fun _ => cR2) (Sm.out ?_) | refine ExG.upJ ?_ (fun _ => cR2) (Sm.out ?_) | refine ExG.upI ?_ (fun _ => cR2) (Ob.out ?_) (Sm.out ?_)); focus (exact ⟨_, (pmz _)⟩)) | refine YzWlF ?_ | (refine WP.cond rfl (fun hc => ?_) (fun hc => ?_) <;> (try simp only [ZC, reduceCtorEq, ZD] at hc) <;> (try exact absurd hc (by decide)) <;> (try (exfalso; omega))) | refine Rt.mk (And.intro (fun hg => Sm.out ?_) fun hg => Sm.out ?_) | (refine Nu.mk ?_; first | (fail_if_success have := nb1); intro nb1 | (fail_if_success have := nb2); intro nb2 | (fail_if_success have := nb3); intro nb3 | (fail_if_success have := nb4); intro nb4 | (fail_if_success have := nb5); intro nb5 | (fail_if_success have := nb6); intro nb6 | intro nbz) | (apply Yfr; refine Yf FR fun hFRb FR => ?_) | refine Two.mk ?_ ?_ | (apply Yxc; exact Yx) | refine Cs.mk fun hcs => Sm.out ?_ | go_step | omega | (simp only [maxLen_eq]; omega) | exact trivial
      have e1 := rgV_ne hA1 nb1 nb2
      have e2 := rgH_ne hA1 nb1 nb2
      have e3 : (A ++ Y).length = j * s + s := by rw [List.length_append, acl, rl]
      rw [e3] at e1
      exact ⟨⟨j + 1, nb1, nb2⟩, ⟨by simp only; omega, by simp only; omega, by simp only; omega⟩, by simp only; omega, Sub.of_env [] (by simp [ac2, e2]) (by simp [look, ac2, e1])⟩
  · obtain rfl : j = m := by omega
    have kj : decide ((j : Int) < (j : Int)) = false := by simp
    clear hrow cR
    have hA1 : (T.drop (f * s)).take (j * s) ≠ [] := fun h => by
      rw [h] at acl
      have h2 : 1 * 1 ≤ j * s := Nat.mul_le_mul hm (by omega)
      rw [← acl] at h2
      simp at h2
    obtain ⟨A, hA⟩ : ∃ A, A = (T.drop (f * s)).take (j * s) := ⟨_, rfl⟩
    rw [← hA] at acl hA1 ⊢
    rw [rgV_ne hA1, rgH_ne hA1]
    simp only [List.cons_append, List.nil_append]
    have ht : A.take (j * s) = A := List.take_of_length_le (by omega)
    first | (have FRx := FR; clear FRx) | have FR := fr0S
    have FA := Sm.mk (And.intro TFWlF kj)
    repeat' first | (apply Sm.mk; refine Ys ?_) | refine WP.seq fun K hK => ?_ | (apply Ob.mk; exact Yo) | refine And.intro (Ob.out ?_) ?_ | refine Y1WlF ?_ | refine YzWlF ?_ | (refine WP.cond rfl (fun hc => ?_) (fun hc => ?_) <;> (try simp only [ZC, reduceCtorEq, ZD] at hc) <;> (try exact absurd hc (by decide)) <;> (try (exfalso; omega))) | refine Rt.mk (And.intro (fun hg => Sm.out ?_) fun hg => Sm.out ?_) | (refine Nu.mk ?_; first | (fail_if_success have := nb1); intro nb1 | (fail_if_success have := nb2); intro nb2 | (fail_if_success have := nb3); intro nb3 | (fail_if_success have := nb4); intro nb4 | (fail_if_success have := nb5); intro nb5 | (fail_if_success have := nb6); intro nb6 | intro nbz) | (apply Yfr; refine Yf FR fun hFRb FR => ?_) | refine Two.mk ?_ ?_ | (apply Yxc; exact Yx) | refine Cs.mk fun hcs => Sm.out ?_ | go_step | omega | (simp only [maxLen_eq]; omega) | exact trivial
    (refine OutQ.wk (Wk.freeze (x) (by simp only [ZK, rvc, capA, appA, litL, mkfv, drawF, headN, pureH, stp, dvc, calleeOf, gcall, pev, eff, newB, okd, og, ogs, ogo, ogp, slv, bltv, opd, litv, strip, one, both, putE, St.put, look, gdOf, gdv, picka, pickv, pickw, binv, bini, bins, binb, binp, binq, isSlT, bina, shp, eqCells, unv, convv, nilv, faddv, addp, idxav, idxp, load1, load1m, loadn, loadnm, loadv, hget, hset, hrep, hdel, slicev, slice3v, bnd, shift1, lenv, capv, IntKind.bits, extractv, fieldv, indexv, min2v, max2v, mkiv, tasv, tasz, cellsA, fillA, buildv, stC, oneC, rowMB, intsA, plN, appE, appZ, appC, appS, srcB, appNZ, appNC, VwL, srcC, srcZ, srcM, isBoolT, isPtrT, isSliceT, uOk, Value.oneCell', Nat.reducePow, Int.reducePow, Nat.reduceAdd, Nat.reduceMul, Nat.reduceSub, Nat.reduceLT, Nat.reduceLeDiff, Nat.reduceEqDiff, Nat.reduceBEq, Nat.reduceDiv, Nat.reduceMod, ↓reduceIte, reduceCtorEq, Int.reduceToNat, Int.reduceLT, Int.reduceLE, TFWlF, SeqQ, BlkQ, LoopQ, BodyQ, hk1, hk2, acl, ht, Nat.le_refl, FR.out]; first | done | rfl)) ?_; simp only [frzE, frz, ZK, rvc, capA, appA, litL, mkfv, drawF, headN, pureH, stp, dvc, calleeOf, gcall, pev, eff, newB, okd, og, ogs, ogo, ogp, slv, bltv, opd, litv, strip, one, both, putE, St.put, look, gdOf, gdv, picka, pickv, pickw, binv, bini, bins, binb, binp, binq, isSlT, bina, shp, eqCells, unv, convv, nilv, faddv, addp, idxav, idxp, load1, load1m, loadn, loadnm, loadv, hget, hset, hrep, hdel, slicev, slice3v, bnd, shift1, lenv, capv, IntKind.bits, extractv, fieldv, indexv, min2v, max2v, mkiv, tasv, tasz, cellsA, fillA, buildv, stC, oneC, rowMB, intsA, plN, appE, appZ, appC, appS, srcB, appNZ, appNC, VwL, srcC, srcZ, srcM, isBoolT, isPtrT, isSliceT, uOk, Value.oneCell', Nat.reducePow, Int.reducePow, Nat.reduceAdd, Nat.reduceMul, Nat.reduceSub, Nat.reduceLT, Nat.reduceLeDiff, Nat.reduceEqDiff, Nat.reduceBEq, Nat.reduceDiv, Nat.reduceMod, ↓reduceIte, reduceCtorEq, Int.reduceToNat, Int.reduceLT, Int.reduceLE, TFWlF, SeqQ, BlkQ, LoopQ, BodyQ, hk1, hk2, acl, ht, Nat.le_refl, FR.out])
    (refine OutQ.drop _ _ (pmz _) (by simp only [resv, ZK, look, loadv, loadn, loadnm, load1, load1m, hget, ↓reduceIte, Nat.reduceEqDiff, Nat.reduceAdd, Nat.reduceMul, Nat.reduceLeDiff, Nat.reduceLT, reduceCtorEq, TFWlF, FR.out, hA]) ⟨(by simp only [resv, resA, ZK, look, loadv, loadn, loadnm, load1, load1m, hget, ↓reduceIte, Nat.reduceEqDiff, Nat.reduceAdd, Nat.reduceMul, Nat.reduceLeDiff, Nat.reduceLT, reduceCtorEq, TFWlF, FR.out, hA]; first | done | rfl), rfl⟩)
end Go.Proofs.YtmbecppmkglmhaaDoor
