/-
  The walks and the laws that the statement leans on, part 38.
-/
import Derived.Test.YtaffbklkjjmmdaaDoorC9
import Derived.Test.YtaffbklkjjmmdaaDoorC37
namespace Go.Proofs.YtaffbklkjjmmdaaDoor
open Go
set_option linter.unusedVariables false
set_option linter.unusedSimpArgs false
set_option linter.defProp false
def TFHuVA :=
  And.intro (And.intro (And.intro (And.intro (And.intro tyc0 tyc3) (And.intro zmb3 (And.intro tyc4 zmb4))) (And.intro (And.intro tyc22 elt22) (And.intro mkz22 (And.intro mkc22 apT22)))) (And.intro (And.intro (And.intro elk22 zmb22) (And.intro tyc32 (And.intro foff32_0 fpart32_0))) (And.intro (And.intro foff32_1 (And.intro fpart32_1 foff32_2)) (And.intro fpart32_2 (And.intro foff32_3 fpart32_3))))) (And.intro (And.intro (And.intro (And.intro foff32_4 fpart32_4) (And.intro fe32 (And.intro zmb32 bldT32))) (And.intro (And.intro tyc62 zmb62) (And.intro tyc104 (And.intro zmb104 tyc128)))) (And.intro (And.intro (And.intro zmb128 tyc135) (And.intro Tryd.underlying0 (And.intro Tryd.underlying3 Tryd.underlying4))) (And.intro (And.intro Tryd.underlying22 (And.intro Tryd.underlying32 Tryd.underlying62)) (And.intro Tryd.underlying104 (And.intro Tryd.underlying128 Tryd.underlying135)))))
theorem Y1HuVA {G R : Prop} (r : R) (h : R → G := by intro r; first | (apply WP.region; exact rvc_sound _ _ (Sm.out r)) | exact WP.drawK rfl mixed (by decide +kernel) (Sm.out r) | (apply WP.block; exact r) | (apply WP.skip; exact Yq r) | (apply WP.exit; exact Yq r) | (apply WP.ret; exact Sm.out r) | exact WP.cond rfl (fun _ => r) (fun hg => absurd hg (by decide)) | exact WP.cond rfl (fun hg => absurd hg (by decide)) (fun _ => r) | exact Rt.mk (And.intro (fun _ => Sm.out r) fun hg => absurd hg (by decide)) | exact Rt.mk (And.intro (fun hg => absurd hg (by decide)) fun _ => Sm.out r)) : G := h r
theorem YzHuVA {G R : Prop} (r : R) (h : R → G := by intro r; first | (apply ExG.no; exact Sm.out r) | (apply Or.inl; apply ExG.no; exact Sm.out r) | exact Or.inl (And.intro (fun hg => absurd hg (by decide)) (ExG.no (Sm.out r)))) : G := h r
structure O1 where
  b : Nat
  s : Int
set_option maxHeartbeats 4000000 in
theorem med_ct (D : List Sl) (x n k w a b c lo hi : Nat) (s : Int) (hn : D.length = n) (hl : n ≤ 100000) (hk : n ≤ k ∧ k ≤ 9223372036854775807) (hf : ∀ e ∈ D, fb e) (hhi : hi ≤ n) (ha : lo ≤ a ∧ a < hi) (hb : lo ≤ b ∧ b < hi) (hc : lo ≤ c ∧ c < hi) (hs : 0 ≤ s ∧ s ≤ 900) (hxw : x ≠ w ∧ w ≠ x) :
    ACt Tryd.prog 103 [ms x 0 n k, iv .i64 (a : Int), iv .i64 (b : Int), iv .i64 (c : Int), pt w 0, fCm] [(x, .cells (scs D) (k * 5) 32), (w, .cells [iv .i64 s] 1 3)]
      (fun r F' => ∃ g : O1, ((lo ≤ g.b ∧ g.b < hi) ∧ 0 ≤ g.s ∧ g.s ≤ s + 3) ∧ r = iv .i64 (g.b : Int) ∧ F' = [(x, .cells (scs D) (k * 5) 32), (w, .cells [iv .i64 g.s] 1 3)]) := by
  have cO := fun (a b : Nat) (s : Int) ha hb hs => ACt.sub (ord_ct D x n k w a b lo hi s hn hl hk hf hhi ha hb hs hxw)
  obtain ⟨C, hC⟩ : ∃ C, C = scs D := ⟨_, rfl⟩
  simp only [← hC] at cO ⊢
  clear hC hf
  have c1 := cO a b s ha hb ⟨hs.1, by omega⟩
  refine ACt.intro Tryd.func103 rfl (by kernel_rfl) (by simp [Tryd.ntmps103]) (fun cx => ?_)
  simp only [argE, Tryd.ntmps103, Tryd.results103]
  first | (have FRx := FR; clear FRx) | have FR := fr0S
  have FA := Sm.mk (And.intro TFHuVA hxw)
  repeat' first | (apply Sm.mk; refine Ys ?_) | refine WP.seq fun K hK => ?_ | (apply Ob.mk; exact Yo) | refine And.intro (Ob.out ?_) ?_ | ((fail_if_success (show WP _ _ _ (.region 2 _ _) _ _)); refine Y1HuVA ?_) | (refine CallV.ex (F := [_, _]) (perm2 (by simp only [hget, hdel, ↓reduceIte, FR.out, hxw]; first | done | rfl) (by simp only [hget, hdel, ↓reduceIte, FR.out, hxw]; first | done | rfl)) (c1) (fun g => Sm.out ?_)) | refine YzHuVA ?_ | (refine WP.cond rfl (fun hc => ?_) (fun hc => ?_) <;> (try simp only [ZC, reduceCtorEq, ZD] at hc) <;> (try exact absurd hc (by decide)) <;> (try (exfalso; omega))) | refine Rt.mk (And.intro (fun hg => Sm.out ?_) fun hg => Sm.out ?_) | (refine Nu.mk ?_; first | (fail_if_success have := nb1); intro nb1 | (fail_if_success have := nb2); intro nb2 | (fail_if_success have := nb3); intro nb3 | (fail_if_success have := nb4); intro nb4 | intro nbz) | (apply Yfr; refine Yf FR fun hFRb FR => ?_) | refine Two.mk ?_ ?_ | (apply Yxc; exact Yx) | refine Cs.mk fun hcs => Sm.out ?_ | go_step | omega | (simp only [maxLen_eq]; omega) | exact trivial
  obtain ⟨⟨a1, b1, s1⟩, h1, h2, h3, h4⟩ := g
  simp only at h1 h2 h3 h4 ⊢
  clear c1
  have c2 := cO b1 c s1 h2 hc ⟨h3, by omega⟩
  first | (have FRx := FR; clear FRx) | have FR := fr0S
  have FA := Sm.mk (And.intro TFHuVA hxw)
  repeat' first | (apply Sm.mk; refine Ys ?_) | refine WP.seq fun K hK => ?_ | (apply Ob.mk; exact Yo) | refine And.intro (Ob.out ?_) ?_ | ((fail_if_success (show WP _ _ _ (.region 3 _ _) _ _)); refine Y1HuVA ?_) | (refine CallV.ex (F := [_, _]) (perm2 (by simp only [hget, hdel, ↓reduceIte, FR.out, hxw]; first | done | rfl) (by simp only [hget, hdel, ↓reduceIte, FR.out, hxw]; first | done | rfl)) (c2) (fun g => Sm.out ?_)) | refine YzHuVA ?_ | (refine WP.cond rfl (fun hc => ?_) (fun hc => ?_) <;> (try simp only [ZC, reduceCtorEq, ZD] at hc) <;> (try exact absurd hc (by decide)) <;> (try (exfalso; omega))) | refine Rt.mk (And.intro (fun hg => Sm.out ?_) fun hg => Sm.out ?_) | (refine Nu.mk ?_; first | (fail_if_success have := nb1); intro nb1 | (fail_if_success have := nb2); intro nb2 | (fail_if_success have := nb3); intro nb3 | (fail_if_success have := nb4); intro nb4 | intro nbz) | (apply Yfr; refine Yf FR fun hFRb FR => ?_) | refine Two.mk ?_ ?_ | (apply Yxc; exact Yx) | refine Cs.mk fun hcs => Sm.out ?_ | go_step | omega | (simp only [maxLen_eq]; omega) | exact trivial
  obtain ⟨⟨b2, c2', s2⟩, h5, h6, h7, h8⟩ := g
  simp only at h5 h6 h7 h8 ⊢
  clear c2
  have c3 := cO a1 b2 s2 h1 h5 ⟨h7, by omega⟩
  first | (have FRx := FR; clear FRx) | have FR := fr0S
  have FA := Sm.mk (And.intro TFHuVA hxw)
  repeat' first | (apply Sm.mk; refine Ys ?_) | refine WP.seq fun K hK => ?_ | (apply Ob.mk; exact Yo) | refine And.intro (Ob.out ?_) ?_ | refine Y1HuVA ?_ | (refine CallV.ex (F := [_, _]) (perm2 (by simp only [hget, hdel, ↓reduceIte, FR.out, hxw]; first | done | rfl) (by simp only [hget, hdel, ↓reduceIte, FR.out, hxw]; first | done | rfl)) (c3) (fun g => Sm.out ?_)) | refine YzHuVA ?_ | (refine WP.cond rfl (fun hc => ?_) (fun hc => ?_) <;> (try simp only [ZC, reduceCtorEq, ZD] at hc) <;> (try exact absurd hc (by decide)) <;> (try (exfalso; omega))) | refine Rt.mk (And.intro (fun hg => Sm.out ?_) fun hg => Sm.out ?_) | (refine Nu.mk ?_; first | (fail_if_success have := nb1); intro nb1 | (fail_if_success have := nb2); intro nb2 | (fail_if_success have := nb3); intro nb3 | (fail_if_success have := nb4); intro nb4 | intro nbz) | (apply Yfr; refine Yf FR fun hFRb FR => ?_) | refine Two.mk ?_ ?_ | (apply Yxc; exact Yx) | refine Cs.mk fun hcs => Sm.out ?_ | go_step | omega | (simp only [maxLen_eq]; omega) | exact trivial
  obtain ⟨⟨a3, b3, s3⟩, h9, h10, h11, h12⟩ := g
  simp only at h9 h10 h11 h12 ⊢
  (refine OutQ.drop _ _ (perm2 (by simp only [hget, hdel, ↓reduceIte, if_true, if_false, FR.out, hxw]; first | done | rfl) (by simp only [hget, hdel, ↓reduceIte, if_true, if_false, FR.out, hxw]; first | done | rfl)) (by simp only [resv, ZK, look, loadv, loadn, loadnm, load1, load1m, hget, ↓reduceIte, Nat.reduceEqDiff, Nat.reduceAdd, Nat.reduceMul, Nat.reduceLeDiff, Nat.reduceLT, reduceCtorEq, TFHuVA, FR.out, hxw]) ⟨⟨b3, s3⟩, ⟨h10, h11, by simp only; omega⟩, (by simp only [resv, resA, ZK, look, loadv, loadn, loadnm, load1, load1m, hget, ↓reduceIte, Nat.reduceEqDiff, Nat.reduceAdd, Nat.reduceMul, Nat.reduceLeDiff, Nat.reduceLT, reduceCtorEq, TFHuVA, FR.out, hxw]; first | done | rfl), rfl⟩)
structure Pv where
  p : Nat
  h : Int
set_option maxHeartbeats 4000000 in
theorem piv_ct (D : List Sl) (x n k a b : Nat) (hn : D.length = n) (hl : n ≤ 40) (hk : n ≤ k ∧ k ≤ 9223372036854775807) (hf : ∀ e ∈ D, fb e) (hb : b ≤ n) (hab : a + 8 ≤ b) :
    ACt Tryd.prog 82 [ms x 0 n k, iv .i64 (a : Int), iv .i64 (b : Int), fCm] [(x, .cells (scs D) (k * 5) 32)]
      (fun r F' => ∃ g : Pv, ((a ≤ g.p ∧ g.p < b) ∧ (g.h = 0 ∨ g.h = 1)) ∧ r = .tup [iv .i64 (g.p : Int), iv .i64 g.h] ∧ F' = [(x, .cells (scs D) (k * 5) 32)]) := by
  obtain ⟨m, hm⟩ : ∃ m, m = b - a := ⟨_, rfl⟩
  obtain ⟨q, hq⟩ : ∃ q, q = m / 4 := ⟨_, rfl⟩
  have cM := fun (w : Nat) hw => ACt.sub (med_ct D x n k w (a + q) (a + q * 2) (a + q * 3) a b 0 hn (by omega) hk hf hb (by omega) (by omega) (by omega) (by omega) hw)
  obtain ⟨C, hC⟩ : ∃ C, C = scs D := ⟨_, rfl⟩
  simp only [← hC] at cM ⊢
  clear hC hf
  have w1 : IntKind.i64.wrap ((b : Int) - (a : Int)) = (m : Int) := by rw [wrap_i64 (by omega) (by omega)]; omega
  have k8 : decide ((m : Int) ≥ 8) = true := decide_eq_true (by omega)
  have k50 : decide ((m : Int) ≥ 50) = false := decide_eq_false (by omega)
  refine ACt.intro Tryd.func82 rfl (by kernel_rfl) (by simp [Tryd.ntmps82]) (fun cx => ?_)
  simp only [argE, Tryd.ntmps82, Tryd.results82]
  have d1 : ((m : Int)).tdiv 4 = (q : Int) := by rw [Int.tdiv_eq_ediv_of_nonneg (by omega)]; omega
  have w4 : IntKind.i64.wrap (q : Int) = (q : Int) := wrap_i64 (by omega) (by omega)
  have w5 : IntKind.i64.wrap ((q : Int) * 1) = (q : Int) := by rw [wrap_i64 (by omega) (by omega)]; omega
  have w6 : IntKind.i64.wrap ((q : Int) * 2) = (q : Int) * 2 := wrap_i64 (by omega) (by omega)
  have w7 : IntKind.i64.wrap ((q : Int) * 3) = (q : Int) * 3 := wrap_i64 (by omega) (by omega)
  have j1 : IntKind.i64.wrap ((a : Int) + (q : Int)) = ((a + q : Nat) : Int) := by rw [wrap_i64 (by omega) (by omega)]; omega
  have j2 : IntKind.i64.wrap ((a : Int) + (q : Int) * 2) = ((a + q * 2 : Nat) : Int) := by rw [wrap_i64 (by omega) (by omega)]; omega
  have j3 : IntKind.i64.wrap ((a : Int) + (q : Int) * 3) = ((a + q * 3 : Nat) : Int) := by rw [wrap_i64 (by omega) (by omega)]; omega
  first | (have FRx := FR; clear FRx) | have FR := fr0S
  have FA := Sm.mk (And.intro TFHuVA (And.intro w1 (And.intro k8 (And.intro k50 (And.intro d1 (And.intro w4 (And.intro w5 (And.intro w6 (And.intro w7 (And.intro j1 (And.intro j2 j3)))))))))))
  repeat' first | (apply Sm.mk; refine Ys ?_) | refine WP.seq fun K hK => ?_ | (apply Ob.mk; exact Yo) | refine And.intro (Ob.out ?_) ?_ | ((fail_if_success (show WP _ _ _ (.region 11 _ _) _ _)); refine Y1HuVA ?_) | refine YzHuVA ?_ | (refine WP.cond rfl (fun hc => ?_) (fun hc => ?_) <;> (try simp only [ZC, reduceCtorEq, ZD] at hc) <;> (try exact absurd hc (by decide)) <;> (try (exfalso; omega))) | refine Rt.mk (And.intro (fun hg => Sm.out ?_) fun hg => Sm.out ?_) | (refine Nu.mk ?_; first | (fail_if_success have := nb1); intro nb1 | (fail_if_success have := nb2); intro nb2 | (fail_if_success have := nb3); intro nb3 | (fail_if_success have := nb4); intro nb4 | intro nbz) | (apply Yfr; refine Yf FR fun hFRb FR => ?_) | refine Two.mk ?_ ?_ | (apply Yxc; exact Yx) | refine Cs.mk fun hcs => Sm.out ?_ | go_step | omega | (simp only [maxLen_eq]; omega) | exact trivial
  have hw : x ≠ nb1 ∧ nb1 ≠ x := by simp [FR.out]
  have c1 := cM nb1 hw
  first | (have FRx := FR; clear FRx) | have FR := fr0S
  have FA := Sm.mk (And.intro TFHuVA hw)
  repeat' first | (apply Sm.mk; refine Ys ?_) | refine WP.seq fun K hK => ?_ | (apply Ob.mk; exact Yo) | refine And.intro (Ob.out ?_) ?_ | ((fail_if_success (show WP _ _ _ (.region 12 _ _) _ _)); refine Y1HuVA ?_) | (refine CallV.ex (F := [_, _]) (perm2 (by simp only [hget, hdel, ↓reduceIte, FR.out, hw]; first | done | rfl) (by simp only [hget, hdel, ↓reduceIte, FR.out, hw]; first | done | rfl)) (c1) (fun g => Sm.out ?_)) | refine YzHuVA ?_ | (refine WP.cond rfl (fun hc => ?_) (fun hc => ?_) <;> (try simp only [ZC, reduceCtorEq, ZD] at hc) <;> (try exact absurd hc (by decide)) <;> (try (exfalso; omega))) | refine Rt.mk (And.intro (fun hg => Sm.out ?_) fun hg => Sm.out ?_) | (refine Nu.mk ?_; first | (fail_if_success have := nb1); intro nb1 | (fail_if_success have := nb2); intro nb2 | (fail_if_success have := nb3); intro nb3 | (fail_if_success have := nb4); intro nb4 | intro nbz) | (apply Yfr; refine Yf FR fun hFRb FR => ?_) | refine Two.mk ?_ ?_ | (apply Yxc; exact Yx) | refine Cs.mk fun hcs => Sm.out ?_ | go_step | omega | (simp only [maxLen_eq]; omega) | exact trivial
  obtain ⟨⟨p, s⟩, h1, h2, h3⟩ := g
  simp only at h1 h2 h3 ⊢
  have e2 : (s == 12) = false := beq_eq_false_iff_ne.2 (by omega)
  obtain ⟨z, hz⟩ : ∃ z, (s == 0) = z := ⟨_, rfl⟩
  cases z with
  | true =>
    first | (have FRx := FR; clear FRx) | have FR := fr0S
    have FA := Sm.mk (And.intro TFHuVA (And.intro hw (And.intro hz e2)))
    repeat' first | (apply Sm.mk; refine Ys ?_) | refine WP.seq fun K hK => ?_ | (apply Ob.mk; exact Yo) | refine And.intro (Ob.out ?_) ?_ | refine Y1HuVA ?_ | refine YzHuVA ?_ | (refine WP.cond rfl (fun hc => ?_) (fun hc => ?_) <;> (try simp only [ZC, reduceCtorEq, ZD] at hc) <;> (try exact absurd hc (by decide)) <;> (try (exfalso; omega))) | refine Rt.mk (And.intro (fun hg => Sm.out ?_) fun hg => Sm.out ?_) | (refine Nu.mk ?_; first | (fail_if_success have := nb1); intro nb1 | (fail_if_success have := nb2); intro nb2 | (fail_if_success have := nb3); intro nb3 | (fail_if_success have := nb4); intro nb4 | intro nbz) | (apply Yfr; refine Yf FR fun hFRb FR => ?_) | refine Two.mk ?_ ?_ | (apply Yxc; exact Yx) | refine Cs.mk fun hcs => Sm.out ?_ | go_step | omega | (simp only [maxLen_eq]; omega) | exact trivial
    (refine OutQ.drop _ _ (perm1 (by simp only [hget, hdel, ↓reduceIte, if_true, if_false, FR.out, hw]; first | done | rfl)) (by simp only [resv, ZK, look, loadv, loadn, loadnm, load1, load1m, hget, ↓reduceIte, Nat.reduceEqDiff, Nat.reduceAdd, Nat.reduceMul, Nat.reduceLeDiff, Nat.reduceLT, reduceCtorEq, TFHuVA, FR.out, hw]) ⟨⟨p, 1⟩, ⟨h1, .inr rfl⟩, (by simp only [resv, resA, ZK, look, loadv, loadn, loadnm, load1, load1m, hget, ↓reduceIte, Nat.reduceEqDiff, Nat.reduceAdd, Nat.reduceMul, Nat.reduceLeDiff, Nat.reduceLT, reduceCtorEq, TFHuVA, FR.out, hw]; first | done | rfl), rfl⟩)
  | false =>
    first | (have FRx := FR; clear FRx) | have FR := fr0S
    have FA := Sm.mk (And.intro TFHuVA (And.intro hw (And.intro hz e2)))
    repeat' first | (apply Sm.mk; refine Ys ?_) | refine WP.seq fun K hK => ?_ | (apply Ob.mk; exact Yo) | refine And.intro (Ob.out ?_) ?_ | refine Y1HuVA ?_ | refine YzHuVA ?_ | (refine WP.cond rfl (fun hc => ?_) (fun hc => ?_) <;> (try simp only [ZC, reduceCtorEq, ZD] at hc) <;> (try exact absurd hc (by decide)) <;> (try (exfalso; omega))) | refine Rt.mk (And.intro (fun hg => Sm.out ?_) fun hg => Sm.out ?_) | (refine Nu.mk ?_; first | (fail_if_success have := nb1); intro nb1 | (fail_if_success have := nb2); intro nb2 | (fail_if_success have := nb3); intro nb3 | (fail_if_success have := nb4); intro nb4 | intro nbz) | (apply Yfr; refine Yf FR fun hFRb FR => ?_) | refine Two.mk ?_ ?_ | (apply Yxc; exact Yx) | refine Cs.mk fun hcs => Sm.out ?_ | go_step | omega | (simp only [maxLen_eq]; omega) | exact trivial
    (refine OutQ.drop _ _ (perm1 (by simp only [hget, hdel, ↓reduceIte, if_true, if_false, FR.out, hw]; first | done | rfl)) (by simp only [resv, ZK, look, loadv, loadn, loadnm, load1, load1m, hget, ↓reduceIte, Nat.reduceEqDiff, Nat.reduceAdd, Nat.reduceMul, Nat.reduceLeDiff, Nat.reduceLT, reduceCtorEq, TFHuVA, FR.out, hw]) ⟨⟨p, 0⟩, ⟨h1, .inl rfl⟩, (by simp only [resv, resA, ZK, look, loadv, loadn, loadnm, load1, load1m, hget, ↓reduceIte, Nat.reduceEqDiff, Nat.reduceAdd, Nat.reduceMul, Nat.reduceLeDiff, Nat.reduceLT, reduceCtorEq, TFHuVA, FR.out, hw]; first | done | rfl), rfl⟩)
structure PtI (l D : List Sl) (a b i j n : Nat) : Prop where
  len : D.length = n
  perm : D.Perm l
  out : Out l D a b
  ai : a < i
  jb : j < b
  ij : i ≤ j + 1
  lo : ∀ p, a < p → p < i → (at_ D p).f < (at_ D a).f
  hi : ∀ p, j < p → p < b → (at_ D a).f ≤ (at_ D p).f
structure PtO (l D : List Sl) (a b m : Nat) : Prop where
  perm : D.Perm l
  out : Out l D a b
  am : a ≤ m
  mb : m < b
  lo : ∀ p, a ≤ p → p < m → (at_ D p).f ≤ (at_ D m).f
  hi : ∀ p, m < p → p < b → (at_ D m).f ≤ (at_ D p).f
theorem PtI.start {l : List Sl} {a b v n : Nat} (hl : l.length = n) (hb : b ≤ n) (h1 : a ≤ v) (h2 : v < b) : PtI l (swp l a v) a b (a + 1) (b - 1) n := by
  refine ⟨by rw [swp_len]; exact hl, swp_count l (by omega) (by omega), fun p hp => ?_, by omega, by omega, by omega, fun p h3 h4 => by omega, fun p h3 h4 => by omega⟩
  rw [swp_at l (by omega) (by omega), if_neg (by omega), if_neg (by omega)]
theorem PtI.inc {l D : List Sl} {a b i j n : Nat} (h : PtI l D a b i j n) (hij : i ≤ j) (hx : (at_ D i).f < (at_ D a).f) : PtI l D a b (i + 1) j n := by
  have := h.ai
  refine ⟨h.len, h.perm, h.out, by omega, h.jb, by omega, fun p h1 h2 => ?_, h.hi⟩
  by_cases e : p = i
  · rw [e]; exact hx
  · exact h.lo p h1 (by omega)
theorem PtI.dec {l D : List Sl} {a b i j n : Nat} (h : PtI l D a b i j n) (hij : i ≤ j) (hx : ¬ (at_ D j).f < (at_ D a).f) : PtI l D a b i (j - 1) n := by
  have := h.ai
  have := h.jb
  refine ⟨h.len, h.perm, h.out, h.ai, by omega, by omega, h.lo, fun p h1 h2 => ?_⟩
  by_cases e : p = j
  · rw [e]; omega
  · exact h.hi p (by omega) h2
theorem PtI.swap {l D : List Sl} {a b i j n : Nat} (h : PtI l D a b i j n) (hb : b ≤ n) (hij : i ≤ j) (hx : ¬ (at_ D i).f < (at_ D a).f) (hy : (at_ D j).f < (at_ D a).f) : PtI l (swp D i j) a b (i + 1) (j - 1) n := by
  have h1 := h.ai
  have h2 := h.jb
  have hl := h.len
  have hne : i ≠ j := fun e => hx (e ▸ hy)
  have e := swp_at D (i := i) (j := j) (by omega) (by omega)
  have ea : at_ (swp D i j) a = at_ D a := by rw [e a, if_neg (by omega), if_neg (by omega)]
  refine ⟨by rw [swp_len]; exact hl, (swp_count D (by omega) (by omega)).trans h.perm, fun p hp => ?_, by omega, by omega, by omega, fun p h3 h4 => ?_, fun p h3 h4 => ?_⟩
  · rw [e p, if_neg (by omega), if_neg (by omega)]; exact h.out p hp
  · rw [ea, e p, if_neg (by omega)]
    by_cases q : p = i
    · rw [if_pos q]; exact hy
    · rw [if_neg q]; exact h.lo p h3 (by omega)
  · rw [ea, e p]
    by_cases q : p = j
    · rw [if_pos q]; omega
    · rw [if_neg q, if_neg (by omega)]; exact h.hi p (by omega) h4
theorem PtI.done {l D : List Sl} {a b i j n : Nat} (h : PtI l D a b i j n) (hb : b ≤ n) (hij : j < i) : PtO l (swp D j a) a b j := by
  have h1 := h.ai
  have h2 := h.jb
  have h3 := h.ij
  have hl := h.len
  have e := swp_at D (i := j) (j := a) (by omega) (by omega)
  refine ⟨(swp_count D (by omega) (by omega)).trans h.perm, fun p hp => ?_, by omega, h2, fun p h4 h5 => ?_, fun p h4 h5 => ?_⟩
  · rw [e p, if_neg (by omega), if_neg (by omega)]; exact h.out p hp
  · have ej : at_ (swp D j a) j = at_ D a := by rw [e j, if_neg (by omega), if_pos rfl]
    rw [ej, e p]
    by_cases q : p = a
    · rw [if_pos q]; exact Int.le_of_lt (h.lo j (by omega) (by omega))
    · rw [if_neg q, if_neg (by omega)]; exact Int.le_of_lt (h.lo p (by omega) (by omega))
  · have ej : at_ (swp D j a) j = at_ D a := by
      rw [e j]
      by_cases q : j = a
      · rw [if_pos q, q]
      · rw [if_neg q, if_pos rfl]
    rw [ej, e p, if_neg (by omega), if_neg (by omega)]
    exact h.hi p h4 h5
theorem at_ext {l g : List Sl} (hl : g.length = l.length) (h : ∀ p, p < l.length → at_ g p = at_ l p) : g = l := by
  refine List.ext_getElem hl fun p h1 h2 => ?_
  have := h p h2
  rwa [at_get g h1, at_get l h2] at this
theorem at_take (l : List Sl) (a p : Nat) (h : p < a) : at_ (l.take a) p = at_ l p := by
  unfold at_
  rw [List.getD_eq_getElem?_getD, List.getElem?_take_of_lt h, ← List.getD_eq_getElem?_getD]
theorem at_drop (l : List Sl) (a p : Nat) : at_ (l.drop a) p = at_ l (a + p) := by
  unfold at_
  rw [List.getD_eq_getElem?_getD, List.getElem?_drop, ← List.getD_eq_getElem?_getD]
theorem seg_perm {l g : List Sl} {a b : Nat} (hp : g.Perm l) (ho : Out l g a b) (hb : b ≤ l.length) (hab : a ≤ b) : ((g.take b).drop a).Perm ((l.take b).drop a) := by
  have hl := hp.length_eq
  have e1 : g.drop b = l.drop b := by
    refine at_ext (by simp [hl]) fun p h => ?_
    rw [at_drop, at_drop]; exact ho _ (.inr (by omega))
  have e2 : (g.take b).take a = (l.take b).take a := by
    refine at_ext (by simp [hl]) fun p h => ?_
    simp only [List.length_take] at h
    rw [at_take _ _ _ (by omega), at_take _ _ _ (by omega), at_take _ _ _ (by omega), at_take _ _ _ (by omega)]
    exact ho _ (.inl (by omega))
  have h1 : (g.take b ++ g.drop b).Perm (l.take b ++ l.drop b) := by rw [List.take_append_drop, List.take_append_drop]; exact hp
  rw [e1] at h1
  have h2 := (List.perm_append_right_iff _).1 h1
  rw [← List.take_append_drop a (g.take b), ← List.take_append_drop a (l.take b), e2] at h2
  exact (List.perm_append_left_iff _).1 h2
theorem seg_mem {l : List Sl} {a b : Nat} (hb : b ≤ l.length) {s : Sl} : s ∈ (l.take b).drop a ↔ ∃ q, a ≤ q ∧ q < b ∧ s = at_ l q := by
  constructor
  · intro h
    obtain ⟨p, hp, rfl⟩ := List.getElem_of_mem h
    have hp2 : a + p < b := by simp only [List.length_drop, List.length_take] at hp; omega
    refine ⟨a + p, by omega, hp2, ?_⟩
    rw [← at_get _ hp, at_drop, at_take _ _ _ hp2]
  · rintro ⟨q, h1, h2, rfl⟩
    have hq : q - a < ((l.take b).drop a).length := by simp only [List.length_drop, List.length_take]; omega
    have : ((l.take b).drop a)[q - a] = at_ l q := by
      rw [← at_get _ hq, at_drop, show a + (q - a) = q by omega, at_take _ _ _ h2]
    rw [← this]; exact List.getElem_mem hq
theorem seg_all {l g : List Sl} {a b : Nat} (hp : g.Perm l) (ho : Out l g a b) (hb : b ≤ l.length) {P : Sl → Prop} (h : ∀ q, a ≤ q → q < b → P (at_ l q)) : ∀ q, a ≤ q → q < b → P (at_ g q) := by
  intro q h1 h2
  have hl := hp.length_eq
  have hm := (seg_mem (l := g) (by omega)).2 ⟨q, h1, h2, rfl⟩
  have hm := (seg_perm hp ho hb (by omega)).mem_iff.1 hm
  obtain ⟨r, r1, r2, r3⟩ := (seg_mem hb).1 hm
  rw [r3]; exact h r r1 r2
theorem Out.trans {l D g : List Sl} {a b c d : Nat} (h : Out l D a b) (h2 : Out D g c d) (hc : a ≤ c) (hd : d ≤ b) : Out l g a b := fun p hp => by
  rw [h2 p (by omega)]; exact h p hp
theorem swp_out {l : List Sl} {i j a b : Nat} (hi : a ≤ i ∧ i < b) (hj : a ≤ j ∧ j < b) (hb : b ≤ l.length) : Out l (swp l i j) a b := fun p hp => by
  rw [swp_at l (by omega) (by omega), if_neg (by omega), if_neg (by omega)]
theorem out_refl (l : List Sl) (a b : Nat) : Out l l a b := fun p _ => rfl
structure PqI (l D : List Sl) (a b a2 b2 n : Nat) : Prop where
  len : D.length = n
  perm : D.Perm l
  out : Out l D a b
  aa : a ≤ a2
  ab : a2 ≤ b2
  bb : b2 ≤ b
  lo : ∀ p q, a ≤ p → p < q → q < b → p < a2 → (at_ D p).f ≤ (at_ D q).f
  hi : ∀ p q, a ≤ p → p < q → q < b → b2 ≤ q → (at_ D p).f ≤ (at_ D q).f
  pre : a2 = 0 ∨ ∀ q, a2 ≤ q → q < b2 → (at_ D (a2 - 1)).f ≤ (at_ D q).f
abbrev Pre (l : List Sl) (a b : Nat) : Prop := a = 0 ∨ ∀ q, a ≤ q → q < b → (at_ l (a - 1)).f ≤ (at_ l q).f
theorem PqI.start {l : List Sl} {a b n : Nat} (hn : l.length = n) (hab : a ≤ b) (hp : Pre l a b) : PqI l l a b a b n :=
  ⟨hn, .refl _, out_refl _ _ _, Nat.le_refl _, hab, Nat.le_refl _, fun p q h1 h2 h3 h4 => by omega, fun p q h1 h2 h3 h4 => by omega, hp⟩
theorem PqI.done {l D : List Sl} {a b a2 b2 n : Nat} (h : PqI l D a b a2 b2 n) (hs : SegS D a2 b2) : SegS D a b := by
  intro p q h1 h2 h3
  by_cases e : p < a2
  · exact h.lo p q h1 h2 h3 e
  · by_cases e2 : b2 ≤ q
    · exact h.hi p q h1 h2 h3 e2
    · exact hs p q (by omega) h2 (by omega)
theorem PqI.sub {l D g : List Sl} {a b a2 b2 n : Nat} (h : PqI l D a b a2 b2 n) (hb : b ≤ n) (hp : g.Perm D) (ho : Out D g a2 b2) : PqI l g a b a2 b2 n := by
  have hl := h.len
  have aa := h.aa
  have ab := h.ab
  have bb := h.bb
  refine ⟨by rw [hp.length_eq]; exact hl, hp.trans h.perm, h.out.trans ho aa bb, aa, ab, bb, fun p q h1 h2 h3 h4 => ?_, fun p q h1 h2 h3 h4 => ?_, ?_⟩
  · rw [ho p (.inl h4)]
    by_cases e : q < a2 ∨ b2 ≤ q
    · rw [ho q e]; exact h.lo p q h1 h2 h3 h4
    · exact seg_all hp ho (by omega) (P := fun s => (at_ D p).f ≤ s.f) (fun r r1 r2 => h.lo p r h1 (by omega) (by omega) h4) q (by omega) (by omega)
  · rw [ho q (.inr h4)]
    by_cases e : p < a2 ∨ b2 ≤ p
    · rw [ho p e]; exact h.hi p q h1 h2 h3 h4
    · exact seg_all hp ho (by omega) (P := fun s => s.f ≤ (at_ D q).f) (fun r r1 r2 => h.hi r q (by omega) (by omega) h3 h4) p (by omega) (by omega)
  · by_cases e0 : a2 = 0
    · exact .inl e0
    rcases h.pre with e | e
    · exact .inl e
    · right
      rw [ho (a2 - 1) (.inl (by omega))]
      exact seg_all hp ho (by omega) (P := fun s => (at_ D (a2 - 1)).f ≤ s.f) e
theorem PqI.left {l D : List Sl} {a b a2 b2 n m : Nat} (h : PqI l D a b a2 b2 n) (h1 : a2 < m) (h2 : m ≤ b2) (hl : ∀ p q, a2 ≤ p → p < q → q < b2 → p < m → (at_ D p).f ≤ (at_ D q).f) : PqI l D a b m b2 n := by
  have aa := h.aa
  have bb := h.bb
  refine ⟨h.len, h.perm, h.out, by omega, h2, h.bb, fun p q p1 p2 p3 p4 => ?_, h.hi, .inr fun q q1 q2 => hl (m - 1) q (by omega) (by omega) q2 (by omega)⟩
  by_cases e : p < a2
  · exact h.lo p q p1 p2 p3 e
  · by_cases e2 : b2 ≤ q
    · exact h.hi p q p1 p2 p3 e2
    · exact hl p q (by omega) p2 (by omega) p4
theorem PqI.right {l D : List Sl} {a b a2 b2 n m : Nat} (h : PqI l D a b a2 b2 n) (h1 : a2 ≤ m) (h2 : m < b2) (hl : ∀ p q, a2 ≤ p → p < q → q < b2 → m ≤ q → (at_ D p).f ≤ (at_ D q).f) : PqI l D a b a2 m n := by
  have aa := h.aa
  have bb := h.bb
  refine ⟨h.len, h.perm, h.out, h.aa, h1, by omega, h.lo, fun p q p1 p2 p3 p4 => ?_, ?_⟩
  · by_cases e : p < a2
    · exact h.lo p q p1 p2 p3 e
    · by_cases e2 : b2 ≤ q
      · exact h.hi p q p1 p2 p3 e2
      · exact hl p q (by omega) p2 (by omega) p4
  · rcases h.pre with e | e
    · exact .inl e
    · exact .inr fun q q1 q2 => e q q1 (by omega)
theorem PqI.goL {l D g : List Sl} {a b a2 b2 n m : Nat} (h : PqI l D a b a2 b2 n) (hb : b ≤ n) (hm : PtO D D a2 b2 m) (hp : g.Perm D) (ho : Out D g a2 m) (hs : SegS g a2 m) : PqI l g a b (m + 1) b2 n := by
  have am := hm.am
  have mb := hm.mb
  have bb := h.bb
  have hl := h.len
  have h2 := h.sub hb hp (fun p hp => ho p (by omega))
  have em : at_ g m = at_ D m := ho m (.inr (Nat.le_refl _))
  have h3 : ∀ p, a2 ≤ p → p < m → (at_ g p).f ≤ (at_ D m).f := seg_all hp ho (by omega) (P := fun s => s.f ≤ (at_ D m).f) hm.lo
  refine h2.left (by omega) mb fun p q p1 p2 p3 p4 => ?_
  by_cases e : q < m
  · exact hs p q p1 p2 e
  · by_cases e1 : p = m
    · rw [e1, em, ho q (.inr (by omega))]; exact hm.hi q (by omega) p3
    · have a1 := h3 p p1 (by omega)
      by_cases e3 : q = m
      · rw [e3, em]; exact a1
      · rw [ho q (.inr (by omega))]
        exact Int.le_trans a1 (hm.hi q (by omega) p3)
theorem PqI.goR {l D g : List Sl} {a b a2 b2 n m : Nat} (h : PqI l D a b a2 b2 n) (hb : b ≤ n) (hm : PtO D D a2 b2 m) (hp : g.Perm D) (ho : Out D g (m + 1) b2) (hs : SegS g (m + 1) b2) : PqI l g a b a2 m n := by
  have am := hm.am
  have mb := hm.mb
  have bb := h.bb
  have hl := h.len
  have h2 := h.sub hb hp (fun p hp => ho p (by omega))
  have em : at_ g m = at_ D m := ho m (.inl (by omega))
  have h3 : ∀ p, m + 1 ≤ p → p < b2 → (at_ D m).f ≤ (at_ g p).f := seg_all hp ho (by omega) (P := fun s => (at_ D m).f ≤ s.f) (fun q q1 q2 => hm.hi q (by omega) q2)
  refine h2.right am mb fun p q p1 p2 p3 p4 => ?_
  by_cases e : m < p
  · exact hs p q e p2 p3
  · by_cases e1 : q = m
    · rw [e1, em, ho p (.inl (by omega))]; exact hm.lo p p1 (by omega)
    · have a1 := h3 q (by omega) p3
      by_cases e3 : p = m
      · rw [e3, em]; exact a1
      · rw [ho p (.inl (by omega))]
        exact Int.le_trans (hm.lo p p1 (by omega)) a1
theorem PtO.self {l D : List Sl} {a b m : Nat} (h : PtO l D a b m) : PtO D D a b m := ⟨.refl _, out_refl _ _ _, h.am, h.mb, h.lo, h.hi⟩
theorem PqI.preL {l D : List Sl} {a b a2 b2 n m : Nat} (h : PqI l D a b a2 b2 n) (hm : m ≤ b2) : Pre D a2 m := by
  rcases h.pre with e | e
  · exact .inl e
  · exact .inr fun q q1 q2 => e q q1 (by omega)
theorem PtO.preR {l D : List Sl} {a b m : Nat} (h : PtO l D a b m) : Pre D (m + 1) b := .inr fun q q1 q2 => by
  rw [Nat.add_sub_cancel]; exact h.hi q (by omega) q2
structure PeO (l D : List Sl) (a b m : Nat) : Prop where
  perm : D.Perm l
  out : Out l D a b
  am : a < m
  mb : m ≤ b
  lo : ∀ p, a ≤ p → p < m → (at_ D p).f ≤ (at_ D a).f
  hi : ∀ p, m ≤ p → p < b → (at_ D a).f < (at_ D p).f
theorem PqI.goE {l D g : List Sl} {a b a2 b2 n m v : Nat} (h : PqI l D a b a2 b2 n) (hb : b ≤ n) (hm : PeO D g a2 b2 m) (hv : at_ g a2 = at_ D v) (h0 : 0 < a2) (hx : ¬ (at_ D (a2 - 1)).f < (at_ D v).f) : PqI l g a b m b2 n := by
  have hl := h.len
  have bb := h.bb
  have h2 := h.sub hb hm.perm hm.out
  have e1 : at_ g (a2 - 1) = at_ D (a2 - 1) := hm.out _ (.inl (by omega))
  rcases h2.pre with e | e
  · omega
  refine h2.left hm.am hm.mb fun p q p1 p2 p3 p4 => ?_
  have a1 := hm.lo p p1 p4
  have a2' := e q (by omega) p3
  rw [e1] at a2'
  rw [hv] at a1
  omega
end Go.Proofs.YtaffbklkjjmmdaaDoor
