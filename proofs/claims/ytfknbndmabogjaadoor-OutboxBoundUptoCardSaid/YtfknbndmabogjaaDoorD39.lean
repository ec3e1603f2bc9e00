/-
  The walks and the laws that the statement leans on, part 39.
-/
import Derived.Test.YtfknbndmabogjaaDoorD9
import Derived.Test.YtfknbndmabogjaaDoorD38
namespace Go.Proofs.YtfknbndmabogjaaDoor
open Go
set_option linter.unusedVariables false
set_option linter.unusedSimpArgs false
set_option linter.defProp false
def TFOuBE :=
  And.intro (And.intro (And.intro (And.intro tyc0 (And.intro tyc3 zmb3)) (And.intro tyc4 (And.intro zmb4 tyc25))) (And.intro (And.intro zmb25 (And.intro tyc66 foff66_0)) (And.intro (And.intro fpart66_0 foff66_1) (And.intro fpart66_1 fe66)))) (And.intro (And.intro (And.intro zmb66 (And.intro bldT66 tyc138)) (And.intro (And.intro elt138 mkz138) (And.intro apT138 elk138))) (And.intro (And.intro zmb138 (And.intro Tryd.underlying0 Tryd.underlying3)) (And.intro (And.intro Tryd.underlying4 Tryd.underlying25) (And.intro Tryd.underlying66 Tryd.underlying138))))
theorem Y1OuBE {G R : Prop} (r : R) (h : R → G := by intro r; first | (apply WP.region; exact rvc_sound _ _ (Sm.out r)) | exact WP.drawK rfl mixed (by decide +kernel) (Sm.out r) | (apply WP.block; exact r) | (apply WP.skip; exact Yq r) | (apply WP.exit; exact Yq r) | (apply WP.ret; exact Sm.out r) | exact WP.cond rfl (fun _ => r) (fun hg => absurd hg (by decide)) | exact WP.cond rfl (fun hg => absurd hg (by decide)) (fun _ => r) | exact Rt.mk (And.intro (fun _ => Sm.out r) fun hg => absurd hg (by decide)) | exact Rt.mk (And.intro (fun hg => absurd hg (by decide)) fun _ => Sm.out r)) : G := h r
theorem YzOuBE {G R : Prop} (r : R) (h : R → G := by intro r; first | (apply ExG.no; exact Sm.out r) | (apply Or.inl; apply ExG.no; exact Sm.out r) | exact Or.inl (And.intro (fun hg => absurd hg (by decide)) (ExG.no (Sm.out r)))) : G := h r
def cmpN (a b : Nat) : Int := if a < b then -1 else if b < a then 1 else 0
theorem nan_ct (x : Int) : ACt Tryd.prog 97 [iv .u64 x] [] (Fn (bv false)) := by
  refine ACt.intro Tryd.func97 rfl (by kernel_rfl) (by simp [Tryd.ntmps97]) (fun cx => ?_)
  simp only [argE, Tryd.ntmps97, Tryd.results97]
  have e : (x != x) = false := bne_self_eq_false _
  first | (have FRx := FR; clear FRx) | have FR := fr0S
  have FA := Sm.mk (And.intro TFOuBE e)
  repeat' first | (apply Sm.mk; refine Ys ?_) | refine WP.seq fun K hK => ?_ | (apply Ob.mk; exact Yo) | refine And.intro (Ob.out ?_) ?_ | refine Y1OuBE ?_ | refine YzOuBE ?_ | (refine WP.cond rfl (fun hc => ?_) (fun hc => ?_) <;> (try simp only [ZC, reduceCtorEq, ZD] at hc) <;> (try exact absurd hc (by decide)) <;> (try (exfalso; omega))) | refine Rt.mk (And.intro (fun hg => Sm.out ?_) fun hg => Sm.out ?_) | (refine Nu.mk ?_; first | (fail_if_success have := nb1); intro nb1 | (fail_if_success have := nb2); intro nb2 | (fail_if_success have := nb3); intro nb3 | (fail_if_success have := nb4); intro nb4 | (fail_if_success have := nb5); intro nb5 | (fail_if_success have := nb6); intro nb6 | intro nbz) | (apply Yfr; refine Yf FR fun hFRb FR => ?_) | refine Two.mk ?_ ?_ | (apply Yxc; exact Yx) | refine Cs.mk fun hcs => Sm.out ?_ | (apply Yog; refine Yg ?_; exact trivial) | go_step | omega | (simp only [maxLen_eq]; omega) | exact trivial
theorem cmp64_ct (x y : Nat) : ACt Tryd.prog 75 [nu x, nu y] [] (Fn (iv .i64 (cmpN x y))) := by
  refine ACt.intro Tryd.func75 rfl (by kernel_rfl) (by simp [Tryd.ntmps75]) (fun cx => ?_)
  simp only [argE, Tryd.ntmps75, Tryd.results75]
  have cNa := nan_ct x
  have cNb := nan_ct y
  unfold cmpN
  by_cases h1 : x < y
  · have k1 : decide ((x : Int) < y) = true := by simpa using h1
    rw [if_pos h1]
    first | (have FRx := FR; clear FRx) | have FR := fr0S
    have FA := Sm.mk (And.intro TFOuBE k1)
    repeat' first | (apply Sm.mk; refine Ys ?_) | refine WP.seq fun K hK => ?_ | (apply Ob.mk; exact Yo) | refine And.intro (Ob.out ?_) ?_ | refine Y1OuBE ?_ | refine Yc (c := cNa) (r := ?_) | refine Yc (c := cNb) (r := ?_) | refine YzOuBE ?_ | (refine WP.cond rfl (fun hc => ?_) (fun hc => ?_) <;> (try simp only [ZC, reduceCtorEq, ZD] at hc) <;> (try exact absurd hc (by decide)) <;> (try (exfalso; omega))) | refine Rt.mk (And.intro (fun hg => Sm.out ?_) fun hg => Sm.out ?_) | (refine Nu.mk ?_; first | (fail_if_success have := nb1); intro nb1 | (fail_if_success have := nb2); intro nb2 | (fail_if_success have := nb3); intro nb3 | (fail_if_success have := nb4); intro nb4 | (fail_if_success have := nb5); intro nb5 | (fail_if_success have := nb6); intro nb6 | intro nbz) | (apply Yfr; refine Yf FR fun hFRb FR => ?_) | refine Two.mk ?_ ?_ | (apply Yxc; exact Yx) | refine Cs.mk fun hcs => Sm.out ?_ | (apply Yog; refine Yg ?_; exact trivial) | go_step | omega | (simp only [maxLen_eq]; omega) | exact trivial
  · have k1 : decide ((x : Int) < y) = false := by simpa using h1
    rw [if_neg h1]
    by_cases h2 : y < x
    · have k2 : decide ((x : Int) > y) = true := by simpa using h2
      rw [if_pos h2]
      first | (have FRx := FR; clear FRx) | have FR := fr0S
      have FA := Sm.mk (And.intro TFOuBE (And.intro k1 k2))
      repeat' first | (apply Sm.mk; refine Ys ?_) | refine WP.seq fun K hK => ?_ | (apply Ob.mk; exact Yo) | refine And.intro (Ob.out ?_) ?_ | refine Y1OuBE ?_ | refine Yc (c := cNa) (r := ?_) | refine Yc (c := cNb) (r := ?_) | refine YzOuBE ?_ | (refine WP.cond rfl (fun hc => ?_) (fun hc => ?_) <;> (try simp only [ZC, reduceCtorEq, ZD] at hc) <;> (try exact absurd hc (by decide)) <;> (try (exfalso; omega))) | refine Rt.mk (And.intro (fun hg => Sm.out ?_) fun hg => Sm.out ?_) | (refine Nu.mk ?_; first | (fail_if_success have := nb1); intro nb1 | (fail_if_success have := nb2); intro nb2 | (fail_if_success have := nb3); intro nb3 | (fail_if_success have := nb4); intro nb4 | (fail_if_success have := nb5); intro nb5 | (fail_if_success have := nb6); intro nb6 | intro nbz) | (apply Yfr; refine Yf FR fun hFRb FR => ?_) | refine Two.mk ?_ ?_ | (apply Yxc; exact Yx) | refine Cs.mk fun hcs => Sm.out ?_ | (apply Yog; refine Yg ?_; exact trivial) | go_step | omega | (simp only [maxLen_eq]; omega) | exact trivial
    · have k2 : decide ((x : Int) > y) = false := by simpa using h2
      rw [if_neg h2]
      first | (have FRx := FR; clear FRx) | have FR := fr0S
      have FA := Sm.mk (And.intro TFOuBE (And.intro k1 k2))
      repeat' first | (apply Sm.mk; refine Ys ?_) | refine WP.seq fun K hK => ?_ | (apply Ob.mk; exact Yo) | refine And.intro (Ob.out ?_) ?_ | refine Y1OuBE ?_ | refine Yc (c := cNa) (r := ?_) | refine Yc (c := cNb) (r := ?_) | refine YzOuBE ?_ | (refine WP.cond rfl (fun hc => ?_) (fun hc => ?_) <;> (try simp only [ZC, reduceCtorEq, ZD] at hc) <;> (try exact absurd hc (by decide)) <;> (try (exfalso; omega))) | refine Rt.mk (And.intro (fun hg => Sm.out ?_) fun hg => Sm.out ?_) | (refine Nu.mk ?_; first | (fail_if_success have := nb1); intro nb1 | (fail_if_success have := nb2); intro nb2 | (fail_if_success have := nb3); intro nb3 | (fail_if_success have := nb4); intro nb4 | (fail_if_success have := nb5); intro nb5 | (fail_if_success have := nb6); intro nb6 | intro nbz) | (apply Yfr; refine Yf FR fun hFRb FR => ?_) | refine Two.mk ?_ ?_ | (apply Yxc; exact Yx) | refine Cs.mk fun hcs => Sm.out ?_ | (apply Yog; refine Yg ?_; exact trivial) | go_step | omega | (simp only [maxLen_eq]; omega) | exact trivial
theorem or_ct (x y : Int) : ACt Tryd.prog 74 [.slz .i64 [x, y]] [] (Fn (iv .i64 (if x = 0 then y else x))) := by
  refine ACt.intro Tryd.func74 rfl (by kernel_rfl) (by simp [Tryd.ntmps74]) (fun cx => ?_)
  simp only [argE, Tryd.ntmps74, Tryd.results74]
  first | (have FRx := FR; clear FRx) | have FR := fr0S
  have FA := Sm.mk (TFOuBE)
  repeat' first | (apply Sm.mk; refine Ys ?_) | refine WP.seq fun K hK => ?_ | (apply Ob.mk; exact Yo) | refine And.intro (Ob.out ?_) ?_ | refine Y1OuBE ?_ | refine YzOuBE ?_ | (refine WP.cond rfl (fun hc => ?_) (fun hc => ?_) <;> (try simp only [ZC, reduceCtorEq, ZD] at hc) <;> (try exact absurd hc (by decide)) <;> (try (exfalso; omega))) | refine Rt.mk (And.intro (fun hg => Sm.out ?_) fun hg => Sm.out ?_) | (refine Nu.mk ?_; first | (fail_if_success have := nb1); intro nb1 | (fail_if_success have := nb2); intro nb2 | (fail_if_success have := nb3); intro nb3 | (fail_if_success have := nb4); intro nb4 | (fail_if_success have := nb5); intro nb5 | (fail_if_success have := nb6); intro nb6 | intro nbz) | (apply Yfr; refine Yf FR fun hFRb FR => ?_) | refine Two.mk ?_ ?_ | (apply Yxc; exact Yx) | refine Cs.mk fun hcs => Sm.out ?_ | go_step | omega | (simp only [maxLen_eq]; omega) | exact trivial
  refine WP.loop (Γ := Nat) (fun i => ⟨[(8, iv .i64 i), (7, iv .i64 2), (6, .slz .i64 [x, y]), (3, iv .i64 0)], []⟩) (fun i => i ≤ 2 ∧ (1 ≤ i → x = 0) ∧ (2 ≤ i → y = 0)) (fun i => 2 - i) 0 (by omega) (Sub.pick (by simp [pickB, hget, hdel, FR.out]) (by simp [look])) ?_
  intro i ⟨h1, h2, h3⟩
  have g1 : IntKind.i64.wrap ((i : Int) + 1) = ((i + 1 : Nat) : Int) := by rw [wrap_i64 (by omega) (by omega)]; omega
  have w1 : IntKind.i64.wrap 1 = 1 := by decide
  have w2 : IntKind.i64.wrap 2 = 2 := by decide
  match i, h1 with
  | 0, _ =>
    by_cases hx : x = 0
    · have k : (x != 0) = false := by rw [hx]; rfl
      first | (have FRx := FR; clear FRx) | have FR := fr0S
      have FA := Sm.mk (And.intro TFOuBE (And.intro k g1))
      repeat' first | (apply Sm.mk; refine Ys ?_) | refine WP.seq fun K hK => ?_ | (apply Ob.mk; exact Yo) | refine And.intro (Ob.out ?_) ?_ | refine Y1OuBE ?_ | refine YzOuBE ?_ | (refine WP.cond rfl (fun hc => ?_) (fun hc => ?_) <;> (try simp only [ZC, reduceCtorEq, ZD] at hc) <;> (try exact absurd hc (by decide)) <;> (try (exfalso; omega))) | refine Rt.mk (And.intro (fun hg => Sm.out ?_) fun hg => Sm.out ?_) | (refine Nu.mk ?_; first | (fail_if_success have := nb1); intro nb1 | (fail_if_success have := nb2); intro nb2 | (fail_if_success have := nb3); intro nb3 | (fail_if_success have := nb4); intro nb4 | (fail_if_success have := nb5); intro nb5 | (fail_if_success have := nb6); intro nb6 | intro nbz) | (apply Yfr; refine Yf FR fun hFRb FR => ?_) | refine Two.mk ?_ ?_ | (apply Yxc; exact Yx) | refine Cs.mk fun hcs => Sm.out ?_ | go_step | omega | (simp only [maxLen_eq]; omega) | exact trivial
      exact ⟨1, ⟨by omega, fun _ => hx, by omega⟩, by omega, (Sub.pick (by simp [pickB, hget, hdel, FR.out, w1, w2]) (by simp [look, w1, w2]))⟩
    · have k : (x != 0) = true := bne_iff_ne.2 hx
      have e : (if x = 0 then y else x) = x := if_neg hx
      first | (have FRx := FR; clear FRx) | have FR := fr0S
      have FA := Sm.mk (And.intro TFOuBE (And.intro k g1))
      repeat' first | (apply Sm.mk; refine Ys ?_) | refine WP.seq fun K hK => ?_ | (apply Ob.mk; exact Yo) | refine And.intro (Ob.out ?_) ?_ | refine Y1OuBE ?_ | refine YzOuBE ?_ | (refine WP.cond rfl (fun hc => ?_) (fun hc => ?_) <;> (try simp only [ZC, reduceCtorEq, ZD] at hc) <;> (try exact absurd hc (by decide)) <;> (try (exfalso; omega))) | refine Rt.mk (And.intro (fun hg => Sm.out ?_) fun hg => Sm.out ?_) | (refine Nu.mk ?_; first | (fail_if_success have := nb1); intro nb1 | (fail_if_success have := nb2); intro nb2 | (fail_if_success have := nb3); intro nb3 | (fail_if_success have := nb4); intro nb4 | (fail_if_success have := nb5); intro nb5 | (fail_if_success have := nb6); intro nb6 | intro nbz) | (apply Yfr; refine Yf FR fun hFRb FR => ?_) | refine Two.mk ?_ ?_ | (apply Yxc; exact Yx) | refine Cs.mk fun hcs => Sm.out ?_ | go_step | omega | (simp only [maxLen_eq]; omega) | exact trivial
      (refine OutQ.all ?_ ?_; (focus (simp only [resv, ZK, look, loadv, loadn, loadnm, load1, load1m, hget, ↓reduceIte, Nat.reduceEqDiff, Nat.reduceAdd, Nat.reduceMul, Nat.reduceLeDiff, Nat.reduceLT, reduceCtorEq, TFOuBE, e, FR.out])); (try simp only [resv, resA, Fn, ZK, look, loadv, loadn, loadnm, load1, load1m, hget, ↓reduceIte, Nat.reduceEqDiff, Nat.reduceAdd, Nat.reduceMul, Nat.reduceLeDiff, Nat.reduceLT, reduceCtorEq, TFOuBE, e, FR.out]); (try simp [resA, Fn, look, e, FR.out]))
  | 1, _ =>
    have hx := h2 (by omega)
    by_cases hy : y = 0
    · have k : (y != 0) = false := by rw [hy]; rfl
      first | (have FRx := FR; clear FRx) | have FR := fr0S
      have FA := Sm.mk (And.intro TFOuBE (And.intro k g1))
      repeat' first | (apply Sm.mk; refine Ys ?_) | refine WP.seq fun K hK => ?_ | (apply Ob.mk; exact Yo) | refine And.intro (Ob.out ?_) ?_ | refine Y1OuBE ?_ | refine YzOuBE ?_ | (refine WP.cond rfl (fun hc => ?_) (fun hc => ?_) <;> (try simp only [ZC, reduceCtorEq, ZD] at hc) <;> (try exact absurd hc (by decide)) <;> (try (exfalso; omega))) | refine Rt.mk (And.intro (fun hg => Sm.out ?_) fun hg => Sm.out ?_) | (refine Nu.mk ?_; first | (fail_if_success have := nb1); intro nb1 | (fail_if_success have := nb2); intro nb2 | (fail_if_success have := nb3); intro nb3 | (fail_if_success have := nb4); intro nb4 | (fail_if_success have := nb5); intro nb5 | (fail_if_success have := nb6); intro nb6 | intro nbz) | (apply Yfr; refine Yf FR fun hFRb FR => ?_) | refine Two.mk ?_ ?_ | (apply Yxc; exact Yx) | refine Cs.mk fun hcs => Sm.out ?_ | go_step | omega | (simp only [maxLen_eq]; omega) | exact trivial
      exact ⟨2, ⟨by omega, fun _ => hx, fun _ => hy⟩, by omega, (Sub.pick (by simp [pickB, hget, hdel, FR.out, w1, w2]) (by simp [look, w1, w2]))⟩
    · have k : (y != 0) = true := bne_iff_ne.2 hy
      have e : (if x = 0 then y else x) = y := if_pos hx
      first | (have FRx := FR; clear FRx) | have FR := fr0S
      have FA := Sm.mk (And.intro TFOuBE (And.intro k g1))
      repeat' first | (apply Sm.mk; refine Ys ?_) | refine WP.seq fun K hK => ?_ | (apply Ob.mk; exact Yo) | refine And.intro (Ob.out ?_) ?_ | refine Y1OuBE ?_ | refine YzOuBE ?_ | (refine WP.cond rfl (fun hc => ?_) (fun hc => ?_) <;> (try simp only [ZC, reduceCtorEq, ZD] at hc) <;> (try exact absurd hc (by decide)) <;> (try (exfalso; omega))) | refine Rt.mk (And.intro (fun hg => Sm.out ?_) fun hg => Sm.out ?_) | (refine Nu.mk ?_; first | (fail_if_success have := nb1); intro nb1 | (fail_if_success have := nb2); intro nb2 | (fail_if_success have := nb3); intro nb3 | (fail_if_success have := nb4); intro nb4 | (fail_if_success have := nb5); intro nb5 | (fail_if_success have := nb6); intro nb6 | intro nbz) | (apply Yfr; refine Yf FR fun hFRb FR => ?_) | refine Two.mk ?_ ?_ | (apply Yxc; exact Yx) | refine Cs.mk fun hcs => Sm.out ?_ | go_step | omega | (simp only [maxLen_eq]; omega) | exact trivial
      (refine OutQ.all ?_ ?_; (focus (simp only [resv, ZK, look, loadv, loadn, loadnm, load1, load1m, hget, ↓reduceIte, Nat.reduceEqDiff, Nat.reduceAdd, Nat.reduceMul, Nat.reduceLeDiff, Nat.reduceLT, reduceCtorEq, TFOuBE, e, FR.out])); (try simp only [resv, resA, Fn, ZK, look, loadv, loadn, loadnm, load1, load1m, hget, ↓reduceIte, Nat.reduceEqDiff, Nat.reduceAdd, Nat.reduceMul, Nat.reduceLeDiff, Nat.reduceLT, reduceCtorEq, TFOuBE, e, FR.out]); (try simp [resA, Fn, look, e, FR.out]))
  | 2, _ =>
    have hx := h2 (by omega)
    have hy := h3 (by omega)
    have e : (if x = 0 then y else x) = 0 := by rw [if_pos hx, hy]
    first | (have FRx := FR; clear FRx) | have FR := fr0S
    have FA := Sm.mk (And.intro TFOuBE g1)
    repeat' first | (apply Sm.mk; refine Ys ?_) | refine WP.seq fun K hK => ?_ | (apply Ob.mk; exact Yo) | refine And.intro (Ob.out ?_) ?_ | refine Y1OuBE ?_ | refine YzOuBE ?_ | (refine WP.cond rfl (fun hc => ?_) (fun hc => ?_) <;> (try simp only [ZC, reduceCtorEq, ZD] at hc) <;> (try exact absurd hc (by decide)) <;> (try (exfalso; omega))) | refine Rt.mk (And.intro (fun hg => Sm.out ?_) fun hg => Sm.out ?_) | (refine Nu.mk ?_; first | (fail_if_success have := nb1); intro nb1 | (fail_if_success have := nb2); intro nb2 | (fail_if_success have := nb3); intro nb3 | (fail_if_success have := nb4); intro nb4 | (fail_if_success have := nb5); intro nb5 | (fail_if_success have := nb6); intro nb6 | intro nbz) | (apply Yfr; refine Yf FR fun hFRb FR => ?_) | refine Two.mk ?_ ?_ | (apply Yxc; exact Yx) | refine Cs.mk fun hcs => Sm.out ?_ | go_step | omega | (simp only [maxLen_eq]; omega) | exact trivial
    (refine OutQ.all ?_ ?_; (focus (simp only [resv, ZK, look, loadv, loadn, loadnm, load1, load1m, hget, ↓reduceIte, Nat.reduceEqDiff, Nat.reduceAdd, Nat.reduceMul, Nat.reduceLeDiff, Nat.reduceLT, reduceCtorEq, TFOuBE, e, FR.out])); (try simp only [resv, resA, Fn, ZK, look, loadv, loadn, loadnm, load1, load1m, hget, ↓reduceIte, Nat.reduceEqDiff, Nat.reduceAdd, Nat.reduceMul, Nat.reduceLeDiff, Nat.reduceLT, reduceCtorEq, TFOuBE, e, FR.out]); (try simp [resA, Fn, look, e, FR.out]))
theorem cmp_wide (a b : Nat) : (if cmpN (a / 18446744073709551616) (b / 18446744073709551616) = 0 then cmpN (a % 18446744073709551616) (b % 18446744073709551616) else cmpN (a / 18446744073709551616) (b / 18446744073709551616)) = cmpN a b := by
  unfold cmpN
  by_cases h1 : a / 18446744073709551616 < b / 18446744073709551616
  · rw [if_pos h1, if_neg (by decide), if_pos (by omega)]
  · rw [if_neg h1]
    by_cases h2 : b / 18446744073709551616 < a / 18446744073709551616
    · rw [if_pos h2, if_neg (by decide), if_neg (by omega), if_pos (by omega)]
    · rw [if_neg h2, if_pos rfl]
      by_cases h3 : a % 18446744073709551616 < b % 18446744073709551616
      · rw [if_pos h3, if_pos (by omega)]
      · rw [if_neg h3, if_neg (show ¬ a < b by omega)]
        by_cases h4 : b % 18446744073709551616 < a % 18446744073709551616
        · rw [if_pos h4, if_pos (by omega)]
        · rw [if_neg h4, if_neg (by omega)]
set_option maxRecDepth 8000 in
theorem compare_ct (a b : Nat) : ACt Tryd.prog 39 [wideA a, wideA b] [] (Fn (iv .i64 (cmpN a b))) := by
  refine ACt.intro Tryd.func39 rfl (by kernel_rfl) (by simp [Tryd.ntmps39]) (fun cx => ?_)
  simp only [argE, Tryd.ntmps39, Tryd.results39]
  have e := cmp_wide a b
  have c1 := cmp64_ct (a / 18446744073709551616) (b / 18446744073709551616)
  have c2 := cmp64_ct (a % 18446744073709551616) (b % 18446744073709551616)
  obtain ⟨p, hp⟩ : ∃ p, p = cmpN (a / 18446744073709551616) (b / 18446744073709551616) := ⟨_, rfl⟩
  obtain ⟨q, hq⟩ : ∃ q, q = cmpN (a % 18446744073709551616) (b % 18446744073709551616) := ⟨_, rfl⟩
  rw [← hp] at c1 e
  rw [← hq] at c2 e
  have c3 := or_ct p q
  rw [e] at c3
  first | (have FRx := FR; clear FRx) | have FR := fr0S
  have FA := Sm.mk (TFOuBE)
  repeat' first | (apply Sm.mk; refine Ys ?_) | refine WP.seq fun K hK => ?_ | (apply Ob.mk; exact Yo) | (refine And.intro (Vw.same _) ?_) | (refine And.intro (Vw.row' (by simp only [hget, ↓reduceIte, FR.out]; first | done | rfl) ?_ ?_ ?_ ?_) ?_) | refine And.intro (Ob.out ?_) ?_ | refine Y1OuBE ?_ | (first | refine CallV.fn (c1) (Sm.out ?_) | refine ExF.mk (c1) (Sm.out ?_) | refine ExG.mk (fun _ => c1) (Sm.out ?_) | refine ExG.mkJ (fun _ => c1) (Sm.out ?_) | refine ExG.mkI (Ob.out ?_) (fun _ => c1) (Sm.out ?_)) | (first | refine CallV.fn (c2) (Sm.out ?_) | refine ExF.mk (c2) (Sm.out ?_) | refine ExG.mk (fun _ => c2) (Sm.out ?_) | refine ExG.mkJ (fun _ => c2) (Sm.out ?_) | refine ExG.mkI (Ob.out ?_) (fun _ => c2) (Sm.out ?_)) | (refine CallV.view (c3) rfl ?_ (Sm.out ?_)) | refine YzOuBE ?_ | (refine WP.cond rfl (fun hc => ?_) (fun hc => ?_) <;> (try simp only [ZC, reduceCtorEq, ZD] at hc) <;> (try exact absurd hc (by decide)) <;> (try (exfalso; omega))) | refine Rt.mk (And.intro (fun hg => Sm.out ?_) fun hg => Sm.out ?_) | (refine Nu.mk ?_; first | (fail_if_success have := nb1); intro nb1 | (fail_if_success have := nb2); intro nb2 | (fail_if_success have := nb3); intro nb3 | (fail_if_success have := nb4); intro nb4 | (fail_if_success have := nb5); intro nb5 | (fail_if_success have := nb6); intro nb6 | intro nbz) | (apply Yfr; refine Yf FR fun hFRb FR => ?_) | refine Two.mk ?_ ?_ | (apply Yxc; exact Yx) | refine Cs.mk fun hcs => Sm.out ?_ | (refine (show VwL _ _ _ from ?_); simp only [VwL, and_true, true_and]) | exact Vw.same _ | (refine Vw.row' (by simp only [hget, ↓reduceIte, FR.out]; first | done | rfl) ?_ ?_ ?_ ?_) | go_step | omega | (simp only [maxLen_eq]; omega) | exact trivial
  · simp
  · simp
  · (refine Yg ?_; try exact trivial)
end Go.Proofs.YtfknbndmabogjaaDoor
