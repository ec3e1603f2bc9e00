/-
  The walks and the laws that the statement leans on, part 20.
-/
import Derived.Test.YtdkkfgcdnojmaaaDoorG8
import Derived.Test.YtdkkfgcdnojmaaaDoorG19
namespace Go.Proofs.YtdkkfgcdnojmaaaDoor
open Go
set_option linter.unusedVariables false
set_option linter.unusedSimpArgs false
set_option linter.defProp false
def TFGlH :=
  And.intro (And.intro (And.intro (And.intro tyc3 zmb3) (And.intro tyc4 zmb4)) (And.intro (And.intro tyc9 zmb9) (And.intro tyc21 (And.intro zmb21 tyc25)))) (And.intro (And.intro (And.intro elt25 mkz25) (And.intro apT25 (And.intro elk25 zmb25))) (And.intro (And.intro Tryd.underlying3 Tryd.underlying4) (And.intro Tryd.underlying9 (And.intro Tryd.underlying21 Tryd.underlying25))))
theorem Y1GlH {G R : Prop} (r : R) (h : R → G := by intro r; first | (apply WP.region; exact rvc_sound _ _ (Sm.out r)) | exact WP.drawK rfl mixed (by decide +kernel) (Sm.out r) | (apply WP.block; exact r) | (apply WP.skip; exact Yq r) | (apply WP.exit; exact Yq r) | (apply WP.ret; exact Sm.out r) | exact WP.cond rfl (fun _ => r) (fun hg => absurd hg (by decide)) | exact WP.cond rfl (fun hg => absurd hg (by decide)) (fun _ => r) | exact Rt.mk (And.intro (fun _ => Sm.out r) fun hg => absurd hg (by decide)) | exact Rt.mk (And.intro (fun hg => absurd hg (by decide)) fun _ => Sm.out r)) : G := h r
theorem YzGlH {G R : Prop} (r : R) (h : R → G := by intro r; first | (apply ExG.no; exact Sm.out r) | (apply Or.inl; apply ExG.no; exact Sm.out r) | exact Or.inl (And.intro (fun hg => absurd hg (by decide)) (ExG.no (Sm.out r)))) : G := h r
theorem rt_encs {l : List Int} (h : ∀ r ∈ l, Gr r) (h0 : l ≠ []) (h1 : l.length ≤ 40) : rtB (l.flatMap enc8) = true := by
  unfold rtB
  have e := rn_encs0 h
  have hg : gdB (l.flatMap enc8) = true := gdB_iff.2 (gd_encs h)
  rw [hg, e, decide_eq_true (show (l.length : Int) ≤ 40 by omega)]
  have : l.flatMap enc8 ≠ [] := fun hz => by rw [hz] at e; exact h0 e.symm
  simp [this]
theorem gr_of {l : List Int} (h : ∀ r ∈ l, 0 ≤ r ∧ r < 55296) : ∀ r ∈ l, Gr r := fun r hr => by have := h r hr; unfold Gr; omega
theorem mt_encs {l t : List Int} (h : ∀ r ∈ l, 0 ≤ r ∧ r < 55296) (h0 : l ≠ []) (h1 : l.length ≤ 40) (ht : ∀ r ∈ t, 0 ≤ r ∧ r < 55296) : mtB (l.flatMap enc8) (t.flatMap enc8) = true ↔ Mt l t := by
  unfold mtB
  rw [rt_encs (gr_of h) h0 h1, Bool.true_and, rn_encs0 (gr_of h), rn_encs0 (gr_of ht)]
  exact ⟨fun h => @of_decide_eq_true _ (Classical.propDecidable _) h, fun h => @decide_eq_true _ (Classical.propDecidable _) h⟩
theorem aw1 : mtB [119, 63, 98, 42] [119, 101, 98] = true := by
  have := (mt_encs (l := [119, 63, 98, 42]) (t := [119, 101, 98]) (by decide) (by decide) (by decide) (by decide)).2 (by
    rw [Mt_one (by decide)]
    refine ⟨_, _, rfl, .inr rfl, ?_⟩
    rw [Mt_one (by decide)]
    refine ⟨_, _, rfl, .inl rfl, ?_⟩
    rw [Mt_one (by decide)]
    exact ⟨_, _, rfl, .inr rfl, Mt_all _⟩)
  exact this
theorem aw2 : mtB [119, 63, 98, 42] [119, 195, 169, 98, 45, 50] = true := by
  have := (mt_encs (l := [119, 63, 98, 42]) (t := [119, 233, 98, 45, 50]) (by decide) (by decide) (by decide) (by decide)).2 (by
    rw [Mt_one (by decide)]
    refine ⟨_, _, rfl, .inr rfl, ?_⟩
    rw [Mt_one (by decide)]
    refine ⟨_, _, rfl, .inl rfl, ?_⟩
    rw [Mt_one (by decide)]
    exact ⟨_, _, rfl, .inr rfl, Mt_all _⟩)
  exact this
theorem aw3 : mtB [119, 63, 98, 42] [119, 98] = false := by
  have := (mt_encs (l := [119, 63, 98, 42]) (t := [119, 98]) (by decide) (by decide) (by decide) (by decide)).1
  cases h : mtB [119, 63, 98, 42] [119, 98] with
  | false => rfl
  | true =>
    exfalso
    have h := this h
    rw [Mt_one (by decide)] at h
    obtain ⟨x, t, e, -, h⟩ := h
    simp only [List.cons.injEq] at e
    obtain ⟨rfl, rfl⟩ := e
    rw [Mt_one (by decide)] at h
    obtain ⟨x, t, e, -, h⟩ := h
    simp only [List.cons.injEq] at e
    obtain ⟨rfl, rfl⟩ := e
    rw [Mt_one (by decide)] at h
    obtain ⟨x, t, e, -, h⟩ := h
    cases e
theorem by_dec {l : List Int} (h : ∀ z ∈ l, 0 ≤ z ∧ z ≤ 255) : By l := By.of_mem h
theorem awake_ct (n0 n1 : Nat) : ACt Tryd.prog 6 [] [(0, .zs .u8 fsZ 256 n0), (1, .zs .u8 acZ 32 n1)] (fun r F' => r = bv true ∧ F' = [(0, .zs .u8 fsZ 256 n0), (1, .zs .u8 acZ 32 n1)]) := by
  have hp : By [119, 63, 98, 42] := by_dec (by decide)
  have c1 := match_ct [119, 63, 98, 42] [119, 101, 98] hp (by_dec (by decide)) (by decide) (by decide) n0 n1
  have c2 := match_ct [119, 63, 98, 42] [119, 195, 169, 98, 45, 50] hp (by_dec (by decide)) (by decide) (by decide) n0 n1
  have c3 := match_ct [119, 63, 98, 42] [119, 98] hp (by_dec (by decide)) (by decide) (by decide) n0 n1
  rw [aw1] at c1
  rw [aw2] at c2
  rw [aw3] at c3
  have c1 : ACt Tryd.prog 9 [.lit (.string ⟨#[119, 63, 98, 42]⟩), .lit (.string ⟨#[119, 101, 98]⟩)] _ _ := c1
  have c2 : ACt Tryd.prog 9 [.lit (.string ⟨#[119, 63, 98, 42]⟩), .lit (.string ⟨#[119, 195, 169, 98, 45, 50]⟩)] _ _ := c2
  have c3 : ACt Tryd.prog 9 [.lit (.string ⟨#[119, 63, 98, 42]⟩), .lit (.string ⟨#[119, 98]⟩)] _ _ := c3
  obtain ⟨F, hF⟩ : ∃ F, F = fsZ := ⟨_, rfl⟩
  obtain ⟨A, hA⟩ : ∃ A, A = acZ := ⟨_, rfl⟩
  rw [← hF, ← hA] at c1 c2 c3 ⊢
  refine ACt.intro Tryd.func6 rfl (by kernel_rfl) (by simp [Tryd.ntmps6]) (fun cx => ?_)
  simp only [argE, Tryd.ntmps6, Tryd.results6]
  first | (have FRx := FR; clear FRx) | have FR := fr0S
  have FA := Sm.mk (TFGlH)
  repeat' first | (apply Sm.mk; refine Ys ?_) | refine WP.seq fun K hK => ?_ | (apply Ob.mk; exact Yo) | refine And.intro (Ob.out ?_) ?_ | refine Y1GlH ?_ | refine Yl2 (c := c1) (r := ?_) | refine Yl2 (c := c2) (r := ?_) | refine Yl2 (c := c3) (r := ?_) | refine YzGlH ?_ | (refine WP.cond rfl (fun hc => ?_) (fun hc => ?_) <;> (try simp only [ZC, reduceCtorEq, ZD] at hc) <;> (try exact absurd hc (by decide)) <;> (try (exfalso; omega))) | refine Rt.mk (And.intro (fun hg => Sm.out ?_) fun hg => Sm.out ?_) | (refine Nu.mk ?_; first | (fail_if_success have := nb1); intro nb1 | (fail_if_success have := nb2); intro nb2 | (fail_if_success have := nb3); intro nb3 | (fail_if_success have := nb4); intro nb4 | intro nbz) | (apply Yfr; refine Yf FR fun hFRb FR => ?_) | refine Two.mk ?_ ?_ | (apply Yxc; exact Yx) | refine Cs.mk fun hcs => Sm.out ?_ | go_step | omega | (simp only [maxLen_eq]; omega) | exact trivial
  (refine OutQ.drop _ _ (perm2 (by simp only [hget, hdel, ↓reduceIte, if_true, if_false, FR.out]; first | done | rfl) (by simp only [hget, hdel, ↓reduceIte, if_true, if_false, FR.out]; first | done | rfl)) (by simp only [resv, ZK, look, loadv, loadn, loadnm, load1, load1m, hget, ↓reduceIte, Nat.reduceEqDiff, Nat.reduceAdd, Nat.reduceMul, Nat.reduceLeDiff, Nat.reduceLT, reduceCtorEq, TFGlH, FR.out]) ⟨(by simp only [resv, resA, ZK, look, loadv, loadn, loadnm, load1, load1m, hget, ↓reduceIte, Nat.reduceEqDiff, Nat.reduceAdd, Nat.reduceMul, Nat.reduceLeDiff, Nat.reduceLT, reduceCtorEq, TFGlH, FR.out]; first | done | rfl), rfl⟩)
theorem matches0 (zs ss : List Int) (hb : By zs) (hbs : By ss) (n0 n1 : Nat) : ACt Tryd.prog 3 [stz zs, stz ss] [(0, .zs .u8 fsZ 256 n0), (1, .zs .u8 acZ 32 n1)] (fun r F' => r = bv true ∧ F' = [(0, .zs .u8 fsZ 256 n0), (1, .zs .u8 acZ 32 n1)]) := by
  have cA := awake_ct n0 n1
  have hs := bstr_size zs
  have hq := bstr_size ss
  by_cases hl : 1000 < zs.length ∨ 1000 < ss.length
  · have k1 : (decide ((zs.length : Int) > 1000) || decide ((ss.length : Int) > 1000)) = true := by
      rcases hl with h | h
      · rw [decide_eq_true (show (zs.length : Int) > 1000 by omega)]; rfl
      · rw [decide_eq_true (show (ss.length : Int) > 1000 by omega)]; simp
    obtain ⟨x, hx⟩ : ∃ x, decide ((zs.length : Int) > 1000) = x := ⟨_, rfl⟩
    obtain ⟨y, hy⟩ : ∃ y, decide ((ss.length : Int) > 1000) = y := ⟨_, rfl⟩
    rw [hx, hy] at k1
    obtain ⟨F, hF⟩ : ∃ F, F = fsZ := ⟨_, rfl⟩
    obtain ⟨A, hA⟩ : ∃ A, A = acZ := ⟨_, rfl⟩
    rw [← hF, ← hA] at cA ⊢
    unfold stz
    obtain ⟨B, hB⟩ : ∃ B, B = bstr zs := ⟨_, rfl⟩
    obtain ⟨C, hC⟩ : ∃ C, C = bstr ss := ⟨_, rfl⟩
    rw [← hB] at hs ⊢
    rw [← hC] at hq ⊢
    refine ACt.intro Tryd.func3 rfl (by kernel_rfl) (by simp [Tryd.ntmps3]) (fun cx => ?_)
    simp only [argE, Tryd.ntmps3, Tryd.results3]
    first | (have FRx := FR; clear FRx) | have FR := fr0S
    have FA := Sm.mk (And.intro TFGlH (And.intro hs (And.intro hq (And.intro hx (And.intro hy k1)))))
    repeat' first | (apply Sm.mk; refine Ys ?_) | refine WP.seq fun K hK => ?_ | (apply Ob.mk; exact Yo) | refine And.intro (Ob.out ?_) ?_ | refine Y1GlH ?_ | refine Yl2 (c := cA) (r := ?_) | refine YzGlH ?_ | (refine WP.cond rfl (fun hc => ?_) (fun hc => ?_) <;> (try simp only [ZC, reduceCtorEq, ZD] at hc) <;> (try exact absurd hc (by decide)) <;> (try (exfalso; omega))) | refine Rt.mk (And.intro (fun hg => Sm.out ?_) fun hg => Sm.out ?_) | (refine Nu.mk ?_; first | (fail_if_success have := nb1); intro nb1 | (fail_if_success have := nb2); intro nb2 | (fail_if_success have := nb3); intro nb3 | (fail_if_success have := nb4); intro nb4 | intro nbz) | (apply Yfr; refine Yf FR fun hFRb FR => ?_) | refine Two.mk ?_ ?_ | (apply Yxc; exact Yx) | refine Cs.mk fun hcs => Sm.out ?_ | go_step | omega | (simp only [maxLen_eq]; omega) | exact trivial
    (refine OutQ.drop _ _ (perm2 (by simp only [hget, hdel, ↓reduceIte, if_true, if_false, FR.out]; first | done | rfl) (by simp only [hget, hdel, ↓reduceIte, if_true, if_false, FR.out]; first | done | rfl)) (by simp only [resv, ZK, look, loadv, loadn, loadnm, load1, load1m, hget, ↓reduceIte, Nat.reduceEqDiff, Nat.reduceAdd, Nat.reduceMul, Nat.reduceLeDiff, Nat.reduceLT, reduceCtorEq, TFGlH, FR.out]) ⟨(by simp only [resv, resA, ZK, look, loadv, loadn, loadnm, load1, load1m, hget, ↓reduceIte, Nat.reduceEqDiff, Nat.reduceAdd, Nat.reduceMul, Nat.reduceLeDiff, Nat.reduceLT, reduceCtorEq, TFGlH, FR.out]; first | done | rfl), rfl⟩)
  · have c7 := right_ct zs hb (by omega) n0 n1
    have c8 := rright_ct zs hb (by omega)
    have c9 := match_ct zs ss hb hbs (by omega) (by omega) n0 n1
    have c10 := rmatch_ct zs ss hb hbs (by omega) (by omega)
    have c11 := plain_ct zs hb (by omega) n0 n1
    have c12 := rplain_ct zs hb (by omega)
    rw [mk_rn hb] at c11
    have k1 : decide ((zs.length : Int) > 1000) = false := decide_eq_false (by omega)
    have k2 : decide ((ss.length : Int) > 1000) = false := decide_eq_false (by omega)
    obtain ⟨x, hx⟩ : ∃ x, rtB zs = x := ⟨_, rfl⟩
    obtain ⟨y, hy⟩ : ∃ y, mtB zs ss = y := ⟨_, rfl⟩
    rw [hx] at c7 c8 c11 c12
    rw [hy] at c9 c10
    obtain ⟨z, hz⟩ : ∃ z, (x && !zs.any mkB) = z := ⟨_, rfl⟩
    rw [hz] at c11 c12
    have e1 : (x == x) = true := by cases x <;> rfl
    have e2 : (y == y) = true := by cases y <;> rfl
    have e3 : (z == z) = true := by cases z <;> rfl
    obtain ⟨F, hF⟩ : ∃ F, F = fsZ := ⟨_, rfl⟩
    obtain ⟨A, hA⟩ : ∃ A, A = acZ := ⟨_, rfl⟩
    rw [← hF, ← hA] at cA c7 c9 c11 ⊢
    unfold stz at *
    obtain ⟨B, hB⟩ : ∃ B, B = bstr zs := ⟨_, rfl⟩
    obtain ⟨C, hC⟩ : ∃ C, C = bstr ss := ⟨_, rfl⟩
    rw [← hB] at hs c7 c8 c9 c10 c11 c12 ⊢
    rw [← hC] at hq c9 c10 ⊢
    refine ACt.intro Tryd.func3 rfl (by kernel_rfl) (by simp [Tryd.ntmps3]) (fun cx => ?_)
    simp only [argE, Tryd.ntmps3, Tryd.results3]
    first | (have FRx := FR; clear FRx) | have FR := fr0S
    have FA := Sm.mk (And.intro TFGlH (And.intro hs (And.intro hq (And.intro k1 (And.intro k2 (And.intro e1 (And.intro e2 e3)))))))
    repeat' first | (apply Sm.mk; refine Ys ?_) | refine WP.seq fun K hK => ?_ | (apply Ob.mk; exact Yo) | refine And.intro (Ob.out ?_) ?_ | refine Y1GlH ?_ | refine Yl2 (c := cA) (r := ?_) | refine Yl2 (c := c7) (r := ?_) | refine Yc (c := c8) (r := ?_) | refine Yl2 (c := c9) (r := ?_) | refine Yc (c := c10) (r := ?_) | refine Yl2 (c := c11) (r := ?_) | refine Yc (c := c12) (r := ?_) | refine YzGlH ?_ | (refine WP.cond rfl (fun hc => ?_) (fun hc => ?_) <;> (try simp only [ZC, reduceCtorEq, ZD] at hc) <;> (try exact absurd hc (by decide)) <;> (try (exfalso; omega))) | refine Rt.mk (And.intro (fun hg => Sm.out ?_) fun hg => Sm.out ?_) | (refine Nu.mk ?_; first | (fail_if_success have := nb1); intro nb1 | (fail_if_success have := nb2); intro nb2 | (fail_if_success have := nb3); intro nb3 | (fail_if_success have := nb4); intro nb4 | intro nbz) | (apply Yfr; refine Yf FR fun hFRb FR => ?_) | refine Two.mk ?_ ?_ | (apply Yxc; exact Yx) | refine Cs.mk fun hcs => Sm.out ?_ | go_step | omega | (simp only [maxLen_eq]; omega) | exact trivial
    (refine OutQ.drop _ _ (perm2 (by simp only [hget, hdel, ↓reduceIte, if_true, if_false, FR.out]; first | done | rfl) (by simp only [hget, hdel, ↓reduceIte, if_true, if_false, FR.out]; first | done | rfl)) (by simp only [resv, ZK, look, loadv, loadn, loadnm, load1, load1m, hget, ↓reduceIte, Nat.reduceEqDiff, Nat.reduceAdd, Nat.reduceMul, Nat.reduceLeDiff, Nat.reduceLT, reduceCtorEq, TFGlH, FR.out]) ⟨(by simp only [resv, resA, ZK, look, loadv, loadn, loadnm, load1, load1m, hget, ↓reduceIte, Nat.reduceEqDiff, Nat.reduceAdd, Nat.reduceMul, Nat.reduceLeDiff, Nat.reduceLT, reduceCtorEq, TFGlH, FR.out]; first | done | rfl), rfl⟩)
theorem matches_law (p s : ByteArray) (n0 n1 : Nat) : ACt Tryd.prog 3 [.lit (.string p), .lit (.string s)] [(0, .zs .u8 fsZ 256 n0), (1, .zs .u8 acZ 32 n1)] (fun r F' => r = bv true ∧ F' = [(0, .zs .u8 fsZ 256 n0), (1, .zs .u8 acZ 32 n1)]) := by
  obtain ⟨e, hb⟩ := s_bstr p
  obtain ⟨e2, hb2⟩ := s_bstr s
  rw [e, e2]
  exact matches0 _ _ hb hb2 n0 n1
/-! ### anything ahead -/
theorem mt_iff {zs ss : List Int} : mtB zs ss = true ↔ rtB zs = true ∧ Mt (rn zs) (rn ss) := by
  unfold mtB
  rw [Bool.and_eq_true]
  exact and_congr Iff.rfl ⟨fun h => @of_decide_eq_true _ (Classical.propDecidable _) h, fun h => @decide_eq_true _ (Classical.propDecidable _) h⟩
theorem rt_iff {zs : List Int} : rtB zs = true ↔ zs ≠ [] ∧ Gd zs 0 ∧ (rn zs).length ≤ 40 := by
  unfold rtB
  simp only [Bool.and_eq_true, Bool.not_eq_true', decide_eq_false_iff_not, decide_eq_true_eq, gdB_iff]
  constructor
  · rintro ⟨⟨h1, h2⟩, h3⟩; exact ⟨h1, h2, by omega⟩
  · rintro ⟨h1, h2, h3⟩; exact ⟨⟨h1, h2⟩, by omega⟩
theorem by42 : By [42] := by_dec (by decide)
theorem gr42 : ∀ r ∈ ([42] : List Int), Gr r := gr_of (by decide)
theorem rn42 : rn [42] = [42] := rn_encs0 (l := [42]) gr42
theorem gd42 : Gd [42] 0 := gd_encs (l := [42]) gr42
theorem j_ahead {zs ss ts : List Int} (hb : By zs) (hbt : By ts) (hg : Gd ts 0) (h : mtB zs ss = true) (hl : (rn zs).length < 40) : mtB ([42] ++ zs) (ts ++ ss) = true := by
  obtain ⟨h1, h2⟩ := mt_iff.1 h
  obtain ⟨a1, a2, a3⟩ := rt_iff.1 h1
  have e : rn ([42] ++ zs) = 42 :: rn zs := by rw [rn_app by42 gd42, rn42]; rfl
  refine mt_iff.2 ⟨rt_iff.2 ⟨by simp, gd_app by42 gd42 hb a2, by rw [e, List.length_cons]; omega⟩, ?_⟩
  rw [e, rn_app hbt hg]
  exact Mt_ahead _ h2
theorem j_behind {zs ss ts : List Int} (hb : By zs) (hbs : By ss) (hg : Gd ss 0) (h : mtB zs ss = true) (hl : (rn zs).length < 40) : mtB (zs ++ [42]) (ss ++ ts) = true := by
  obtain ⟨h1, h2⟩ := mt_iff.1 h
  obtain ⟨a1, a2, a3⟩ := rt_iff.1 h1
  have e : rn (zs ++ [42]) = rn zs ++ [42] := by rw [rn_app hb a2, rn42]
  refine mt_iff.2 ⟨rt_iff.2 ⟨by simp, gd_app hb a2 by42 gd42, by rw [e, List.length_append, List.length_singleton]; omega⟩, ?_⟩
  rw [e, rn_app hbs hg]
  exact Mt_behind _ h2
theorem j_any (ss : List Int) : mtB [42] ss = true := by
  refine mt_iff.2 ⟨rt_iff.2 ⟨by simp, gd42, by rw [rn42]; decide⟩, ?_⟩
  rw [rn42]
  exact Mt_all _
theorem j_plain {zs ss : List Int} (hb : By zs) (hbs : By ss) (h : (rtB zs && !(rn zs).any mkB) = true) : mtB zs ss = decide (zs = ss) := by
  rw [Bool.and_eq_true] at h
  obtain ⟨h1, h2⟩ := h
  have hm : ∀ c ∈ rn zs, c ≠ 42 ∧ c ≠ 63 := fun c hc => by
    have h3 : (rn zs).any mkB = false := by simpa using h2
    have := List.any_eq_false.1 h3 c hc
    unfold mkB at this
    simp only [Bool.or_eq_true, beq_iff_eq] at this
    exact ⟨fun e => this (.inl e), fun e => this (.inr e)⟩
  rw [Bool.eq_iff_iff, decide_eq_true_eq, mt_iff, Mt_plain _ hm]
  constructor
  · rintro ⟨-, e⟩; exact rn_inj hb hbs (rt_iff.1 h1).2.1 e
  · rintro rfl; exact ⟨h1, rfl⟩
set_option maxHeartbeats 4000000 in
theorem joins0 (zs ss ts : List Int) (hb : By zs) (hbs : By ss) (hbt : By ts) (n0 n1 : Nat) : ACt Tryd.prog 4 [stz zs, stz ss, stz ts] [(0, .zs .u8 fsZ 256 n0), (1, .zs .u8 acZ 32 n1)] (fun r F' => r = bv true ∧ F' = [(0, .zs .u8 fsZ 256 n0), (1, .zs .u8 acZ 32 n1)]) := by
  have cA := awake_ct n0 n1
  have hs := bstr_size zs
  have hq := bstr_size ss
  have hu := bstr_size ts
  by_cases hl : 1000 < zs.length ∨ 1000 < ss.length ∨ 1000 < ts.length
  · have k1 : (decide ((zs.length : Int) > 1000) || decide ((ss.length : Int) > 1000) || decide ((ts.length : Int) > 1000)) = true := by
      rcases hl with h | h | h
      · rw [decide_eq_true (show (zs.length : Int) > 1000 by omega)]; rfl
      · rw [decide_eq_true (show (ss.length : Int) > 1000 by omega)]; simp
      · rw [decide_eq_true (show (ts.length : Int) > 1000 by omega)]; simp
    obtain ⟨x, hx⟩ : ∃ x, decide ((zs.length : Int) > 1000) = x := ⟨_, rfl⟩
    obtain ⟨y, hy⟩ : ∃ y, decide ((ss.length : Int) > 1000) = y := ⟨_, rfl⟩
    obtain ⟨z, hz⟩ : ∃ z, decide ((ts.length : Int) > 1000) = z := ⟨_, rfl⟩
    rw [hx, hy, hz] at k1
    obtain ⟨F, hF⟩ : ∃ F, F = fsZ := ⟨_, rfl⟩
    obtain ⟨A, hA⟩ : ∃ A, A = acZ := ⟨_, rfl⟩
    rw [← hF, ← hA] at cA ⊢
    unfold stz
    obtain ⟨B, hB⟩ : ∃ B, B = bstr zs := ⟨_, rfl⟩
    obtain ⟨C, hC⟩ : ∃ C, C = bstr ss := ⟨_, rfl⟩
    obtain ⟨D, hD⟩ : ∃ D, D = bstr ts := ⟨_, rfl⟩
    rw [← hB] at hs ⊢
    rw [← hC] at hq ⊢
    rw [← hD] at hu ⊢
    refine ACt.intro Tryd.func4 rfl (by kernel_rfl) (by simp [Tryd.ntmps4]) (fun cx => ?_)
    simp only [argE, Tryd.ntmps4, Tryd.results4]
    first | (have FRx := FR; clear FRx) | have FR := fr0S
    have FA := Sm.mk (And.intro TFGlH (And.intro hs (And.intro hq (And.intro hu (And.intro hx (And.intro hy (And.intro hz k1)))))))
    repeat' first | (apply Sm.mk; refine Ys ?_) | refine WP.seq fun K hK => ?_ | (apply Ob.mk; exact Yo) | refine And.intro (Ob.out ?_) ?_ | refine Y1GlH ?_ | refine Yl2 (c := cA) (r := ?_) | refine YzGlH ?_ | (refine WP.cond rfl (fun hc => ?_) (fun hc => ?_) <;> (try simp only [ZC, reduceCtorEq, ZD] at hc) <;> (try exact absurd hc (by decide)) <;> (try (exfalso; omega))) | refine Rt.mk (And.intro (fun hg => Sm.out ?_) fun hg => Sm.out ?_) | (refine Nu.mk ?_; first | (fail_if_success have := nb1); intro nb1 | (fail_if_success have := nb2); intro nb2 | (fail_if_success have := nb3); intro nb3 | (fail_if_success have := nb4); intro nb4 | intro nbz) | (apply Yfr; refine Yf FR fun hFRb FR => ?_) | refine Two.mk ?_ ?_ | (apply Yxc; exact Yx) | refine Cs.mk fun hcs => Sm.out ?_ | go_step | omega | (simp only [maxLen_eq]; omega) | exact trivial
    (refine OutQ.drop _ _ (perm2 (by simp only [hget, hdel, ↓reduceIte, if_true, if_false, FR.out]; first | done | rfl) (by simp only [hget, hdel, ↓reduceIte, if_true, if_false, FR.out]; first | done | rfl)) (by simp only [resv, ZK, look, loadv, loadn, loadnm, load1, load1m, hget, ↓reduceIte, Nat.reduceEqDiff, Nat.reduceAdd, Nat.reduceMul, Nat.reduceLeDiff, Nat.reduceLT, reduceCtorEq, TFGlH, FR.out]) ⟨(by simp only [resv, resA, ZK, look, loadv, loadn, loadnm, load1, load1m, hget, ↓reduceIte, Nat.reduceEqDiff, Nat.reduceAdd, Nat.reduceMul, Nat.reduceLeDiff, Nat.reduceLT, reduceCtorEq, TFGlH, FR.out]; first | done | rfl), rfl⟩)
  · have k1 : decide ((zs.length : Int) > 1000) = false := decide_eq_false (by omega)
    have k2 : decide ((ss.length : Int) > 1000) = false := decide_eq_false (by omega)
    have k3 : decide ((ts.length : Int) > 1000) = false := decide_eq_false (by omega)
    have c13s := rgood_ct ss hbs (by omega)
    have c13t := rgood_ct ts hbt (by omega)
    have c11 := plain_ct zs hb (by omega) n0 n1
    have c9 := match_ct zs ss hb hbs (by omega) (by omega) n0 n1
    have c14 := ACt.fzRow (runes_ct zs hb (by omega))
    have c9a := match_ct ([42] ++ zs) (ts ++ ss) (by42.app hb) (hbt.app hbs) (by simp; omega) (by simp; omega) n0 n1
    have c9b := match_ct (zs ++ [42]) (ss ++ ts) (hb.app by42) (hbs.app hbt) (by simp; omega) (by simp; omega) n0 n1
    have c9c := match_ct [42] ss by42 hbs (by decide) (by omega) n0 n1
    have y1 := str_eq zs ss hb hbs
    have a1 := bstr_app [42] zs
    have a2 := bstr_app ts ss
    have a3 := bstr_app zs [42]
    have a4 := bstr_app ss ts
    have hp := j_plain (ss := ss) hb hbs
    have ha := j_ahead (ss := ss) (ts := ts) hb hbt
    have hh := j_behind (ss := ss) (ts := ts) hb hbs
    rw [j_any ss] at c9c
    have hz42 : bstr [42] = (⟨#[42]⟩ : ByteArray) := rfl
    unfold stz at *
    rw [hz42] at a1 a3 c9c
    obtain ⟨S, hS⟩ : ∃ S, S = (⟨#[42]⟩ : ByteArray) := ⟨_, rfl⟩
    obtain ⟨B, hB⟩ : ∃ B, B = bstr zs := ⟨_, rfl⟩
    obtain ⟨C, hC⟩ : ∃ C, C = bstr ss := ⟨_, rfl⟩
    obtain ⟨D, hD⟩ : ∃ D, D = bstr ts := ⟨_, rfl⟩
    rw [← hB] at hs c11 c9 c14 y1 a1 a3 ⊢
    rw [← hC] at hq c13s c9 c9c y1 a2 a4 ⊢
    rw [← hD] at hu c13t a2 a4 ⊢
    rw [← hS] at a1 a3
    obtain ⟨M1, hM1⟩ : ∃ M, M = bstr ([42] ++ zs) := ⟨_, rfl⟩
    obtain ⟨M2, hM2⟩ : ∃ M, M = bstr (ts ++ ss) := ⟨_, rfl⟩
    obtain ⟨M3, hM3⟩ : ∃ M, M = bstr (zs ++ [42]) := ⟨_, rfl⟩
    obtain ⟨M4, hM4⟩ : ∃ M, M = bstr (ss ++ ts) := ⟨_, rfl⟩
    rw [← hM1] at a1 c9a
    rw [← hM2] at a2 c9a
    rw [← hM3] at a3 c9b
    rw [← hM4] at a4 c9b
    obtain ⟨g1, hg1⟩ : ∃ g, gdB ss = g := ⟨_, rfl⟩
    obtain ⟨g2, hg2⟩ : ∃ g, gdB ts = g := ⟨_, rfl⟩
    rw [hg1] at c13s
    rw [hg2] at c13t
    rw [← gdB_iff, hg2] at ha
    rw [← gdB_iff, hg1] at hh
    obtain ⟨pl, hpl⟩ : ∃ p, (rtB zs && !(rn zs).any mkB) = p := ⟨_, rfl⟩
    rw [hpl] at c11 hp
    obtain ⟨mt, hmt⟩ : ∃ m, mtB zs ss = m := ⟨_, rfl⟩
    rw [hmt] at c9 hp ha hh
    obtain ⟨eq, heq⟩ : ∃ e, decide (zs = ss) = e := ⟨_, rfl⟩
    rw [heq] at y1 hp
    obtain ⟨L, hL⟩ : ∃ L, L = rn zs := ⟨_, rfl⟩
    rw [← hL] at c14 ha hh
    obtain ⟨n, hn⟩ : ∃ n, n = L.length := ⟨_, rfl⟩
    have hLn : L.length = n := hn.symm
    rw [hLn] at ha hh
    obtain ⟨q, hq40⟩ : ∃ q, decide ((n : Int) ≥ 40) = q := ⟨_, rfl⟩
    obtain ⟨m1, hm1⟩ : ∃ m, mtB ([42] ++ zs) (ts ++ ss) = m := ⟨_, rfl⟩
    obtain ⟨m2, hm2⟩ : ∃ m, mtB (zs ++ [42]) (ss ++ ts) = m := ⟨_, rfl⟩
    rw [hm1] at c9a ha
    rw [hm2] at c9b hh
    obtain ⟨F, hF⟩ : ∃ F, F = fsZ := ⟨_, rfl⟩
    obtain ⟨A, hA⟩ : ∃ A, A = acZ := ⟨_, rfl⟩
    rw [← hF, ← hA] at cA c11 c9 c9a c9b c9c ⊢
    rw [← hS] at c9c
    have hS' : (⟨#[42]⟩ : ByteArray) = S := hS.symm
    have hsz : S.size = 1 := by rw [hS]; rfl
    have b1 : S.size + zs.length ≤ 9223372036854775807 := by omega
    have b2 : zs.length + S.size ≤ 9223372036854775807 := by omega
    refine ACt.intro Tryd.func4 rfl (by kernel_rfl) (by simp [Tryd.ntmps4]) (fun cx => ?_)
    simp only [argE, Tryd.ntmps4, Tryd.results4]
    first | (have FRx := FR; clear FRx) | have FR := fr0S
    have FA := Sm.mk (And.intro TFGlH (And.intro hs (And.intro hq (And.intro hu (And.intro k1 (And.intro k2 (And.intro k3 (And.intro y1 (And.intro a1 (And.intro a2 (And.intro a3 (And.intro a4 (And.intro hLn (And.intro hq40 (And.intro hS' (And.intro b1 b2))))))))))))))))
    repeat' first | (apply Sm.mk; refine Ys ?_) | refine WP.seq fun K hK => ?_ | (apply Ob.mk; exact Yo) | refine And.intro (Ob.out ?_) ?_ | refine Y1GlH ?_ | refine Yl2 (c := cA) (r := ?_) | refine Yc (c := c13s) (r := ?_) | refine Yc (c := c13t) (r := ?_) | refine Yl2 (c := c11) (r := ?_) | refine Yl2 (c := c9) (r := ?_) | refine Yc (c := c14) (r := ?_) | refine Yl2 (c := c9a) (r := ?_) | refine Yl2 (c := c9b) (r := ?_) | refine Yl2 (c := c9c) (r := ?_) | refine YzGlH ?_ | (refine WP.cond rfl (fun hc => ?_) (fun hc => ?_) <;> (try simp only [ZC, reduceCtorEq, ZD] at hc) <;> (try exact absurd hc (by decide)) <;> (try (exfalso; omega))) | refine Rt.mk (And.intro (fun hg => Sm.out ?_) fun hg => Sm.out ?_) | (refine Nu.mk ?_; first | (fail_if_success have := nb1); intro nb1 | (fail_if_success have := nb2); intro nb2 | (fail_if_success have := nb3); intro nb3 | (fail_if_success have := nb4); intro nb4 | intro nbz) | (apply Yfr; refine Yf FR fun hFRb FR => ?_) | refine Two.mk ?_ ?_ | (apply Yxc; exact Yx) | refine Cs.mk fun hcs => Sm.out ?_ | go_step | omega | (simp only [maxLen_eq]; omega) | exact trivial
    · (refine OutQ.drop _ _ (perm2 (by simp only [hget, hdel, ↓reduceIte, if_true, if_false, FR.out]; first | done | rfl) (by simp only [hget, hdel, ↓reduceIte, if_true, if_false, FR.out]; first | done | rfl)) (by simp only [resv, ZK, look, loadv, loadn, loadnm, load1, load1m, hget, ↓reduceIte, Nat.reduceEqDiff, Nat.reduceAdd, Nat.reduceMul, Nat.reduceLeDiff, Nat.reduceLT, reduceCtorEq, TFGlH, FR.out]) ⟨(by simp only [resv, resA, ZK, look, loadv, loadn, loadnm, load1, load1m, hget, ↓reduceIte, Nat.reduceEqDiff, Nat.reduceAdd, Nat.reduceMul, Nat.reduceLeDiff, Nat.reduceLT, reduceCtorEq, TFGlH, FR.out]; first | done | rfl), rfl⟩)
    · exact absurd (hp hc.1) hc.2
    · (refine OutQ.drop _ _ (perm2 (by simp only [hget, hdel, ↓reduceIte, if_true, if_false, FR.out]; first | done | rfl) (by simp only [hget, hdel, ↓reduceIte, if_true, if_false, FR.out]; first | done | rfl)) (by simp only [resv, ZK, look, loadv, loadn, loadnm, load1, load1m, hget, ↓reduceIte, Nat.reduceEqDiff, Nat.reduceAdd, Nat.reduceMul, Nat.reduceLeDiff, Nat.reduceLT, reduceCtorEq, TFGlH, FR.out]) ⟨(by simp only [resv, resA, ZK, look, loadv, loadn, loadnm, load1, load1m, hget, ↓reduceIte, Nat.reduceEqDiff, Nat.reduceAdd, Nat.reduceMul, Nat.reduceLeDiff, Nat.reduceLT, reduceCtorEq, TFGlH, FR.out]; first | done | rfl), rfl⟩)
    · have hn40 : n < 40 := by
        have := hc.2
        rw [← hq40] at this
        have := of_decide_eq_false this
        omega
      rename_i hcA hcB
      have e1 := ha hcA.2 hc.1 hn40
      have e2 := hh hcA.1 hc.1 hn40
      (refine OutQ.drop _ _ (perm2 (by simp only [hget, hdel, ↓reduceIte, if_true, if_false, FR.out, e1, e2, Bool.and_true, Bool.true_and]; first | done | rfl) (by simp only [hget, hdel, ↓reduceIte, if_true, if_false, FR.out, e1, e2, Bool.and_true, Bool.true_and]; first | done | rfl)) (by simp only [resv, ZK, look, loadv, loadn, loadnm, load1, load1m, hget, ↓reduceIte, Nat.reduceEqDiff, Nat.reduceAdd, Nat.reduceMul, Nat.reduceLeDiff, Nat.reduceLT, reduceCtorEq, TFGlH, FR.out, e1, e2, Bool.and_true, Bool.true_and]) ⟨(by simp only [resv, resA, ZK, look, loadv, loadn, loadnm, load1, load1m, hget, ↓reduceIte, Nat.reduceEqDiff, Nat.reduceAdd, Nat.reduceMul, Nat.reduceLeDiff, Nat.reduceLT, reduceCtorEq, TFGlH, FR.out, e1, e2, Bool.and_true, Bool.true_and]; first | done | rfl), rfl⟩)
theorem joins_law (p s t : ByteArray) (n0 n1 : Nat) : ACt Tryd.prog 4 [.lit (.string p), .lit (.string s), .lit (.string t)] [(0, .zs .u8 fsZ 256 n0), (1, .zs .u8 acZ 32 n1)] (fun r F' => r = bv true ∧ F' = [(0, .zs .u8 fsZ 256 n0), (1, .zs .u8 acZ 32 n1)]) := by
  obtain ⟨e, hb⟩ := s_bstr p
  obtain ⟨e2, hb2⟩ := s_bstr s
  obtain ⟨e3, hb3⟩ := s_bstr t
  rw [e, e2, e3]
  exact joins0 _ _ _ hb hb2 hb3 n0 n1
end Go.Proofs.YtdkkfgcdnojmaaaDoor
