/-
  The walks and the laws that the statement leans on, part 25.
-/
import Derived.Test.YtdkkfgcdnojmaaaDoorS13
import Derived.Test.YtdkkfgcdnojmaaaDoorS24
namespace Go.Proofs.YtdkkfgcdnojmaaaDoor
open Go
set_option linter.unusedVariables false
set_option linter.unusedSimpArgs false
set_option linter.defProp false
def TFGlH :=
  And.intro (And.intro (And.intro (And.intro tyc3 zmb3) (And.intro tyc4 zmb4)) (And.intro (And.intro tyc9 zmb9) (And.intro tyc21 (And.intro zmb21 tyc25)))) (And.intro (And.intro (And.intro elt25 mkz25) (And.intro apT25 (And.intro elk25 zmb25))) (And.intro (And.intro Tryd.underlying3 Tryd.underlying4) (And.intro Tryd.underlying9 (And.intro Tryd.underlying21 Tryd.underlying25))))
theorem Y1GlH {G R : Prop} (r : R) (h : R → G := by intro r; first | (apply WP.region; exact rvc_sound _ _ (Sm.out r)) | exact WP.drawK rfl mixed (by decide +kernel) (Sm.out r) | (apply WP.block; exact r) | (apply WP.skip; exact Yq r) | (apply WP.exit; exact Yq r) | (apply WP.ret; exact Sm.out r) | exact WP.cond rfl (fun _ => r) (fun hg => absurd hg (by decide)) | exact WP.cond rfl (fun hg => absurd hg (by decide)) (fun _ => r) | exact Rt.mk (And.intro (fun _ => Sm.out r) fun hg => absurd hg (by decide)) | exact Rt.mk (And.intro (fun hg => absurd hg (by decide)) fun _ => Sm.out r)) : G := h r
theorem YzGlH {G R : Prop} (r : R) (h : R → G := by intro r; first | (apply ExG.no; exact Sm.out r) | (apply Or.inl; apply ExG.no; exact Sm.out r) | exact Or.inl (And.intro (fun hg => absurd hg (by decide)) (ExG.no (Sm.out r)))) : G := h r
theorem rt_encs {l : List Int} (h : ∀ r ∈ l, Gr r) (h0 : l ≠ []) (h1 : l.length ≤ 40) : rtB (l.flatMap enc8) = true := by
  unfold rtB
  have e := rn_encs0 h
  have hg : gdB (l.flatMap enc8) = true := gdB_iff.2 (gd_encs h)
  rw [hg, e, decide_eq_true (show (l.length : Int) ≤ 40 by omega)]
  have : l.flatMap enc8 ≠ [] := fun hz => by rw [hz] at e; exact h0 e.symm
  simp [this]
theorem gr_of {l : List Int} (h : ∀ r ∈ l, 0 ≤ r ∧ r < 55296) : ∀ r ∈ l, Gr r := fun r hr => by have := h r hr; unfold Gr; omega
theorem mt_encs {l t : List Int} (h : ∀ r ∈ l, 0 ≤ r ∧ r < 55296) (h0 : l ≠ []) (h1 : l.length ≤ 40) (ht : ∀ r ∈ t, 0 ≤ r ∧ r < 55296) : mtB (l.flatMap enc8) (t.flatMap enc8) = true ↔ Mt l t := by
  unfold mtB
  rw [rt_encs (gr_of h) h0 h1, Bool.true_and, rn_encs0 (gr_of h), rn_encs0 (gr_of ht)]
  exact ⟨fun h => @of_decide_eq_true _ (Classical.propDecidable _) h, fun h => @decide_eq_true _ (Classical.propDecidable _) h⟩
theorem aw1 : mtB [119, 63, 98, 42] [119, 101, 98] = true := by
  have := (mt_encs (l := [119, 63, 98, 42]) (t := [119, 101, 98]) (by decide) (by decide) (by decide) (by decide)).2 (by
    rw [Mt_one (by decide)]
    refine ⟨_, _, rfl, .inr rfl, ?_⟩
    rw [Mt_one (by decide)]
    refine ⟨_, _, rfl, .inl rfl, ?_⟩
    rw [Mt_one (by decide)]
    exact ⟨_, _, rfl, .inr rfl, Mt_all _⟩)
  exact this
theorem aw2 : mtB [119, 63, 98, 42] [119, 195, 169, 98, 45, 50] = true := by
  have := (mt_encs (l := [119, 63, 98, 42]) (t := [119, 233, 98, 45, 50]) (by decide) (by decide) (by decide) (by decide)).2 (by
    rw [Mt_one (by decide)]
    refine ⟨_, _, rfl, .inr rfl, ?_⟩
    rw [Mt_one (by decide)]
    refine ⟨_, _, rfl, .inl rfl, ?_⟩
    rw [Mt_one (by decide)]
    exact ⟨_, _, rfl, .inr rfl, Mt_all _⟩)
  exact this
theorem aw3 : mtB [119, 63, 98, 42] [119, 98] = false := by
  have := (mt_encs (l := [119, 63, 98, 42]) (t := [119, 98]) (by decide) (by decide) (by decide) (by decide)).1
  cases h : mtB [119, 63, 98, 42] [119, 98] with
  | false => rfl
  | true =>
    exfalso
    have h := this h
    rw [Mt_one (by decide)] at h
    obtain ⟨x, t, e, -, h⟩ := h
    simp only [List.cons.injEq] at e
    obtain ⟨rfl, rfl⟩ := e
    rw [Mt_one (by decide)] at h
    obtain ⟨x, t, e, -, h⟩ := h
    simp only [List.cons.injEq] at e
    obtain ⟨rfl, rfl⟩ := e
    rw [Mt_one (by decide)] at h
    obtain ⟨x, t, e, -, h⟩ := h
    cases e
theorem by_dec {l : List Int} (h : ∀ z ∈ l, 0 ≤ z ∧ z ≤ 255) : By l := By.of_mem h
theorem awake_ct (n0 n1 : Nat) : ACt Tryd.prog 6 [] [(0, .zs .u8 fsZ 256 n0), (1, .zs .u8 acZ 32 n1)] (fun r F' => r = bv true ∧ F' = [(0, .zs .u8 fsZ 256 n0), (1, .zs .u8 acZ 32 n1)]) := by
  have hp : By [119, 63, 98, 42] := by_dec (by decide)
  have c1 := match_ct [119, 63, 98, 42] [119, 101, 98] hp (by_dec (by decide)) (by decide) (by decide) n0 n1
  have c2 := match_ct [119, 63, 98, 42] [119, 195, 169, 98, 45, 50] hp (by_dec (by decide)) (by decide) (by decide) n0 n1
  have c3 := match_ct [119, 63, 98, 42] [119, 98] hp (by_dec (by decide)) (by decide) (by decide) n0 n1
  rw [aw1] at c1
  rw [aw2] at c2
  rw [aw3] at c3
  have c1 : ACt Tryd.prog 9 [.lit (.string ⟨#[119, 63, 98, 42]⟩), .lit (.string ⟨#[119, 101, 98]⟩)] _ _ := c1
  have c2 : ACt Tryd.prog 9 [.lit (.string ⟨#[119, 63, 98, 42]⟩), .lit (.string ⟨#[119, 195, 169, 98, 45, 50]⟩)] _ _ := c2
  have c3 : ACt Tryd.prog 9 [.lit (.string ⟨#[119, 63, 98, 42]⟩), .lit (.string ⟨#[119, 98]⟩)] _ _ := c3
  obtain ⟨F, hF⟩ : ∃ F, F = fsZ := ⟨_, rfl⟩
  obtain ⟨A, hA⟩ : ∃ A, A = acZ := ⟨_, rfl⟩
  rw [← hF, ← hA] at c1 c2 c3 ⊢
  refine ACt.intro Tryd.func6 rfl (by kernel_rfl) (by simp [Tryd.ntmps6]) (fun cx => ?_)
  simp only [argE, Tryd.ntmps6, Tryd.results6]
  first | (have FRx := FR; clear FRx) | have FR := fr0S
  have FA := Sm.mk (TFGlH)
  repeat' first | (apply Sm.mk; refine Ys ?_) | refine WP.seq fun K hK => ?_ | (apply Ob.mk; exact Yo) | refine And.intro (Ob.out ?_) ?_ | refine Y1GlH ?_ | refine Yl2 (c := c1) (r := ?_) | refine Yl2 (c := c2) (r := ?_) | refine Yl2 (c := c3) (r := ?_) | refine YzGlH ?_ | (refine WP.cond rfl (fun hc => ?_) (fun hc => ?_) <;> (try simp only [ZC, reduceCtorEq, ZD] at hc) <;> (try exact absurd hc (by decide)) <;> (try (exfalso; omega))) | refine Rt.mk (And.intro (fun hg => Sm.out ?_) fun hg => Sm.out ?_) | (refine Nu.mk ?_; first | (fail_if_success have := nb1); intro nb1 | (fail_if_success have := nb2); intro nb2 | (fail_if_success have := nb3); intro nb3 | (fail_if_success have := nb4); intro nb4 | intro nbz) | (apply Yfr; refine Yf FR fun hFRb FR => ?_) | refine Two.mk ?_ ?_ | (apply Yxc; exact Yx) | refine Cs.mk fun hcs => Sm.out ?_ | go_step | omega | (simp only [maxLen_eq]; omega) | exact trivial
  (refine OutQ.drop _ _ (perm2 (by simp only [hget, hdel, ↓reduceIte, if_true, if_false, FR.out]; first | done | rfl) (by simp only [hget, hdel, ↓reduceIte, if_true, if_false, FR.out]; first | done | rfl)) (by simp only [resv, ZK, look, loadv, loadn, loadnm, load1, load1m, hget, ↓reduceIte, Nat.reduceEqDiff, Nat.reduceAdd, Nat.reduceMul, Nat.reduceLeDiff, Nat.reduceLT, reduceCtorEq, TFGlH, FR.out]) ⟨(by simp only [resv, resA, ZK, look, loadv, loadn, loadnm, load1, load1m, hget, ↓reduceIte, Nat.reduceEqDiff, Nat.reduceAdd, Nat.reduceMul, Nat.reduceLeDiff, Nat.reduceLT, reduceCtorEq, TFGlH, FR.out]; first | done | rfl), rfl⟩)
/-! ### anything ahead -/
theorem mt_iff {zs ss : List Int} : mtB zs ss = true ↔ rtB zs = true ∧ Mt (rn zs) (rn ss) := by
  unfold mtB
  rw [Bool.and_eq_true]
  exact and_congr Iff.rfl ⟨fun h => @of_decide_eq_true _ (Classical.propDecidable _) h, fun h => @decide_eq_true _ (Classical.propDecidable _) h⟩
theorem rt_iff {zs : List Int} : rtB zs = true ↔ zs ≠ [] ∧ Gd zs 0 ∧ (rn zs).length ≤ 40 := by
  unfold rtB
  simp only [Bool.and_eq_true, Bool.not_eq_true', decide_eq_false_iff_not, decide_eq_true_eq, gdB_iff]
  constructor
  · rintro ⟨⟨h1, h2⟩, h3⟩; exact ⟨h1, h2, by omega⟩
  · rintro ⟨h1, h2, h3⟩; exact ⟨⟨h1, h2⟩, by omega⟩
end Go.Proofs.YtdkkfgcdnojmaaaDoor
