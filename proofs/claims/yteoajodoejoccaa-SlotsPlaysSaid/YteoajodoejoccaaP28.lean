/-
  The walks and the laws that the statement leans on, part 28.
-/
import Derived.Test.YteoajodoejoccaaP10
import Derived.Test.YteoajodoejoccaaP20
import Derived.Test.YteoajodoejoccaaP27
namespace Go.Proofs.Yteoajodoejoccaa
open Go
set_option linter.unusedVariables false
set_option linter.unusedSimpArgs false
set_option linter.defProp false
def TFCfD :=
  And.intro (And.intro (And.intro (And.intro tyc3 (And.intro zmb3 tyc4)) (And.intro zmb4 (And.intro tyc5 zmb5))) (And.intro (And.intro tyc25 (And.intro mth25_45 mth25_44)) (And.intro (And.intro mth25_43 con25) (And.intro zmb25 tyc28)))) (And.intro (And.intro (And.intro zmb28 (And.intro tyc36 elt36)) (And.intro mkz36 (And.intro apT36 elk36))) (And.intro (And.intro zmb36 (And.intro Try.underlying3 Try.underlying4)) (And.intro (And.intro Try.underlying5 Try.underlying25) (And.intro Try.underlying28 Try.underlying36))))
theorem Y1CfD {G R : Prop} (r : R) (h : R → G := by intro r; first | (apply WP.region; exact rvc_sound _ _ (Sm.out r)) | exact WP.drawK rfl mixed (by decide +kernel) (Sm.out r) | (apply WP.block; exact r) | (apply WP.skip; exact Yq r) | (apply WP.exit; exact Yq r) | (apply WP.ret; exact Sm.out r) | exact WP.cond rfl (fun _ => r) (fun hg => absurd hg (by decide)) | exact WP.cond rfl (fun hg => absurd hg (by decide)) (fun _ => r) | exact Rt.mk (And.intro (fun _ => Sm.out r) fun hg => absurd hg (by decide)) | exact Rt.mk (And.intro (fun hg => absurd hg (by decide)) fun _ => Sm.out r)) : G := h r
theorem YzCfD {G R : Prop} (r : R) (h : R → G := by intro r; first | (apply ExG.no; exact Sm.out r) | (apply Or.inl; apply ExG.no; exact Sm.out r) | exact Or.inl (And.intro (fun hg => absurd hg (by decide)) (ExG.no (Sm.out r)))) : G := h r
theorem ACt.nil3 {P : Program} {f : FuncId} {x y : AV} {k : IntKind} {H : Hp} {p : AV → Hp → Prop} (h : ACt P f [x, y, .slz k []] H p) : ACt P f [x, y, nl] H p :=
  fun cx vs h1 h2 h3 h4 h5 => h cx vs h1 h2 h3 h4 fun i hi => by
    have hi3 : i < 3 := hi
    rcases (by omega : i = 0 ∨ i = 1 ∨ i = 2) with rfl | rfl | rfl
    · exact h5 0 (by simp)
    · exact h5 1 (by simp)
    · exact Rep.nilz (h5 2 (by simp))
theorem cks_zrs {s : Nat} (hs : 1 ≤ s) : ∀ m : Nat, cks s (List.replicate (m * s) (0 : Int)) = List.replicate m (List.replicate s 0)
  | 0 => by rw [Nat.zero_mul]; rfl
  | m + 1 => by
    have ih := cks_zrs hs m
    have e : (m + 1) * s = s + m * s := by rw [Nat.add_mul, Nat.one_mul, Nat.add_comm]
    have hne : List.replicate ((m + 1) * s) (0 : Int) ≠ [] := fun h => by
      have := congrArg List.length h
      simp only [List.length_replicate, List.length_nil] at this
      omega
    rw [cks_cons hs hne, e, List.take_replicate, List.drop_replicate, Nat.min_eq_left (by omega), Nat.add_sub_cancel_left, ih]
    rfl
theorem wr_zrs (a : DA) (i : Int) : wrA a i (List.replicate a.size 0) = wrA a i [] ∧ wrC a i (List.replicate a.size (0 : Int)).length = wrC a i ([] : List Int).length := by
  have e : mayA a i (List.replicate a.size (0 : Int)).length = mayA a i ([] : List Int).length := by
    unfold mayA mayC
    rw [List.length_replicate, List.length_nil]
    have e1 : ¬ ((a.size : Int) < (a.size : Int)) := by omega
    have e2 : ¬ ((a.size : Int) < ((0 : Nat) : Int)) := by omega
    simp only [e1, e2]
  have e2 : pad a.size (List.replicate a.size (0 : Int)) = pad a.size [] := by simp [pad]
  unfold wrA wrC
  rw [e, e2]
  exact ⟨rfl, rfl⟩
theorem wr_size (a : DA) (i : Int) (z : List Int) : (wrA a i z).size = a.size := by
  unfold wrA; split; rfl; split <;> rfl
theorem lyR_zrs : ∀ (m : Nat) (a : DA) (i : Nat), lyR a i (List.replicate m (List.replicate a.size 0)) = lyR a i (List.replicate m [])
  | 0, a, i => rfl
  | m + 1, a, i => by
    obtain ⟨e1, e2⟩ := wr_zrs a (i : Int)
    rw [List.replicate_succ, List.replicate_succ]
    unfold lyR
    have ih := lyR_zrs m (wrA a i []) (i + 1)
    rw [wr_size] at ih
    rw [e1, e2, ih]
theorem fmX_nil (a : DA) (f m : Nat) (hs : 1 ≤ a.size) : fmX f a.size m a = lyR a f (List.replicate m []) := by
  unfold fmX
  rw [cks_zrs hs, lyR_zrs]
structure ZrG where
  a : DA
  j : Nat
  l : DL
set_option maxRecDepth 20000 in
theorem zero_ct {c : Nat} (b : Nat) (a : DA) (l : DL) (hA : AOk c a) (hl : LOk b a l) (i m : Nat) (hi : i + m ≤ 100000) (hc : c + m ≤ 990) :
    ACt Try.prog 33 [pt b 0, iv .i64 (i : Int), iv .i64 (m : Int)] (dH b a l) (fun r F' => ∃ q : LS b (fmX i a.size m a).1, r = iv .i64 (fmX i a.size m a).2 ∧ F' = dH b (fmX i a.size m a).1 q.1) := by
  rw [fmX_nil a i m hA.s1]
  obtain ⟨R, hR⟩ : ∃ R, R = lyR a i (List.replicate m []) := ⟨_, rfl⟩
  rw [← hR]
  refine ACt.intro Try.func33 rfl (by kernel_rfl) (by simp [Try.ntmps33]) (fun cx => ?_)
  simp only [argE, Try.ntmps33, Try.results33]
  first | (have FRx := FR; clear FRx) | have FR := fr0S
  have FA := Sm.mk (TFCfD)
  repeat' first | (apply Sm.mk; refine Ys ?_) | refine WP.seq fun K hK => ?_ | (apply Ob.mk; exact Yo) | refine And.intro (Ob.out ?_) ?_ | refine Y1CfD ?_ | refine YzCfD ?_ | (refine WP.cond rfl (fun hc => ?_) (fun hc => ?_) <;> (try simp only [ZC, reduceCtorEq, ZD] at hc) <;> (try exact absurd hc (by decide)) <;> (try (exfalso; omega))) | refine Rt.mk (And.intro (fun hg => Sm.out ?_) fun hg => Sm.out ?_) | (refine Nu.mk ?_; first | (fail_if_success have := nb1); intro nb1 | (fail_if_success have := nb2); intro nb2 | (fail_if_success have := nb3); intro nb3 | (fail_if_success have := nb4); intro nb4 | (fail_if_success have := nb5); intro nb5 | (fail_if_success have := nb6); intro nb6 | intro nbz) | (apply Yfr; refine Yf FR fun hFRb FR => ?_) | refine Two.mk ?_ ?_ | (apply Yxc; exact Yx) | refine Cs.mk fun hcs => Sm.out ?_ | go_step | omega | (simp only [maxLen_eq]; omega) | exact trivial
  refine WP.loop (Γ := ZrG) (fun g => ⟨[(10, iv .i64 (g.j : Int)), (9, iv .i64 (m : Int)), (0, pt b 0), (1, iv .i64 (i : Int))], dH b g.a g.l⟩) (fun g => g.j ≤ m ∧ lyR g.a (i + g.j) (List.replicate (m - g.j) []) = R ∧ LOk b g.a g.l ∧ AOk (c + g.j) g.a) (fun g => m - g.j) ⟨a, 0, l⟩
    ⟨Nat.zero_le _, hR.symm, hl, hA⟩ (Sub.of_env [] (pmz _) (by simp [look])) ?_
  clear hR hl hA
  intro ⟨a, j, l⟩ ⟨hj, hR, hl, hA⟩
  simp only at hj hR hl hA ⊢
  have FR : Sm (¬ ((1 : Nat) = 0)) := Sm.mk Nat.one_ne_zero
  by_cases h0 : j = m
  · subst h0
    have k0 : decide ((j : Int) < (j : Int)) = false := by simp
    have cS := sync_d hA hl (by omega)
    rw [Nat.sub_self, List.replicate_zero] at hR
    unfold lyR at hR
    subst hR
    first | (have FRx := FR; clear FRx) | have FR := fr0S
    have FA := Sm.mk (And.intro TFCfD k0)
    repeat' first | (apply Sm.mk; refine Ys ?_) | refine WP.seq fun K hK => ?_ | (apply Ob.mk; exact Yo) | refine And.intro (Ob.out ?_) ?_ | refine Y1CfD ?_ | (refine CallV.exM (cS) (pmz _) (fun g => Sm.out ?_)) | refine YzCfD ?_ | (refine WP.cond rfl (fun hc => ?_) (fun hc => ?_) <;> (try simp only [ZC, reduceCtorEq, ZD] at hc) <;> (try exact absurd hc (by decide)) <;> (try (exfalso; omega))) | refine Rt.mk (And.intro (fun hg => Sm.out ?_) fun hg => Sm.out ?_) | (refine Nu.mk ?_; first | (fail_if_success have := nb1); intro nb1 | (fail_if_success have := nb2); intro nb2 | (fail_if_success have := nb3); intro nb3 | (fail_if_success have := nb4); intro nb4 | (fail_if_success have := nb5); intro nb5 | (fail_if_success have := nb6); intro nb6 | intro nbz) | (apply Yfr; refine Yf FR fun hFRb FR => ?_) | refine Two.mk ?_ ?_ | (apply Yxc; exact Yx) | refine Cs.mk fun hcs => Sm.out ?_ | go_step | omega | (simp only [maxLen_eq]; omega) | exact trivial
    (refine OutQ.drop _ _ (pmz _) (by simp only [resv, ZK, look, loadv, loadn, loadnm, load1, load1m, hget, ↓reduceIte, Nat.reduceEqDiff, Nat.reduceAdd, Nat.reduceMul, Nat.reduceLeDiff, Nat.reduceLT, reduceCtorEq, TFCfD, FR.out]) ⟨g, (by simp only [resv, resA, ZK, look, loadv, loadn, loadnm, load1, load1m, hget, ↓reduceIte, Nat.reduceEqDiff, Nat.reduceAdd, Nat.reduceMul, Nat.reduceLeDiff, Nat.reduceLT, reduceCtorEq, TFCfD, FR.out]; first | done | rfl), rfl⟩)
  · have k0 : decide ((j : Int) < (m : Int)) = true := decide_eq_true (by omega)
    have w1 : IntKind.i64.wrap ((i : Int) + (j : Int)) = ((i + j : Nat) : Int) := by rw [wrap_i64 (by omega) (by omega)]; omega
    have w2 : IntKind.i64.wrap ((j : Int) + 1) = ((j + 1 : Nat) : Int) := by rw [wrap_i64 (by omega) (by omega)]; omega
    have cW := (write_d hA hl (by omega) ((i + j : Nat) : Int) []).nil3
    have hA2 := wrA_ok hA ((i + j : Nat) : Int) []
    obtain ⟨p, hp⟩ : ∃ p, m - j = p + 1 := ⟨m - j - 1, by omega⟩
    rw [hp, List.replicate_succ] at hR
    unfold lyR at hR
    obtain ⟨C, hC⟩ : ∃ C, C = wrC a ((i + j : Nat) : Int) ([] : List Int).length := ⟨_, rfl⟩
    rw [← hC] at hR cW
    by_cases hC0 : C = 0
    · have kC : (C != 0) = false := by rw [hC0]; rfl
      rw [if_pos hC0] at hR
      first | (have FRx := FR; clear FRx) | have FR := fr0S
      have FA := Sm.mk (And.intro TFCfD (And.intro k0 w1))
      repeat' first | (apply Sm.mk; refine Ys ?_) | refine WP.seq fun K hK => ?_ | (apply Ob.mk; exact Yo) | refine And.intro (Ob.out ?_) ?_ | ((fail_if_success (show WP _ _ _ (.region 5 _ _) _ _)); refine Y1CfD ?_) | (refine CallV.exM (cW) (pmz _) (fun g => Sm.out ?_)) | refine YzCfD ?_ | (refine WP.cond rfl (fun hc => ?_) (fun hc => ?_) <;> (try simp only [ZC, reduceCtorEq, ZD] at hc) <;> (try exact absurd hc (by decide)) <;> (try (exfalso; omega))) | refine Rt.mk (And.intro (fun hg => Sm.out ?_) fun hg => Sm.out ?_) | (refine Nu.mk ?_; first | (fail_if_success have := nb1); intro nb1 | (fail_if_success have := nb2); intro nb2 | (fail_if_success have := nb3); intro nb3 | (fail_if_success have := nb4); intro nb4 | (fail_if_success have := nb5); intro nb5 | (fail_if_success have := nb6); intro nb6 | intro nbz) | (apply Yfr; refine Yf FR fun hFRb FR => ?_) | refine Two.mk ?_ ?_ | (apply Yxc; exact Yx) | refine Cs.mk fun hcs => Sm.out ?_ | go_step | omega | (simp only [maxLen_eq]; omega) | exact trivial
      obtain ⟨l2, hl2⟩ := g
      simp only [List.append_nil]
      first | (have FRx := FR; clear FRx) | have FR := fr0S
      have FA := Sm.mk (And.intro TFCfD (And.intro kC w2))
      repeat' first | (apply Sm.mk; refine Ys ?_) | refine WP.seq fun K hK => ?_ | (apply Ob.mk; exact Yo) | refine And.intro (Ob.out ?_) ?_ | refine Y1CfD ?_ | refine YzCfD ?_ | (refine WP.cond rfl (fun hc => ?_) (fun hc => ?_) <;> (try simp only [ZC, reduceCtorEq, ZD] at hc) <;> (try exact absurd hc (by decide)) <;> (try (exfalso; omega))) | refine Rt.mk (And.intro (fun hg => Sm.out ?_) fun hg => Sm.out ?_) | (refine Nu.mk ?_; first | (fail_if_success have := nb1); intro nb1 | (fail_if_success have := nb2); intro nb2 | (fail_if_success have := nb3); intro nb3 | (fail_if_success have := nb4); intro nb4 | (fail_if_success have := nb5); intro nb5 | (fail_if_success have := nb6); intro nb6 | intro nbz) | (apply Yfr; refine Yf FR fun hFRb FR => ?_) | refine Two.mk ?_ ?_ | (apply Yxc; exact Yx) | refine Cs.mk fun hcs => Sm.out ?_ | go_step | omega | (simp only [maxLen_eq]; omega) | exact trivial
      exact ⟨⟨wrA a ((i + j : Nat) : Int) [], j + 1, l2⟩, ⟨by simp only; omega, by simp only; rw [show m - (j + 1) = p by omega]; exact hR, hl2, hA2⟩, by simp only; omega, Sub.of_env [] (pmz _) (by simp [look, w2])⟩
    · have kC : (C != 0) = true := by simpa using hC0
      rw [if_neg hC0] at hR
      subst hR
      first | (have FRx := FR; clear FRx) | have FR := fr0S
      have FA := Sm.mk (And.intro TFCfD (And.intro k0 (And.intro w1 kC)))
      repeat' first | (apply Sm.mk; refine Ys ?_) | refine WP.seq fun K hK => ?_ | (apply Ob.mk; exact Yo) | refine And.intro (Ob.out ?_) ?_ | refine Y1CfD ?_ | (refine CallV.exM (cW) (pmz _) (fun g => Sm.out ?_)) | refine YzCfD ?_ | (refine WP.cond rfl (fun hc => ?_) (fun hc => ?_) <;> (try simp only [ZC, reduceCtorEq, ZD] at hc) <;> (try exact absurd hc (by decide)) <;> (try (exfalso; omega))) | refine Rt.mk (And.intro (fun hg => Sm.out ?_) fun hg => Sm.out ?_) | (refine Nu.mk ?_; first | (fail_if_success have := nb1); intro nb1 | (fail_if_success have := nb2); intro nb2 | (fail_if_success have := nb3); intro nb3 | (fail_if_success have := nb4); intro nb4 | (fail_if_success have := nb5); intro nb5 | (fail_if_success have := nb6); intro nb6 | intro nbz) | (apply Yfr; refine Yf FR fun hFRb FR => ?_) | refine Two.mk ?_ ?_ | (apply Yxc; exact Yx) | refine Cs.mk fun hcs => Sm.out ?_ | go_step | omega | (simp only [maxLen_eq]; omega) | exact trivial
      (refine OutQ.drop _ _ (pmz _) (by simp only [resv, ZK, look, loadv, loadn, loadnm, load1, load1m, hget, ↓reduceIte, Nat.reduceEqDiff, Nat.reduceAdd, Nat.reduceMul, Nat.reduceLeDiff, Nat.reduceLT, reduceCtorEq, TFCfD, FR.out]) ⟨g, (by simp only [resv, resA, ZK, look, loadv, loadn, loadnm, load1, load1m, hget, ↓reduceIte, Nat.reduceEqDiff, Nat.reduceAdd, Nat.reduceMul, Nat.reduceLeDiff, Nat.reduceLT, reduceCtorEq, TFCfD, FR.out]; first | done | rfl), rfl⟩)
set_option maxRecDepth 20000 in
theorem slfmt_ct {c : Nat} (b : Nat) (a : DA) (l : DL) (hA : AOk c a) (hl : LOk b a l) (f m : Nat) (h : f + 2 * m ≤ a.n) (hm : 1 ≤ m) (hk : a.dk = false) (hc : c + 2 * m ≤ 990) :
    ACt Try.prog 10 [pt b 0, iv .i64 (f : Int), iv .i64 (m : Int)] (dH b a l) (fun r F' => ∃ q : LS b (fmX f a.size (2 * m) a).1, r = iv .i64 (fmX f a.size (2 * m) a).2 ∧ F' = dH b (fmX f a.size (2 * m) a).1 q.1) := by
  have hn2 := hA.n2
  have cM := slmay_ct b a l f m hn2 h hm hk
  have cZ := zero_ct b a l hA hl f (2 * m) (by omega) hc
  have w1 : IntKind.i64.wrap (2 * (m : Int)) = ((2 * m : Nat) : Int) := by rw [wrap_i64 (by omega) (by omega)]; omega
  have k00 : ((0 : Int) != 0) = false := rfl
  refine ACt.intro Try.func10 rfl (by kernel_rfl) (by simp [Try.ntmps10]) (fun cx => ?_)
  simp only [argE, Try.ntmps10, Try.results10]
  first | (have FRx := FR; clear FRx) | have FR := fr0S
  have FA := Sm.mk (And.intro TFCfD (And.intro k00 w1))
  repeat' first | (apply Sm.mk; refine Ys ?_) | refine WP.seq fun K hK => ?_ | (apply Ob.mk; exact Yo) | refine And.intro (Ob.out ?_) ?_ | refine Y1CfD ?_ | refine CallV.updM (cM) (pmz _) (Sm.out ?_) | ((first | refine ExF.up ?_ (cM) (Sm.out ?_) | refine ExG.up ?_ (fun _ => cM) (Sm.out ?_) | refine ExG.upJ ?_ (fun _ => cM) (Sm.out ?_) | refine ExG.upI ?_ (fun _ => cM) (Ob.out ?_) (Sm.out ?_)); focus (exact ⟨_, (pmz _)⟩)) | (refine CallV.exM (cZ) (pmz _) (fun g => Sm.out ?_)) | refine YzCfD ?_ | (refine WP.cond rfl (fun hc => ?_) (fun hc => ?_) <;> (try simp only [ZC, reduceCtorEq, ZD] at hc) <;> (try exact absurd hc (by decide)) <;> (try (exfalso; omega))) | refine Rt.mk (And.intro (fun hg => Sm.out ?_) fun hg => Sm.out ?_) | (refine Nu.mk ?_; first | (fail_if_success have := nb1); intro nb1 | (fail_if_success have := nb2); intro nb2 | (fail_if_success have := nb3); intro nb3 | (fail_if_success have := nb4); intro nb4 | (fail_if_success have := nb5); intro nb5 | (fail_if_success have := nb6); intro nb6 | intro nbz) | (apply Yfr; refine Yf FR fun hFRb FR => ?_) | refine Two.mk ?_ ?_ | (apply Yxc; exact Yx) | refine Cs.mk fun hcs => Sm.out ?_ | go_step | omega | (simp only [maxLen_eq]; omega) | exact trivial
  (refine OutQ.drop _ _ (pmz _) (by simp only [resv, ZK, look, loadv, loadn, loadnm, load1, load1m, hget, ↓reduceIte, Nat.reduceEqDiff, Nat.reduceAdd, Nat.reduceMul, Nat.reduceLeDiff, Nat.reduceLT, reduceCtorEq, TFCfD, FR.out]) ⟨g, (by simp only [resv, resA, ZK, look, loadv, loadn, loadnm, load1, load1m, hget, ↓reduceIte, Nat.reduceEqDiff, Nat.reduceAdd, Nat.reduceMul, Nat.reduceLeDiff, Nat.reduceLT, reduceCtorEq, TFCfD, FR.out]; first | done | rfl), rfl⟩)
structure Zr (s n c : Nat) (a : DA) : Prop where
  A : AOk c a
  st : Stl s n (ub (zrs (n * s))) a
  f : a.f = -1
theorem zr_join {s n f m : Nat} (hfm : f + m ≤ n) : zrs (f * s) ++ (zrs (m * s) ++ zrs ((n - f - m) * s)) = zrs (n * s) := by
  unfold zrs
  rw [List.replicate_append_replicate, List.replicate_append_replicate, ← Nat.add_mul, ← Nat.add_mul]
  congr 2
  omega
theorem Zr.rg {s n c : Nat} {a : DA} (h : Zr s n c a) {f m : Nat} (hfm : f + m ≤ n) : Rg s n f m (zrs (f * s)) (zrs ((n - f - m) * s)) (zrs (m * s)) a :=
  ⟨by rw [zr_join hfm]; exact h.st, by simp [zrs], by simp [zrs]⟩
theorem Zr.fm {s n c : Nat} {a : DA} (h : Zr s n c a) (f m : Nat) (hfm : f + m ≤ n) (hm : 1 ≤ m) : (fmX f s m a).2 = 0 ∧ Zr s n (c + m + 1) (fmX f s m a).1 ∧ LgI (c + m + 1) s n f m (zrs (f * s)) (zrs ((n - f - m) * s)) [] (fmX f s m a).1 := by
  have hR := h.rg hfm
  obtain ⟨h1, h2, h3⟩ := LgI.fmt h.A hR hfm hm h.f
  refine ⟨h1, ⟨h3.A, ?_, h2⟩, h3⟩
  have := h3.R.st
  rw [frs_nil, List.nil_append, show usd [] = 0 from rfl, Nat.sub_zero, zr_join hfm] at this
  exact this
end Go.Proofs.Yteoajodoejoccaa
