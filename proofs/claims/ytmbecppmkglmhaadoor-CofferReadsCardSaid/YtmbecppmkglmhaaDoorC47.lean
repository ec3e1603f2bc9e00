/-
  The walks and the laws that the statement leans on, part 47.
-/
import Derived.Test.YtmbecppmkglmhaaDoorC11
import Derived.Test.YtmbecppmkglmhaaDoorC43
import Derived.Test.YtmbecppmkglmhaaDoorC46
namespace Go.Proofs.YtmbecppmkglmhaaDoor
open Go Wi
set_option linter.unusedVariables false
set_option linter.unusedSimpArgs false
set_option linter.defProp false
def TFCfE :=
  And.intro (And.intro (And.intro (And.intro (And.intro tyc3 zmb3) (And.intro tyc4 (And.intro zmb4 tyc22))) (And.intro (And.intro elt22 (And.intro mkz22 apT22)) (And.intro elk22 (And.intro zmb22 tyc26)))) (And.intro (And.intro (And.intro mth26_27 mth26_26) (And.intro mth26_28 (And.intro con26 zmb26))) (And.intro (And.intro tyc29 (And.intro zmb29 tyc32)) (And.intro zmb32 (And.intro tyc37 elt37))))) (And.intro (And.intro (And.intro (And.intro mkz37 mkc37) (And.intro apT37 (And.intro elk37 zmb37))) (And.intro (And.intro tyc45 (And.intro mth45_50 mth45_48)) (And.intro con45 (And.intro zmb45 tyc46)))) (And.intro (And.intro (And.intro tyc80 Tryd.underlying3) (And.intro Tryd.underlying4 (And.intro Tryd.underlying22 Tryd.underlying26))) (And.intro (And.intro Tryd.underlying29 (And.intro Tryd.underlying32 Tryd.underlying37)) (And.intro Tryd.underlying45 (And.intro Tryd.underlying46 Tryd.underlying80)))))
theorem Y1CfE {G R : Prop} (r : R) (h : R → G := by intro r; first | (apply WP.region; exact rvc_sound _ _ (Sm.out r)) | exact WP.drawK rfl mixed (by decide +kernel) (Sm.out r) | (apply WP.block; exact r) | (apply WP.skip; exact Yq r) | (apply WP.exit; exact Yq r) | (apply WP.ret; exact Sm.out r) | exact WP.cond rfl (fun _ => r) (fun hg => absurd hg (by decide)) | exact WP.cond rfl (fun hg => absurd hg (by decide)) (fun _ => r) | exact Rt.mk (And.intro (fun _ => Sm.out r) fun hg => absurd hg (by decide)) | exact Rt.mk (And.intro (fun hg => absurd hg (by decide)) fun _ => Sm.out r)) : G := h r
theorem YzCfE {G R : Prop} (r : R) (h : R → G := by intro r; first | (apply ExG.no; exact Sm.out r) | (apply Or.inl; apply ExG.no; exact Sm.out r) | exact Or.inl (And.intro (fun hg => absurd hg (by decide)) (ExG.no (Sm.out r)))) : G := h r
theorem slF_zrs (w k : Nat) : slF (zrs w) k = (0, []) := by unfold slF; rw [if_neg (zrs_noF w)]
theorem zrs_cut (w d t : Nat) (h : d + t ≤ w) : ((zrs w).drop d).take t = zrs t := by
  unfold zrs
  rw [List.drop_replicate, List.take_replicate, Nat.min_eq_left (by omega)]
theorem cfE_zrs (n m s : Nat) (h : 2 * m ≤ n) : cfE (zrs (n * s)) m s = (0, []) := by
  have h1 := Nat.mul_le_mul_right s h
  have h2 : 2 * m * s = m * s + m * s := by rw [Nat.mul_assoc, Nat.two_mul]
  unfold cfE
  rw [zrs_cut _ _ _ (by rw [Nat.zero_mul]; omega), zrs_cut _ _ _ (by rw [Nat.zero_add]; omega), slF_zrs, slF_zrs]
  rfl
theorem cfF_zrs (n m s : Nat) (h : 2 * m ≤ n) : cfF (zrs (n * s)) n m s = 2 * m := by
  unfold cfF
  rw [cfE_zrs n m s h]
  simp
theorem cfR_zrs (n m s : Nat) (h : 2 * m + 2 ≤ n) : cfR (zrs (n * s)) n m s = zrs (cfN n m * s) := by
  have h1 := Nat.mul_le_mul_right s (cfF_le (zrs (n * s)) n m s h).1
  rw [Nat.add_mul] at h1
  unfold cfR
  exact zrs_cut _ _ _ h1
theorem all_zrs (w : Nat) : all (zrs w) = ([], 0) := all_no (zrs_noF w)
theorem opR_zrs (a : DA) (f s w : Nat) : opR a f s (zrs w) = (a, 0) := by
  have : opD (zrs w) = false := by have := opD_frz [] w (fun x hx => by cases hx); rwa [frs_nil, List.nil_append] at this
  unfold opR
  rw [if_neg (by rw [this]; simp)]
structure CrG (s n c b : Nat) where
  z : Nat
  y : Nat
  x : Nat
  a : DA
  l : DL
  h : Zr s n c a
  hl : LOk b a l
def coH (b m z y x k : Nat) (ov : Bool) (e : Nat × List Int) (lg : MB) (D : Hp) : Hp := (z, cfM b m y x k ov) :: (y, slM b 0 m e) :: (x, lg) :: D
theorem cfopen_zr {c s n : Nat} (b : Nat) (a : DA) (l : DL) (h : Zr s n c a) (hl : LOk b a l) (m : Nat) (hm : 1 ≤ m) (hmn : 2 * m + 2 ≤ n) (hms5 : m * s ≤ 5000) (hc : c + cfN n m ≤ 980) :
    ACt Tryd.prog 13 [pt b 0, iv .i64 (m : Int)] (dH b a l) (fun r F' => ∃ g : CrG s n c b, r = .tup [pt g.z 0, .sl 0 [], iv .i64 0] ∧ F' = coH b m g.z g.y g.x 0 false (0, []) (lgN b (2 * m) (cfN n m) s [] false) (dH b g.a g.l)) := by
  have hO := (cfopen_go b a l h.A h.st (by simp [zrs]) hl m hm hmn hms5 hc).1
  rw [cfR_zrs n m s hmn, cfF_zrs n m s (by omega), cfE_zrs n m s (by omega), opR_zrs, all_zrs] at hO
  refine (hO rfl).mono fun r F' ⟨g, h1, h2⟩ => ?_
  exact ⟨⟨g.z, g.y, g.x, a, g.q.1, h, g.q.2⟩, h1, h2⟩
structure CtG where
  k : Nat
  a : DA
  l : DL
set_option maxRecDepth 20000 in
set_option maxHeartbeats 4000000 in
theorem cfcreate_ct {c s n : Nat} (b : Nat) (a : DA) (l : DL) (h : Zr s n c a) (hl : LOk b a l) (m : Nat) (hm : 1 ≤ m) (hmn : 2 * m + 2 ≤ n) (hms5 : m * s ≤ 5000) (hc : c + 4 * n ≤ 900) :
    ACt Tryd.prog 19 [pt b 0, iv .i64 (m : Int)] (dH b a l) (fun r F' => ∃ g : CrG s n (c + 2 * m + 1 + 2 * (cfN n m + 1)) b, r = .tup [pt g.z 0, iv .i64 0] ∧ F' = coH b m g.z g.y g.x 0 false (0, []) (lgN b (2 * m) (cfN n m) s [] false) (dH b g.a g.l)) := by
  have hn := h.st.n
  have hs := h.st.s
  have hn2 := h.A.n2
  have hNle : cfN n m + cfN n m ≤ n := by unfold cfN; omega
  have cM := cfmay_ct b a l m hn2 (by omega) hm h.st.dk
  have cS := slfmt_ct b a l h.A hl 0 m (by omega) hm h.st.dk (by omega)
  obtain ⟨hz0, hZ1, -⟩ := h.fm 0 (2 * m) (by omega) (by omega)
  rw [hs, hz0] at cS
  obtain ⟨a1, ha1⟩ : ∃ a1, a1 = (fmX 0 s (2 * m) a).1 := ⟨_, rfl⟩
  rw [← ha1] at cS hZ1
  clear ha1
  have hf0 := cfF_le (zrs (n * s)) n m s hmn
  have k00 : ((0 : Int) != 0) = false := rfl
  refine ACt.intro Tryd.func19 rfl (by kernel_rfl) (by simp [Tryd.ntmps19]) (fun cx => ?_)
  simp only [argE, Tryd.ntmps19, Tryd.results19]
  first | (have FRx := FR; clear FRx) | have FR := fr0S
  have FA := Sm.mk (And.intro TFCfE k00)
  repeat' first | (apply Sm.mk; refine Ys ?_) | refine WP.seq fun K hK => ?_ | (apply Ob.mk; exact Yo) | refine And.intro (Ob.out ?_) ?_ | ((fail_if_success (show WP _ _ _ (.region 5 _ _) _ _)); refine Y1CfE ?_) | refine CallV.updM (cM) (pmz _) (Sm.out ?_) | ((first | refine ExF.up ?_ (cM) (Sm.out ?_) | refine ExG.up ?_ (fun _ => cM) (Sm.out ?_) | refine ExG.upJ ?_ (fun _ => cM) (Sm.out ?_) | refine ExG.upI ?_ (fun _ => cM) (Ob.out ?_) (Sm.out ?_)); focus (exact ⟨_, (pmz _)⟩)) | (refine CallV.exM (cS) (pmz _) (fun g => Sm.out ?_)) | refine YzCfE ?_ | (refine WP.cond rfl (fun hc => ?_) (fun hc => ?_) <;> (try simp only [ZC, reduceCtorEq, ZD] at hc) <;> (try exact absurd hc (by decide)) <;> (try (exfalso; omega))) | refine Rt.mk (And.intro (fun hg => Sm.out ?_) fun hg => Sm.out ?_) | (refine Nu.mk ?_; first | (fail_if_success have := nb1); intro nb1 | (fail_if_success have := nb2); intro nb2 | (fail_if_success have := nb3); intro nb3 | (fail_if_success have := nb4); intro nb4 | (fail_if_success have := nb5); intro nb5 | (fail_if_success have := nb6); intro nb6 | intro nbz) | (apply Yfr; refine Yf FR fun hFRb FR => ?_) | refine Two.mk ?_ ?_ | (apply Yxc; exact Yx) | refine Cs.mk fun hcs => Sm.out ?_ | go_step | omega | (simp only [maxLen_eq]; omega) | exact trivial
  obtain ⟨l1, hl1⟩ := g
  simp only [List.append_nil]
  first | (have FRx := FR; clear FRx) | have FR := fr0S
  have FA := Sm.mk (And.intro TFCfE k00)
  repeat' first | (apply Sm.mk; refine Ys ?_) | refine WP.seq fun K hK => ?_ | (apply Ob.mk; exact Yo) | refine And.intro (Ob.out ?_) ?_ | refine Y1CfE ?_ | refine YzCfE ?_ | (refine WP.cond rfl (fun hc => ?_) (fun hc => ?_) <;> (try simp only [ZC, reduceCtorEq, ZD] at hc) <;> (try exact absurd hc (by decide)) <;> (try (exfalso; omega))) | refine Rt.mk (And.intro (fun hg => Sm.out ?_) fun hg => Sm.out ?_) | (refine Nu.mk ?_; first | (fail_if_success have := nb1); intro nb1 | (fail_if_success have := nb2); intro nb2 | (fail_if_success have := nb3); intro nb3 | (fail_if_success have := nb4); intro nb4 | (fail_if_success have := nb5); intro nb5 | (fail_if_success have := nb6); intro nb6 | intro nbz) | (apply Yfr; refine Yf FR fun hFRb FR => ?_) | refine Two.mk ?_ ?_ | (apply Yxc; exact Yx) | refine Cs.mk fun hcs => Sm.out ?_ | go_step | omega | (simp only [maxLen_eq]; omega) | exact trivial
  refine WP.loop (Γ := CtG) (fun g => ⟨[(27, nu g.k), (0, pt b 0), (1, iv .i64 (m : Int))], dH b g.a g.l⟩) (fun g => g.k ≤ 2 ∧ Zr s n (c + 2 * m + 1 + g.k * (cfN n m + 1)) g.a ∧ LOk b g.a g.l) (fun g => 2 - g.k) ⟨0, a1, l1⟩
    ⟨by simp only; omega, by simp only [Nat.zero_mul]; exact hZ1, hl1⟩ (Sub.of_env [] (pmz _) (by simp [look])) ?_
  clear hl1 hZ1 hl h cM cS hz0
  intro ⟨k, a, l⟩ ⟨hk, hZ, hl⟩
  simp only at hk hZ hl ⊢
  have FR : Sm (¬ ((1 : Nat) = 0)) := Sm.mk Nat.one_ne_zero
  have hn := hZ.st.n
  have hn2 := hZ.A.n2
  by_cases hk2 : k < 2
  · have ki : decide ((k : Int) < 2) = true := decide_eq_true (by omega)
    have w4 : IntKind.u64.wrap ((k : Int) + 1) = ((k + 1 : Nat) : Int) := by rw [wrap_u64 (by omega) (by omega)]; omega
    have cP := place_ct b a l m k hn2 (by omega) (by omega)
    rw [hn] at cP
    obtain ⟨f, hf⟩ : ∃ f, f = 2 * m + k % 2 * cfN n m := ⟨_, rfl⟩
    have hfN : f + cfN n m ≤ n := by
      have h2 : k % 2 * cfN n m ≤ 1 * cfN n m := Nat.mul_le_mul_right _ (by omega)
      rw [hf]; unfold cfN at *; omega
    have hkN : k * (cfN n m + 1) ≤ 1 * (cfN n m + 1) := Nat.mul_le_mul_right _ (by omega)
    rw [← hf] at cP
    have cF := format_up b l hZ.A (hZ.rg hfN) hl hfN hf0.2 hZ.f (by omega)
    have hZ2 := (hZ.fm f (cfN n m) hfN hf0.2).2.1
    have ek : c + 2 * m + 1 + k * (cfN n m + 1) + cfN n m + 1 = c + 2 * m + 1 + (k + 1) * (cfN n m + 1) := by rw [Nat.add_mul k]; omega
    rw [ek] at hZ2
    first | (have FRx := FR; clear FRx) | have FR := fr0S
    have FA := Sm.mk (And.intro TFCfE ki)
    repeat' first | (apply Sm.mk; refine Ys ?_) | refine WP.seq fun K hK => ?_ | (apply Ob.mk; exact Yo) | refine And.intro (Ob.out ?_) ?_ | ((fail_if_success (show WP _ _ _ (.region 12 _ _) _ _)); refine Y1CfE ?_) | refine CallV.updM (cP) (pmz _) (Sm.out ?_) | ((first | refine ExF.up ?_ (cP) (Sm.out ?_) | refine ExG.up ?_ (fun _ => cP) (Sm.out ?_) | refine ExG.upJ ?_ (fun _ => cP) (Sm.out ?_) | refine ExG.upI ?_ (fun _ => cP) (Ob.out ?_) (Sm.out ?_)); focus (exact ⟨_, (pmz _)⟩)) | (refine CallV.exM (cF) (pmz _) (fun g => Sm.out ?_)) | refine YzCfE ?_ | (refine WP.cond rfl (fun hc => ?_) (fun hc => ?_) <;> (try simp only [ZC, reduceCtorEq, ZD] at hc) <;> (try exact absurd hc (by decide)) <;> (try (exfalso; omega))) | refine Rt.mk (And.intro (fun hg => Sm.out ?_) fun hg => Sm.out ?_) | (refine Nu.mk ?_; first | (fail_if_success have := nb1); intro nb1 | (fail_if_success have := nb2); intro nb2 | (fail_if_success have := nb3); intro nb3 | (fail_if_success have := nb4); intro nb4 | (fail_if_success have := nb5); intro nb5 | (fail_if_success have := nb6); intro nb6 | intro nbz) | (apply Yfr; refine Yf FR fun hFRb FR => ?_) | refine Two.mk ?_ ?_ | (apply Yxc; exact Yx) | refine Cs.mk fun hcs => Sm.out ?_ | go_step | omega | (simp only [maxLen_eq]; omega) | exact trivial
    obtain ⟨l2, hl2⟩ := g
    simp only [List.append_nil]
    first | (have FRx := FR; clear FRx) | have FR := fr0S
    have FA := Sm.mk (And.intro TFCfE (And.intro k00 w4))
    repeat' first | (apply Sm.mk; refine Ys ?_) | refine WP.seq fun K hK => ?_ | (apply Ob.mk; exact Yo) | refine And.intro (Ob.out ?_) ?_ | refine Y1CfE ?_ | refine YzCfE ?_ | (refine WP.cond rfl (fun hc => ?_) (fun hc => ?_) <;> (try simp only [ZC, reduceCtorEq, ZD] at hc) <;> (try exact absurd hc (by decide)) <;> (try (exfalso; omega))) | refine Rt.mk (And.intro (fun hg => Sm.out ?_) fun hg => Sm.out ?_) | (refine Nu.mk ?_; first | (fail_if_success have := nb1); intro nb1 | (fail_if_success have := nb2); intro nb2 | (fail_if_success have := nb3); intro nb3 | (fail_if_success have := nb4); intro nb4 | (fail_if_success have := nb5); intro nb5 | (fail_if_success have := nb6); intro nb6 | intro nbz) | (apply Yfr; refine Yf FR fun hFRb FR => ?_) | refine Two.mk ?_ ?_ | (apply Yxc; exact Yx) | refine Cs.mk fun hcs => Sm.out ?_ | go_step | omega | (simp only [maxLen_eq]; omega) | exact trivial
    exact ⟨⟨k + 1, _, l2⟩, ⟨by simp only; omega, hZ2, hl2⟩, by simp only; omega, Sub.of_env [] (pmz _) (by simp [look, w4])⟩
  · obtain rfl : k = 2 := by omega
    have ki : decide (((2 : Nat) : Int) < 2) = false := rfl
    have cO := cfopen_zr b a l hZ hl m hm hmn hms5 (by omega)
    first | (have FRx := FR; clear FRx) | have FR := fr0S
    have FA := Sm.mk (And.intro TFCfE ki)
    repeat' first | (apply Sm.mk; refine Ys ?_) | refine WP.seq fun K hK => ?_ | (apply Ob.mk; exact Yo) | refine And.intro (Ob.out ?_) ?_ | refine Y1CfE ?_ | (refine CallV.exM (cO) (pmz _) (fun g => Sm.out ?_)) | refine YzCfE ?_ | (refine WP.cond rfl (fun hc => ?_) (fun hc => ?_) <;> (try simp only [ZC, reduceCtorEq, ZD] at hc) <;> (try exact absurd hc (by decide)) <;> (try (exfalso; omega))) | refine Rt.mk (And.intro (fun hg => Sm.out ?_) fun hg => Sm.out ?_) | (refine Nu.mk ?_; first | (fail_if_success have := nb1); intro nb1 | (fail_if_success have := nb2); intro nb2 | (fail_if_success have := nb3); intro nb3 | (fail_if_success have := nb4); intro nb4 | (fail_if_success have := nb5); intro nb5 | (fail_if_success have := nb6); intro nb6 | intro nbz) | (apply Yfr; refine Yf FR fun hFRb FR => ?_) | refine Two.mk ?_ ?_ | (apply Yxc; exact Yx) | refine Cs.mk fun hcs => Sm.out ?_ | go_step | omega | (simp only [maxLen_eq]; omega) | exact trivial
    (refine OutQ.drop _ _ (pmz _) (by simp only [resv, ZK, look, loadv, loadn, loadnm, load1, load1m, hget, ↓reduceIte, Nat.reduceEqDiff, Nat.reduceAdd, Nat.reduceMul, Nat.reduceLeDiff, Nat.reduceLT, reduceCtorEq, TFCfE, FR.out]) ⟨g, (by simp only [resv, resA, ZK, look, loadv, loadn, loadnm, load1, load1m, hget, ↓reduceIte, Nat.reduceEqDiff, Nat.reduceAdd, Nat.reduceMul, Nat.reduceLeDiff, Nat.reduceLT, reduceCtorEq, TFCfE, FR.out]; first | done | rfl), rfl⟩)
end Go.Proofs.YtmbecppmkglmhaaDoor
