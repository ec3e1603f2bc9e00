/-
  The walks and the laws that the statement leans on, part 38.
-/
import Derived.Test.YteoajodoejoccaaP10
import Derived.Test.YteoajodoejoccaaP37
namespace Go.Proofs.Yteoajodoejoccaa
open Go Wi
set_option linter.unusedVariables false
set_option linter.unusedSimpArgs false
set_option linter.defProp false
def TFPtE :=
  And.intro (And.intro (And.intro (And.intro (And.intro tyc3 zmb3) (And.intro tyc4 (And.intro zmb4 tyc5))) (And.intro (And.intro zmb5 tyc9) (And.intro zmb9 (And.intro tyc25 mth25_45)))) (And.intro (And.intro (And.intro mth25_44 mth25_43) (And.intro con25 (And.intro zmb25 tyc28))) (And.intro (And.intro zmb28 tyc30) (And.intro mth30_37 (And.intro con30 zmb30))))) (And.intro (And.intro (And.intro (And.intro tyc31 tyc35) (And.intro zmb35 (And.intro tyc36 elt36))) (And.intro (And.intro mkz36 apT36) (And.intro elk36 (And.intro zmb36 tyc57)))) (And.intro (And.intro (And.intro Try.underlying3 Try.underlying4) (And.intro Try.underlying5 (And.intro Try.underlying9 Try.underlying25))) (And.intro (And.intro Try.underlying28 (And.intro Try.underlying30 Try.underlying31)) (And.intro Try.underlying35 (And.intro Try.underlying36 Try.underlying57)))))
theorem Y1PtE {G R : Prop} (r : R) (h : R → G := by intro r; first | (apply WP.region; exact rvc_sound _ _ (Sm.out r)) | exact WP.drawK rfl mixed (by decide +kernel) (Sm.out r) | (apply WP.block; exact r) | (apply WP.skip; exact Yq r) | (apply WP.exit; exact Yq r) | (apply WP.ret; exact Sm.out r) | exact WP.cond rfl (fun _ => r) (fun hg => absurd hg (by decide)) | exact WP.cond rfl (fun hg => absurd hg (by decide)) (fun _ => r) | exact Rt.mk (And.intro (fun _ => Sm.out r) fun hg => absurd hg (by decide)) | exact Rt.mk (And.intro (fun hg => absurd hg (by decide)) fun _ => Sm.out r)) : G := h r
theorem YzPtE {G R : Prop} (r : R) (h : R → G := by intro r; first | (apply ExG.no; exact Sm.out r) | (apply Or.inl; apply ExG.no; exact Sm.out r) | exact Or.inl (And.intro (fun hg => absurd hg (by decide)) (ExG.no (Sm.out r)))) : G := h r
theorem nwA_zr2 : Zr 32 2 0 (nwA 2 32) := ⟨nwA_ok (by omega) (by omega) (by omega) (by omega), nwA_stl 2 32, rfl⟩
def t13 : Bs := [116, 104, 105, 114, 116, 101, 101, 110, 98, 121, 116, 101, 115]
set_option maxRecDepth 20000 in
set_option maxHeartbeats 4000000 in
theorem awake6_ct : ACt Try.prog 6 [] [] (Fn (bv true)) := by
  have cN := new_d 2 32 (by omega) (by omega) (by omega) (by omega)
  have hZ0 := nwA_zr2
  obtain ⟨a0, ha0⟩ : ∃ a, a = nwA 2 32 := ⟨_, rfl⟩
  refine ACt.intro Try.func6 rfl (by kernel_rfl) (by simp [Try.ntmps6]) (fun cx => ?_)
  simp only [argE, Try.ntmps6, Try.results6]
  first | (have FRx := FR; clear FRx) | have FR := fr0S
  have FA := Sm.mk (TFPtE)
  repeat' first | (apply Sm.mk; refine Ys ?_) | refine WP.seq fun K hK => ?_ | (apply Ob.mk; exact Yo) | refine And.intro (Ob.out ?_) ?_ | ((fail_if_success (show WP _ _ _ (.region 2 _ _) _ _)); refine Y1PtE ?_) | (refine CallV.ex (F := []) (List.Perm.refl _) (cN) (fun g => Sm.out ?_)) | refine YzPtE ?_ | (refine WP.cond rfl (fun hc => ?_) (fun hc => ?_) <;> (try simp only [ZC, reduceCtorEq, ZD] at hc) <;> (try exact absurd hc (by decide)) <;> (try (exfalso; omega))) | refine Rt.mk (And.intro (fun hg => Sm.out ?_) fun hg => Sm.out ?_) | (refine Nu.mk ?_; first | (fail_if_success have := nb1); intro nb1 | (fail_if_success have := nb2); intro nb2 | (fail_if_success have := nb3); intro nb3 | (fail_if_success have := nb4); intro nb4 | (fail_if_success have := nb5); intro nb5 | (fail_if_success have := nb6); intro nb6 | intro nbz) | (apply Yfr; refine Yf FR fun hFRb FR => ?_) | refine Two.mk ?_ ?_ | (apply Yxc; exact Yx) | refine Cs.mk fun hcs => Sm.out ?_ | go_step | omega | (simp only [maxLen_eq]; omega) | exact trivial
  obtain ⟨⟨b, l⟩, hl⟩ := g
  simp only [List.append_nil]
  simp only at hl
  rw [← ha0] at hl hZ0 ⊢
  clear ha0 cN
  have hs0 := hZ0.st.s
  have cF := slfmt_ct b a0 l hZ0.A hl 0 1 (by rw [hZ0.st.n]; omega) (by omega) hZ0.st.dk (by omega)
  obtain ⟨hF0, hZ1, -⟩ := hZ0.fm 0 (2 * 1) (by omega) (by omega)
  rw [hs0, hF0] at cF
  obtain ⟨a1, ha1⟩ : ∃ a, a = (fmX 0 32 (2 * 1) a0).1 := ⟨_, rfl⟩
  rw [← ha1] at cF hZ1
  clear ha1 hF0
  first | (have FRx := FR; clear FRx) | have FR := fr0S
  have FA := Sm.mk (TFPtE)
  repeat' first | (apply Sm.mk; refine Ys ?_) | refine WP.seq fun K hK => ?_ | (apply Ob.mk; exact Yo) | refine And.intro (Ob.out ?_) ?_ | ((fail_if_success (show WP _ _ _ (.region 3 _ _) _ _)); refine Y1PtE ?_) | (refine CallV.exM (cF) (pmz _) (fun g => Sm.out ?_)) | refine YzPtE ?_ | (refine WP.cond rfl (fun hc => ?_) (fun hc => ?_) <;> (try simp only [ZC, reduceCtorEq, ZD] at hc) <;> (try exact absurd hc (by decide)) <;> (try (exfalso; omega))) | refine Rt.mk (And.intro (fun hg => Sm.out ?_) fun hg => Sm.out ?_) | (refine Nu.mk ?_; first | (fail_if_success have := nb1); intro nb1 | (fail_if_success have := nb2); intro nb2 | (fail_if_success have := nb3); intro nb3 | (fail_if_success have := nb4); intro nb4 | (fail_if_success have := nb5); intro nb5 | (fail_if_success have := nb6); intro nb6 | intro nbz) | (apply Yfr; refine Yf FR fun hFRb FR => ?_) | refine Two.mk ?_ ?_ | (apply Yxc; exact Yx) | refine Cs.mk fun hcs => Sm.out ?_ | go_step | omega | (simp only [maxLen_eq]; omega) | exact trivial
  obtain ⟨l1, hl1⟩ := g
  simp only [List.append_nil]
  clear cF hZ0 hl hs0
  have cO := open11_ct (W := zrs (2 * 32)) b a1 l1 hZ1.A hZ1.st hl1 0 1 (by omega) (by omega) (by omega)
  have e0 : slP (zrs (2 * 32)) 0 1 32 = (0, []) := by
    unfold slP
    have h1 : ((zrs (2 * 32)).drop (0 * 32)).take (1 * 32) = zrs 32 := by decide
    have h2 : ((zrs (2 * 32)).drop ((0 + 1) * 32)).take (1 * 32) = zrs 32 := by decide
    rw [h1, h2, slF_zrs, slF_zrs]; rfl
  have hP := fun y => put_spec (W := zrs (2 * 32)) (f := 0) (m := 1) y b a1 l1 hZ1.A hZ1.st (by decide) hl1 (by omega) (by omega) (by omega) t13 (by decide) (by omega)
  rw [e0] at cO hP
  have e1 : rpE (0, []) (1 * 32) (ub t13) = ((1, ub t13), 0) := by unfold rpE; rw [if_neg (by decide), if_neg (by decide)]
  simp only [e1] at hP
  first | (have FRx := FR; clear FRx) | have FR := fr0S
  have FA := Sm.mk (TFPtE)
  repeat' first | (apply Sm.mk; refine Ys ?_) | refine WP.seq fun K hK => ?_ | (apply Ob.mk; exact Yo) | refine And.intro (Ob.out ?_) ?_ | ((fail_if_success (show WP _ _ _ (.region 4 _ _) _ _)); refine Y1PtE ?_) | (refine CallV.exM (cO) (pmz _) (fun g => Sm.out ?_)) | refine YzPtE ?_ | (refine WP.cond rfl (fun hc => ?_) (fun hc => ?_) <;> (try simp only [ZC, reduceCtorEq, ZD] at hc) <;> (try exact absurd hc (by decide)) <;> (try (exfalso; omega))) | refine Rt.mk (And.intro (fun hg => Sm.out ?_) fun hg => Sm.out ?_) | (refine Nu.mk ?_; first | (fail_if_success have := nb1); intro nb1 | (fail_if_success have := nb2); intro nb2 | (fail_if_success have := nb3); intro nb3 | (fail_if_success have := nb4); intro nb4 | (fail_if_success have := nb5); intro nb5 | (fail_if_success have := nb6); intro nb6 | intro nbz) | (apply Yfr; refine Yf FR fun hFRb FR => ?_) | refine Two.mk ?_ ?_ | (apply Yxc; exact Yx) | refine Cs.mk fun hcs => Sm.out ?_ | go_step | omega | (simp only [maxLen_eq]; omega) | exact trivial
  obtain ⟨y, rfl⟩ : ∃ y, y = g := ⟨g, rfl⟩
  obtain ⟨X, E1, ov, cP, hX, hc⟩ := hP y
  have hf1 := hZ1.f
  have hE : X.2 = 0 ∧ E1 = (1, ub t13) ∧ ov = false ∧ X.1.size = 32 := by
    rcases hc with ⟨h1, h2, h3, -, -, W', h5, -⟩ | ⟨h1, h2, -⟩ | ⟨-, h2, -⟩
    · exact ⟨h1, h2, h3, h5.s⟩
    · rw [h1] at h2; rcases h2 with h | h <;> cases h
    · exact absurd hf1 h2
  obtain ⟨h1, rfl, rfl, hs4⟩ := hE
  rw [h1] at cP
  have cM := fun (l : DL) => slmost_ct y b 1 (a := X.1) (l := l) 0 (1, ub t13) false (by omega) (by omega)
  rw [hs4] at cM
  have cE := fun (l : DL) => (epo_ct y b 0 1 (1, ub t13) false).lookU (H := (y, slO b 0 1 (1, ub t13) false) :: dH b X.1 l) (R := dH b X.1 l) (by exact .refl _)
  have cB := fun (l : DL) => (byt_ct y b 0 1 (1, ub t13) false (by intro h; cases h) (by decide)).lookU (H := (y, slO b 0 1 (1, ub t13) false) :: dH b X.1 l) (R := dH b X.1 l) (by exact .refl _)
  have et : ub t13 = [116, 104, 105, 114, 116, 101, 101, 110, 98, 121, 116, 101, 115] := rfl
  rw [et] at cP cM cE cB
  first | (have FRx := FR; clear FRx) | have FR := fr0S
  have FA := Sm.mk (TFPtE)
  repeat' first | (apply Sm.mk; refine Ys ?_) | refine WP.seq fun K hK => ?_ | (apply Ob.mk; exact Yo) | refine And.intro (Ob.out ?_) ?_ | ((fail_if_success (show WP _ _ _ (.region 5 _ _) _ _)); refine Y1PtE ?_) | (refine CallV.exM (cP) (pmz _) (fun g => Sm.out ?_)) | refine YzPtE ?_ | (refine WP.cond rfl (fun hc => ?_) (fun hc => ?_) <;> (try simp only [ZC, reduceCtorEq, ZD] at hc) <;> (try exact absurd hc (by decide)) <;> (try (exfalso; omega))) | refine Rt.mk (And.intro (fun hg => Sm.out ?_) fun hg => Sm.out ?_) | (refine Nu.mk ?_; first | (fail_if_success have := nb1); intro nb1 | (fail_if_success have := nb2); intro nb2 | (fail_if_success have := nb3); intro nb3 | (fail_if_success have := nb4); intro nb4 | (fail_if_success have := nb5); intro nb5 | (fail_if_success have := nb6); intro nb6 | intro nbz) | (apply Yfr; refine Yf FR fun hFRb FR => ?_) | refine Two.mk ?_ ?_ | (apply Yxc; exact Yx) | refine Cs.mk fun hcs => Sm.out ?_ | go_step | omega | (simp only [maxLen_eq]; omega) | exact trivial
  obtain ⟨l2, hl2⟩ := g
  simp only [List.append_nil]
  have cM := cM l2
  have cE := cE l2
  have cB := cB l2
  have c1 : ((0 : Int) == 0) = true := rfl
  have c2 : (((1 * 32 : Nat) : Int) - 19 == 13) = true := rfl
  have c3 : (((1 : Nat) : Int) == 1) = true := rfl
  first | (have FRx := FR; clear FRx) | have FR := fr0S
  have FA := Sm.mk (And.intro TFPtE (And.intro c1 (And.intro c2 c3)))
  repeat' first | (apply Sm.mk; refine Ys ?_) | refine WP.seq fun K hK => ?_ | (apply Ob.mk; exact Yo) | refine And.intro (Ob.out ?_) ?_ | refine Y1PtE ?_ | refine CallV.updM (cM) (pmz _) (Sm.out ?_) | ((first | refine ExF.up ?_ (cM) (Sm.out ?_) | refine ExG.up ?_ (fun _ => cM) (Sm.out ?_) | refine ExG.upJ ?_ (fun _ => cM) (Sm.out ?_) | refine ExG.upI ?_ (fun _ => cM) (Ob.out ?_) (Sm.out ?_)); focus (exact ⟨_, (pmz _)⟩)) | refine CallV.updM (cE) (pmz _) (Sm.out ?_) | ((first | refine ExF.up ?_ (cE) (Sm.out ?_) | refine ExG.up ?_ (fun _ => cE) (Sm.out ?_) | refine ExG.upJ ?_ (fun _ => cE) (Sm.out ?_) | refine ExG.upI ?_ (fun _ => cE) (Ob.out ?_) (Sm.out ?_)); focus (exact ⟨_, (pmz _)⟩)) | refine CallV.updM (cB) (pmz _) (Sm.out ?_) | ((first | refine ExF.up ?_ (cB) (Sm.out ?_) | refine ExG.up ?_ (fun _ => cB) (Sm.out ?_) | refine ExG.upJ ?_ (fun _ => cB) (Sm.out ?_) | refine ExG.upI ?_ (fun _ => cB) (Ob.out ?_) (Sm.out ?_)); focus (exact ⟨_, (pmz _)⟩)) | refine YzPtE ?_ | (refine WP.cond rfl (fun hc => ?_) (fun hc => ?_) <;> (try simp only [ZC, reduceCtorEq, ZD] at hc) <;> (try exact absurd hc (by decide)) <;> (try (exfalso; omega))) | refine Rt.mk (And.intro (fun hg => Sm.out ?_) fun hg => Sm.out ?_) | (refine Nu.mk ?_; first | (fail_if_success have := nb1); intro nb1 | (fail_if_success have := nb2); intro nb2 | (fail_if_success have := nb3); intro nb3 | (fail_if_success have := nb4); intro nb4 | (fail_if_success have := nb5); intro nb5 | (fail_if_success have := nb6); intro nb6 | intro nbz) | (apply Yfr; refine Yf FR fun hFRb FR => ?_) | refine Two.mk ?_ ?_ | (apply Yxc; exact Yx) | refine Cs.mk fun hcs => Sm.out ?_ | go_step | omega | (simp only [maxLen_eq]; omega) | exact trivial
  (refine Yg ?_; try exact trivial)
  kernel_rfl
end Go.Proofs.Yteoajodoejoccaa
