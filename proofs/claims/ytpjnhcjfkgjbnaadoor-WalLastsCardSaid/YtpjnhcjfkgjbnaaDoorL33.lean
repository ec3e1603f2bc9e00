/-
  The walks and the laws that the statement leans on, part 33.
-/
import Derived.Test.YtpjnhcjfkgjbnaaDoorL10
import Derived.Test.YtpjnhcjfkgjbnaaDoorL32
namespace Go.Proofs.YtpjnhcjfkgjbnaaDoor
open Go
set_option linter.unusedVariables false
set_option linter.unusedSimpArgs false
set_option linter.defProp false
def TFWlO :=
  And.intro (And.intro (And.intro (And.intro (And.intro tyc3 zmb3) (And.intro tyc4 (And.intro zmb4 tyc5))) (And.intro (And.intro zmb5 tyc25) (And.intro mth25_46 (And.intro mth25_45 mth25_44)))) (And.intro (And.intro (And.intro con25 zmb25) (And.intro tyc28 (And.intro zmb28 tyc31))) (And.intro (And.intro zmb31 tyc32) (And.intro elt32 (And.intro mkz32 mkc32))))) (And.intro (And.intro (And.intro (And.intro apT32 elk32) (And.intro zmb32 (And.intro tyc33 tyc38))) (And.intro (And.intro elt38 mkz38) (And.intro apT38 (And.intro elk38 zmb38)))) (And.intro (And.intro (And.intro tyc56 Tryd.underlying3) (And.intro Tryd.underlying4 (And.intro Tryd.underlying5 Tryd.underlying25))) (And.intro (And.intro Tryd.underlying28 (And.intro Tryd.underlying31 Tryd.underlying32)) (And.intro Tryd.underlying33 (And.intro Tryd.underlying38 Tryd.underlying56)))))
theorem Y1WlO {G R : Prop} (r : R) (h : R → G := by intro r; first | (apply WP.region; exact rvc_sound _ _ (Sm.out r)) | exact WP.drawK rfl mixed (by decide +kernel) (Sm.out r) | (apply WP.block; exact r) | (apply WP.skip; exact Yq r) | (apply WP.exit; exact Yq r) | (apply WP.ret; exact Sm.out r) | exact WP.cond rfl (fun _ => r) (fun hg => absurd hg (by decide)) | exact WP.cond rfl (fun hg => absurd hg (by decide)) (fun _ => r) | exact Rt.mk (And.intro (fun _ => Sm.out r) fun hg => absurd hg (by decide)) | exact Rt.mk (And.intro (fun hg => absurd hg (by decide)) fun _ => Sm.out r)) : G := h r
theorem YzWlO {G R : Prop} (r : R) (h : R → G := by intro r; first | (apply ExG.no; exact Sm.out r) | (apply Or.inl; apply ExG.no; exact Sm.out r) | exact Or.inl (And.intro (fun hg => absurd hg (by decide)) (ExG.no (Sm.out r)))) : G := h r
structure LgI (c s n f m : Nat) (P Q : Bs) (L : List Bs) (a : DA) : Prop where
  A : AOk c a
  R : Rg s n f m P Q (frs L ++ zrs (m * s - usd L)) a
  u : usd L ≤ m * s
  sm : Sml L
  hfm : f + m ≤ n
  hm : 1 ≤ m
theorem LgI.ms {c s n f m : Nat} {P Q : Bs} {L : List Bs} {a : DA} (h : LgI c s n f m P Q L a) : m * s ≤ 400 * 512 ∧ a.size = s ∧ a.n = n ∧ 1 ≤ s := by
  have h1 := h.A.n2
  have h2 := h.A.s2
  have h3 := h.A.s1
  have h4 := h.R.st.s
  have h5 := h.R.st.n
  have h6 := h.hfm
  exact ⟨Nat.mul_le_mul (by omega) (by omega), h4, h5, by omega⟩
def lgN (b f m s : Nat) (L : List Bs) (ov : Bool) : MB := lgM b f m (ub (tlB (frs L ++ zrs (m * s - usd L)) (usd L) s)) (usd L) ov
theorem cks_m {s : Nat} {z : List Int} {m : Nat} (hs : 1 ≤ s) (h : z.length ≤ m * s) : (cks s z).length ≤ m := cks_len_le hs h
def apX (f s m : Nat) (L : List Bs) (a : DA) (z : Bs) : DA × Int := lyR a (f + usd L / s) (cks s (ub (tlB (frs L ++ zrs (m * s - usd L)) (usd L) s ++ frameB z)))
theorem tl_len {c s n f m : Nat} {P Q : Bs} {L : List Bs} {a : DA} (h : LgI c s n f m P Q L a) : (tlB (frs L ++ zrs (m * s - usd L)) (usd L) s).length = usd L - usd L / s * s := by
  have := h.u
  simp only [tlB, List.length_drop, List.length_take, List.length_append, zrs, List.length_replicate]
  unfold usd at *; omega
theorem apX_ok {c s n f m : Nat} {P Q : Bs} {L : List Bs} {a : DA} (h : LgI c s n f m P Q L a) (z : Bs) (hz : usd L + (z.length + 10) ≤ m * s) : AOk (c + m + 1) (apX f s m L a z).1 := by
  obtain ⟨h1, h2, h3, h4⟩ := h.ms
  refine (lyR_ok _ a _ c h.A).le ?_
  have hdv := Nat.div_mul_le_self (usd L) s
  have := cks_m (m := m) h4 (z := ub (tlB (frs L ++ zrs (m * s - usd L)) (usd L) s ++ frameB z)) (by rw [ub_len, List.length_append, tl_len h, frame_len]; omega)
  omega
theorem apX_com {c s n f m : Nat} {P Q : Bs} {L : List Bs} {a : DA} (h : LgI c s n f m P Q L a) (z : Bs) (hz : usd L + (z.length + 10) ≤ m * s) : Com s n f m P Q (frs (L ++ [z]) ++ zrs (m * s - usd (L ++ [z]))) (frs L ++ zrs (m * s - usd L)) a (apX f s m L a z) := by
  have := app_rg h.A h.R h.hfm z (by omega)
  rw [show m * s - usd (L ++ [z]) = m * s - usd L - (z.length + 10) by rw [usd_snoc]; omega]
  exact this
theorem LgI.app {c s n f m : Nat} {P Q : Bs} {L : List Bs} {a : DA} (h : LgI c s n f m P Q L a) (z : Bs) (hz : usd L + (z.length + 10) ≤ m * s) (hf : a.f = -1) : (apX f s m L a z).2 = 0 ∧ (apX f s m L a z).1.f = -1 ∧ LgI (c + m + 1) s n f m P Q (L ++ [z]) (apX f s m L a z).1 := by
  obtain ⟨h1, h2, h3⟩ := (apX_com h z hz).up hf
  obtain ⟨g1, g2, g3, g4⟩ := h.ms
  refine ⟨h1, h3, apX_ok h z hz, h2, by rw [usd_snoc]; omega, fun x hx => ?_, h.hfm, h.hm⟩
  rcases List.mem_append.1 hx with hx | hx
  · exact h.sm x hx
  · rw [List.mem_singleton.1 hx]; omega
theorem append_up {c s n f m : Nat} {P Q : Bs} {L : List Bs} {a : DA} (b x : Nat) (l : DL) (h : LgI c s n f m P Q L a) (hl : LOk b a l) (z : Bs) (hz : usd L + (z.length + 10) ≤ m * s) (hz2 : z.length ≤ 5000) (hf : a.f = -1) (hc : c + m ≤ 980) :
    ACt Tryd.prog 13 [pt x 0, .slz .u8 (ub z)] ((x, lgN b f m s L false) :: dH b a l) (fun r F' => ∃ q : LS b (apX f s m L a z).1, r = iv .i64 0 ∧ F' = (x, lgN b f m s (L ++ [z]) false) :: dH b (apX f s m L a z).1 q.1) := by
  obtain ⟨g1, g2, g3, g4⟩ := h.ms
  have h1 := (h.app z hz hf).1
  have hA := (app_lay x b f m (usd L) s (tlB (frs L ++ zrs (m * s - usd L)) (usd L) s) z a l h.A hl h.R.st.dk g2 (by rw [g3]; exact h.hfm) hz (tl_len h) hz2 hc).1 h1
  rw [tail_app L z (m * s - usd L) s g4 (by omega)] at hA
  unfold lgN
  rw [show m * s - usd (L ++ [z]) = m * s - usd L - (z.length + 10) by rw [usd_snoc]; omega]
  rw [show usd L + (z.length + 10) = usd (L ++ [z]) by rw [usd_snoc]] at hA
  exact hA
theorem append_full {c s n f m : Nat} {P Q : Bs} {L : List Bs} {a : DA} (b x : Nat) (l : DL) (h : LgI c s n f m P Q L a) (z : Bs) (hz : m * s < usd L + (z.length + 10)) (hz2 : z.length ≤ 5000) :
    ACt Tryd.prog 13 [pt x 0, .slz .u8 (ub z)] ((x, lgN b f m s L false) :: dH b a l) (fun r F' => r = iv .i64 11 ∧ F' = (x, lgN b f m s L false) :: dH b a l) := by
  obtain ⟨g1, g2, g3, g4⟩ := h.ms
  have := h.u
  exact app_full x b f m (usd L) s _ (ub z) a l h.R.st.dk g2 (by omega) h.u (by rw [ub_len]; omega) (by rw [ub_len]; omega)
theorem open_up {c s n f m : Nat} {P Q : Bs} {L : List Bs} {a : DA} (b : Nat) (l : DL) (h : LgI c s n f m P Q L a) (hl : LOk b a l) :
    ACt Tryd.prog 12 [pt b 0, iv .i64 (f : Int), iv .i64 (m : Int)] (dH b a l) (fun r F' => ∃ x : Nat, r = .tup [pt x 0, .sl L.length (rowsA L), iv .i64 0] ∧ F' = (x, lgN b f m s L false) :: dH b a l) := by
  have := open_clean b a l h.A h.R hl h.hfm h.hm (opD_frz L _ h.sm)
  rw [all_frz L _ h.sm] at this
  exact this
theorem room_up {c s n f m : Nat} {P Q : Bs} {L : List Bs} {a : DA} (b x : Nat) (l : DL) (h : LgI c s n f m P Q L a) (ov : Bool) : ACt Tryd.prog 19 [pt x 0] ((x, lgN b f m s L ov) :: dH b a l) (fun r F' => r = iv .i64 ((m * s - usd L : Nat) : Int) ∧ F' = (x, lgN b f m s L ov) :: dH b a l) := by
  obtain ⟨g1, g2, g3, g4⟩ := h.ms
  exact room_ct x b f m (usd L) s _ ov a l g2 (by omega) h.u
def fmX (f s m : Nat) (a : DA) : DA × Int := lyR a f (cks s (List.replicate (m * s) 0))
theorem LgI.fmt {c s n f m : Nat} {P Q R : Bs} {a : DA} (hA : AOk c a) (hR : Rg s n f m P Q R a) (hfm : f + m ≤ n) (hm : 1 ≤ m) (hf : a.f = -1) : (fmX f s m a).2 = 0 ∧ (fmX f s m a).1.f = -1 ∧ LgI (c + m + 1) s n f m P Q [] (fmX f s m a).1 := by
  obtain ⟨h1, h2, h3⟩ := (fmt_rg hA hR hfm).up hf
  have hs1 : 1 ≤ s := by have := hA.s1; have := hR.st.s; omega
  refine ⟨h1, h3, (lyR_ok _ a _ c hA).le ?_, ?_, Nat.zero_le _, fun x hx => (by cases hx), hfm, hm⟩
  · have := cks_m (m := m) hs1 (z := List.replicate (m * s) (0 : Int)) (by simp)
    omega
  · rw [frs_nil, List.nil_append, show usd [] = 0 from rfl, Nat.sub_zero]; exact h2
theorem format_up {c s n f m : Nat} {P Q R : Bs} {a : DA} (b : Nat) (l : DL) (hA : AOk c a) (hR : Rg s n f m P Q R a) (hl : LOk b a l) (hfm : f + m ≤ n) (hm : 1 ≤ m) (hf : a.f = -1) (hc : c + m ≤ 980) :
    ACt Tryd.prog 10 [pt b 0, iv .i64 (f : Int), iv .i64 (m : Int)] (dH b a l) (fun r F' => ∃ q : LS b (fmX f s m a).1, r = iv .i64 0 ∧ F' = dH b (fmX f s m a).1 q.1) := by
  have h := format_ct b a l hA hR.st hl f m hfm hm hc
  have h1 := (LgI.fmt hA hR hfm hm hf).1
  unfold fmX at h1 ⊢
  rw [h1] at h
  exact h
theorem nwA_stl (n size : Nat) : Stl size n (ub (zrs (n * size))) (nwA n size) := by
  refine ⟨rfl, rfl, rfl, rfl, rfl, ?_⟩
  rw [ub_zrs]
  show (List.replicate n (List.replicate size (0 : Int))).flatten = _
  exact List.flatten_replicate_replicate
theorem abc_len : usd [([97, 98, 99] : Bs)] = 13 := by rw [usd_cons]; rfl
set_option maxHeartbeats 4000000 in
theorem awake_ct : ACt Tryd.prog 6 [] [] (Fn (bv true)) := by
  have cN := new_d 3 32 (by omega) (by omega) (by omega) (by omega)
  have a0 : AOk 0 (nwA 3 32) := nwA_ok (by omega) (by omega) (by omega) (by omega)
  have hR0 : Rg 32 3 1 2 (zrs 32) [] (zrs 64) (nwA 3 32) := by
    refine ⟨?_, by simp, by simp⟩
    have := nwA_stl 3 32
    simpa [zrs] using this
  have hI := LgI.fmt a0 hR0 (by omega) (by omega) rfl
  have hI1 := hI.2.2
  have hJ := hI1.app [97, 98, 99] (by rw [show usd [] = 0 from rfl]; simp) hI.2.1
  refine ACt.intro Tryd.func6 rfl (by kernel_rfl) (by simp [Tryd.ntmps6]) (fun cx => ?_)
  simp only [argE, Tryd.ntmps6, Tryd.results6]
  first | (have FRx := FR; clear FRx) | have FR := fr0S
  have FA := Sm.mk (TFWlO)
  repeat' first | (apply Sm.mk; refine Ys ?_) | refine WP.seq fun K hK => ?_ | (apply Ob.mk; exact Yo) | refine And.intro (Ob.out ?_) ?_ | ((fail_if_success (show WP _ _ _ (.region 2 _ _) _ _)); refine Y1WlO ?_) | (refine CallV.ex (F := []) (List.Perm.refl _) (cN) (fun g => Sm.out ?_)) | refine YzWlO ?_ | (refine WP.cond rfl (fun hc => ?_) (fun hc => ?_) <;> (try simp only [ZC, reduceCtorEq, ZD] at hc) <;> (try exact absurd hc (by decide)) <;> (try (exfalso; omega))) | refine Rt.mk (And.intro (fun hg => Sm.out ?_) fun hg => Sm.out ?_) | (refine Nu.mk ?_; first | (fail_if_success have := nb1); intro nb1 | (fail_if_success have := nb2); intro nb2 | (fail_if_success have := nb3); intro nb3 | (fail_if_success have := nb4); intro nb4 | (fail_if_success have := nb5); intro nb5 | (fail_if_success have := nb6); intro nb6 | (fail_if_success have := nb7); intro nb7 | (fail_if_success have := nb8); intro nb8 | intro nbz) | (apply Yfr; refine Yf FR fun hFRb FR => ?_) | refine Two.mk ?_ ?_ | (apply Yxc; exact Yx) | refine Cs.mk fun hcs => Sm.out ?_ | go_step | omega | (simp only [maxLen_eq]; omega) | exact trivial
  obtain ⟨⟨b, l⟩, hl⟩ := g
  simp only [List.append_nil]
  have cF : ACt Tryd.prog 10 [pt b 0, iv .i64 1, iv .i64 2] (dH b (nwA 3 32) l) (fun r F' => ∃ q : LS b (fmX 1 32 2 (nwA 3 32)).1, r = iv .i64 0 ∧ F' = dH b (fmX 1 32 2 (nwA 3 32)).1 q.1) := format_up (f := 1) (m := 2) (n := 3) (s := 32) b l a0 hR0 hl (by omega) (by omega) rfl (by omega)
  obtain ⟨A1, hA1⟩ : ∃ A, A = (fmX 1 32 2 (nwA 3 32)).1 := ⟨_, rfl⟩
  rw [← hA1] at cF hI1 hJ hI
  first | (have FRx := FR; clear FRx) | have FR := fr0S
  have FA := Sm.mk (TFWlO)
  repeat' first | (apply Sm.mk; refine Ys ?_) | refine WP.seq fun K hK => ?_ | (apply Ob.mk; exact Yo) | refine And.intro (Ob.out ?_) ?_ | ((fail_if_success (show WP _ _ _ (.region 3 _ _) _ _)); refine Y1WlO ?_) | (refine CallV.exM (cF) (pmz _) (fun g => Sm.out ?_)) | refine YzWlO ?_ | (refine WP.cond rfl (fun hc => ?_) (fun hc => ?_) <;> (try simp only [ZC, reduceCtorEq, ZD] at hc) <;> (try exact absurd hc (by decide)) <;> (try (exfalso; omega))) | refine Rt.mk (And.intro (fun hg => Sm.out ?_) fun hg => Sm.out ?_) | (refine Nu.mk ?_; first | (fail_if_success have := nb1); intro nb1 | (fail_if_success have := nb2); intro nb2 | (fail_if_success have := nb3); intro nb3 | (fail_if_success have := nb4); intro nb4 | (fail_if_success have := nb5); intro nb5 | (fail_if_success have := nb6); intro nb6 | (fail_if_success have := nb7); intro nb7 | (fail_if_success have := nb8); intro nb8 | intro nbz) | (apply Yfr; refine Yf FR fun hFRb FR => ?_) | refine Two.mk ?_ ?_ | (apply Yxc; exact Yx) | refine Cs.mk fun hcs => Sm.out ?_ | go_step | omega | (simp only [maxLen_eq]; omega) | exact trivial
  obtain ⟨l1, hl1⟩ := g
  simp only [List.append_nil]
  have cO : ACt Tryd.prog 12 [pt b 0, iv .i64 1, iv .i64 2] (dH b A1 l1) (fun r F' => ∃ x : Nat, r = .tup [pt x 0, .sl 0 [], iv .i64 0] ∧ F' = (x, lgN b 1 2 32 [] false) :: dH b A1 l1) := open_up b l1 hI1 hl1
  first | (have FRx := FR; clear FRx) | have FR := fr0S
  have FA := Sm.mk (TFWlO)
  repeat' first | (apply Sm.mk; refine Ys ?_) | refine WP.seq fun K hK => ?_ | (apply Ob.mk; exact Yo) | refine And.intro (Ob.out ?_) ?_ | ((fail_if_success (show WP _ _ _ (.region 4 _ _) _ _)); refine Y1WlO ?_) | (refine CallV.exM (cO) (pmz _) (fun g => Sm.out ?_)) | refine YzWlO ?_ | (refine WP.cond rfl (fun hc => ?_) (fun hc => ?_) <;> (try simp only [ZC, reduceCtorEq, ZD] at hc) <;> (try exact absurd hc (by decide)) <;> (try (exfalso; omega))) | refine Rt.mk (And.intro (fun hg => Sm.out ?_) fun hg => Sm.out ?_) | (refine Nu.mk ?_; first | (fail_if_success have := nb1); intro nb1 | (fail_if_success have := nb2); intro nb2 | (fail_if_success have := nb3); intro nb3 | (fail_if_success have := nb4); intro nb4 | (fail_if_success have := nb5); intro nb5 | (fail_if_success have := nb6); intro nb6 | (fail_if_success have := nb7); intro nb7 | (fail_if_success have := nb8); intro nb8 | intro nbz) | (apply Yfr; refine Yf FR fun hFRb FR => ?_) | refine Two.mk ?_ ?_ | (apply Yxc; exact Yx) | refine Cs.mk fun hcs => Sm.out ?_ | go_step | omega | (simp only [maxLen_eq]; omega) | exact trivial
  try simp only [List.append_nil]
  obtain ⟨x, hx⟩ : ∃ x, x = g := ⟨_, rfl⟩
  rw [← hx]
  clear hx
  have cR : ACt Tryd.prog 19 [pt x 0] ((x, lgN b 1 2 32 [] false) :: dH b A1 l1) (fun r F' => r = iv .i64 64 ∧ F' = (x, lgN b 1 2 32 [] false) :: dH b A1 l1) := room_up b x l1 hI1 false
  obtain ⟨A2, hA2⟩ : ∃ A, A = (apX 1 32 2 [] A1 [97, 98, 99]).1 := ⟨_, rfl⟩
  have cA : ACt Tryd.prog 13 [pt x 0, .slz .u8 [97, 98, 99]] ((x, lgN b 1 2 32 [] false) :: dH b A1 l1) (fun r F' => ∃ q : LS b A2, r = iv .i64 0 ∧ F' = (x, lgN b 1 2 32 [[97, 98, 99]] false) :: dH b A2 q.1) := by
    rw [hA2]
    exact append_up b x l1 hI1 hl1 [97, 98, 99] (by rw [show usd [] = 0 from rfl]; simp) (by simp) hI.2.1 (by omega)
  rw [← hA2] at hJ
  first | (have FRx := FR; clear FRx) | have FR := fr0S
  have FA := Sm.mk (TFWlO)
  repeat' first | (apply Sm.mk; refine Ys ?_) | refine WP.seq fun K hK => ?_ | (apply Ob.mk; exact Yo) | refine And.intro (Ob.out ?_) ?_ | ((fail_if_success (show WP _ _ _ (.region 6 _ _) _ _)); refine Y1WlO ?_) | refine CallV.updM (cR) (pmz _) (Sm.out ?_) | ((first | refine ExF.up ?_ (cR) (Sm.out ?_) | refine ExG.up ?_ (fun _ => cR) (Sm.out ?_) | refine ExG.upJ ?_ (fun _ => cR) (Sm.out ?_) | refine ExG.upI ?_ (fun _ => cR) (Ob.out ?_) (Sm.out ?_)); focus (exact ⟨_, (pmz _)⟩)) | (refine CallV.exM (cA) (pmz _) (fun g => Sm.out ?_)) | refine YzWlO ?_ | (refine WP.cond rfl (fun hc => ?_) (fun hc => ?_) <;> (try simp only [ZC, reduceCtorEq, ZD] at hc) <;> (try exact absurd hc (by decide)) <;> (try (exfalso; omega))) | refine Rt.mk (And.intro (fun hg => Sm.out ?_) fun hg => Sm.out ?_) | (refine Nu.mk ?_; first | (fail_if_success have := nb1); intro nb1 | (fail_if_success have := nb2); intro nb2 | (fail_if_success have := nb3); intro nb3 | (fail_if_success have := nb4); intro nb4 | (fail_if_success have := nb5); intro nb5 | (fail_if_success have := nb6); intro nb6 | (fail_if_success have := nb7); intro nb7 | (fail_if_success have := nb8); intro nb8 | intro nbz) | (apply Yfr; refine Yf FR fun hFRb FR => ?_) | refine Two.mk ?_ ?_ | (apply Yxc; exact Yx) | refine Cs.mk fun hcs => Sm.out ?_ | go_step | omega | (simp only [maxLen_eq]; omega) | exact trivial
  obtain ⟨l2, hl2⟩ := g
  simp only [List.append_nil]
  have hJ2 : LgI _ 32 3 1 2 (zrs 32) [] [[97, 98, 99]] A2 := hJ.2.2
  have cU := used_ct x b 1 2 (usd [([97, 98, 99] : Bs)]) (ub (tlB (frs [[97, 98, 99]] ++ zrs (2 * 32 - usd [[97, 98, 99]])) (usd [[97, 98, 99]]) 32)) false
  have cU2 : ACt Tryd.prog 17 [pt x 0] ((x, lgN b 1 2 32 [[97, 98, 99]] false) :: dH b A2 l2) (fun r F' => r = iv .i64 13 ∧ F' = (x, lgN b 1 2 32 [[97, 98, 99]] false) :: dH b A2 l2) := by
    have := ACt.lookU (H := (x, lgN b 1 2 32 [[97, 98, 99]] false) :: dH b A2 l2) (R := dH b A2 l2) cU (.refl _)
    rwa [abc_len] at this
  have cR2 : ACt Tryd.prog 19 [pt x 0] ((x, lgN b 1 2 32 [[97, 98, 99]] false) :: dH b A2 l2) (fun r F' => r = iv .i64 51 ∧ F' = (x, lgN b 1 2 32 [[97, 98, 99]] false) :: dH b A2 l2) := by
    have := room_up b x l2 hJ2 false
    rwa [abc_len] at this
  have c1 : ((0 : Int) == 0) = true := rfl
  have c2 : ((64 : Int) == 64) = true := rfl
  have c3 : ((13 : Int) == 13) = true := rfl
  have c4 : ((51 : Int) == 51) = true := rfl
  first | (have FRx := FR; clear FRx) | have FR := fr0S
  have FA := Sm.mk (And.intro TFWlO (And.intro c1 (And.intro c2 (And.intro c3 c4))))
  repeat' first | (apply Sm.mk; refine Ys ?_) | refine WP.seq fun K hK => ?_ | (apply Ob.mk; exact Yo) | refine And.intro (Ob.out ?_) ?_ | refine Y1WlO ?_ | refine CallV.updM (cU2) (pmz _) (Sm.out ?_) | ((first | refine ExF.up ?_ (cU2) (Sm.out ?_) | refine ExG.up ?_ (fun _ => cU2) (Sm.out ?_) | refine ExG.upJ ?_ (fun _ => cU2) (Sm.out ?_) | refine ExG.upI ?_ (fun _ => cU2) (Ob.out ?_) (Sm.out ?_)); focus (exact ⟨_, (pmz _)⟩)) | refine CallV.updM (cR2) (pmz _) (Sm.out ?_) | ((first | refine ExF.up ?_ (cR2) (Sm.out ?_) | refine ExG.up ?_ (fun _ => cR2) (Sm.out ?_) | refine ExG.upJ ?_ (fun _ => cR2) (Sm.out ?_) | refine ExG.upI ?_ (fun _ => cR2) (Ob.out ?_) (Sm.out ?_)); focus (exact ⟨_, (pmz _)⟩)) | refine YzWlO ?_ | (refine WP.cond rfl (fun hc => ?_) (fun hc => ?_) <;> (try simp only [ZC, reduceCtorEq, ZD] at hc) <;> (try exact absurd hc (by decide)) <;> (try (exfalso; omega))) | refine Rt.mk (And.intro (fun hg => Sm.out ?_) fun hg => Sm.out ?_) | (refine Nu.mk ?_; first | (fail_if_success have := nb1); intro nb1 | (fail_if_success have := nb2); intro nb2 | (fail_if_success have := nb3); intro nb3 | (fail_if_success have := nb4); intro nb4 | (fail_if_success have := nb5); intro nb5 | (fail_if_success have := nb6); intro nb6 | (fail_if_success have := nb7); intro nb7 | (fail_if_success have := nb8); intro nb8 | intro nbz) | (apply Yfr; refine Yf FR fun hFRb FR => ?_) | refine Two.mk ?_ ?_ | (apply Yxc; exact Yx) | refine Cs.mk fun hcs => Sm.out ?_ | go_step | omega | (simp only [maxLen_eq]; omega) | exact trivial
  (refine Yg ?_; try exact trivial)
end Go.Proofs.YtpjnhcjfkgjbnaaDoor
