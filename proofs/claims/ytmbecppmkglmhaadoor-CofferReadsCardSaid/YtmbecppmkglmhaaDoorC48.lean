/-
  The walks and the laws that the statement leans on, part 48.
-/
import Derived.Test.YtmbecppmkglmhaaDoorC11
import Derived.Test.YtmbecppmkglmhaaDoorC32
import Derived.Test.YtmbecppmkglmhaaDoorC45
import Derived.Test.YtmbecppmkglmhaaDoorC47
namespace Go.Proofs.YtmbecppmkglmhaaDoor
open Go Wi
set_option linter.unusedVariables false
set_option linter.unusedSimpArgs false
set_option linter.defProp false
def TFCfG :=
  And.intro (And.intro (And.intro (And.intro (And.intro (And.intro tyc0 tyc3) (And.intro zmb3 tyc4)) (And.intro (And.intro zmb4 tyc5) (And.intro zmb5 (And.intro tyc22 elt22)))) (And.intro (And.intro (And.intro mkz22 apT22) (And.intro elk22 (And.intro zmb22 tyc26))) (And.intro (And.intro mth26_27 mth26_26) (And.intro mth26_28 (And.intro con26 zmb26))))) (And.intro (And.intro (And.intro (And.intro tyc29 zmb29) (And.intro tyc32 (And.intro zmb32 tyc45))) (And.intro (And.intro mth45_50 mth45_48) (And.intro con45 (And.intro zmb45 tyc53)))) (And.intro (And.intro (And.intro tyc55 tyc77) (And.intro zmb77 (And.intro tyc82 zmb82))) (And.intro (And.intro tyc86 foff86_0) (And.intro fpart86_0 (And.intro foff86_1 fpart86_1)))))) (And.intro (And.intro (And.intro (And.intro (And.intro foff86_2 fpart86_2) (And.intro foff86_3 (And.intro fpart86_3 foff86_4))) (And.intro (And.intro fpart86_4 foff86_5) (And.intro fpart86_5 (And.intro zmb86 bldT86)))) (And.intro (And.intro (And.intro tyc99 foff99_0) (And.intro fpart99_0 (And.intro foff99_1 fpart99_1))) (And.intro (And.intro foff99_2 fpart99_2) (And.intro foff99_3 (And.intro fpart99_3 foff99_4))))) (And.intro (And.intro (And.intro (And.intro fpart99_4 foff99_5) (And.intro fpart99_5 (And.intro zmb99 bldT99))) (And.intro (And.intro Tryd.underlying0 Tryd.underlying3) (And.intro Tryd.underlying4 (And.intro Tryd.underlying5 Tryd.underlying22)))) (And.intro (And.intro (And.intro Tryd.underlying26 Tryd.underlying29) (And.intro Tryd.underlying32 (And.intro Tryd.underlying45 Tryd.underlying53))) (And.intro (And.intro Tryd.underlying55 Tryd.underlying77) (And.intro Tryd.underlying82 (And.intro Tryd.underlying86 Tryd.underlying99))))))
theorem Y1CfG {G R : Prop} (r : R) (h : R → G := by intro r; first | (apply WP.region; exact rvc_sound _ _ (Sm.out r)) | exact WP.drawK rfl mixed (by decide +kernel) (Sm.out r) | (apply WP.block; exact r) | (apply WP.skip; exact Yq r) | (apply WP.exit; exact Yq r) | (apply WP.ret; exact Sm.out r) | exact WP.cond rfl (fun _ => r) (fun hg => absurd hg (by decide)) | exact WP.cond rfl (fun hg => absurd hg (by decide)) (fun _ => r) | exact Rt.mk (And.intro (fun _ => Sm.out r) fun hg => absurd hg (by decide)) | exact Rt.mk (And.intro (fun hg => absurd hg (by decide)) fun _ => Sm.out r)) : G := h r
theorem YzCfG {G R : Prop} (r : R) (h : R → G := by intro r; first | (apply ExG.no; exact Sm.out r) | (apply Or.inl; apply ExG.no; exact Sm.out r) | exact Or.inl (And.intro (fun hg => absurd hg (by decide)) (ExG.no (Sm.out r)))) : G := h r
section
variable (z y x b m k : Nat)
set_option maxRecDepth 20000 in
theorem cfup_ct {a : DA} {l : DL} (hk : a.dk = false) : ACt Tryd.prog 48 [pt z 0] ((z, cfM b m y x k false) :: dH b a l) (fun r F' => r = iv .i64 0 ∧ F' = (z, cfM b m y x k false) :: dH b a l) := by
  have cD := look0 [(z, cfM b m y x k false)] (dark_d b a l)
  rw [hk] at cD
  unfold cfM at cD ⊢
  refine ACt.intro Tryd.func48 rfl (by kernel_rfl) (by simp [Tryd.ntmps48]) (fun cx => ?_)
  simp only [argE, Tryd.ntmps48, Tryd.results48]
  first | (have FRx := FR; clear FRx) | have FR := fr0S
  have FA := Sm.mk (TFCfG)
  repeat' first | (apply Sm.mk; refine Ys ?_) | refine WP.seq fun K hK => ?_ | (apply Ob.mk; exact Yo) | refine And.intro (Ob.out ?_) ?_ | refine Y1CfG ?_ | refine CallV.updM (cD) (pmz _) (Sm.out ?_) | ((first | refine ExF.up ?_ (cD) (Sm.out ?_) | refine ExG.up ?_ (fun _ => cD) (Sm.out ?_) | refine ExG.upJ ?_ (fun _ => cD) (Sm.out ?_) | refine ExG.upI ?_ (fun _ => cD) (Ob.out ?_) (Sm.out ?_)); focus (exact ⟨_, (pmz _)⟩)) | refine YzCfG ?_ | (refine WP.cond rfl (fun hc => ?_) (fun hc => ?_) <;> (try simp only [ZC, reduceCtorEq, ZD] at hc) <;> (try exact absurd hc (by decide)) <;> (try (exfalso; omega))) | refine Rt.mk (And.intro (fun hg => Sm.out ?_) fun hg => Sm.out ?_) | (refine Nu.mk ?_; first | (fail_if_success have := nb1); intro nb1 | (fail_if_success have := nb2); intro nb2 | (fail_if_success have := nb3); intro nb3 | (fail_if_success have := nb4); intro nb4 | (fail_if_success have := nb5); intro nb5 | (fail_if_success have := nb6); intro nb6 | intro nbz) | (apply Yfr; refine Yf FR fun hFRb FR => ?_) | refine Two.mk ?_ ?_ | (apply Yxc; exact Yx) | refine Cs.mk fun hcs => Sm.out ?_ | go_step | omega | (simp only [maxLen_eq]; omega) | exact trivial
  (refine OutQ.drop _ _ (pmz _) (by simp only [resv, ZK, look, loadv, loadn, loadnm, load1, load1m, hget, ↓reduceIte, Nat.reduceEqDiff, Nat.reduceAdd, Nat.reduceMul, Nat.reduceLeDiff, Nat.reduceLT, reduceCtorEq, TFCfG, FR.out]) ⟨(by simp only [resv, resA, ZK, look, loadv, loadn, loadnm, load1, load1m, hget, ↓reduceIte, Nat.reduceEqDiff, Nat.reduceAdd, Nat.reduceMul, Nat.reduceLeDiff, Nat.reduceLT, reduceCtorEq, TFCfG, FR.out]; first | done | rfl), rfl⟩)
set_option maxRecDepth 20000 in
theorem cftold_ct : ACt Tryd.prog 50 [pt z 0, iv .i64 0] [(z, cfM b m y x k false)] (fun r F' => r = iv .i64 0 ∧ F' = [(z, cfM b m y x k false)]) := by
  unfold cfM
  have k0 : ((0 : Int) == 12) = false := rfl
  refine ACt.intro Tryd.func50 rfl (by kernel_rfl) (by simp [Tryd.ntmps50]) (fun cx => ?_)
  simp only [argE, Tryd.ntmps50, Tryd.results50]
  first | (have FRx := FR; clear FRx) | have FR := fr0S
  have FA := Sm.mk (And.intro TFCfG k0)
  repeat' first | (apply Sm.mk; refine Ys ?_) | refine WP.seq fun K hK => ?_ | (apply Ob.mk; exact Yo) | refine And.intro (Ob.out ?_) ?_ | refine Y1CfG ?_ | refine YzCfG ?_ | (refine WP.cond rfl (fun hc => ?_) (fun hc => ?_) <;> (try simp only [ZC, reduceCtorEq, ZD] at hc) <;> (try exact absurd hc (by decide)) <;> (try (exfalso; omega))) | refine Rt.mk (And.intro (fun hg => Sm.out ?_) fun hg => Sm.out ?_) | (refine Nu.mk ?_; first | (fail_if_success have := nb1); intro nb1 | (fail_if_success have := nb2); intro nb2 | (fail_if_success have := nb3); intro nb3 | (fail_if_success have := nb4); intro nb4 | (fail_if_success have := nb5); intro nb5 | (fail_if_success have := nb6); intro nb6 | intro nbz) | (apply Yfr; refine Yf FR fun hFRb FR => ?_) | refine Two.mk ?_ ?_ | (apply Yxc; exact Yx) | refine Cs.mk fun hcs => Sm.out ?_ | go_step | omega | (simp only [maxLen_eq]; omega) | exact trivial
  (refine OutQ.upd (by simp only [resv, ZK, look, loadv, loadn, loadnm, load1, load1m, hget, ↓reduceIte, Nat.reduceEqDiff, Nat.reduceAdd, Nat.reduceMul, Nat.reduceLeDiff, Nat.reduceLT, reduceCtorEq, TFCfG, FR.out]) (by simp only [resv, resA, ZK, look, loadv, loadn, loadnm, load1, load1m, hget, ↓reduceIte, Nat.reduceEqDiff, Nat.reduceAdd, Nat.reduceMul, Nat.reduceLeDiff, Nat.reduceLT, reduceCtorEq, TFCfG, FR.out]; first | done | rfl) (by simp only [hget, ↓reduceIte, if_true, if_false, FR.out]; first | done | rfl) ?_ <;> first | exact rfl | (simp only [ZK, look, loadv, loadn, loadnm, load1, load1m, hget, ↓reduceIte, Nat.reduceEqDiff, Nat.reduceAdd, Nat.reduceMul, Nat.reduceLeDiff, Nat.reduceLT, reduceCtorEq, TFCfG, FR.out]; done) | skip)
set_option maxRecDepth 20000 in
theorem slmost_ct {a : DA} {l : DL} (f : Nat) (e : Nat × List Int) (h : a.size ≤ 512) (hm : m ≤ 400) : ACt Tryd.prog 51 [pt y 0] ((y, slM b f m e) :: dH b a l) (fun r F' => r = iv .i64 (((m * a.size : Nat) : Int) - 19) ∧ F' = (y, slM b f m e) :: dH b a l) := by
  have cZ := look0 [(y, slM b f m e)] (size_d b a l)
  obtain ⟨s, hs⟩ : ∃ s, s = a.size := ⟨_, rfl⟩
  rw [← hs] at cZ h ⊢
  have hms : m * s ≤ 400 * 512 := Nat.mul_le_mul hm h
  have w1 : IntKind.i64.wrap ((m : Int) * (s : Int)) = ((m * s : Nat) : Int) := by rw [← Int.natCast_mul]; exact wrap_i64 (by omega) (by omega)
  have w2 : IntKind.i64.wrap (((m * s : Nat) : Int) - 19) = ((m * s : Nat) : Int) - 19 := wrap_i64 (by omega) (by omega)
  unfold slM at cZ ⊢
  refine ACt.intro Tryd.func51 rfl (by kernel_rfl) (by simp [Tryd.ntmps51]) (fun cx => ?_)
  simp only [argE, Tryd.ntmps51, Tryd.results51]
  first | (have FRx := FR; clear FRx) | have FR := fr0S
  have FA := Sm.mk (And.intro TFCfG (And.intro w1 w2))
  repeat' first | (apply Sm.mk; refine Ys ?_) | refine WP.seq fun K hK => ?_ | (apply Ob.mk; exact Yo) | refine And.intro (Ob.out ?_) ?_ | refine Y1CfG ?_ | refine CallV.updM (cZ) (pmz _) (Sm.out ?_) | ((first | refine ExF.up ?_ (cZ) (Sm.out ?_) | refine ExG.up ?_ (fun _ => cZ) (Sm.out ?_) | refine ExG.upJ ?_ (fun _ => cZ) (Sm.out ?_) | refine ExG.upI ?_ (fun _ => cZ) (Ob.out ?_) (Sm.out ?_)); focus (exact ⟨_, (pmz _)⟩)) | refine YzCfG ?_ | (refine WP.cond rfl (fun hc => ?_) (fun hc => ?_) <;> (try simp only [ZC, reduceCtorEq, ZD] at hc) <;> (try exact absurd hc (by decide)) <;> (try (exfalso; omega))) | refine Rt.mk (And.intro (fun hg => Sm.out ?_) fun hg => Sm.out ?_) | (refine Nu.mk ?_; first | (fail_if_success have := nb1); intro nb1 | (fail_if_success have := nb2); intro nb2 | (fail_if_success have := nb3); intro nb3 | (fail_if_success have := nb4); intro nb4 | (fail_if_success have := nb5); intro nb5 | (fail_if_success have := nb6); intro nb6 | intro nbz) | (apply Yfr; refine Yf FR fun hFRb FR => ?_) | refine Two.mk ?_ ?_ | (apply Yxc; exact Yx) | refine Cs.mk fun hcs => Sm.out ?_ | go_step | omega | (simp only [maxLen_eq]; omega) | exact trivial
  (refine OutQ.drop _ _ (pmz _) (by simp only [resv, ZK, look, loadv, loadn, loadnm, load1, load1m, hget, ↓reduceIte, Nat.reduceEqDiff, Nat.reduceAdd, Nat.reduceMul, Nat.reduceLeDiff, Nat.reduceLT, reduceCtorEq, TFCfG, FR.out]) ⟨(by simp only [resv, resA, ZK, look, loadv, loadn, loadnm, load1, load1m, hget, ↓reduceIte, Nat.reduceEqDiff, Nat.reduceAdd, Nat.reduceMul, Nat.reduceLeDiff, Nat.reduceLT, reduceCtorEq, TFCfG, FR.out]; first | done | rfl), rfl⟩)
set_option maxRecDepth 20000 in
theorem cfmost_ct {a : DA} {l : DL} (e : Nat × List Int) (h : a.size ≤ 512) (hm : m ≤ 400) (ov : Bool) : ACt Tryd.prog 22 [pt z 0] ((z, cfM b m y x k ov) :: (y, slM b 0 m e) :: dH b a l) (fun r F' => r = iv .i64 (((m * a.size : Nat) : Int) - 19) ∧ F' = (z, cfM b m y x k ov) :: (y, slM b 0 m e) :: dH b a l) := by
  have c := look0 [(z, cfM b m y x k ov)] (slmost_ct y b m (a := a) (l := l) 0 e h hm)
  unfold cfM at c ⊢
  refine ACt.intro Tryd.func22 rfl (by kernel_rfl) (by simp [Tryd.ntmps22]) (fun cx => ?_)
  simp only [argE, Tryd.ntmps22, Tryd.results22]
  first | (have FRx := FR; clear FRx) | have FR := fr0S
  have FA := Sm.mk (TFCfG)
  repeat' first | (apply Sm.mk; refine Ys ?_) | refine WP.seq fun K hK => ?_ | (apply Ob.mk; exact Yo) | refine And.intro (Ob.out ?_) ?_ | refine Y1CfG ?_ | refine CallV.updM (c) (pmz _) (Sm.out ?_) | ((first | refine ExF.up ?_ (c) (Sm.out ?_) | refine ExG.up ?_ (fun _ => c) (Sm.out ?_) | refine ExG.upJ ?_ (fun _ => c) (Sm.out ?_) | refine ExG.upI ?_ (fun _ => c) (Ob.out ?_) (Sm.out ?_)); focus (exact ⟨_, (pmz _)⟩)) | refine YzCfG ?_ | (refine WP.cond rfl (fun hc => ?_) (fun hc => ?_) <;> (try simp only [ZC, reduceCtorEq, ZD] at hc) <;> (try exact absurd hc (by decide)) <;> (try (exfalso; omega))) | refine Rt.mk (And.intro (fun hg => Sm.out ?_) fun hg => Sm.out ?_) | (refine Nu.mk ?_; first | (fail_if_success have := nb1); intro nb1 | (fail_if_success have := nb2); intro nb2 | (fail_if_success have := nb3); intro nb3 | (fail_if_success have := nb4); intro nb4 | (fail_if_success have := nb5); intro nb5 | (fail_if_success have := nb6); intro nb6 | intro nbz) | (apply Yfr; refine Yf FR fun hFRb FR => ?_) | refine Two.mk ?_ ?_ | (apply Yxc; exact Yx) | refine Cs.mk fun hcs => Sm.out ?_ | go_step | omega | (simp only [maxLen_eq]; omega) | exact trivial
  (refine OutQ.drop _ _ (pmz _) (by simp only [resv, ZK, look, loadv, loadn, loadnm, load1, load1m, hget, ↓reduceIte, Nat.reduceEqDiff, Nat.reduceAdd, Nat.reduceMul, Nat.reduceLeDiff, Nat.reduceLT, reduceCtorEq, TFCfG, FR.out]) ⟨(by simp only [resv, resA, ZK, look, loadv, loadn, loadnm, load1, load1m, hget, ↓reduceIte, Nat.reduceEqDiff, Nat.reduceAdd, Nat.reduceMul, Nat.reduceLeDiff, Nat.reduceLT, reduceCtorEq, TFCfG, FR.out]; first | done | rfl), rfl⟩)
set_option maxRecDepth 20000 in
theorem cfroom_ct {c s n f w : Nat} {P Q : Bs} {L : List Bs} {a : DA} {l : DL} (h : LgI c s n f w P Q L a) (ov : Bool) : ACt Tryd.prog 20 [pt z 0] ((z, cfM b m y x k ov) :: (x, lgN b f w s L false) :: dH b a l) (fun r F' => r = iv .i64 ((w * s - usd L : Nat) : Int) ∧ F' = (z, cfM b m y x k ov) :: (x, lgN b f w s L false) :: dH b a l) := by
  have c := look0 [(z, cfM b m y x k ov)] (room_up b x l h false)
  unfold cfM at c ⊢
  refine ACt.intro Tryd.func20 rfl (by kernel_rfl) (by simp [Tryd.ntmps20]) (fun cx => ?_)
  simp only [argE, Tryd.ntmps20, Tryd.results20]
  first | (have FRx := FR; clear FRx) | have FR := fr0S
  have FA := Sm.mk (TFCfG)
  repeat' first | (apply Sm.mk; refine Ys ?_) | refine WP.seq fun K hK => ?_ | (apply Ob.mk; exact Yo) | refine And.intro (Ob.out ?_) ?_ | refine Y1CfG ?_ | refine CallV.updM (c) (pmz _) (Sm.out ?_) | ((first | refine ExF.up ?_ (c) (Sm.out ?_) | refine ExG.up ?_ (fun _ => c) (Sm.out ?_) | refine ExG.upJ ?_ (fun _ => c) (Sm.out ?_) | refine ExG.upI ?_ (fun _ => c) (Ob.out ?_) (Sm.out ?_)); focus (exact ⟨_, (pmz _)⟩)) | refine YzCfG ?_ | (refine WP.cond rfl (fun hc => ?_) (fun hc => ?_) <;> (try simp only [ZC, reduceCtorEq, ZD] at hc) <;> (try exact absurd hc (by decide)) <;> (try (exfalso; omega))) | refine Rt.mk (And.intro (fun hg => Sm.out ?_) fun hg => Sm.out ?_) | (refine Nu.mk ?_; first | (fail_if_success have := nb1); intro nb1 | (fail_if_success have := nb2); intro nb2 | (fail_if_success have := nb3); intro nb3 | (fail_if_success have := nb4); intro nb4 | (fail_if_success have := nb5); intro nb5 | (fail_if_success have := nb6); intro nb6 | intro nbz) | (apply Yfr; refine Yf FR fun hFRb FR => ?_) | refine Two.mk ?_ ?_ | (apply Yxc; exact Yx) | refine Cs.mk fun hcs => Sm.out ?_ | go_step | omega | (simp only [maxLen_eq]; omega) | exact trivial
  (refine OutQ.drop _ _ (pmz _) (by simp only [resv, ZK, look, loadv, loadn, loadnm, load1, load1m, hget, ↓reduceIte, Nat.reduceEqDiff, Nat.reduceAdd, Nat.reduceMul, Nat.reduceLeDiff, Nat.reduceLT, reduceCtorEq, TFCfG, FR.out]) ⟨(by simp only [resv, resA, ZK, look, loadv, loadn, loadnm, load1, load1m, hget, ↓reduceIte, Nat.reduceEqDiff, Nat.reduceAdd, Nat.reduceMul, Nat.reduceLeDiff, Nat.reduceLT, reduceCtorEq, TFCfG, FR.out]; first | done | rfl), rfl⟩)
set_option maxRecDepth 20000 in
theorem cfapp_ct {c s n f w : Nat} {P Q : Bs} {L : List Bs} {a : DA} {l : DL} (h : LgI c s n f w P Q L a) (hl : LOk b a l) (u : Bs) (hu : usd L + (u.length + 10) ≤ w * s) (hu2 : u.length ≤ 5000) (hf : a.f = -1) (hc : c + w ≤ 980) (hk : k ≤ 100000) (hL : L = []) :
    ACt Tryd.prog 21 [pt z 0, .slz .u8 (ub u)] ((z, cfM b m y x k false) :: (x, lgN b f w s L false) :: dH b a l) (fun r F' => ∃ q : LS b (apX f s w L a u).1, r = iv .i64 0 ∧ F' = (z, cfM b m y x (k + 1) false) :: (x, lgN b f w s (L ++ [u]) false) :: dH b (apX f s w L a u).1 q.1) := by
  have cU := (cfup_ct z y x b m k (l := l) h.R.st.dk).lookU (H := (z, cfM b m y x k false) :: (x, lgN b f w s L false) :: dH b a l) (R := [(x, lgN b f w s L false)]) (by exact List.Perm.cons _ (List.perm_append_comm (l₁ := [_])))
  have cA := lift0 [(z, cfM b m y x k false)] (append_up b x l h hl u hu hu2 hf hc hL)
  have cT := cftold_ct z y x b m (k + 1)
  obtain ⟨a2, ha2⟩ : ∃ a2, a2 = (apX f s w L a u).1 := ⟨_, rfl⟩
  rw [← ha2] at cA ⊢
  have w1 : IntKind.i64.wrap ((k : Int) + 1) = ((k + 1 : Nat) : Int) := by rw [wrap_i64 (by omega) (by omega)]; omega
  have k0 : ((0 : Int) == 0) = true := rfl
  have k1 : ((0 : Int) != 0) = false := rfl
  unfold cfM at cU cA ⊢
  refine ACt.intro Tryd.func21 rfl (by kernel_rfl) (by simp [Tryd.ntmps21]) (fun cx => ?_)
  simp only [argE, Tryd.ntmps21, Tryd.results21]
  first | (have FRx := FR; clear FRx) | have FR := fr0S
  have FA := Sm.mk (And.intro TFCfG k1)
  repeat' first | (apply Sm.mk; refine Ys ?_) | refine WP.seq fun K hK => ?_ | (apply Ob.mk; exact Yo) | refine And.intro (Ob.out ?_) ?_ | ((fail_if_success (show WP _ _ _ (.region 5 _ _) _ _)); refine Y1CfG ?_) | refine CallV.updM (cU) (pmz _) (Sm.out ?_) | ((first | refine ExF.up ?_ (cU) (Sm.out ?_) | refine ExG.up ?_ (fun _ => cU) (Sm.out ?_) | refine ExG.upJ ?_ (fun _ => cU) (Sm.out ?_) | refine ExG.upI ?_ (fun _ => cU) (Ob.out ?_) (Sm.out ?_)); focus (exact ⟨_, (pmz _)⟩)) | (refine CallV.exM (cA) (pmz _) (fun g => Sm.out ?_)) | refine YzCfG ?_ | (refine WP.cond rfl (fun hc => ?_) (fun hc => ?_) <;> (try simp only [ZC, reduceCtorEq, ZD] at hc) <;> (try exact absurd hc (by decide)) <;> (try (exfalso; omega))) | refine Rt.mk (And.intro (fun hg => Sm.out ?_) fun hg => Sm.out ?_) | (refine Nu.mk ?_; first | (fail_if_success have := nb1); intro nb1 | (fail_if_success have := nb2); intro nb2 | (fail_if_success have := nb3); intro nb3 | (fail_if_success have := nb4); intro nb4 | (fail_if_success have := nb5); intro nb5 | (fail_if_success have := nb6); intro nb6 | intro nbz) | (apply Yfr; refine Yf FR fun hFRb FR => ?_) | refine Two.mk ?_ ?_ | (apply Yxc; exact Yx) | refine Cs.mk fun hcs => Sm.out ?_ | go_step | omega | (simp only [maxLen_eq]; omega) | exact trivial
  obtain ⟨l2, hl2⟩ := g
  simp only [List.append_nil]
  unfold cfM at cT
  have cT2 := cT.lookU (H := (z, MB.cells [pt b 0, iv .i64 (m : Int), pt y 0, pt x 0, iv .i64 ((k + 1 : Nat) : Int), bv false] 6 86) :: (x, lgN b f w s (L ++ [u]) false) :: dH b a2 l2) (R := (x, lgN b f w s (L ++ [u]) false) :: dH b a2 l2) (.refl _)
  first | (have FRx := FR; clear FRx) | have FR := fr0S
  have FA := Sm.mk (And.intro TFCfG (And.intro k0 w1))
  repeat' first | (apply Sm.mk; refine Ys ?_) | refine WP.seq fun K hK => ?_ | (apply Ob.mk; exact Yo) | refine And.intro (Ob.out ?_) ?_ | refine Y1CfG ?_ | refine CallV.updM (cT2) (pmz _) (Sm.out ?_) | ((first | refine ExF.up ?_ (cT2) (Sm.out ?_) | refine ExG.up ?_ (fun _ => cT2) (Sm.out ?_) | refine ExG.upJ ?_ (fun _ => cT2) (Sm.out ?_) | refine ExG.upI ?_ (fun _ => cT2) (Ob.out ?_) (Sm.out ?_)); focus (exact ⟨_, (pmz _)⟩)) | refine YzCfG ?_ | (refine WP.cond rfl (fun hc => ?_) (fun hc => ?_) <;> (try simp only [ZC, reduceCtorEq, ZD] at hc) <;> (try exact absurd hc (by decide)) <;> (try (exfalso; omega))) | refine Rt.mk (And.intro (fun hg => Sm.out ?_) fun hg => Sm.out ?_) | (refine Nu.mk ?_; first | (fail_if_success have := nb1); intro nb1 | (fail_if_success have := nb2); intro nb2 | (fail_if_success have := nb3); intro nb3 | (fail_if_success have := nb4); intro nb4 | (fail_if_success have := nb5); intro nb5 | (fail_if_success have := nb6); intro nb6 | intro nbz) | (apply Yfr; refine Yf FR fun hFRb FR => ?_) | refine Two.mk ?_ ?_ | (apply Yxc; exact Yx) | refine Cs.mk fun hcs => Sm.out ?_ | go_step | omega | (simp only [maxLen_eq]; omega) | exact trivial
  (refine OutQ.drop _ _ (pmz _) (by simp only [resv, ZK, look, loadv, loadn, loadnm, load1, load1m, hget, ↓reduceIte, Nat.reduceEqDiff, Nat.reduceAdd, Nat.reduceMul, Nat.reduceLeDiff, Nat.reduceLT, reduceCtorEq, TFCfG, FR.out]) ⟨⟨l2, hl2⟩, (by simp only [resv, resA, ZK, look, loadv, loadn, loadnm, load1, load1m, hget, ↓reduceIte, Nat.reduceEqDiff, Nat.reduceAdd, Nat.reduceMul, Nat.reduceLeDiff, Nat.reduceLT, reduceCtorEq, TFCfG, FR.out]; first | done | rfl), rfl⟩)
end
end Go.Proofs.YtmbecppmkglmhaaDoor
namespace Go.Proofs.YtmbecppmkglmhaaDoor
open Go Wi
set_option linter.unusedVariables false
set_option linter.unusedSimpArgs false
set_option linter.defProp false
def TFCfH :=
  And.intro (And.intro (And.intro (And.intro (And.intro tyc3 zmb3) (And.intro tyc4 zmb4)) (And.intro (And.intro tyc5 zmb5) (And.intro tyc22 (And.intro elt22 mkz22)))) (And.intro (And.intro (And.intro apT22 elk22) (And.intro zmb22 (And.intro tyc26 mth26_27))) (And.intro (And.intro mth26_26 mth26_28) (And.intro con26 (And.intro zmb26 tyc29))))) (And.intro (And.intro (And.intro (And.intro zmb29 tyc32) (And.intro zmb32 (And.intro tyc45 mth45_50))) (And.intro (And.intro mth45_48 con45) (And.intro zmb45 (And.intro tyc53 tyc55)))) (And.intro (And.intro (And.intro Tryd.underlying3 Tryd.underlying4) (And.intro Tryd.underlying5 (And.intro Tryd.underlying22 Tryd.underlying26))) (And.intro (And.intro Tryd.underlying29 Tryd.underlying32) (And.intro Tryd.underlying45 (And.intro Tryd.underlying53 Tryd.underlying55)))))
theorem Y1CfH {G R : Prop} (r : R) (h : R → G := by intro r; first | (apply WP.region; exact rvc_sound _ _ (Sm.out r)) | exact WP.drawK rfl mixed (by decide +kernel) (Sm.out r) | (apply WP.block; exact r) | (apply WP.skip; exact Yq r) | (apply WP.exit; exact Yq r) | (apply WP.ret; exact Sm.out r) | exact WP.cond rfl (fun _ => r) (fun hg => absurd hg (by decide)) | exact WP.cond rfl (fun hg => absurd hg (by decide)) (fun _ => r) | exact Rt.mk (And.intro (fun _ => Sm.out r) fun hg => absurd hg (by decide)) | exact Rt.mk (And.intro (fun hg => absurd hg (by decide)) fun _ => Sm.out r)) : G := h r
theorem YzCfH {G R : Prop} (r : R) (h : R → G := by intro r; first | (apply ExG.no; exact Sm.out r) | (apply Or.inl; apply ExG.no; exact Sm.out r) | exact Or.inl (And.intro (fun hg => absurd hg (by decide)) (ExG.no (Sm.out r)))) : G := h r
theorem nwA_zr : Zr 32 8 0 (nwA 8 32) := ⟨nwA_ok (by omega) (by omega) (by omega) (by omega), nwA_stl 8 32, rfl⟩
theorem abc_len2 : usd [([97, 98, 99] : Bs)] = 13 := by rw [usd_cons]; rfl
theorem Zr.lg {s n c : Nat} {a : DA} (h : Zr s n c a) {f m : Nat} (hfm : f + m ≤ n) (hm : 1 ≤ m) : LgI c s n f m (zrs (f * s)) (zrs ((n - f - m) * s)) [] a :=
  ⟨h.A, by rw [frs_nil, List.nil_append, show usd [] = 0 from rfl, Nat.sub_zero]; exact h.rg hfm, Nat.zero_le _, fun x hx => (by cases hx), hfm, hm⟩
set_option maxRecDepth 20000 in
set_option maxHeartbeats 4000000 in
theorem cfawake_ct : ACt Tryd.prog 4 [] [] (Fn (bv true)) := by
  have cN := new_d 8 32 (by omega) (by omega) (by omega) (by omega)
  have hZ0 := nwA_zr
  obtain ⟨a0, ha0⟩ : ∃ a, a = nwA 8 32 := ⟨_, rfl⟩
  refine ACt.intro Tryd.func4 rfl (by kernel_rfl) (by simp [Tryd.ntmps4]) (fun cx => ?_)
  simp only [argE, Tryd.ntmps4, Tryd.results4]
  first | (have FRx := FR; clear FRx) | have FR := fr0S
  have FA := Sm.mk (TFCfH)
  repeat' first | (apply Sm.mk; refine Ys ?_) | refine WP.seq fun K hK => ?_ | (apply Ob.mk; exact Yo) | refine And.intro (Ob.out ?_) ?_ | ((fail_if_success (show WP _ _ _ (.region 2 _ _) _ _)); refine Y1CfH ?_) | (refine CallV.ex (F := []) (List.Perm.refl _) (cN) (fun g => Sm.out ?_)) | refine YzCfH ?_ | (refine WP.cond rfl (fun hc => ?_) (fun hc => ?_) <;> (try simp only [ZC, reduceCtorEq, ZD] at hc) <;> (try exact absurd hc (by decide)) <;> (try (exfalso; omega))) | refine Rt.mk (And.intro (fun hg => Sm.out ?_) fun hg => Sm.out ?_) | (refine Nu.mk ?_; first | (fail_if_success have := nb1); intro nb1 | (fail_if_success have := nb2); intro nb2 | (fail_if_success have := nb3); intro nb3 | (fail_if_success have := nb4); intro nb4 | (fail_if_success have := nb5); intro nb5 | (fail_if_success have := nb6); intro nb6 | intro nbz) | (apply Yfr; refine Yf FR fun hFRb FR => ?_) | refine Two.mk ?_ ?_ | (apply Yxc; exact Yx) | refine Cs.mk fun hcs => Sm.out ?_ | go_step | omega | (simp only [maxLen_eq]; omega) | exact trivial
  obtain ⟨⟨b, l⟩, hl⟩ := g
  simp only [List.append_nil]
  simp only at hl
  rw [← ha0] at hl hZ0 ⊢
  clear ha0 cN
  have cC : ACt Tryd.prog 19 [pt b 0, iv .i64 1] (dH b a0 l) (fun r F' => ∃ g : CrG 32 8 11 b, r = .tup [pt g.z 0, iv .i64 0] ∧ F' = coH b 1 g.z g.y g.x 0 false (0, []) (lgN b 2 3 32 [] false) (dH b g.a g.l)) := cfcreate_ct b a0 l hZ0 hl 1 (by omega) (by omega) (by omega) (by omega)
  first | (have FRx := FR; clear FRx) | have FR := fr0S
  have FA := Sm.mk (TFCfH)
  repeat' first | (apply Sm.mk; refine Ys ?_) | refine WP.seq fun K hK => ?_ | (apply Ob.mk; exact Yo) | refine And.intro (Ob.out ?_) ?_ | ((fail_if_success (show WP _ _ _ (.region 3 _ _) _ _)); refine Y1CfH ?_) | (refine CallV.exM (cC) (pmz _) (fun g => Sm.out ?_)) | refine YzCfH ?_ | (refine WP.cond rfl (fun hc => ?_) (fun hc => ?_) <;> (try simp only [ZC, reduceCtorEq, ZD] at hc) <;> (try exact absurd hc (by decide)) <;> (try (exfalso; omega))) | refine Rt.mk (And.intro (fun hg => Sm.out ?_) fun hg => Sm.out ?_) | (refine Nu.mk ?_; first | (fail_if_success have := nb1); intro nb1 | (fail_if_success have := nb2); intro nb2 | (fail_if_success have := nb3); intro nb3 | (fail_if_success have := nb4); intro nb4 | (fail_if_success have := nb5); intro nb5 | (fail_if_success have := nb6); intro nb6 | intro nbz) | (apply Yfr; refine Yf FR fun hFRb FR => ?_) | refine Two.mk ?_ ?_ | (apply Yxc; exact Yx) | refine Cs.mk fun hcs => Sm.out ?_ | go_step | omega | (simp only [maxLen_eq]; omega) | exact trivial
  obtain ⟨z, y, x, a1, l1, hZ1, hl1⟩ := g
  simp only [List.append_nil]
  clear hZ0 hl cC
  have hI : LgI 11 32 8 2 3 (zrs 64) (zrs 96) [] a1 := hZ1.lg (by omega) (by omega)
  have hs1 := hZ1.st.s
  unfold coH
  have cR : ACt Tryd.prog 20 [pt z 0] ((z, cfM b 1 y x 0 false) :: (y, slM b 0 1 (0, [])) :: (x, lgN b 2 3 32 [] false) :: dH b a1 l1) (fun r F' => r = iv .i64 96 ∧ F' = (z, cfM b 1 y x 0 false) :: (y, slM b 0 1 (0, [])) :: (x, lgN b 2 3 32 [] false) :: dH b a1 l1) :=
    (cfroom_ct z y x b 1 0 hI false).lookU (R := [(y, slM b 0 1 (0, []))]) (by exact List.Perm.cons _ (List.perm_append_comm (l₁ := [_])))
  obtain ⟨a2, ha2⟩ : ∃ a, a = (apX 2 32 3 [] a1 [97, 98, 99]).1 := ⟨_, rfl⟩
  have cA : ACt Tryd.prog 21 [pt z 0, .slz .u8 [97, 98, 99]] ((z, cfM b 1 y x 0 false) :: (y, slM b 0 1 (0, [])) :: (x, lgN b 2 3 32 [] false) :: dH b a1 l1) (fun r F' => ∃ q : LS b a2, r = iv .i64 0 ∧ F' = (z, cfM b 1 y x 1 false) :: (y, slM b 0 1 (0, [])) :: (x, lgN b 2 3 32 [[97, 98, 99]] false) :: dH b a2 q.1) := by
    rw [ha2]
    exact lift1 [(y, slM b 0 1 (0, []))] (cfapp_ct z y x b 1 0 hI hl1 [97, 98, 99] (by rw [show usd [] = 0 from rfl]; simp) (by simp) hZ1.f (by omega) (by omega) rfl)
  have hJ := (hI.app [97, 98, 99] (by rw [show usd [] = 0 from rfl]; simp) hZ1.f).2.2
  rw [← ha2] at hJ
  clear ha2
  first | (have FRx := FR; clear FRx) | have FR := fr0S
  have FA := Sm.mk (TFCfH)
  repeat' first | (apply Sm.mk; refine Ys ?_) | refine WP.seq fun K hK => ?_ | (apply Ob.mk; exact Yo) | refine And.intro (Ob.out ?_) ?_ | ((fail_if_success (show WP _ _ _ (.region 5 _ _) _ _)); refine Y1CfH ?_) | refine CallV.updM (cR) (pmz _) (Sm.out ?_) | ((first | refine ExF.up ?_ (cR) (Sm.out ?_) | refine ExG.up ?_ (fun _ => cR) (Sm.out ?_) | refine ExG.upJ ?_ (fun _ => cR) (Sm.out ?_) | refine ExG.upI ?_ (fun _ => cR) (Ob.out ?_) (Sm.out ?_)); focus (exact ⟨_, (pmz _)⟩)) | (refine CallV.exM (cA) (pmz _) (fun g => Sm.out ?_)) | refine YzCfH ?_ | (refine WP.cond rfl (fun hc => ?_) (fun hc => ?_) <;> (try simp only [ZC, reduceCtorEq, ZD] at hc) <;> (try exact absurd hc (by decide)) <;> (try (exfalso; omega))) | refine Rt.mk (And.intro (fun hg => Sm.out ?_) fun hg => Sm.out ?_) | (refine Nu.mk ?_; first | (fail_if_success have := nb1); intro nb1 | (fail_if_success have := nb2); intro nb2 | (fail_if_success have := nb3); intro nb3 | (fail_if_success have := nb4); intro nb4 | (fail_if_success have := nb5); intro nb5 | (fail_if_success have := nb6); intro nb6 | intro nbz) | (apply Yfr; refine Yf FR fun hFRb FR => ?_) | refine Two.mk ?_ ?_ | (apply Yxc; exact Yx) | refine Cs.mk fun hcs => Sm.out ?_ | go_step | omega | (simp only [maxLen_eq]; omega) | exact trivial
  obtain ⟨l2, hl2⟩ := g
  simp only [List.append_nil]
  have hs2 : a2.size = 32 := hJ.R.st.s
  have cR2 : ACt Tryd.prog 20 [pt z 0] ((z, cfM b 1 y x 1 false) :: (y, slM b 0 1 (0, [])) :: (x, lgN b 2 3 32 [[97, 98, 99]] false) :: dH b a2 l2) (fun r F' => r = iv .i64 83 ∧ F' = (z, cfM b 1 y x 1 false) :: (y, slM b 0 1 (0, [])) :: (x, lgN b 2 3 32 [[97, 98, 99]] false) :: dH b a2 l2) := by
    have := (cfroom_ct z y x b 1 1 (l := l2) hJ false).lookU (H := (z, cfM b 1 y x 1 false) :: (y, slM b 0 1 (0, [])) :: (x, lgN b 2 3 32 [[97, 98, 99]] false) :: dH b a2 l2) (R := [(y, slM b 0 1 (0, []))]) (by exact List.Perm.cons _ (List.perm_append_comm (l₁ := [_])))
    rwa [show usd ([] ++ [([97, 98, 99] : Bs)]) = 13 from abc_len2] at this
  have cE := (cfepoch_ct z b 1 y x 1 false (0, [])).lookU (H := (z, cfM b 1 y x 1 false) :: (y, slM b 0 1 (0, [])) :: (x, lgN b 2 3 32 [[97, 98, 99]] false) :: dH b a2 l2) (R := (x, lgN b 2 3 32 [[97, 98, 99]] false) :: dH b a2 l2) (by exact .refl _)
  have cK := (cfrec_ct z b 1 y x 1 false).lookU (H := (z, cfM b 1 y x 1 false) :: (y, slM b 0 1 (0, [])) :: (x, lgN b 2 3 32 [[97, 98, 99]] false) :: dH b a2 l2) (R := (y, slM b 0 1 (0, [])) :: (x, lgN b 2 3 32 [[97, 98, 99]] false) :: dH b a2 l2) (by exact .refl _)
  have cM := (cfmost_ct z y x b 1 1 (a := a2) (l := l2) (0, []) (by omega) (by omega) false).lookU (H := (z, cfM b 1 y x 1 false) :: (y, slM b 0 1 (0, [])) :: (x, lgN b 2 3 32 [[97, 98, 99]] false) :: dH b a2 l2) (R := [(x, lgN b 2 3 32 [[97, 98, 99]] false)]) (by exact List.Perm.cons _ (List.Perm.cons _ (List.perm_append_comm (l₁ := [_]))))
  rw [hs2, show (((1 * 32 : Nat) : Int) - 19) = 13 from rfl] at cM
  have c1 : ((0 : Int) == 0) = true := rfl
  have c2 : ((96 : Int) == 96) = true := rfl
  have c3 : ((83 : Int) == 83) = true := rfl
  have c4 : ((1 : Int) == 1) = true := rfl
  have c5 : ((13 : Int) == 13) = true := rfl
  first | (have FRx := FR; clear FRx) | have FR := fr0S
  have FA := Sm.mk (And.intro TFCfH (And.intro c1 (And.intro c2 (And.intro c3 (And.intro c4 c5)))))
  repeat' first | (apply Sm.mk; refine Ys ?_) | refine WP.seq fun K hK => ?_ | (apply Ob.mk; exact Yo) | refine And.intro (Ob.out ?_) ?_ | refine Y1CfH ?_ | refine CallV.updM (cR2) (pmz _) (Sm.out ?_) | ((first | refine ExF.up ?_ (cR2) (Sm.out ?_) | refine ExG.up ?_ (fun _ => cR2) (Sm.out ?_) | refine ExG.upJ ?_ (fun _ => cR2) (Sm.out ?_) | refine ExG.upI ?_ (fun _ => cR2) (Ob.out ?_) (Sm.out ?_)); focus (exact ⟨_, (pmz _)⟩)) | refine CallV.updM (cK) (pmz _) (Sm.out ?_) | ((first | refine ExF.up ?_ (cK) (Sm.out ?_) | refine ExG.up ?_ (fun _ => cK) (Sm.out ?_) | refine ExG.upJ ?_ (fun _ => cK) (Sm.out ?_) | refine ExG.upI ?_ (fun _ => cK) (Ob.out ?_) (Sm.out ?_)); focus (exact ⟨_, (pmz _)⟩)) | refine CallV.updM (cM) (pmz _) (Sm.out ?_) | ((first | refine ExF.up ?_ (cM) (Sm.out ?_) | refine ExG.up ?_ (fun _ => cM) (Sm.out ?_) | refine ExG.upJ ?_ (fun _ => cM) (Sm.out ?_) | refine ExG.upI ?_ (fun _ => cM) (Ob.out ?_) (Sm.out ?_)); focus (exact ⟨_, (pmz _)⟩)) | refine CallV.updM (cE) (pmz _) (Sm.out ?_) | ((first | refine ExF.up ?_ (cE) (Sm.out ?_) | refine ExG.up ?_ (fun _ => cE) (Sm.out ?_) | refine ExG.upJ ?_ (fun _ => cE) (Sm.out ?_) | refine ExG.upI ?_ (fun _ => cE) (Ob.out ?_) (Sm.out ?_)); focus (exact ⟨_, (pmz _)⟩)) | refine YzCfH ?_ | (refine WP.cond rfl (fun hc => ?_) (fun hc => ?_) <;> (try simp only [ZC, reduceCtorEq, ZD] at hc) <;> (try exact absurd hc (by decide)) <;> (try (exfalso; omega))) | refine Rt.mk (And.intro (fun hg => Sm.out ?_) fun hg => Sm.out ?_) | (refine Nu.mk ?_; first | (fail_if_success have := nb1); intro nb1 | (fail_if_success have := nb2); intro nb2 | (fail_if_success have := nb3); intro nb3 | (fail_if_success have := nb4); intro nb4 | (fail_if_success have := nb5); intro nb5 | (fail_if_success have := nb6); intro nb6 | intro nbz) | (apply Yfr; refine Yf FR fun hFRb FR => ?_) | refine Two.mk ?_ ?_ | (apply Yxc; exact Yx) | refine Cs.mk fun hcs => Sm.out ?_ | go_step | omega | (simp only [maxLen_eq]; omega) | exact trivial
  (refine Yg ?_; try exact trivial)
end Go.Proofs.YtmbecppmkglmhaaDoor
