/-
  The walks and the laws that the statement leans on, part 36.
-/
import Derived.Test.YteoajodoejoccaaP10
import Derived.Test.YteoajodoejoccaaP27
import Derived.Test.YteoajodoejoccaaP29
import Derived.Test.YteoajodoejoccaaP35
namespace Go.Proofs.Yteoajodoejoccaa
open Go Wi
set_option linter.unusedVariables false
set_option linter.unusedSimpArgs false
set_option linter.defProp false
def TFPtC :=
  And.intro (And.intro (And.intro (And.intro (And.intro tyc0 (And.intro tyc3 zmb3)) (And.intro (And.intro tyc4 zmb4) (And.intro tyc5 zmb5))) (And.intro (And.intro tyc9 (And.intro zmb9 tyc28)) (And.intro (And.intro zmb28 tyc30) (And.intro mth30_37 con30)))) (And.intro (And.intro (And.intro zmb30 (And.intro tyc35 zmb35)) (And.intro (And.intro tyc36 elt36) (And.intro mkz36 apT36))) (And.intro (And.intro elk36 (And.intro zmb36 tyc38)) (And.intro (And.intro foff38_0 fpart38_0) (And.intro foff38_1 fpart38_1))))) (And.intro (And.intro (And.intro (And.intro zmb38 (And.intro bldT38 tyc65)) (And.intro (And.intro foff65_0 fpart65_0) (And.intro foff65_1 fpart65_1))) (And.intro (And.intro foff65_2 (And.intro fpart65_2 foff65_3)) (And.intro (And.intro fpart65_3 foff65_4) (And.intro fpart65_4 foff65_5)))) (And.intro (And.intro (And.intro fpart65_5 (And.intro zmb65 bldT65)) (And.intro (And.intro Try.underlying0 Try.underlying3) (And.intro Try.underlying4 Try.underlying5))) (And.intro (And.intro Try.underlying9 (And.intro Try.underlying28 Try.underlying30)) (And.intro (And.intro Try.underlying35 Try.underlying36) (And.intro Try.underlying38 Try.underlying65)))))
theorem Y1PtC {G R : Prop} (r : R) (h : R → G := by intro r; first | (apply WP.region; exact rvc_sound _ _ (Sm.out r)) | exact WP.drawK rfl mixed (by decide +kernel) (Sm.out r) | (apply WP.block; exact r) | (apply WP.skip; exact Yq r) | (apply WP.exit; exact Yq r) | (apply WP.ret; exact Sm.out r) | exact WP.cond rfl (fun _ => r) (fun hg => absurd hg (by decide)) | exact WP.cond rfl (fun hg => absurd hg (by decide)) (fun _ => r) | exact Rt.mk (And.intro (fun _ => Sm.out r) fun hg => absurd hg (by decide)) | exact Rt.mk (And.intro (fun hg => absurd hg (by decide)) fun _ => Sm.out r)) : G := h r
theorem YzPtC {G R : Prop} (r : R) (h : R → G := by intro r; first | (apply ExG.no; exact Sm.out r) | (apply Or.inl; apply ExG.no; exact Sm.out r) | exact Or.inl (And.intro (fun hg => absurd hg (by decide)) (ExG.no (Sm.out r)))) : G := h r
theorem put_rg {c s n f m : Nat} {P Q R : Bs} {a : DA} {E : Nat} {z : Bs} (hA : AOk c a) (hR : Rg s n (f + (E + 1) % 2 * m) m P Q R a) (hfm : f + (E + 1) % 2 * m + m ≤ n) (hm : 1 ≤ m) (hz : (frm (E + 1) z).length ≤ m * s) :
    ((puX f m s E a z).2 = 0 ∧ Rg s n (f + (E + 1) % 2 * m) m P Q (frm (E + 1) z ++ zrs (m * s - (frm (E + 1) z).length)) (puX f m s E a z).1 ∧ (a.f = -1 → (puX f m s E a z).1.f = -1)) ∨
    ((puX f m s E a z).2 = 12 ∧ a.f ≠ -1 ∧ (puX f m s E a z).1.dk = true ∧ ∀ K T : Int, ∃ R4 q, (R4 = mix (zrs (m * s)) R q ∨ R4 = mix (frm (E + 1) z ++ zrs (m * s - (frm (E + 1) z).length)) (zrs (m * s)) q) ∧ Rg s n (f + (E + 1) % 2 * m) m P Q R4 (crA (puX f m s E a z).1 K T)) := by
  have hs1 : 1 ≤ s := by have := hA.s1; have := hR.st.s; omega
  have hF := fmt_rg hA hR hfm
  unfold puX
  have hZA : AOk (c + m + 1) (fmX (f + (E + 1) % 2 * m) s m a).1 := by
    refine (lyR_ok _ a _ c hA).le ?_
    have := cks_m (m := m) hs1 (z := List.replicate (m * s) (0 : Int)) (by simp)
    omega
  change Com s n (f + (E + 1) % 2 * m) m P Q (zrs (m * s)) R a (fmX (f + (E + 1) % 2 * m) s m a) at hF
  obtain ⟨g, hg⟩ : ∃ g, g = f + (E + 1) % 2 * m := ⟨_, rfl⟩
  rw [← hg] at hF hZA hfm hR ⊢
  obtain ⟨Z, hZ⟩ : ∃ Z, Z = fmX g s m a := ⟨_, rfl⟩
  rw [← hZ] at hF hZA ⊢
  obtain ⟨F, hFe⟩ : ∃ F, F = frm (E + 1) z := ⟨_, rfl⟩
  rw [← hFe] at hz ⊢
  rcases hF with ⟨h1, h2, h3⟩ | ⟨h1, h2, h3⟩
  · rw [if_pos h1]
    obtain ⟨j, hj, hL⟩ := lay_rg hZA h2 hfm 0 F (by omega) (Nat.zero_le _) g (by simp)
    rw [Nat.zero_mul, Nat.zero_add] at hj
    have e1 : put (zrs (m * s)) (0 * s) (F ++ zrs j) = F ++ zrs (m * s - F.length) := by
      unfold put
      rw [Nat.zero_mul, List.take_zero, List.nil_append, Nat.zero_add, List.append_assoc]
      congr 1
      simp only [zrs, List.length_append, List.length_replicate, List.drop_replicate, List.replicate_append_replicate]
      congr 1
      omega
    rw [e1] at hL
    rcases hL with ⟨g1, g2, g3⟩ | ⟨g1, g2, g3⟩
    · exact .inl ⟨g1, g2, fun h => g3 (h3 h)⟩
    · refine .inr ⟨g1, fun h => g2 (h3 h), g3.dk, fun K T => ?_⟩
      obtain ⟨q, hq⟩ := g3.cr K T
      exact ⟨_, q, .inr rfl, hq⟩
  · rw [if_neg (by rw [h1]; decide)]
    refine .inr ⟨h1, h2, h3.dk, fun K T => ?_⟩
    obtain ⟨q, hq⟩ := h3.cr K T
    exact ⟨_, q, .inl rfl, hq⟩
set_option maxRecDepth 20000 in
theorem epo_ct (y b f m : Nat) (e : Nat × List Int) (ov : Bool) : ACt Try.prog 27 [pt y 0] [(y, slO b f m e ov)] (fun r F' => r = nu e.1 ∧ F' = [(y, slO b f m e ov)]) := by
  unfold slO
  refine ACt.intro Try.func27 rfl (by kernel_rfl) (by simp [Try.ntmps27]) (fun cx => ?_)
  simp only [argE, Try.ntmps27, Try.results27]
  first | (have FRx := FR; clear FRx) | have FR := fr0S
  have FA := Sm.mk (TFPtC)
  repeat' first | (apply Sm.mk; refine Ys ?_) | refine WP.seq fun K hK => ?_ | (apply Ob.mk; exact Yo) | refine And.intro (Ob.out ?_) ?_ | refine Y1PtC ?_ | refine YzPtC ?_ | (refine WP.cond rfl (fun hc => ?_) (fun hc => ?_) <;> (try simp only [ZC, reduceCtorEq, ZD] at hc) <;> (try exact absurd hc (by decide)) <;> (try (exfalso; omega))) | refine Rt.mk (And.intro (fun hg => Sm.out ?_) fun hg => Sm.out ?_) | (refine Nu.mk ?_; first | (fail_if_success have := nb1); intro nb1 | (fail_if_success have := nb2); intro nb2 | (fail_if_success have := nb3); intro nb3 | (fail_if_success have := nb4); intro nb4 | (fail_if_success have := nb5); intro nb5 | (fail_if_success have := nb6); intro nb6 | intro nbz) | (apply Yfr; refine Yf FR fun hFRb FR => ?_) | refine Two.mk ?_ ?_ | (apply Yxc; exact Yx) | refine Cs.mk fun hcs => Sm.out ?_ | go_step | omega | (simp only [maxLen_eq]; omega) | exact trivial
  (refine OutQ.upd (by simp only [resv, ZK, look, loadv, loadn, loadnm, load1, load1m, hget, ↓reduceIte, Nat.reduceEqDiff, Nat.reduceAdd, Nat.reduceMul, Nat.reduceLeDiff, Nat.reduceLT, reduceCtorEq, TFPtC, FR.out]) (by simp only [resv, resA, ZK, look, loadv, loadn, loadnm, load1, load1m, hget, ↓reduceIte, Nat.reduceEqDiff, Nat.reduceAdd, Nat.reduceMul, Nat.reduceLeDiff, Nat.reduceLT, reduceCtorEq, TFPtC, FR.out]; first | done | rfl) (by simp only [hget, ↓reduceIte, if_true, if_false, FR.out]; first | done | rfl) ?_ <;> first | exact rfl | (simp only [ZK, look, loadv, loadn, loadnm, load1, load1m, hget, ↓reduceIte, Nat.reduceEqDiff, Nat.reduceAdd, Nat.reduceMul, Nat.reduceLeDiff, Nat.reduceLT, reduceCtorEq, TFPtC, FR.out]; done) | skip)
set_option maxRecDepth 20000 in
theorem byt_ct (y b f m : Nat) (e : Nat × List Int) (ov : Bool) (h0 : e.1 = 0 → e.2 = []) (h : e.2.length ≤ 1000000) : ACt Try.prog 28 [pt y 0] [(y, slO b f m e ov)] (fun r F' => r = .slz .u8 e.2 ∧ F' = [(y, slO b f m e ov)]) := by
  by_cases hz : e.1 = 0
  · have hw : slW e = nl := by unfold slW; rw [if_pos hz]
    have c := bcl_nil
    rw [h0 hz]
    unfold slO
    rw [hw]
    refine ACt.intro Try.func28 rfl (by kernel_rfl) (by simp [Try.ntmps28]) (fun cx => ?_)
    simp only [argE, Try.ntmps28, Try.results28]
    first | (have FRx := FR; clear FRx) | have FR := fr0S
    have FA := Sm.mk (TFPtC)
    repeat' first | (apply Sm.mk; refine Ys ?_) | refine WP.seq fun K hK => ?_ | (apply Ob.mk; exact Yo) | refine And.intro (Ob.out ?_) ?_ | refine Y1PtC ?_ | refine Yc (c := c) (r := ?_) | refine YzPtC ?_ | (refine WP.cond rfl (fun hc => ?_) (fun hc => ?_) <;> (try simp only [ZC, reduceCtorEq, ZD] at hc) <;> (try exact absurd hc (by decide)) <;> (try (exfalso; omega))) | refine Rt.mk (And.intro (fun hg => Sm.out ?_) fun hg => Sm.out ?_) | (refine Nu.mk ?_; first | (fail_if_success have := nb1); intro nb1 | (fail_if_success have := nb2); intro nb2 | (fail_if_success have := nb3); intro nb3 | (fail_if_success have := nb4); intro nb4 | (fail_if_success have := nb5); intro nb5 | (fail_if_success have := nb6); intro nb6 | intro nbz) | (apply Yfr; refine Yf FR fun hFRb FR => ?_) | refine Two.mk ?_ ?_ | (apply Yxc; exact Yx) | refine Cs.mk fun hcs => Sm.out ?_ | go_step | omega | (simp only [maxLen_eq]; omega) | exact trivial
    (refine OutQ.upd (by simp only [resv, ZK, look, loadv, loadn, loadnm, load1, load1m, hget, ↓reduceIte, Nat.reduceEqDiff, Nat.reduceAdd, Nat.reduceMul, Nat.reduceLeDiff, Nat.reduceLT, reduceCtorEq, TFPtC, FR.out]) (by simp only [resv, resA, ZK, look, loadv, loadn, loadnm, load1, load1m, hget, ↓reduceIte, Nat.reduceEqDiff, Nat.reduceAdd, Nat.reduceMul, Nat.reduceLeDiff, Nat.reduceLT, reduceCtorEq, TFPtC, FR.out]; first | done | rfl) (by simp only [hget, ↓reduceIte, if_true, if_false, FR.out]; first | done | rfl) ?_ <;> first | exact rfl | (simp only [ZK, look, loadv, loadn, loadnm, load1, load1m, hget, ↓reduceIte, Nat.reduceEqDiff, Nat.reduceAdd, Nat.reduceMul, Nat.reduceLeDiff, Nat.reduceLT, reduceCtorEq, TFPtC, FR.out]; done) | skip)
  · have hw : slW e = .slz .u8 e.2 := by unfold slW; rw [if_neg hz]
    have c := bcl_ct e.2 h
    unfold slO
    rw [hw]
    refine ACt.intro Try.func28 rfl (by kernel_rfl) (by simp [Try.ntmps28]) (fun cx => ?_)
    simp only [argE, Try.ntmps28, Try.results28]
    first | (have FRx := FR; clear FRx) | have FR := fr0S
    have FA := Sm.mk (TFPtC)
    repeat' first | (apply Sm.mk; refine Ys ?_) | refine WP.seq fun K hK => ?_ | (apply Ob.mk; exact Yo) | refine And.intro (Ob.out ?_) ?_ | refine Y1PtC ?_ | refine Yc (c := c) (r := ?_) | refine YzPtC ?_ | (refine WP.cond rfl (fun hc => ?_) (fun hc => ?_) <;> (try simp only [ZC, reduceCtorEq, ZD] at hc) <;> (try exact absurd hc (by decide)) <;> (try (exfalso; omega))) | refine Rt.mk (And.intro (fun hg => Sm.out ?_) fun hg => Sm.out ?_) | (refine Nu.mk ?_; first | (fail_if_success have := nb1); intro nb1 | (fail_if_success have := nb2); intro nb2 | (fail_if_success have := nb3); intro nb3 | (fail_if_success have := nb4); intro nb4 | (fail_if_success have := nb5); intro nb5 | (fail_if_success have := nb6); intro nb6 | intro nbz) | (apply Yfr; refine Yf FR fun hFRb FR => ?_) | refine Two.mk ?_ ?_ | (apply Yxc; exact Yx) | refine Cs.mk fun hcs => Sm.out ?_ | go_step | omega | (simp only [maxLen_eq]; omega) | exact trivial
    (refine OutQ.upd (by simp only [resv, ZK, look, loadv, loadn, loadnm, load1, load1m, hget, ↓reduceIte, Nat.reduceEqDiff, Nat.reduceAdd, Nat.reduceMul, Nat.reduceLeDiff, Nat.reduceLT, reduceCtorEq, TFPtC, FR.out]) (by simp only [resv, resA, ZK, look, loadv, loadn, loadnm, load1, load1m, hget, ↓reduceIte, Nat.reduceEqDiff, Nat.reduceAdd, Nat.reduceMul, Nat.reduceLeDiff, Nat.reduceLT, reduceCtorEq, TFPtC, FR.out]; first | done | rfl) (by simp only [hget, ↓reduceIte, if_true, if_false, FR.out]; first | done | rfl) ?_ <;> first | exact rfl | (simp only [ZK, look, loadv, loadn, loadnm, load1, load1m, hget, ↓reduceIte, Nat.reduceEqDiff, Nat.reduceAdd, Nat.reduceMul, Nat.reduceLeDiff, Nat.reduceLT, reduceCtorEq, TFPtC, FR.out]; done) | skip)
set_option maxRecDepth 20000 in
theorem snap18_ct (y b f m : Nat) (e : Nat × List Int) (ov : Bool) (h0 : e.1 = 0 → e.2 = []) (h : e.2.length ≤ 1000000) : ACt Try.prog 18 [pt y 0] [(y, slO b f m e ov)] (fun r F' => r = snV e ∧ F' = [(y, slO b f m e ov)]) := by
  have c1 := epo_ct y b f m e ov
  have c2 := byt_ct y b f m e ov h0 h
  unfold snV
  refine ACt.intro Try.func18 rfl (by kernel_rfl) (by simp [Try.ntmps18]) (fun cx => ?_)
  simp only [argE, Try.ntmps18, Try.results18]
  first | (have FRx := FR; clear FRx) | have FR := fr0S
  have FA := Sm.mk (TFPtC)
  repeat' first | (apply Sm.mk; refine Ys ?_) | refine WP.seq fun K hK => ?_ | (apply Ob.mk; exact Yo) | refine And.intro (Ob.out ?_) ?_ | refine Y1PtC ?_ | refine Yl1 (c := c1) (r := ?_) | refine Yl1 (c := c2) (r := ?_) | refine YzPtC ?_ | (refine WP.cond rfl (fun hc => ?_) (fun hc => ?_) <;> (try simp only [ZC, reduceCtorEq, ZD] at hc) <;> (try exact absurd hc (by decide)) <;> (try (exfalso; omega))) | refine Rt.mk (And.intro (fun hg => Sm.out ?_) fun hg => Sm.out ?_) | (refine Nu.mk ?_; first | (fail_if_success have := nb1); intro nb1 | (fail_if_success have := nb2); intro nb2 | (fail_if_success have := nb3); intro nb3 | (fail_if_success have := nb4); intro nb4 | (fail_if_success have := nb5); intro nb5 | (fail_if_success have := nb6); intro nb6 | intro nbz) | (apply Yfr; refine Yf FR fun hFRb FR => ?_) | refine Two.mk ?_ ?_ | (apply Yxc; exact Yx) | refine Cs.mk fun hcs => Sm.out ?_ | go_step | omega | (simp only [maxLen_eq]; omega) | exact trivial
  (refine OutQ.drop _ _ (perm1 (by simp only [hget, hdel, ↓reduceIte, if_true, if_false, FR.out]; first | done | rfl)) (by simp only [resv, ZK, look, loadv, loadn, loadnm, load1, load1m, hget, ↓reduceIte, Nat.reduceEqDiff, Nat.reduceAdd, Nat.reduceMul, Nat.reduceLeDiff, Nat.reduceLT, reduceCtorEq, TFPtC, FR.out]) ⟨(by simp only [resv, resA, ZK, look, loadv, loadn, loadnm, load1, load1m, hget, ↓reduceIte, Nat.reduceEqDiff, Nat.reduceAdd, Nat.reduceMul, Nat.reduceLeDiff, Nat.reduceLT, reduceCtorEq, TFPtC, FR.out]; first | done | rfl), rfl⟩)
def sameB (A B : Nat × List Int) : Bool := ((A.1 : Int) == (B.1 : Int)) && ((bstr A.2).toList == (bstr B.2).toList)
theorem sameB_self (A : Nat × List Int) : sameB A A = true := by
  unfold sameB
  rw [beq_self_eq_true, beq_self_eq_true]; rfl
set_option maxRecDepth 20000 in
theorem same17_ct (A B : Nat × List Int) (hA : A.2.length ≤ 1000000) (hB : B.2.length ≤ 1000000) : ACt Try.prog 17 [snV A, snV B] [] (Fn (bv (sameB A B))) := by
  obtain ⟨n, x⟩ := A
  obtain ⟨k, y⟩ := B
  simp only at hA hB
  unfold snV sameB
  simp only
  obtain ⟨q1, e1⟩ : ∃ q, ((n : Int) == (k : Int)) = q := ⟨_, rfl⟩
  obtain ⟨q2, e2⟩ : ∃ q, ((bstr x).toList == (bstr y).toList) = q := ⟨_, rfl⟩
  rw [e1, e2]
  refine ACt.intro Try.func17 rfl (by kernel_rfl) (by simp [Try.ntmps17]) (fun cx => ?_)
  simp only [argE, Try.ntmps17, Try.results17]
  first | (have FRx := FR; clear FRx) | have FR := fr0S
  have FA := Sm.mk (And.intro TFPtC (And.intro e1 e2))
  repeat' first | (apply Sm.mk; refine Ys ?_) | refine WP.seq fun K hK => ?_ | (apply Ob.mk; exact Yo) | refine And.intro (Ob.out ?_) ?_ | refine Y1PtC ?_ | refine YzPtC ?_ | (refine WP.cond rfl (fun hc => ?_) (fun hc => ?_) <;> (try simp only [ZC, reduceCtorEq, ZD] at hc) <;> (try exact absurd hc (by decide)) <;> (try (exfalso; omega))) | refine Rt.mk (And.intro (fun hg => Sm.out ?_) fun hg => Sm.out ?_) | (refine Nu.mk ?_; first | (fail_if_success have := nb1); intro nb1 | (fail_if_success have := nb2); intro nb2 | (fail_if_success have := nb3); intro nb3 | (fail_if_success have := nb4); intro nb4 | (fail_if_success have := nb5); intro nb5 | (fail_if_success have := nb6); intro nb6 | intro nbz) | (apply Yfr; refine Yf FR fun hFRb FR => ?_) | refine Two.mk ?_ ?_ | (apply Yxc; exact Yx) | refine Cs.mk fun hcs => Sm.out ?_ | go_step | omega | (simp only [maxLen_eq]; omega) | exact trivial
  (refine Yg ?_; try exact trivial)
def rpE (E : Nat × List Int) (M : Nat) (z : List Int) : (Nat × List Int) × Int :=
  if M < z.length + 19 then (E, 11) else if E.1 = 18446744073709551615 then (E, 3) else ((E.1 + 1, z), 0)
set_option maxRecDepth 20000 in
theorem refput_ct (E : Nat × List Int) (M : Nat) (z : List Int) (hM : M ≤ 1000000) (hE : E.1 < 18446744073709551616) (hz : z.length ≤ 1000000) : ACt Try.prog 14 [snV E, iv .i64 (M : Int), .slz .u8 z] [] (Fn (.tup [snV (rpE E M z).1, iv .i64 (rpE E M z).2])) := by
  have w0 : IntKind.i64.wrap ((M : Int) - 19) = (M : Int) - 19 := wrap_i64 (by omega) (by omega)
  obtain ⟨e, B⟩ := E
  simp only at hE
  unfold rpE
  by_cases h1 : M < z.length + 19
  · rw [if_pos h1]
    unfold snV
    have k1 : decide ((z.length : Int) > (M : Int) - 19) = true := decide_eq_true (by omega)
    refine ACt.intro Try.func14 rfl (by kernel_rfl) (by simp [Try.ntmps14]) (fun cx => ?_)
    simp only [argE, Try.ntmps14, Try.results14]
    first | (have FRx := FR; clear FRx) | have FR := fr0S
    have FA := Sm.mk (And.intro TFPtC (And.intro w0 k1))
    repeat' first | (apply Sm.mk; refine Ys ?_) | refine WP.seq fun K hK => ?_ | (apply Ob.mk; exact Yo) | refine And.intro (Ob.out ?_) ?_ | refine Y1PtC ?_ | refine YzPtC ?_ | (refine WP.cond rfl (fun hc => ?_) (fun hc => ?_) <;> (try simp only [ZC, reduceCtorEq, ZD] at hc) <;> (try exact absurd hc (by decide)) <;> (try (exfalso; omega))) | refine Rt.mk (And.intro (fun hg => Sm.out ?_) fun hg => Sm.out ?_) | (refine Nu.mk ?_; first | (fail_if_success have := nb1); intro nb1 | (fail_if_success have := nb2); intro nb2 | (fail_if_success have := nb3); intro nb3 | (fail_if_success have := nb4); intro nb4 | (fail_if_success have := nb5); intro nb5 | (fail_if_success have := nb6); intro nb6 | intro nbz) | (apply Yfr; refine Yf FR fun hFRb FR => ?_) | refine Two.mk ?_ ?_ | (apply Yxc; exact Yx) | refine Cs.mk fun hcs => Sm.out ?_ | go_step | omega | (simp only [maxLen_eq]; omega) | exact trivial
    (refine Yg ?_; try exact trivial)
  have k1 : decide ((z.length : Int) > (M : Int) - 19) = false := decide_eq_false (by omega)
  rw [if_neg h1]
  by_cases h2 : e = 18446744073709551615
  · rw [if_pos h2]
    unfold snV
    have k2 : ((e : Int) == 18446744073709551615) = true := by rw [h2]; rfl
    refine ACt.intro Try.func14 rfl (by kernel_rfl) (by simp [Try.ntmps14]) (fun cx => ?_)
    simp only [argE, Try.ntmps14, Try.results14]
    first | (have FRx := FR; clear FRx) | have FR := fr0S
    have FA := Sm.mk (And.intro TFPtC (And.intro w0 (And.intro k1 k2)))
    repeat' first | (apply Sm.mk; refine Ys ?_) | refine WP.seq fun K hK => ?_ | (apply Ob.mk; exact Yo) | refine And.intro (Ob.out ?_) ?_ | refine Y1PtC ?_ | refine YzPtC ?_ | (refine WP.cond rfl (fun hc => ?_) (fun hc => ?_) <;> (try simp only [ZC, reduceCtorEq, ZD] at hc) <;> (try exact absurd hc (by decide)) <;> (try (exfalso; omega))) | refine Rt.mk (And.intro (fun hg => Sm.out ?_) fun hg => Sm.out ?_) | (refine Nu.mk ?_; first | (fail_if_success have := nb1); intro nb1 | (fail_if_success have := nb2); intro nb2 | (fail_if_success have := nb3); intro nb3 | (fail_if_success have := nb4); intro nb4 | (fail_if_success have := nb5); intro nb5 | (fail_if_success have := nb6); intro nb6 | intro nbz) | (apply Yfr; refine Yf FR fun hFRb FR => ?_) | refine Two.mk ?_ ?_ | (apply Yxc; exact Yx) | refine Cs.mk fun hcs => Sm.out ?_ | go_step | omega | (simp only [maxLen_eq]; omega) | exact trivial
    (refine Yg ?_; try exact trivial)
  · rw [if_neg h2]
    unfold snV
    have k2 : ((e : Int) == 18446744073709551615) = false := beq_eq_false_iff_ne.2 (by omega)
    have w1 : IntKind.u64.wrap ((e : Int) + 1) = ((e + 1 : Nat) : Int) := by rw [wrap_u64 (by omega) (by omega)]; omega
    refine ACt.intro Try.func14 rfl (by kernel_rfl) (by simp [Try.ntmps14]) (fun cx => ?_)
    simp only [argE, Try.ntmps14, Try.results14]
    first | (have FRx := FR; clear FRx) | have FR := fr0S
    have FA := Sm.mk (And.intro TFPtC (And.intro w0 (And.intro k1 (And.intro k2 w1))))
    repeat' first | (apply Sm.mk; refine Ys ?_) | refine WP.seq fun K hK => ?_ | (apply Ob.mk; exact Yo) | refine And.intro (Ob.out ?_) ?_ | refine Y1PtC ?_ | refine YzPtC ?_ | (refine WP.cond rfl (fun hc => ?_) (fun hc => ?_) <;> (try simp only [ZC, reduceCtorEq, ZD] at hc) <;> (try exact absurd hc (by decide)) <;> (try (exfalso; omega))) | refine Rt.mk (And.intro (fun hg => Sm.out ?_) fun hg => Sm.out ?_) | (refine Nu.mk ?_; first | (fail_if_success have := nb1); intro nb1 | (fail_if_success have := nb2); intro nb2 | (fail_if_success have := nb3); intro nb3 | (fail_if_success have := nb4); intro nb4 | (fail_if_success have := nb5); intro nb5 | (fail_if_success have := nb6); intro nb6 | intro nbz) | (apply Yfr; refine Yf FR fun hFRb FR => ?_) | refine Two.mk ?_ ?_ | (apply Yxc; exact Yx) | refine Cs.mk fun hcs => Sm.out ?_ | go_step | omega | (simp only [maxLen_eq]; omega) | exact trivial
    (refine Yg ?_; try exact trivial)
end Go.Proofs.Yteoajodoejoccaa
