/-
  The walks and the laws that the statement leans on, part 44.
-/
import Derived.Test.YtmbecppmkglmhaaDoorC11
import Derived.Test.YtmbecppmkglmhaaDoorC21
import Derived.Test.YtmbecppmkglmhaaDoorC40
import Derived.Test.YtmbecppmkglmhaaDoorC42
namespace Go.Proofs.YtmbecppmkglmhaaDoor
open Go Wi
set_option linter.unusedVariables false
set_option linter.unusedSimpArgs false
set_option linter.defProp false
def TFSlP :=
  And.intro (And.intro (And.intro (And.intro (And.intro (And.intro tyc0 tyc3) (And.intro zmb3 tyc4)) (And.intro (And.intro zmb4 tyc5) (And.intro zmb5 (And.intro tyc9 zmb9)))) (And.intro (And.intro (And.intro tyc22 elt22) (And.intro mkz22 apT22)) (And.intro (And.intro elk22 zmb22) (And.intro tyc32 (And.intro zmb32 tyc34))))) (And.intro (And.intro (And.intro (And.intro foff34_0 fpart34_0) (And.intro foff34_1 fpart34_1)) (And.intro (And.intro zmb34 bldT34) (And.intro tyc37 (And.intro elt37 mkz37)))) (And.intro (And.intro (And.intro mkc37 apT37) (And.intro elk37 (And.intro zmb37 tyc39))) (And.intro (And.intro foff39_0 fpart39_0) (And.intro foff39_1 (And.intro fpart39_1 zmb39)))))) (And.intro (And.intro (And.intro (And.intro (And.intro bldT39 tyc63) (And.intro tyc66 foff66_0)) (And.intro (And.intro fpart66_0 foff66_1) (And.intro fpart66_1 (And.intro foff66_2 fpart66_2)))) (And.intro (And.intro (And.intro foff66_3 fpart66_3) (And.intro fe66 zmb66)) (And.intro (And.intro bldT66 tyc67) (And.intro tyc70 (And.intro foff70_0 fpart70_0))))) (And.intro (And.intro (And.intro (And.intro foff70_1 fpart70_1) (And.intro fe70 zmb70)) (And.intro (And.intro bldT70 Tryd.underlying0) (And.intro Tryd.underlying3 (And.intro Tryd.underlying4 Tryd.underlying5)))) (And.intro (And.intro (And.intro Tryd.underlying9 Tryd.underlying22) (And.intro Tryd.underlying32 (And.intro Tryd.underlying34 Tryd.underlying37))) (And.intro (And.intro Tryd.underlying39 Tryd.underlying63) (And.intro Tryd.underlying66 (And.intro Tryd.underlying67 Tryd.underlying70))))))
theorem Y1SlP {G R : Prop} (r : R) (h : R → G := by intro r; first | (apply WP.region; exact rvc_sound _ _ (Sm.out r)) | exact WP.drawK rfl mixed (by decide +kernel) (Sm.out r) | (apply WP.block; exact r) | (apply WP.skip; exact Yq r) | (apply WP.exit; exact Yq r) | (apply WP.ret; exact Sm.out r) | exact WP.cond rfl (fun _ => r) (fun hg => absurd hg (by decide)) | exact WP.cond rfl (fun hg => absurd hg (by decide)) (fun _ => r) | exact Rt.mk (And.intro (fun _ => Sm.out r) fun hg => absurd hg (by decide)) | exact Rt.mk (And.intro (fun hg => absurd hg (by decide)) fun _ => Sm.out r)) : G := h r
theorem YzSlP {G R : Prop} (r : R) (h : R → G := by intro r; first | (apply ExG.no; exact Sm.out r) | (apply Or.inl; apply ExG.no; exact Sm.out r) | exact Or.inl (And.intro (fun hg => absurd hg (by decide)) (ExG.no (Sm.out r)))) : G := h r
theorem ACt.wkR {P : Program} {f : FuncId} {args : List AV} {F : Hp} {p q : AV → Hp → Prop} (h : ACt P f args F p) (hq : ∀ r F', p r F' → ∃ r', q r' F' ∧ ∀ w I v, Rep w I v r → Rep w I v r') : ACt P f args F q :=
  fun cx vs h1 h2 h3 h4 h5 => (h cx vs h1 h2 h3 h4 h5).mono fun e w' ⟨v, r, F', a, b, c, d⟩ => by
    obtain ⟨r', hq', hr'⟩ := hq r F' b
    exact ⟨v, r', F', a, hq', c, hr' _ _ _ d⟩
theorem snap_nil {P : Program} {f : FuncId} {args : List AV} {F : Hp} {e : AV} (h : ACt P f args F (Fn (.agg [e, nl]))) : ACt P f args F (Fn (.agg [e, .slz .u8 []])) :=
  h.wkR fun r F' hr => by
    obtain ⟨e1, e2⟩ := hr
    subst e1
    refine ⟨_, ⟨rfl, e2⟩, fun w I v h => ?_⟩
    cases h with
    | agg vs cs hs r =>
      refine .agg _ _ hs fun i hi => ?_
      have hi2 : i < 2 := hi
      rcases (by omega : i = 0 ∨ i = 1) with rfl | rfl
      · exact r 0 (by simp)
      · exact Rep.nilz (r 1 (by simp))
def snV (e : Nat × List Int) : AV := .agg [nu e.1, .slz .u8 e.2]
set_option maxRecDepth 20000 in
theorem refslot_ct (R : Bs) (k : Nat) (hR : R.length ≤ 6000) : ACt Tryd.prog 10 [.lit (.string (bstr (ub R))), nu k] [] (Fn (snV (slF R k))) := by
  have cO := refOpen_ct R (by omega)
  have hl := ub_len R
  have hs : (bstr (ub R)).size = R.length := by rw [bstr_size, hl]
  have eB : List.map (fun b : UInt8 => ((b.toNat : Nat) : Int)) (bstr (ub R)).data.toList = ub R := by
    simp only [bstr, ub, List.map_map]
    exact (List.map_congr_left fun x _ => by simp)
  obtain ⟨X, hX⟩ : ∃ X, X = bstr (ub R) := ⟨_, rfl⟩
  rw [← hX] at hs eB ⊢
  by_cases hF : IsF R
  · rw [if_pos hF] at cO
    have eSl : slF R k = slV (ub (bodyB R)) k := by unfold slF; rw [if_pos hF]
    have hDb : By (ub (bodyB R)) := by_ub _
    have hDl : (ub (bodyB R)).length ≤ 6000 := by rw [ub_len]; unfold bodyB; rw [List.length_take, List.length_drop]; omega
    obtain ⟨D, hD⟩ : ∃ D, D = ub (bodyB R) := ⟨_, rfl⟩
    rw [← hD] at eSl hDb hDl cO
    rw [eSl]
    have cG := refNum_ct D hDb hDl
    rcases hnF : nF D with _ | ⟨e, q⟩
    · have eV : slV D k = (0, []) := by unfold slV; rw [hnF]
      rw [eV]
      rw [hnF] at cG
      have c1 : ACt Tryd.prog 32 [.slz .u8 D, iv .i64 0, .agg [iv .i64 0, iv .i64 0]] [] (fun r F' => ∃ g, r = gt3 g ∧ F' = []) := cG
      refine snap_nil ?_
      refine ACt.intro Tryd.func10 rfl (by kernel_rfl) (by simp [Tryd.ntmps10]) (fun cx => ?_)
      simp only [argE, Tryd.ntmps10, Tryd.results10]
      first | (have FRx := FR; clear FRx) | have FR := fr0S
      have FA := Sm.mk (And.intro TFSlP (And.intro hs (And.intro eB hl)))
      repeat' first | (apply Sm.mk; refine Ys ?_) | refine WP.seq fun K hK => ?_ | (apply Ob.mk; exact Yo) | refine And.intro (Ob.out ?_) ?_ | refine Y1SlP ?_ | (first | refine CallV.fn (cO) (Sm.out ?_) | refine ExF.mk (cO) (Sm.out ?_) | refine ExG.mk (fun _ => cO) (Sm.out ?_) | refine ExG.mkJ (fun _ => cO) (Sm.out ?_) | refine ExG.mkI (Ob.out ?_) (fun _ => cO) (Sm.out ?_)) | (refine CallV.ex (F := []) (List.Perm.refl _) (c1) (fun g => Sm.out ?_)) | refine YzSlP ?_ | (refine WP.cond rfl (fun hc => ?_) (fun hc => ?_) <;> (try simp only [ZC, reduceCtorEq, ZD] at hc) <;> (try exact absurd hc (by decide)) <;> (try (exfalso; omega))) | refine Rt.mk (And.intro (fun hg => Sm.out ?_) fun hg => Sm.out ?_) | (refine Nu.mk ?_; first | (fail_if_success have := nb1); intro nb1 | (fail_if_success have := nb2); intro nb2 | (fail_if_success have := nb3); intro nb3 | (fail_if_success have := nb4); intro nb4 | (fail_if_success have := nb5); intro nb5 | (fail_if_success have := nb6); intro nb6 | (fail_if_success have := nb7); intro nb7 | (fail_if_success have := nb8); intro nb8 | intro nbz) | (apply Yfr; refine Yf FR fun hFRb FR => ?_) | refine Two.mk ?_ ?_ | (apply Yxc; exact Yx) | refine Cs.mk fun hcs => Sm.out ?_ | go_step | omega | (simp only [maxLen_eq]; omega) | exact trivial
      (refine Yg ?_; try exact trivial)
    · obtain ⟨b1, b2, b3, b4⟩ := nF_bd hDb hnF
      rw [hnF] at cG
      have c1 : ACt Tryd.prog 32 [.slz .u8 D, iv .i64 0, .agg [iv .i64 0, iv .i64 0]] [] (Fn (.tup [.agg [nu e, iv .i64 0, eS, bv false], iv .i64 ((D.length - q.length : Nat) : Int), bv true])) := cG
      have tm : Int.tmod (e : Int) 2 = ((e % 2 : Nat) : Int) := by rw [Int.tmod_eq_emod_of_nonneg (by omega)]; omega
      by_cases h0 : e = 0
      · have eV : slV D k = (0, []) := by unfold slV; rw [hnF]; simp only; rw [if_pos (.inl h0)]
        rw [eV]
        have kE : ((e : Int) == 0) = true := by rw [h0]; rfl
        refine snap_nil ?_
        refine ACt.intro Tryd.func10 rfl (by kernel_rfl) (by simp [Tryd.ntmps10]) (fun cx => ?_)
        simp only [argE, Tryd.ntmps10, Tryd.results10]
        first | (have FRx := FR; clear FRx) | have FR := fr0S
        have FA := Sm.mk (And.intro TFSlP (And.intro hs (And.intro eB (And.intro hl (And.intro tm kE)))))
        repeat' first | (apply Sm.mk; refine Ys ?_) | refine WP.seq fun K hK => ?_ | (apply Ob.mk; exact Yo) | refine And.intro (Ob.out ?_) ?_ | refine Y1SlP ?_ | refine Yc (c := cO) (r := ?_) | refine Yc (c := c1) (r := ?_) | refine YzSlP ?_ | (refine WP.cond rfl (fun hc => ?_) (fun hc => ?_) <;> (try simp only [ZC, reduceCtorEq, ZD] at hc) <;> (try exact absurd hc (by decide)) <;> (try (exfalso; omega))) | refine Rt.mk (And.intro (fun hg => Sm.out ?_) fun hg => Sm.out ?_) | (refine Nu.mk ?_; first | (fail_if_success have := nb1); intro nb1 | (fail_if_success have := nb2); intro nb2 | (fail_if_success have := nb3); intro nb3 | (fail_if_success have := nb4); intro nb4 | (fail_if_success have := nb5); intro nb5 | (fail_if_success have := nb6); intro nb6 | (fail_if_success have := nb7); intro nb7 | (fail_if_success have := nb8); intro nb8 | intro nbz) | (apply Yfr; refine Yf FR fun hFRb FR => ?_) | refine Two.mk ?_ ?_ | (apply Yxc; exact Yx) | refine Cs.mk fun hcs => Sm.out ?_ | go_step | omega | (simp only [maxLen_eq]; omega) | exact trivial
        (refine Yg ?_; try exact trivial)
      have kE : ((e : Int) == 0) = false := beq_eq_false_iff_ne.2 (by omega)
      by_cases h2 : e % 2 = k
      · have eV : slV D k = (e, q) := by unfold slV; rw [hnF]; simp only; rw [if_neg (by omega)]
        rw [eV]
        unfold snV
        have kP : (((e % 2 : Nat) : Int) != (k : Int)) = false := by rw [h2]; simp
        have dq : D.drop (D.length - q.length) = q := b4.symm
        have dl : D.length - q.length ≤ D.length := Nat.sub_le _ _
        refine ACt.intro Tryd.func10 rfl (by kernel_rfl) (by simp [Tryd.ntmps10]) (fun cx => ?_)
        simp only [argE, Tryd.ntmps10, Tryd.results10]
        first | (have FRx := FR; clear FRx) | have FR := fr0S
        have FA := Sm.mk (And.intro TFSlP (And.intro hs (And.intro eB (And.intro hl (And.intro tm (And.intro kE (And.intro kP (And.intro dq dl))))))))
        repeat' first | (apply Sm.mk; refine Ys ?_) | refine WP.seq fun K hK => ?_ | (apply Ob.mk; exact Yo) | refine And.intro (Ob.out ?_) ?_ | refine Y1SlP ?_ | refine Yc (c := cO) (r := ?_) | refine Yc (c := c1) (r := ?_) | refine YzSlP ?_ | (refine WP.cond rfl (fun hc => ?_) (fun hc => ?_) <;> (try simp only [ZC, reduceCtorEq, ZD] at hc) <;> (try exact absurd hc (by decide)) <;> (try (exfalso; omega))) | refine Rt.mk (And.intro (fun hg => Sm.out ?_) fun hg => Sm.out ?_) | (refine Nu.mk ?_; first | (fail_if_success have := nb1); intro nb1 | (fail_if_success have := nb2); intro nb2 | (fail_if_success have := nb3); intro nb3 | (fail_if_success have := nb4); intro nb4 | (fail_if_success have := nb5); intro nb5 | (fail_if_success have := nb6); intro nb6 | (fail_if_success have := nb7); intro nb7 | (fail_if_success have := nb8); intro nb8 | intro nbz) | (apply Yfr; refine Yf FR fun hFRb FR => ?_) | refine Two.mk ?_ ?_ | (apply Yxc; exact Yx) | refine Cs.mk fun hcs => Sm.out ?_ | go_step | omega | (simp only [maxLen_eq]; omega) | exact trivial
        (refine Yg ?_; try exact trivial)
      · have eV : slV D k = (0, []) := by unfold slV; rw [hnF]; simp only; rw [if_pos (.inr h2)]
        rw [eV]
        have kP : (((e % 2 : Nat) : Int) != (k : Int)) = true := by simp; omega
        refine snap_nil ?_
        refine ACt.intro Tryd.func10 rfl (by kernel_rfl) (by simp [Tryd.ntmps10]) (fun cx => ?_)
        simp only [argE, Tryd.ntmps10, Tryd.results10]
        first | (have FRx := FR; clear FRx) | have FR := fr0S
        have FA := Sm.mk (And.intro TFSlP (And.intro hs (And.intro eB (And.intro hl (And.intro tm (And.intro kE kP))))))
        repeat' first | (apply Sm.mk; refine Ys ?_) | refine WP.seq fun K hK => ?_ | (apply Ob.mk; exact Yo) | refine And.intro (Ob.out ?_) ?_ | refine Y1SlP ?_ | refine Yc (c := cO) (r := ?_) | refine Yc (c := c1) (r := ?_) | refine YzSlP ?_ | (refine WP.cond rfl (fun hc => ?_) (fun hc => ?_) <;> (try simp only [ZC, reduceCtorEq, ZD] at hc) <;> (try exact absurd hc (by decide)) <;> (try (exfalso; omega))) | refine Rt.mk (And.intro (fun hg => Sm.out ?_) fun hg => Sm.out ?_) | (refine Nu.mk ?_; first | (fail_if_success have := nb1); intro nb1 | (fail_if_success have := nb2); intro nb2 | (fail_if_success have := nb3); intro nb3 | (fail_if_success have := nb4); intro nb4 | (fail_if_success have := nb5); intro nb5 | (fail_if_success have := nb6); intro nb6 | (fail_if_success have := nb7); intro nb7 | (fail_if_success have := nb8); intro nb8 | intro nbz) | (apply Yfr; refine Yf FR fun hFRb FR => ?_) | refine Two.mk ?_ ?_ | (apply Yxc; exact Yx) | refine Cs.mk fun hcs => Sm.out ?_ | go_step | omega | (simp only [maxLen_eq]; omega) | exact trivial
        (refine Yg ?_; try exact trivial)
  · rw [if_neg hF] at cO
    have eSl : slF R k = (0, []) := by unfold slF; rw [if_neg hF]
    rw [eSl]
    refine snap_nil ?_
    refine ACt.intro Tryd.func10 rfl (by kernel_rfl) (by simp [Tryd.ntmps10]) (fun cx => ?_)
    simp only [argE, Tryd.ntmps10, Tryd.results10]
    first | (have FRx := FR; clear FRx) | have FR := fr0S
    have FA := Sm.mk (And.intro TFSlP (And.intro hs (And.intro eB hl)))
    repeat' first | (apply Sm.mk; refine Ys ?_) | refine WP.seq fun K hK => ?_ | (apply Ob.mk; exact Yo) | refine And.intro (Ob.out ?_) ?_ | refine Y1SlP ?_ | refine Yc (c := cO) (r := ?_) | refine YzSlP ?_ | (refine WP.cond rfl (fun hc => ?_) (fun hc => ?_) <;> (try simp only [ZC, reduceCtorEq, ZD] at hc) <;> (try exact absurd hc (by decide)) <;> (try (exfalso; omega))) | refine Rt.mk (And.intro (fun hg => Sm.out ?_) fun hg => Sm.out ?_) | (refine Nu.mk ?_; first | (fail_if_success have := nb1); intro nb1 | (fail_if_success have := nb2); intro nb2 | (fail_if_success have := nb3); intro nb3 | (fail_if_success have := nb4); intro nb4 | (fail_if_success have := nb5); intro nb5 | (fail_if_success have := nb6); intro nb6 | (fail_if_success have := nb7); intro nb7 | (fail_if_success have := nb8); intro nb8 | intro nbz) | (apply Yfr; refine Yf FR fun hFRb FR => ?_) | refine Two.mk ?_ ?_ | (apply Yxc; exact Yx) | refine Cs.mk fun hcs => Sm.out ?_ | go_step | omega | (simp only [maxLen_eq]; omega) | exact trivial
    (refine Yg ?_; try exact trivial)
set_option maxRecDepth 20000 in
theorem newer_ct (A B : Nat × List Int) : ACt Tryd.prog 9 [snV A, snV B] [] (Fn (snV (slN A B))) := by
  unfold snV slN
  by_cases h : A.1 < B.1
  · rw [if_pos h]
    have k : decide ((B.1 : Int) > (A.1 : Int)) = true := decide_eq_true (by omega)
    refine ACt.intro Tryd.func9 rfl (by kernel_rfl) (by simp [Tryd.ntmps9]) (fun cx => ?_)
    simp only [argE, Tryd.ntmps9, Tryd.results9]
    first | (have FRx := FR; clear FRx) | have FR := fr0S
    have FA := Sm.mk (And.intro TFSlP k)
    repeat' first | (apply Sm.mk; refine Ys ?_) | refine WP.seq fun K hK => ?_ | (apply Ob.mk; exact Yo) | refine And.intro (Ob.out ?_) ?_ | refine Y1SlP ?_ | refine YzSlP ?_ | (refine WP.cond rfl (fun hc => ?_) (fun hc => ?_) <;> (try simp only [ZC, reduceCtorEq, ZD] at hc) <;> (try exact absurd hc (by decide)) <;> (try (exfalso; omega))) | refine Rt.mk (And.intro (fun hg => Sm.out ?_) fun hg => Sm.out ?_) | (refine Nu.mk ?_; first | (fail_if_success have := nb1); intro nb1 | (fail_if_success have := nb2); intro nb2 | (fail_if_success have := nb3); intro nb3 | (fail_if_success have := nb4); intro nb4 | (fail_if_success have := nb5); intro nb5 | (fail_if_success have := nb6); intro nb6 | (fail_if_success have := nb7); intro nb7 | (fail_if_success have := nb8); intro nb8 | intro nbz) | (apply Yfr; refine Yf FR fun hFRb FR => ?_) | refine Two.mk ?_ ?_ | (apply Yxc; exact Yx) | refine Cs.mk fun hcs => Sm.out ?_ | go_step | omega | (simp only [maxLen_eq]; omega) | exact trivial
    (refine Yg ?_; try exact trivial)
  · rw [if_neg h]
    have k : decide ((B.1 : Int) > (A.1 : Int)) = false := decide_eq_false (by omega)
    refine ACt.intro Tryd.func9 rfl (by kernel_rfl) (by simp [Tryd.ntmps9]) (fun cx => ?_)
    simp only [argE, Tryd.ntmps9, Tryd.results9]
    first | (have FRx := FR; clear FRx) | have FR := fr0S
    have FA := Sm.mk (And.intro TFSlP k)
    repeat' first | (apply Sm.mk; refine Ys ?_) | refine WP.seq fun K hK => ?_ | (apply Ob.mk; exact Yo) | refine And.intro (Ob.out ?_) ?_ | refine Y1SlP ?_ | refine YzSlP ?_ | (refine WP.cond rfl (fun hc => ?_) (fun hc => ?_) <;> (try simp only [ZC, reduceCtorEq, ZD] at hc) <;> (try exact absurd hc (by decide)) <;> (try (exfalso; omega))) | refine Rt.mk (And.intro (fun hg => Sm.out ?_) fun hg => Sm.out ?_) | (refine Nu.mk ?_; first | (fail_if_success have := nb1); intro nb1 | (fail_if_success have := nb2); intro nb2 | (fail_if_success have := nb3); intro nb3 | (fail_if_success have := nb4); intro nb4 | (fail_if_success have := nb5); intro nb5 | (fail_if_success have := nb6); intro nb6 | (fail_if_success have := nb7); intro nb7 | (fail_if_success have := nb8); intro nb8 | intro nbz) | (apply Yfr; refine Yf FR fun hFRb FR => ?_) | refine Two.mk ?_ ?_ | (apply Yxc; exact Yx) | refine Cs.mk fun hcs => Sm.out ?_ | go_step | omega | (simp only [maxLen_eq]; omega) | exact trivial
    (refine Yg ?_; try exact trivial)
set_option maxRecDepth 20000 in
theorem same11_ct (e : Nat × List Int) (h : e.2.length ≤ 1000000) : ACt Tryd.prog 39 [snV e, snV e] [] (Fn (bv true)) := by
  obtain ⟨n, E⟩ := e
  simp only at h
  unfold snV
  have k : ((n : Int) == (n : Int)) = true := beq_self_eq_true _
  have k2 : ((bstr E).toList == (bstr E).toList) = true := beq_self_eq_true _
  refine ACt.intro Tryd.func39 rfl (by kernel_rfl) (by simp [Tryd.ntmps39]) (fun cx => ?_)
  simp only [argE, Tryd.ntmps39, Tryd.results39]
  first | (have FRx := FR; clear FRx) | have FR := fr0S
  have FA := Sm.mk (And.intro TFSlP (And.intro k k2))
  repeat' first | (apply Sm.mk; refine Ys ?_) | refine WP.seq fun K hK => ?_ | (apply Ob.mk; exact Yo) | refine And.intro (Ob.out ?_) ?_ | refine Y1SlP ?_ | refine YzSlP ?_ | (refine WP.cond rfl (fun hc => ?_) (fun hc => ?_) <;> (try simp only [ZC, reduceCtorEq, ZD] at hc) <;> (try exact absurd hc (by decide)) <;> (try (exfalso; omega))) | refine Rt.mk (And.intro (fun hg => Sm.out ?_) fun hg => Sm.out ?_) | (refine Nu.mk ?_; first | (fail_if_success have := nb1); intro nb1 | (fail_if_success have := nb2); intro nb2 | (fail_if_success have := nb3); intro nb3 | (fail_if_success have := nb4); intro nb4 | (fail_if_success have := nb5); intro nb5 | (fail_if_success have := nb6); intro nb6 | (fail_if_success have := nb7); intro nb7 | (fail_if_success have := nb8); intro nb8 | intro nbz) | (apply Yfr; refine Yf FR fun hFRb FR => ?_) | refine Two.mk ?_ ?_ | (apply Yxc; exact Yx) | refine Cs.mk fun hcs => Sm.out ?_ | go_step | omega | (simp only [maxLen_eq]; omega) | exact trivial
  (refine Yg ?_; try exact trivial)
def stV (e : Nat × List Int) (L : List Bs) : AV := .agg [nu e.1, .slz .u8 e.2, .sl L.length (rowsA L)]
set_option maxRecDepth 20000 in
theorem same12_ct (e : Nat × List Int) (L : List Bs) (h : e.2.length ≤ 1000000) (hL : L.length ≤ 1000000) : ACt Tryd.prog 14 [stV e L, stV e L] [] (Fn (bv true)) := by
  have c1 := same11_ct e h
  have c2 := csame_ct L hL
  unfold stV
  unfold snV at c1
  obtain ⟨C, hC⟩ : ∃ C, C = rowsA L := ⟨_, rfl⟩
  rw [← hC] at c2 ⊢
  refine ACt.intro Tryd.func14 rfl (by kernel_rfl) (by simp [Tryd.ntmps14]) (fun cx => ?_)
  simp only [argE, Tryd.ntmps14, Tryd.results14]
  first | (have FRx := FR; clear FRx) | have FR := fr0S
  have FA := Sm.mk (TFSlP)
  repeat' first | (apply Sm.mk; refine Ys ?_) | refine WP.seq fun K hK => ?_ | (apply Ob.mk; exact Yo) | refine And.intro (Ob.out ?_) ?_ | refine Y1SlP ?_ | refine Yc (c := c1) (r := ?_) | refine Yc (c := c2) (r := ?_) | refine YzSlP ?_ | (refine WP.cond rfl (fun hc => ?_) (fun hc => ?_) <;> (try simp only [ZC, reduceCtorEq, ZD] at hc) <;> (try exact absurd hc (by decide)) <;> (try (exfalso; omega))) | refine Rt.mk (And.intro (fun hg => Sm.out ?_) fun hg => Sm.out ?_) | (refine Nu.mk ?_; first | (fail_if_success have := nb1); intro nb1 | (fail_if_success have := nb2); intro nb2 | (fail_if_success have := nb3); intro nb3 | (fail_if_success have := nb4); intro nb4 | (fail_if_success have := nb5); intro nb5 | (fail_if_success have := nb6); intro nb6 | (fail_if_success have := nb7); intro nb7 | (fail_if_success have := nb8); intro nb8 | intro nbz) | (apply Yfr; refine Yf FR fun hFRb FR => ?_) | refine Two.mk ?_ ?_ | (apply Yxc; exact Yx) | refine Cs.mk fun hcs => Sm.out ?_ | go_step | omega | (simp only [maxLen_eq]; omega) | exact trivial
  (refine Yg ?_; try exact trivial)
end Go.Proofs.YtmbecppmkglmhaaDoor
