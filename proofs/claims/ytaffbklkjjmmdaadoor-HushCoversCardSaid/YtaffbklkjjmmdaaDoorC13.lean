/-
  The walks and the laws that the statement leans on, part 13.
-/
import Derived.Test.YtaffbklkjjmmdaaDoorC9
import Derived.Test.YtaffbklkjjmmdaaDoorC12
namespace Go.Proofs.YtaffbklkjjmmdaaDoor
open Go
set_option linter.unusedVariables false
set_option linter.unusedSimpArgs false
set_option linter.defProp false
def TFTxG :=
  And.intro (And.intro (And.intro tyc0 (And.intro tyc3 zmb3)) (And.intro (And.intro tyc4 zmb4) (And.intro tyc9 zmb9))) (And.intro (And.intro tyc21 (And.intro zmb21 Tryd.underlying0)) (And.intro (And.intro Tryd.underlying3 Tryd.underlying4) (And.intro Tryd.underlying9 Tryd.underlying21)))
theorem Y1TxG {G R : Prop} (r : R) (h : R → G := by intro r; first | (apply WP.region; exact rvc_sound _ _ (Sm.out r)) | exact WP.drawK rfl mixed (by decide +kernel) (Sm.out r) | (apply WP.block; exact r) | (apply WP.skip; exact Yq r) | (apply WP.exit; exact Yq r) | (apply WP.ret; exact Sm.out r) | exact WP.cond rfl (fun _ => r) (fun hg => absurd hg (by decide)) | exact WP.cond rfl (fun hg => absurd hg (by decide)) (fun _ => r) | exact Rt.mk (And.intro (fun _ => Sm.out r) fun hg => absurd hg (by decide)) | exact Rt.mk (And.intro (fun hg => absurd hg (by decide)) fun _ => Sm.out r)) : G := h r
theorem YzTxG {G R : Prop} (r : R) (h : R → G := by intro r; first | (apply ExG.no; exact Sm.out r) | (apply Or.inl; apply ExG.no; exact Sm.out r) | exact Or.inl (And.intro (fun hg => absurd hg (by decide)) (ExG.no (Sm.out r)))) : G := h r
def inP (q : Nat) (x : Int) : Prop := letB x = true ∨ (0 < q ∧ (digB x = true ∨ x = 95 ∨ x = 45))
structure NmG where
  i : Nat
  f : Nat
  A : List Int
  last : Int
theorem getD_last (A : List Int) (e : Int) : (A ++ [e]).getD A.length 0 = e := by simp [List.getD_eq_getElem?_getD]
theorem getD_app (A : List Int) (e : Int) {q : Nat} (h : q < A.length) : (A ++ [e]).getD q 0 = A.getD q 0 := by simp [List.getD_eq_getElem?_getD, List.getElem?_append_left h]
theorem getD_mid (A T : List Int) (e : Int) : (A ++ e :: T).getD A.length 0 = e := by simp [List.getD_eq_getElem?_getD]
theorem bad_rune : letB (-1) = false ∧ digB (-1) = false ∧ letB 65533 = false ∧ digB 65533 = false := by decide +kernel
theorem name_end (L : List Int) (last : Int) (h0 : 0 < L.length) (h24 : L.length ≤ 24) (hp : ∀ q, q < L.length → inP q (L.getD q 0)) (hl : last = L.getD (L.length - 1) 0) : nmB L = (letB last || digB last) := by
  cases h1 : letB last
  · cases h2 : digB last
    · refine nmB_false fun h => ?_
      have := h.2.2.2 (L.length - 1) (by omega)
      rw [← hl] at this
      rcases this with h3 | h3 | h3
      · rw [h1] at h3; cases h3
      · rw [h2] at h3; cases h3
      · exact h3.1 rfl
    · refine nmB_true ⟨h0, h24, ?_, fun i hi => ?_⟩
      · rcases hp 0 h0 with h | h
        · exact h
        · omega
      · rcases hp i hi with h | h
        · exact .inl h
        · by_cases he : i = L.length - 1
          · refine .inr (.inl ?_); rw [he, ← hl]; exact h2
          · rcases h.2 with h3 | h3
            · exact .inr (.inl h3)
            · exact .inr (.inr ⟨he, h3⟩)
  · refine nmB_true ⟨h0, h24, ?_, fun i hi => ?_⟩
    · rcases hp 0 h0 with h | h
      · exact h
      · omega
    · rcases hp i hi with h | h
      · exact .inl h
      · by_cases he : i = L.length - 1
        · refine .inl ?_; rw [he, ← hl]; exact h1
        · rcases h.2 with h3 | h3
          · exact .inr (.inl h3)
          · exact .inr (.inr ⟨he, h3⟩)
set_option maxHeartbeats 8000000 in
set_option maxRecDepth 8000 in
theorem name_ct (zs : List Int) (hb : By zs) (hl : zs.length ≤ 1000) : ACt Tryd.prog 32 [stz zs] [] (Fn (bv (nmB (rn zs)))) := by
  have hs := bstr_size zs
  have hel := fun i (h : i < zs.length) => el_dec hb h
  obtain ⟨B, hB⟩ : ∃ B, B = bstr zs := ⟨_, rfl⟩
  unfold stz
  rw [← hB] at hs ⊢
  simp only [← hB] at hel
  obtain ⟨L, hL⟩ : ∃ L, L = rn zs := ⟨_, rfl⟩
  rw [← hL]
  obtain ⟨R, hR⟩ : ∃ R, R = nmB L := ⟨_, rfl⟩
  rw [← hR]
  refine ACt.intro Tryd.func32 rfl (by kernel_rfl) (by simp [Tryd.ntmps32]) (fun cx => ?_)
  simp only [argE, Tryd.ntmps32, Tryd.results32]
  first | (have FRx := FR; clear FRx) | have FR := fr0S
  have FA := Sm.mk (TFTxG)
  repeat' first | (apply Sm.mk; refine Ys ?_) | refine WP.seq fun K hK => ?_ | (apply Ob.mk; exact Yo) | refine And.intro (Ob.out ?_) ?_ | refine Y1TxG ?_ | refine YzTxG ?_ | (refine WP.cond rfl (fun hc => ?_) (fun hc => ?_) <;> (try simp only [ZC, reduceCtorEq, ZD] at hc) <;> (try exact absurd hc (by decide)) <;> (try (exfalso; omega))) | refine Rt.mk (And.intro (fun hg => Sm.out ?_) fun hg => Sm.out ?_) | (refine Nu.mk ?_; first | (fail_if_success have := nb1); intro nb1 | (fail_if_success have := nb2); intro nb2 | (fail_if_success have := nb3); intro nb3 | (fail_if_success have := nb4); intro nb4 | intro nbz) | (apply Yfr; refine Yf FR fun hFRb FR => ?_) | refine Two.mk ?_ ?_ | (apply Yxc; exact Yx) | refine Cs.mk fun hcs => Sm.out ?_ | go_step | omega | (simp only [maxLen_eq]; omega) | exact trivial
  refine WP.loop (Γ := NmG) (fun g => ⟨[(9, pt nb1 0), (3, iv .i64 (g.A.length : Int)), (4, iv .i32 g.last)], [(nb1, .obj (.stringIter B g.i))]⟩)
    (fun g => g.i ≤ zs.length ∧ zs.length - g.i ≤ g.f ∧ g.A.length ≤ g.i ∧ (g.A.length = 0 → g.i = 0) ∧ L = g.A ++ rnF zs g.f g.i ∧ (∀ q, q < g.A.length → inP q (g.A.getD q 0)) ∧ (0 < g.A.length → g.last = g.A.getD (g.A.length - 1) 0)) (fun g => zs.length - g.i) ⟨0, zs.length, [], 32⟩
    ⟨by simp, by simp, by simp, fun _ => rfl, hL, fun q hq => absurd hq (Nat.not_lt_zero _), fun h => absurd h (Nat.lt_irrefl _)⟩ (Sub.pick (by simp [pickB, hget, hdel, FR.out]) (by simp [look])) ?_
  intro ⟨i, f, A, last⟩ ⟨h1, h2, h3, h4, h5, h6, h7⟩
  simp only at h1 h2 h3 h4 h5 h6 h7 ⊢
  have FR : Sm (¬ ((1 : Nat) = 0)) := Sm.mk Nat.one_ne_zero
  obtain ⟨n, hn⟩ : ∃ n, n = A.length := ⟨_, rfl⟩
  rw [← hn] at h3 h4 h6 h7 ⊢
  have hAn : A.length = n := hn.symm
  by_cases hi : i < zs.length
  · obtain ⟨f, rfl⟩ : ∃ f', f = f' + 1 := ⟨f - 1, by omega⟩
    rw [rnF_succ, if_pos hi] at h5
    obtain ⟨r, w, hdec, hr, hcs⟩ := hel i hi
    have s1 : IntKind.i64.wrap ((n : Int) + 1) = ((n + 1 : Nat) : Int) := by rw [wrap_i64 (by omega) (by omega)]; omega
    have cL := letter_ct (r : Int)
    have cD := digit_ct (r : Int)
    have hgi : (0 < n ↔ 0 < i) := ⟨fun h => by omega, fun h => by
      by_cases h0 : n = 0
      · have := h4 h0; omega
      · omega⟩
    obtain ⟨b1, b2, b3, b4, b5, q1, q2, q3, q4, q5, hbs⟩ : ∃ b1 b2 b3 b4 b5 : Bool, letB (r : Int) = b1 ∧ decide ((i : Int) > 0) = b2 ∧ digB (r : Int) = b3 ∧ ((r : Int) == 95) = b4 ∧ ((r : Int) == 45) = b5 ∧
        (((b1 = true ∨ b1 = false ∧ b2 = true ∧ b3 = true ∨ b1 = false ∧ b2 = true ∧ b3 = false ∧ b4 = true ∨ b1 = false ∧ b2 = true ∧ b3 = false ∧ b4 = false ∧ b5 = true) ∧ inP n (r : Int)) ∨
         ((b1 = false ∧ b2 = false ∨ b1 = false ∧ b2 = true ∧ b3 = false ∧ b4 = false ∧ b5 = false) ∧ ¬ inP n (r : Int))) := by
      refine ⟨_, _, _, _, _, rfl, rfl, rfl, rfl, rfl, ?_⟩
      unfold inP
      cases hB1 : letB (r : Int)
      · by_cases hi0 : 0 < i
        · cases hB3 : digB (r : Int)
          · by_cases h95 : r = 95
            · exact .inl ⟨.inr (.inr (.inl ⟨rfl, decide_eq_true (by omega), rfl, beq_iff_eq.2 (by omega)⟩)), .inr ⟨by omega, .inr (.inl (by omega))⟩⟩
            · by_cases h45 : r = 45
              · exact .inl ⟨.inr (.inr (.inr ⟨rfl, decide_eq_true (by omega), rfl, beq_eq_false_iff_ne.2 (by omega), beq_iff_eq.2 (by omega)⟩)), .inr ⟨by omega, .inr (.inr (by omega))⟩⟩
              · exact .inr ⟨.inr ⟨rfl, decide_eq_true (by omega), rfl, beq_eq_false_iff_ne.2 (by omega), beq_eq_false_iff_ne.2 (by omega)⟩, fun h => by
                  rcases h with h | ⟨_, h | h | h⟩
                  · cases h
                  · cases h
                  · omega
                  · omega⟩
          · exact .inl ⟨.inr (.inl ⟨rfl, decide_eq_true (by omega), rfl⟩), .inr ⟨by omega, .inl rfl⟩⟩
        · exact .inr ⟨.inl ⟨rfl, decide_eq_false (by omega)⟩, fun h => by
            rcases h with h | h
            · cases h
            · omega⟩
      · exact .inl ⟨.inl rfl, .inl rfl⟩
    rw [q1] at cL
    rw [q3] at cD
    have hdec2 : Utf8.decode B i = (r, w) := hdec
    rcases hbs with ⟨hbs, hgo⟩ | ⟨hbs, hgo⟩
    · have he : elR zs i = ((r : Int), w) ∧ 1 ≤ w ∧ w ≤ 4 ∧ i + w ≤ zs.length := by
        rcases hcs with h | h
        · exact h
        · exfalso
          obtain ⟨d1, d2, d3, d4⟩ := bad_rune
          have hr' : (r : Int) = 65533 := by omega
          rw [hr'] at hgo
          rcases hgo with h' | ⟨_, h' | h' | h'⟩
          · rw [d3] at h'; cases h'
          · rw [d4] at h'; cases h'
          · omega
          · omega
      obtain ⟨he, hw1, hw2, hw3⟩ := he
      rw [he] at h5
      have hlen : (A ++ [(r : Int)]).length = n + 1 := by rw [List.length_append, hAn]; rfl
      have hA1 : ∀ q, q < (A ++ [(r : Int)]).length → inP q ((A ++ [(r : Int)]).getD q 0) := fun q hq => by
        rw [hlen] at hq
        by_cases hqn : q = n
        · rw [hqn, hn, getD_last, ← hn]; exact hgo
        · rw [getD_app _ _ (by omega)]; exact h6 q (by omega)
      have hA2 : (r : Int) = (A ++ [(r : Int)]).getD ((A ++ [(r : Int)]).length - 1) 0 := by
        rw [hlen, Nat.add_sub_cancel, hn, getD_last]
      have hL2 : L = (A ++ [(r : Int)]) ++ rnF zs f (i + w) := by rw [h5]; simp
      rcases hbs with rfl | ⟨rfl, rfl, rfl⟩ | ⟨rfl, rfl, rfl, rfl⟩ | ⟨rfl, rfl, rfl, rfl, rfl⟩
      all_goals (
          first | (have FRx := FR; clear FRx) | have FR := fr0S
          have FA := Sm.mk (And.intro TFTxG (And.intro hdec (And.intro hs (And.intro s1 (And.intro q2 (And.intro q4 q5))))))
          repeat' first | (apply Sm.mk; refine Ys ?_) | refine WP.seq fun K hK => ?_ | (apply Ob.mk; exact Yo) | refine And.intro (Ob.out ?_) ?_ | refine Y1TxG ?_ | refine Yc (c := cL) (r := ?_) | refine Yc (c := cD) (r := ?_) | refine YzTxG ?_ | (refine WP.cond rfl (fun hc => ?_) (fun hc => ?_) <;> (try simp only [ZC, reduceCtorEq, ZD] at hc) <;> (try exact absurd hc (by decide)) <;> (try (exfalso; omega))) | refine Rt.mk (And.intro (fun hg => Sm.out ?_) fun hg => Sm.out ?_) | (refine Nu.mk ?_; first | (fail_if_success have := nb1); intro nb1 | (fail_if_success have := nb2); intro nb2 | (fail_if_success have := nb3); intro nb3 | (fail_if_success have := nb4); intro nb4 | intro nbz) | (apply Yfr; refine Yf FR fun hFRb FR => ?_) | refine Two.mk ?_ ?_ | (apply Yxc; exact Yx) | refine Cs.mk fun hcs => Sm.out ?_ | go_step | omega | (simp only [maxLen_eq]; omega) | exact trivial)
      all_goals exact ⟨⟨i + w, f, A ++ [(r : Int)], (r : Int)⟩, ⟨by simp only; omega, by simp only; omega, by simp only [hlen]; omega, fun h => by simp at h, hL2, hA1, fun _ => hA2⟩, by simp only; omega, (Sub.pick (by simp [pickB, hget, hdel, FR.out, hAn]) (by simp [look, hAn]))⟩
    · have hno : ¬ NameP L := fun hN => by
        have hLn : L.getD n 0 = (elR zs i).1 := by rw [h5, hn]; exact getD_mid _ _ _
        have hlen : n < L.length := by rw [h5, List.length_append, hAn]; simp
        have hin : inP n (elR zs i).1 := by
          by_cases hn0 : n = 0
          · left; have := hN.2.2.1; rw [hn0] at hLn; rw [hLn] at this; exact this
          · have := hN.2.2.2 n hlen
            rw [hLn] at this
            rcases this with h | h | h
            · exact .inl h
            · exact .inr ⟨by omega, .inl h⟩
            · exact .inr ⟨by omega, .inr h.2⟩
        rcases hcs with h | h
        · rw [h.1] at hin; exact hgo hin
        · rw [h.1] at hin
          obtain ⟨d1, d2, d3, d4⟩ := bad_rune
          rcases hin with h' | ⟨_, h' | h' | h'⟩
          · rw [d1] at h'; cases h'
          · rw [d2] at h'; cases h'
          · omega
          · omega
      have e : R = false := by rw [hR]; exact nmB_false hno
      rcases hbs with ⟨rfl, rfl⟩ | ⟨rfl, rfl, rfl, rfl, rfl⟩
      all_goals (
          first | (have FRx := FR; clear FRx) | have FR := fr0S
          have FA := Sm.mk (And.intro TFTxG (And.intro hdec (And.intro hs (And.intro s1 (And.intro q2 (And.intro q4 q5))))))
          repeat' first | (apply Sm.mk; refine Ys ?_) | refine WP.seq fun K hK => ?_ | (apply Ob.mk; exact Yo) | refine And.intro (Ob.out ?_) ?_ | refine Y1TxG ?_ | refine Yc (c := cL) (r := ?_) | refine Yc (c := cD) (r := ?_) | refine YzTxG ?_ | (refine WP.cond rfl (fun hc => ?_) (fun hc => ?_) <;> (try simp only [ZC, reduceCtorEq, ZD] at hc) <;> (try exact absurd hc (by decide)) <;> (try (exfalso; omega))) | refine Rt.mk (And.intro (fun hg => Sm.out ?_) fun hg => Sm.out ?_) | (refine Nu.mk ?_; first | (fail_if_success have := nb1); intro nb1 | (fail_if_success have := nb2); intro nb2 | (fail_if_success have := nb3); intro nb3 | (fail_if_success have := nb4); intro nb4 | intro nbz) | (apply Yfr; refine Yf FR fun hFRb FR => ?_) | refine Two.mk ?_ ?_ | (apply Yxc; exact Yx) | refine Cs.mk fun hcs => Sm.out ?_ | go_step | omega | (simp only [maxLen_eq]; omega) | exact trivial)
      all_goals (have FA := Sm.mk (And.intro e FA.out); refine Yg ?_; try exact trivial)
  · obtain rfl : i = zs.length := by omega
    have hLA : L = A := by
      rw [h5]
      cases f with
      | zero => exact List.append_nil _
      | succ f => rw [rnF_succ, if_neg (Nat.lt_irrefl _), List.append_nil]
    by_cases h0 : n = 0
    · have k1 : decide ((n : Int) > 0) = false := decide_eq_false (by omega)
      have e : R = false := by rw [hR]; exact nmB_false fun h => by have := h.1; rw [hLA] at this; omega
      first | (have FRx := FR; clear FRx) | have FR := fr0S
      have FA := Sm.mk (And.intro TFTxG (And.intro hs k1))
      repeat' first | (apply Sm.mk; refine Ys ?_) | refine WP.seq fun K hK => ?_ | (apply Ob.mk; exact Yo) | refine And.intro (Ob.out ?_) ?_ | refine Y1TxG ?_ | refine Yc (c := letter_ct last) (r := ?_) | refine Yc (c := digit_ct last) (r := ?_) | refine YzTxG ?_ | (refine WP.cond rfl (fun hc => ?_) (fun hc => ?_) <;> (try simp only [ZC, reduceCtorEq, ZD] at hc) <;> (try exact absurd hc (by decide)) <;> (try (exfalso; omega))) | refine Rt.mk (And.intro (fun hg => Sm.out ?_) fun hg => Sm.out ?_) | (refine Nu.mk ?_; first | (fail_if_success have := nb1); intro nb1 | (fail_if_success have := nb2); intro nb2 | (fail_if_success have := nb3); intro nb3 | (fail_if_success have := nb4); intro nb4 | intro nbz) | (apply Yfr; refine Yf FR fun hFRb FR => ?_) | refine Two.mk ?_ ?_ | (apply Yxc; exact Yx) | refine Cs.mk fun hcs => Sm.out ?_ | go_step | omega | (simp only [maxLen_eq]; omega) | exact trivial
      (have FA := Sm.mk (And.intro e FA.out); refine Yg ?_; try exact trivial)
    have k1 : decide ((n : Int) > 0) = true := decide_eq_true (by omega)
    by_cases h24 : n > 24
    · have k2 : decide ((n : Int) ≤ 24) = false := decide_eq_false (by omega)
      have e : R = false := by rw [hR]; exact nmB_false fun h => by have := h.2.1; rw [hLA] at this; omega
      first | (have FRx := FR; clear FRx) | have FR := fr0S
      have FA := Sm.mk (And.intro TFTxG (And.intro hs (And.intro k1 k2)))
      repeat' first | (apply Sm.mk; refine Ys ?_) | refine WP.seq fun K hK => ?_ | (apply Ob.mk; exact Yo) | refine And.intro (Ob.out ?_) ?_ | refine Y1TxG ?_ | refine Yc (c := letter_ct last) (r := ?_) | refine Yc (c := digit_ct last) (r := ?_) | refine YzTxG ?_ | (refine WP.cond rfl (fun hc => ?_) (fun hc => ?_) <;> (try simp only [ZC, reduceCtorEq, ZD] at hc) <;> (try exact absurd hc (by decide)) <;> (try (exfalso; omega))) | refine Rt.mk (And.intro (fun hg => Sm.out ?_) fun hg => Sm.out ?_) | (refine Nu.mk ?_; first | (fail_if_success have := nb1); intro nb1 | (fail_if_success have := nb2); intro nb2 | (fail_if_success have := nb3); intro nb3 | (fail_if_success have := nb4); intro nb4 | intro nbz) | (apply Yfr; refine Yf FR fun hFRb FR => ?_) | refine Two.mk ?_ ?_ | (apply Yxc; exact Yx) | refine Cs.mk fun hcs => Sm.out ?_ | go_step | omega | (simp only [maxLen_eq]; omega) | exact trivial
      (have FA := Sm.mk (And.intro e FA.out); refine Yg ?_; try exact trivial)
    have k2 : decide ((n : Int) ≤ 24) = true := decide_eq_true (by omega)
    have hend := name_end A last (by omega) (by omega) (fun q hq => h6 q (by omega)) (by rw [hAn]; exact h7 (by omega))
    rw [← hLA, ← hR] at hend
    have cL := letter_ct last
    have cD := digit_ct last
    obtain ⟨b1, hb1⟩ : ∃ b1, b1 = letB last := ⟨_, rfl⟩
    obtain ⟨b2, hb2⟩ : ∃ b2, b2 = digB last := ⟨_, rfl⟩
    rw [← hb1] at cL hend
    rw [← hb2] at cD hend
    cases b1
    · cases b2
      · have e : R = false := hend
        first | (have FRx := FR; clear FRx) | have FR := fr0S
        have FA := Sm.mk (And.intro TFTxG (And.intro hs (And.intro k1 k2)))
        repeat' first | (apply Sm.mk; refine Ys ?_) | refine WP.seq fun K hK => ?_ | (apply Ob.mk; exact Yo) | refine And.intro (Ob.out ?_) ?_ | refine Y1TxG ?_ | refine Yc (c := cL) (r := ?_) | refine Yc (c := cD) (r := ?_) | refine YzTxG ?_ | (refine WP.cond rfl (fun hc => ?_) (fun hc => ?_) <;> (try simp only [ZC, reduceCtorEq, ZD] at hc) <;> (try exact absurd hc (by decide)) <;> (try (exfalso; omega))) | refine Rt.mk (And.intro (fun hg => Sm.out ?_) fun hg => Sm.out ?_) | (refine Nu.mk ?_; first | (fail_if_success have := nb1); intro nb1 | (fail_if_success have := nb2); intro nb2 | (fail_if_success have := nb3); intro nb3 | (fail_if_success have := nb4); intro nb4 | intro nbz) | (apply Yfr; refine Yf FR fun hFRb FR => ?_) | refine Two.mk ?_ ?_ | (apply Yxc; exact Yx) | refine Cs.mk fun hcs => Sm.out ?_ | go_step | omega | (simp only [maxLen_eq]; omega) | exact trivial
        (have FA := Sm.mk (And.intro e FA.out); refine Yg ?_; try exact trivial)
      · have e : R = true := hend
        first | (have FRx := FR; clear FRx) | have FR := fr0S
        have FA := Sm.mk (And.intro TFTxG (And.intro hs (And.intro k1 k2)))
        repeat' first | (apply Sm.mk; refine Ys ?_) | refine WP.seq fun K hK => ?_ | (apply Ob.mk; exact Yo) | refine And.intro (Ob.out ?_) ?_ | refine Y1TxG ?_ | refine Yc (c := cL) (r := ?_) | refine Yc (c := cD) (r := ?_) | refine YzTxG ?_ | (refine WP.cond rfl (fun hc => ?_) (fun hc => ?_) <;> (try simp only [ZC, reduceCtorEq, ZD] at hc) <;> (try exact absurd hc (by decide)) <;> (try (exfalso; omega))) | refine Rt.mk (And.intro (fun hg => Sm.out ?_) fun hg => Sm.out ?_) | (refine Nu.mk ?_; first | (fail_if_success have := nb1); intro nb1 | (fail_if_success have := nb2); intro nb2 | (fail_if_success have := nb3); intro nb3 | (fail_if_success have := nb4); intro nb4 | intro nbz) | (apply Yfr; refine Yf FR fun hFRb FR => ?_) | refine Two.mk ?_ ?_ | (apply Yxc; exact Yx) | refine Cs.mk fun hcs => Sm.out ?_ | go_step | omega | (simp only [maxLen_eq]; omega) | exact trivial
        (have FA := Sm.mk (And.intro e FA.out); refine Yg ?_; try exact trivial)
    · have e : R = true := hend
      first | (have FRx := FR; clear FRx) | have FR := fr0S
      have FA := Sm.mk (And.intro TFTxG (And.intro hs (And.intro k1 k2)))
      repeat' first | (apply Sm.mk; refine Ys ?_) | refine WP.seq fun K hK => ?_ | (apply Ob.mk; exact Yo) | refine And.intro (Ob.out ?_) ?_ | refine Y1TxG ?_ | refine Yc (c := cL) (r := ?_) | refine Yc (c := cD) (r := ?_) | refine YzTxG ?_ | (refine WP.cond rfl (fun hc => ?_) (fun hc => ?_) <;> (try simp only [ZC, reduceCtorEq, ZD] at hc) <;> (try exact absurd hc (by decide)) <;> (try (exfalso; omega))) | refine Rt.mk (And.intro (fun hg => Sm.out ?_) fun hg => Sm.out ?_) | (refine Nu.mk ?_; first | (fail_if_success have := nb1); intro nb1 | (fail_if_success have := nb2); intro nb2 | (fail_if_success have := nb3); intro nb3 | (fail_if_success have := nb4); intro nb4 | intro nbz) | (apply Yfr; refine Yf FR fun hFRb FR => ?_) | refine Two.mk ?_ ?_ | (apply Yxc; exact Yx) | refine Cs.mk fun hcs => Sm.out ?_ | go_step | omega | (simp only [maxLen_eq]; omega) | exact trivial
      (have FA := Sm.mk (And.intro e FA.out); refine Yg ?_; try exact trivial)
end Go.Proofs.YtaffbklkjjmmdaaDoor
