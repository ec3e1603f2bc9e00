/-
  The walks and the laws that the statement leans on, part 13.
-/
import Derived.Test.YtpidkkgjgichdaaDoorZ12
namespace Go.Proofs.YtpidkkgjgichdaaDoor
open Go
set_option linter.unusedVariables false
set_option linter.unusedSimpArgs false
set_option linter.defProp false
def TFTxF :=
  And.intro (And.intro (And.intro (And.intro tyc0 tyc3) (And.intro zmb3 (And.intro tyc4 zmb4))) (And.intro (And.intro tyc9 zmb9) (And.intro tyc21 (And.intro zmb21 tyc90)))) (And.intro (And.intro (And.intro elt90 mkz90) (And.intro apT90 (And.intro elk90 zmb90))) (And.intro (And.intro Tryd.underlying0 (And.intro Tryd.underlying3 Tryd.underlying4)) (And.intro Tryd.underlying9 (And.intro Tryd.underlying21 Tryd.underlying90))))
theorem Y1TxF {G R : Prop} (r : R) (h : R → G := by intro r; first | (apply WP.region; exact rvc_sound _ _ (Sm.out r)) | exact WP.drawK rfl mixed (by decide +kernel) (Sm.out r) | (apply WP.block; exact r) | (apply WP.skip; exact Yq r) | (apply WP.exit; exact Yq r) | (apply WP.ret; exact Sm.out r) | exact WP.cond rfl (fun _ => r) (fun hg => absurd hg (by decide)) | exact WP.cond rfl (fun hg => absurd hg (by decide)) (fun _ => r) | exact Rt.mk (And.intro (fun _ => Sm.out r) fun hg => absurd hg (by decide)) | exact Rt.mk (And.intro (fun hg => absurd hg (by decide)) fun _ => Sm.out r)) : G := h r
theorem YzTxF {G R : Prop} (r : R) (h : R → G := by intro r; first | (apply ExG.no; exact Sm.out r) | (apply Or.inl; apply ExG.no; exact Sm.out r) | exact Or.inl (And.intro (fun hg => absurd hg (by decide)) (ExG.no (Sm.out r)))) : G := h r
theorem YsTxF0 {P Q : Prop} (q : Q) (h : P = Q := by (try (conv => lhs; simp -dsimp only [ZK, rvc, drawF, headN, pureH, stp, dvc, calleeOf, gcall, pev, eff, newB, okd, og, ogs, ogo, ogp, slv, bltv, opd, litv, strip, one, both, putE, St.put, look, gdOf, gdv, picka, pickv, pickw, binv, bini, bins, binb, binp, binq, isSlT, bina, shp, eqCells, unv, convv, nilv, faddv, addp, idxav, idxp, load1, load1m, loadn, loadnm, loadv, hget, hset, hrep, hdel, slicev, slice3v, bnd, shift1, lenv, capv, IntKind.bits, extractv, fieldv, indexv, min2v, max2v, mkiv, tasv, tasz, cellsA, fillA, buildv, stC, oneC, rowMB, intsA, plN, appE, appZ, appC, appS, srcB, appNZ, appNC, VwL, srcC, srcZ, srcM, isBoolT, isPtrT, isSliceT, uOk, Value.oneCell', Nat.reducePow, Int.reducePow, Nat.reduceAdd, Nat.reduceMul, Nat.reduceSub, Nat.reduceLT, Nat.reduceLeDiff, Nat.reduceEqDiff, Nat.reduceBEq, Nat.reduceDiv, Nat.reduceMod, ↓reduceIte, reduceCtorEq, Int.reduceToNat, Int.reduceLT, Int.reduceLE, TFTxF, SeqQ, BlkQ, LoopQ, BodyQ, hin, FA.out, FR.out])) <;> exact rfl) : P := h.mpr q
def okN (n i : Nat) (x : Int) : Prop := letB x = true ∨ digB x = true ∨ (i ≠ n - 1 ∧ (x = 95 ∨ x = 45))
def NameP (L : List Int) : Prop := 0 < L.length ∧ L.length ≤ 24 ∧ letB (L.getD 0 0) = true ∧ ∀ i, i < L.length → okN L.length i (L.getD i 0)
open Classical in
noncomputable def nmB (L : List Int) : Bool := decide (NameP L)
open Classical in
theorem nmB_true {L : List Int} (h : NameP L) : nmB L = true := by unfold nmB; exact decide_eq_true h
open Classical in
theorem nmB_false {L : List Int} (h : ¬ NameP L) : nmB L = false := by unfold nmB; exact decide_eq_false h
theorem rnF_len (zs : List Int) : ∀ f i, (rnF zs f i).length ≤ f := by
  intro f
  induction f with
  | zero => intro i; exact Nat.le_refl _
  | succ f ih =>
    intro i
    rw [rnF_succ]
    split
    · have := ih (i + (elR zs i).2); simp; exact this
    · simp
set_option maxHeartbeats 8000000 in
theorem rname_ct (zs : List Int) (hb : By zs) (hl : zs.length ≤ 1000) : ACt Tryd.prog 46 [stz zs] [] (Fn (bv (nmB (rn zs)))) := by
  have cR := ACt.fzRow (runes_ct zs hb (by omega))
  have hL : (rn zs).length ≤ 1000 := by have := rnF_len zs zs.length 0; unfold rn; omega
  have hbd : ∀ i, i < (rn zs).length → True := fun _ _ => trivial
  obtain ⟨L, eL⟩ : ∃ L, L = rn zs := ⟨_, rfl⟩
  rw [← eL] at cR hL ⊢
  obtain ⟨R, hR⟩ : ∃ R, R = nmB L := ⟨_, rfl⟩
  rw [← hR]
  have cL := fun r => rletter_ct r
  obtain ⟨n, hn⟩ : ∃ n, n = L.length := ⟨_, rfl⟩
  have hLn : L.length = n := hn.symm
  by_cases h0 : n = 0
  · have k1 : ((n : Int) == 0) = true := beq_iff_eq.2 (by omega)
    have e : R = false := by rw [hR]; exact nmB_false fun h => by have := h.1; omega
    refine ACt.intro Tryd.func46 rfl (by kernel_rfl) (by simp [Tryd.ntmps46]) (fun cx => ?_)
    simp only [argE, Tryd.ntmps46, Tryd.results46]
    first | (have FRx := FR; clear FRx) | have FR := fr0S
    have FA := Sm.mk (And.intro TFTxF (And.intro hLn k1))
    repeat' first | (apply Sm.mk; refine Ys ?_) | refine WP.seq fun K hK => ?_ | (apply Ob.mk; exact Yo) | refine And.intro (Ob.out ?_) ?_ | refine Y1TxF ?_ | refine Yc (c := cR) (r := ?_) | refine YzTxF ?_ | (refine WP.cond rfl (fun hc => ?_) (fun hc => ?_) <;> (try simp only [ZC, reduceCtorEq, ZD] at hc) <;> (try exact absurd hc (by decide)) <;> (try (exfalso; omega))) | refine Rt.mk (And.intro (fun hg => Sm.out ?_) fun hg => Sm.out ?_) | (refine Nu.mk ?_; first | (fail_if_success have := nb1); intro nb1 | (fail_if_success have := nb2); intro nb2 | (fail_if_success have := nb3); intro nb3 | (fail_if_success have := nb4); intro nb4 | intro nbz) | (apply Yfr; refine Yf FR fun hFRb FR => ?_) | refine Two.mk ?_ ?_ | (apply Yxc; exact Yx) | refine Cs.mk fun hcs => Sm.out ?_ | go_step | omega | (simp only [maxLen_eq]; omega) | exact trivial
    (have FA := Sm.mk (And.intro e FA.out); refine Yg ?_; try exact trivial)
  have k1 : ((n : Int) == 0) = false := beq_eq_false_iff_ne.2 (by omega)
  by_cases h24 : n > 24
  · have k2 : decide ((n : Int) > 24) = true := decide_eq_true (by omega)
    have e : R = false := by rw [hR]; exact nmB_false fun h => by have := h.2.1; omega
    refine ACt.intro Tryd.func46 rfl (by kernel_rfl) (by simp [Tryd.ntmps46]) (fun cx => ?_)
    simp only [argE, Tryd.ntmps46, Tryd.results46]
    first | (have FRx := FR; clear FRx) | have FR := fr0S
    have FA := Sm.mk (And.intro TFTxF (And.intro hLn (And.intro k1 k2)))
    repeat' first | (apply Sm.mk; refine Ys ?_) | refine WP.seq fun K hK => ?_ | (apply Ob.mk; exact Yo) | refine And.intro (Ob.out ?_) ?_ | refine Y1TxF ?_ | refine Yc (c := cR) (r := ?_) | refine YzTxF ?_ | (refine WP.cond rfl (fun hc => ?_) (fun hc => ?_) <;> (try simp only [ZC, reduceCtorEq, ZD] at hc) <;> (try exact absurd hc (by decide)) <;> (try (exfalso; omega))) | refine Rt.mk (And.intro (fun hg => Sm.out ?_) fun hg => Sm.out ?_) | (refine Nu.mk ?_; first | (fail_if_success have := nb1); intro nb1 | (fail_if_success have := nb2); intro nb2 | (fail_if_success have := nb3); intro nb3 | (fail_if_success have := nb4); intro nb4 | intro nbz) | (apply Yfr; refine Yf FR fun hFRb FR => ?_) | refine Two.mk ?_ ?_ | (apply Yxc; exact Yx) | refine Cs.mk fun hcs => Sm.out ?_ | go_step | omega | (simp only [maxLen_eq]; omega) | exact trivial
    (have FA := Sm.mk (And.intro e FA.out); refine Yg ?_; try exact trivial)
  have k2 : decide ((n : Int) > 24) = false := decide_eq_false (by omega)
  have hpos : 0 < n := by omega
  have c0 := cL (L.getD 0 0)
  cases hl0 : letB (L.getD 0 0)
  · rw [hl0] at c0
    have e : R = false := by rw [hR]; exact nmB_false fun h => by have := h.2.2.1; rw [hl0] at this; cases this
    refine ACt.intro Tryd.func46 rfl (by kernel_rfl) (by simp [Tryd.ntmps46]) (fun cx => ?_)
    simp only [argE, Tryd.ntmps46, Tryd.results46]
    first | (have FRx := FR; clear FRx) | have FR := fr0S
    have FA := Sm.mk (And.intro TFTxF (And.intro hLn (And.intro k1 (And.intro k2 hpos))))
    repeat' first | (apply Sm.mk; refine Ys ?_) | refine WP.seq fun K hK => ?_ | (apply Ob.mk; exact Yo) | refine And.intro (Ob.out ?_) ?_ | refine Y1TxF ?_ | refine Yc (c := cR) (r := ?_) | refine Yc (c := c0) (r := ?_) | refine YzTxF ?_ | (refine WP.cond rfl (fun hc => ?_) (fun hc => ?_) <;> (try simp only [ZC, reduceCtorEq, ZD] at hc) <;> (try exact absurd hc (by decide)) <;> (try (exfalso; omega))) | refine Rt.mk (And.intro (fun hg => Sm.out ?_) fun hg => Sm.out ?_) | (refine Nu.mk ?_; first | (fail_if_success have := nb1); intro nb1 | (fail_if_success have := nb2); intro nb2 | (fail_if_success have := nb3); intro nb3 | (fail_if_success have := nb4); intro nb4 | intro nbz) | (apply Yfr; refine Yf FR fun hFRb FR => ?_) | refine Two.mk ?_ ?_ | (apply Yxc; exact Yx) | refine Cs.mk fun hcs => Sm.out ?_ | go_step | omega | (simp only [maxLen_eq]; omega) | exact trivial
    (have FA := Sm.mk (And.intro e FA.out); refine Yg ?_; try exact trivial)
  · rw [hl0] at c0
    refine ACt.intro Tryd.func46 rfl (by kernel_rfl) (by simp [Tryd.ntmps46]) (fun cx => ?_)
    simp only [argE, Tryd.ntmps46, Tryd.results46]
    first | (have FRx := FR; clear FRx) | have FR := fr0S
    have FA := Sm.mk (And.intro TFTxF (And.intro hLn (And.intro k1 (And.intro k2 hpos))))
    repeat' first | (apply Sm.mk; refine Ys ?_) | refine WP.seq fun K hK => ?_ | (apply Ob.mk; exact Yo) | refine And.intro (Ob.out ?_) ?_ | refine Y1TxF ?_ | refine Yc (c := cR) (r := ?_) | refine Yc (c := c0) (r := ?_) | refine YzTxF ?_ | (refine WP.cond rfl (fun hc => ?_) (fun hc => ?_) <;> (try simp only [ZC, reduceCtorEq, ZD] at hc) <;> (try exact absurd hc (by decide)) <;> (try (exfalso; omega))) | refine Rt.mk (And.intro (fun hg => Sm.out ?_) fun hg => Sm.out ?_) | (refine Nu.mk ?_; first | (fail_if_success have := nb1); intro nb1 | (fail_if_success have := nb2); intro nb2 | (fail_if_success have := nb3); intro nb3 | (fail_if_success have := nb4); intro nb4 | intro nbz) | (apply Yfr; refine Yf FR fun hFRb FR => ?_) | refine Two.mk ?_ ?_ | (apply Yxc; exact Yx) | refine Cs.mk fun hcs => Sm.out ?_ | go_step | omega | (simp only [maxLen_eq]; omega) | exact trivial
    refine WP.loop (Γ := Nat) (fun i => ⟨[(4, iv .i64 (i : Int)), (3, .slz .i32 L)], []⟩) (fun i => i ≤ n ∧ ∀ q, q < i → okN n q (L.getD q 0)) (fun i => n - i) 0 ⟨Nat.zero_le _, fun q hq => absurd hq (Nat.not_lt_zero _)⟩ (Sub.pick (by simp [pickB, hget, hdel, FR.out]) (by simp [look])) ?_
    intro i ⟨hi, hok⟩
    have FR : Sm (¬ ((1 : Nat) = 0)) := Sm.mk Nat.one_ne_zero
    by_cases hin : i < n
    · have ki : decide ((i : Int) < (n : Int)) = true := decide_eq_true (by omega)
      have w1 : IntKind.i64.wrap ((n : Int) - 1) = ((n - 1 : Nat) : Int) := by rw [wrap_i64 (by omega) (by omega)]; omega
      obtain ⟨e1, he1⟩ : ∃ e1, e1 = n - 1 := ⟨_, rfl⟩
      rw [← he1] at w1
      have s1 : IntKind.i64.wrap ((i : Int) + 1) = ((i + 1 : Nat) : Int) := by rw [wrap_i64 (by omega) (by omega)]; omega
      have t1 : ∀ k : Nat, ((k : Nat) : Int).toNat = k := fun k => by omega
      have cX := cL (L.getD i 0)
      obtain ⟨X, hX⟩ : ∃ X, X = L.getD i 0 := ⟨_, rfl⟩
      have hX' : L.getD i 0 = X := hX.symm
      have hX2 : L[i]?.getD 0 = X := by rw [hX]; rfl
      rw [← hX] at cX
      obtain ⟨b1, b2, b3, b4, b5, b6, q1, q2, q3, q4, q5, q6, hbs⟩ : ∃ b1 b2 b3 b4 b5 b6 : Bool, letB X = b1 ∧ decide (X ≥ 48) = b2 ∧ decide (X ≤ 57) = b3 ∧ ((i : Int) == (e1 : Int)) = b4 ∧ (X != 95) = b5 ∧ (X != 45) = b6 ∧
          (((b1 = true ∧ b2 = true ∧ b3 = true ∨ b1 = true ∧ b2 = true ∧ b3 = false ∨ b1 = true ∧ b2 = false ∨ b1 = false ∧ b2 = true ∧ b3 = true ∨ b1 = false ∧ b2 = true ∧ b3 = false ∧ b4 = false ∧ b5 = false ∨ b1 = false ∧ b2 = true ∧ b3 = false ∧ b4 = false ∧ b5 = true ∧ b6 = false ∨ b1 = false ∧ b2 = false ∧ b4 = false ∧ b5 = false ∨ b1 = false ∧ b2 = false ∧ b4 = false ∧ b5 = true ∧ b6 = false) ∧ okN n i X) ∨
           ((b1 = false ∧ b2 = true ∧ b3 = false ∧ b4 = true ∨ b1 = false ∧ b2 = true ∧ b3 = false ∧ b4 = false ∧ b5 = true ∧ b6 = true ∨ b1 = false ∧ b2 = false ∧ b4 = true ∨ b1 = false ∧ b2 = false ∧ b4 = false ∧ b5 = true ∧ b6 = true) ∧ ¬ okN n i X)) := by
        refine ⟨_, _, _, _, _, _, rfl, rfl, rfl, rfl, rfl, rfl, ?_⟩
        unfold okN digB
        cases hB1 : letB X
        · by_cases h48 : 48 ≤ X
          · by_cases h57 : X ≤ 57
            · exact .inl ⟨.inr (.inr (.inr (.inl ⟨rfl, decide_eq_true h48, decide_eq_true h57⟩))), .inr (.inl (decide_eq_true ⟨h48, h57⟩))⟩
            · by_cases he : i = e1
              · exact .inr ⟨.inl ⟨rfl, decide_eq_true h48, decide_eq_false h57, beq_iff_eq.2 (by omega)⟩, fun h => by
                  rcases h with h | h | h
                  · cases h
                  · have := of_decide_eq_true h; omega
                  · omega⟩
              · by_cases h95 : X = 95
                · exact .inl ⟨.inr (.inr (.inr (.inr (.inl ⟨rfl, decide_eq_true h48, decide_eq_false h57, beq_eq_false_iff_ne.2 (by omega), by rw [bne_eq_false_iff_eq]; exact h95⟩)))), .inr (.inr ⟨by omega, .inl h95⟩)⟩
                · exact .inr ⟨.inr (.inl ⟨rfl, decide_eq_true h48, decide_eq_false h57, beq_eq_false_iff_ne.2 (by omega), bne_iff_ne.2 h95, bne_iff_ne.2 (by omega)⟩), fun h => by
                    rcases h with h | h | h
                    · cases h
                    · have := of_decide_eq_true h; omega
                    · omega⟩
          · by_cases he : i = e1
            · exact .inr ⟨.inr (.inr (.inl ⟨rfl, decide_eq_false h48, beq_iff_eq.2 (by omega)⟩)), fun h => by
                rcases h with h | h | h
                · cases h
                · have := of_decide_eq_true h; omega
                · omega⟩
            · by_cases h45 : X = 45
              · exact .inl ⟨.inr (.inr (.inr (.inr (.inr (.inr (.inr ⟨rfl, decide_eq_false h48, beq_eq_false_iff_ne.2 (by omega), bne_iff_ne.2 (by omega), by rw [bne_eq_false_iff_eq]; exact h45⟩)))))), .inr (.inr ⟨by omega, .inr h45⟩)⟩
              · exact .inr ⟨.inr (.inr (.inr ⟨rfl, decide_eq_false h48, beq_eq_false_iff_ne.2 (by omega), bne_iff_ne.2 (by omega), bne_iff_ne.2 h45⟩)), fun h => by
                  rcases h with h | h | h
                  · cases h
                  · have := of_decide_eq_true h; omega
                  · omega⟩
        · by_cases h48 : 48 ≤ X
          · by_cases h57 : X ≤ 57
            · exact .inl ⟨.inl ⟨rfl, decide_eq_true h48, decide_eq_true h57⟩, .inl rfl⟩
            · exact .inl ⟨.inr (.inl ⟨rfl, decide_eq_true h48, decide_eq_false h57⟩), .inl rfl⟩
          · exact .inl ⟨.inr (.inr (.inl ⟨rfl, decide_eq_false h48⟩)), .inl rfl⟩
      rw [q1] at cX
      have cX' := cX
      rw [hX] at cX'
      rcases hbs with ⟨hbs, hgo⟩ | ⟨hbs, hgo⟩
      · have hnext : ∀ q, q < i + 1 → okN n q (L.getD q 0) := fun q hq => by
          by_cases hqi : q = i
          · rw [hqi, hX']; exact hgo
          · exact hok q (by omega)
        rcases hbs with ⟨rfl, rfl, rfl⟩ | ⟨rfl, rfl, rfl⟩ | ⟨rfl, rfl⟩ | ⟨rfl, rfl, rfl⟩ | ⟨rfl, rfl, rfl, rfl, rfl⟩ | ⟨rfl, rfl, rfl, rfl, rfl, rfl⟩ | ⟨rfl, rfl, rfl, rfl⟩ | ⟨rfl, rfl, rfl, rfl, rfl⟩
        all_goals (
            first | (have FRx := FR; clear FRx) | have FR := fr0S
            have FA := Sm.mk (And.intro TFTxF (And.intro hLn (And.intro ki (And.intro w1 (And.intro s1 (And.intro t1 (And.intro hX' (And.intro hX2 (And.intro q2 (And.intro q3 (And.intro q4 (And.intro q5 q6))))))))))))
            repeat' first | (apply Sm.mk; refine YsTxF0 ?_) | refine WP.seq fun K hK => ?_ | (apply Ob.mk; exact Yo) | refine And.intro (Ob.out ?_) ?_ | refine Y1TxF ?_ | refine Yc (c := cX) (r := ?_) | refine Yc (c := cX') (r := ?_) | refine YzTxF ?_ | (refine WP.cond rfl (fun hc => ?_) (fun hc => ?_) <;> (try simp only [ZC, reduceCtorEq, ZD] at hc) <;> (try exact absurd hc (by decide)) <;> (try (exfalso; omega))) | refine Rt.mk (And.intro (fun hg => Sm.out ?_) fun hg => Sm.out ?_) | (refine Nu.mk ?_; first | (fail_if_success have := nb1); intro nb1 | (fail_if_success have := nb2); intro nb2 | (fail_if_success have := nb3); intro nb3 | (fail_if_success have := nb4); intro nb4 | intro nbz) | (apply Yfr; refine Yf FR fun hFRb FR => ?_) | refine Two.mk ?_ ?_ | (apply Yxc; exact Yx) | refine Cs.mk fun hcs => Sm.out ?_ | go_step | omega | (simp only [maxLen_eq]; omega) | exact trivial)
        all_goals exact ⟨i + 1, ⟨by omega, hnext⟩, by omega, (Sub.pick (by simp [pickB, hget, hdel, FR.out]) (by simp [look]))⟩
      · have e : R = false := by rw [hR]; exact nmB_false fun h => hgo (by rw [← hX', hn]; exact h.2.2.2 i (by omega))
        rcases hbs with ⟨rfl, rfl, rfl, rfl⟩ | ⟨rfl, rfl, rfl, rfl, rfl, rfl⟩ | ⟨rfl, rfl, rfl⟩ | ⟨rfl, rfl, rfl, rfl, rfl⟩
        all_goals (
            first | (have FRx := FR; clear FRx) | have FR := fr0S
            have FA := Sm.mk (And.intro TFTxF (And.intro hLn (And.intro ki (And.intro w1 (And.intro s1 (And.intro t1 (And.intro hX' (And.intro hX2 (And.intro q2 (And.intro q3 (And.intro q4 (And.intro q5 q6))))))))))))
            repeat' first | (apply Sm.mk; refine YsTxF0 ?_) | refine WP.seq fun K hK => ?_ | (apply Ob.mk; exact Yo) | refine And.intro (Ob.out ?_) ?_ | refine Y1TxF ?_ | refine Yc (c := cX) (r := ?_) | refine Yc (c := cX') (r := ?_) | refine YzTxF ?_ | (refine WP.cond rfl (fun hc => ?_) (fun hc => ?_) <;> (try simp only [ZC, reduceCtorEq, ZD] at hc) <;> (try exact absurd hc (by decide)) <;> (try (exfalso; omega))) | refine Rt.mk (And.intro (fun hg => Sm.out ?_) fun hg => Sm.out ?_) | (refine Nu.mk ?_; first | (fail_if_success have := nb1); intro nb1 | (fail_if_success have := nb2); intro nb2 | (fail_if_success have := nb3); intro nb3 | (fail_if_success have := nb4); intro nb4 | intro nbz) | (apply Yfr; refine Yf FR fun hFRb FR => ?_) | refine Two.mk ?_ ?_ | (apply Yxc; exact Yx) | refine Cs.mk fun hcs => Sm.out ?_ | go_step | omega | (simp only [maxLen_eq]; omega) | exact trivial)
        all_goals (have FA := Sm.mk (And.intro e FA.out); refine Yg ?_; try exact trivial)
    · obtain rfl : i = n := by omega
      have ki : decide ((i : Int) < (i : Int)) = false := decide_eq_false (by omega)
      have e : R = true := by rw [hR]; exact nmB_true ⟨by omega, by omega, hl0, fun q hq => by rw [hLn] at hq ⊢; exact hok q hq⟩
      first | (have FRx := FR; clear FRx) | have FR := fr0S
      have FA := Sm.mk (And.intro TFTxF (And.intro hLn ki))
      repeat' first | (apply Sm.mk; refine Ys ?_) | refine WP.seq fun K hK => ?_ | (apply Ob.mk; exact Yo) | refine And.intro (Ob.out ?_) ?_ | refine Y1TxF ?_ | refine YzTxF ?_ | (refine WP.cond rfl (fun hc => ?_) (fun hc => ?_) <;> (try simp only [ZC, reduceCtorEq, ZD] at hc) <;> (try exact absurd hc (by decide)) <;> (try (exfalso; omega))) | refine Rt.mk (And.intro (fun hg => Sm.out ?_) fun hg => Sm.out ?_) | (refine Nu.mk ?_; first | (fail_if_success have := nb1); intro nb1 | (fail_if_success have := nb2); intro nb2 | (fail_if_success have := nb3); intro nb3 | (fail_if_success have := nb4); intro nb4 | intro nbz) | (apply Yfr; refine Yf FR fun hFRb FR => ?_) | refine Two.mk ?_ ?_ | (apply Yxc; exact Yx) | refine Cs.mk fun hcs => Sm.out ?_ | go_step | omega | (simp only [maxLen_eq]; omega) | exact trivial
      (have FA := Sm.mk (And.intro e FA.out); refine Yg ?_; try exact trivial)
def TFTxG :=
  And.intro (And.intro (And.intro tyc0 (And.intro tyc3 zmb3)) (And.intro (And.intro tyc4 zmb4) (And.intro tyc9 zmb9))) (And.intro (And.intro tyc21 (And.intro zmb21 Tryd.underlying0)) (And.intro (And.intro Tryd.underlying3 Tryd.underlying4) (And.intro Tryd.underlying9 Tryd.underlying21)))
theorem Y1TxG {G R : Prop} (r : R) (h : R → G := by intro r; first | (apply WP.region; exact rvc_sound _ _ (Sm.out r)) | exact WP.drawK rfl mixed (by decide +kernel) (Sm.out r) | (apply WP.block; exact r) | (apply WP.skip; exact Yq r) | (apply WP.exit; exact Yq r) | (apply WP.ret; exact Sm.out r) | exact WP.cond rfl (fun _ => r) (fun hg => absurd hg (by decide)) | exact WP.cond rfl (fun hg => absurd hg (by decide)) (fun _ => r) | exact Rt.mk (And.intro (fun _ => Sm.out r) fun hg => absurd hg (by decide)) | exact Rt.mk (And.intro (fun hg => absurd hg (by decide)) fun _ => Sm.out r)) : G := h r
theorem YzTxG {G R : Prop} (r : R) (h : R → G := by intro r; first | (apply ExG.no; exact Sm.out r) | (apply Or.inl; apply ExG.no; exact Sm.out r) | exact Or.inl (And.intro (fun hg => absurd hg (by decide)) (ExG.no (Sm.out r)))) : G := h r
def inP (q : Nat) (x : Int) : Prop := letB x = true ∨ (0 < q ∧ (digB x = true ∨ x = 95 ∨ x = 45))
structure NmG where
  i : Nat
  f : Nat
  A : List Int
  last : Int
theorem getD_last (A : List Int) (e : Int) : (A ++ [e]).getD A.length 0 = e := by simp [List.getD_eq_getElem?_getD]
theorem getD_app (A : List Int) (e : Int) {q : Nat} (h : q < A.length) : (A ++ [e]).getD q 0 = A.getD q 0 := by simp [List.getD_eq_getElem?_getD, List.getElem?_append_left h]
theorem getD_mid (A T : List Int) (e : Int) : (A ++ e :: T).getD A.length 0 = e := by simp [List.getD_eq_getElem?_getD]
theorem bad_rune : letB (-1) = false ∧ digB (-1) = false ∧ letB 65533 = false ∧ digB 65533 = false := by decide +kernel
theorem name_end (L : List Int) (last : Int) (h0 : 0 < L.length) (h24 : L.length ≤ 24) (hp : ∀ q, q < L.length → inP q (L.getD q 0)) (hl : last = L.getD (L.length - 1) 0) : nmB L = (letB last || digB last) := by
  cases h1 : letB last
  · cases h2 : digB last
    · refine nmB_false fun h => ?_
      have := h.2.2.2 (L.length - 1) (by omega)
      rw [← hl] at this
      rcases this with h3 | h3 | h3
      · rw [h1] at h3; cases h3
      · rw [h2] at h3; cases h3
      · exact h3.1 rfl
    · refine nmB_true ⟨h0, h24, ?_, fun i hi => ?_⟩
      · rcases hp 0 h0 with h | h
        · exact h
        · omega
      · rcases hp i hi with h | h
        · exact .inl h
        · by_cases he : i = L.length - 1
          · refine .inr (.inl ?_); rw [he, ← hl]; exact h2
          · rcases h.2 with h3 | h3
            · exact .inr (.inl h3)
            · exact .inr (.inr ⟨he, h3⟩)
  · refine nmB_true ⟨h0, h24, ?_, fun i hi => ?_⟩
    · rcases hp 0 h0 with h | h
      · exact h
      · omega
    · rcases hp i hi with h | h
      · exact .inl h
      · by_cases he : i = L.length - 1
        · refine .inl ?_; rw [he, ← hl]; exact h1
        · rcases h.2 with h3 | h3
          · exact .inr (.inl h3)
          · exact .inr (.inr ⟨he, h3⟩)
set_option maxHeartbeats 8000000 in
theorem name_ct (zs : List Int) (hb : By zs) (hl : zs.length ≤ 1000) : ACt Tryd.prog 50 [stz zs] [] (Fn (bv (nmB (rn zs)))) := by
  have hs := bstr_size zs
  have hel := fun i (h : i < zs.length) => el_dec hb h
  obtain ⟨B, hB⟩ : ∃ B, B = bstr zs := ⟨_, rfl⟩
  unfold stz
  rw [← hB] at hs ⊢
  simp only [← hB] at hel
  obtain ⟨L, hL⟩ : ∃ L, L = rn zs := ⟨_, rfl⟩
  rw [← hL]
  obtain ⟨R, hR⟩ : ∃ R, R = nmB L := ⟨_, rfl⟩
  rw [← hR]
  refine ACt.intro Tryd.func50 rfl (by kernel_rfl) (by simp [Tryd.ntmps50]) (fun cx => ?_)
  simp only [argE, Tryd.ntmps50, Tryd.results50]
  first | (have FRx := FR; clear FRx) | have FR := fr0S
  have FA := Sm.mk (TFTxG)
  repeat' first | (apply Sm.mk; refine Ys ?_) | refine WP.seq fun K hK => ?_ | (apply Ob.mk; exact Yo) | refine And.intro (Ob.out ?_) ?_ | refine Y1TxG ?_ | refine YzTxG ?_ | (refine WP.cond rfl (fun hc => ?_) (fun hc => ?_) <;> (try simp only [ZC, reduceCtorEq, ZD] at hc) <;> (try exact absurd hc (by decide)) <;> (try (exfalso; omega))) | refine Rt.mk (And.intro (fun hg => Sm.out ?_) fun hg => Sm.out ?_) | (refine Nu.mk ?_; first | (fail_if_success have := nb1); intro nb1 | (fail_if_success have := nb2); intro nb2 | (fail_if_success have := nb3); intro nb3 | (fail_if_success have := nb4); intro nb4 | intro nbz) | (apply Yfr; refine Yf FR fun hFRb FR => ?_) | refine Two.mk ?_ ?_ | (apply Yxc; exact Yx) | refine Cs.mk fun hcs => Sm.out ?_ | go_step | omega | (simp only [maxLen_eq]; omega) | exact trivial
  refine WP.loop (Γ := NmG) (fun g => ⟨[(9, pt nb1 0), (3, iv .i64 (g.A.length : Int)), (4, iv .i32 g.last)], [(nb1, .obj (.stringIter B g.i))]⟩)
    (fun g => g.i ≤ zs.length ∧ zs.length - g.i ≤ g.f ∧ g.A.length ≤ g.i ∧ (g.A.length = 0 → g.i = 0) ∧ L = g.A ++ rnF zs g.f g.i ∧ (∀ q, q < g.A.length → inP q (g.A.getD q 0)) ∧ (0 < g.A.length → g.last = g.A.getD (g.A.length - 1) 0)) (fun g => zs.length - g.i) ⟨0, zs.length, [], 32⟩
    ⟨by simp, by simp, by simp, fun _ => rfl, hL, fun q hq => absurd hq (Nat.not_lt_zero _), fun h => absurd h (Nat.lt_irrefl _)⟩ (Sub.pick (by simp [pickB, hget, hdel, FR.out]) (by simp [look])) ?_
  intro ⟨i, f, A, last⟩ ⟨h1, h2, h3, h4, h5, h6, h7⟩
  simp only at h1 h2 h3 h4 h5 h6 h7 ⊢
  have FR : Sm (¬ ((1 : Nat) = 0)) := Sm.mk Nat.one_ne_zero
  obtain ⟨n, hn⟩ : ∃ n, n = A.length := ⟨_, rfl⟩
  rw [← hn] at h3 h4 h6 h7 ⊢
  have hAn : A.length = n := hn.symm
  by_cases hi : i < zs.length
  · obtain ⟨f, rfl⟩ : ∃ f', f = f' + 1 := ⟨f - 1, by omega⟩
    rw [rnF_succ, if_pos hi] at h5
    obtain ⟨r, w, hdec, hr, hcs⟩ := hel i hi
    have s1 : IntKind.i64.wrap ((n : Int) + 1) = ((n + 1 : Nat) : Int) := by rw [wrap_i64 (by omega) (by omega)]; omega
    have cL := letter_ct (r : Int)
    have cD := digit_ct (r : Int)
    have hgi : (0 < n ↔ 0 < i) := ⟨fun h => by omega, fun h => by
      by_cases h0 : n = 0
      · have := h4 h0; omega
      · omega⟩
    obtain ⟨b1, b2, b3, b4, b5, q1, q2, q3, q4, q5, hbs⟩ : ∃ b1 b2 b3 b4 b5 : Bool, letB (r : Int) = b1 ∧ decide ((i : Int) > 0) = b2 ∧ digB (r : Int) = b3 ∧ ((r : Int) == 95) = b4 ∧ ((r : Int) == 45) = b5 ∧
        (((b1 = true ∨ b1 = false ∧ b2 = true ∧ b3 = true ∨ b1 = false ∧ b2 = true ∧ b3 = false ∧ b4 = true ∨ b1 = false ∧ b2 = true ∧ b3 = false ∧ b4 = false ∧ b5 = true) ∧ inP n (r : Int)) ∨
         ((b1 = false ∧ b2 = false ∨ b1 = false ∧ b2 = true ∧ b3 = false ∧ b4 = false ∧ b5 = false) ∧ ¬ inP n (r : Int))) := by
      refine ⟨_, _, _, _, _, rfl, rfl, rfl, rfl, rfl, ?_⟩
      unfold inP
      cases hB1 : letB (r : Int)
      · by_cases hi0 : 0 < i
        · cases hB3 : digB (r : Int)
          · by_cases h95 : r = 95
            · exact .inl ⟨.inr (.inr (.inl ⟨rfl, decide_eq_true (by omega), rfl, beq_iff_eq.2 (by omega)⟩)), .inr ⟨by omega, .inr (.inl (by omega))⟩⟩
            · by_cases h45 : r = 45
              · exact .inl ⟨.inr (.inr (.inr ⟨rfl, decide_eq_true (by omega), rfl, beq_eq_false_iff_ne.2 (by omega), beq_iff_eq.2 (by omega)⟩)), .inr ⟨by omega, .inr (.inr (by omega))⟩⟩
              · exact .inr ⟨.inr ⟨rfl, decide_eq_true (by omega), rfl, beq_eq_false_iff_ne.2 (by omega), beq_eq_false_iff_ne.2 (by omega)⟩, fun h => by
                  rcases h with h | ⟨_, h | h | h⟩
                  · cases h
                  · cases h
                  · omega
                  · omega⟩
          · exact .inl ⟨.inr (.inl ⟨rfl, decide_eq_true (by omega), rfl⟩), .inr ⟨by omega, .inl rfl⟩⟩
        · exact .inr ⟨.inl ⟨rfl, decide_eq_false (by omega)⟩, fun h => by
            rcases h with h | h
            · cases h
            · omega⟩
      · exact .inl ⟨.inl rfl, .inl rfl⟩
    rw [q1] at cL
    rw [q3] at cD
    have hdec2 : Utf8.decode B i = (r, w) := hdec
    rcases hbs with ⟨hbs, hgo⟩ | ⟨hbs, hgo⟩
    · have he : elR zs i = ((r : Int), w) ∧ 1 ≤ w ∧ w ≤ 4 ∧ i + w ≤ zs.length := by
        rcases hcs with h | h
        · exact h
        · exfalso
          obtain ⟨d1, d2, d3, d4⟩ := bad_rune
          have hr' : (r : Int) = 65533 := by omega
          rw [hr'] at hgo
          rcases hgo with h' | ⟨_, h' | h' | h'⟩
          · rw [d3] at h'; cases h'
          · rw [d4] at h'; cases h'
          · omega
          · omega
      obtain ⟨he, hw1, hw2, hw3⟩ := he
      rw [he] at h5
      have hlen : (A ++ [(r : Int)]).length = n + 1 := by rw [List.length_append, hAn]; rfl
      have hA1 : ∀ q, q < (A ++ [(r : Int)]).length → inP q ((A ++ [(r : Int)]).getD q 0) := fun q hq => by
        rw [hlen] at hq
        by_cases hqn : q = n
        · rw [hqn, hn, getD_last, ← hn]; exact hgo
        · rw [getD_app _ _ (by omega)]; exact h6 q (by omega)
      have hA2 : (r : Int) = (A ++ [(r : Int)]).getD ((A ++ [(r : Int)]).length - 1) 0 := by
        rw [hlen, Nat.add_sub_cancel, hn, getD_last]
      have hL2 : L = (A ++ [(r : Int)]) ++ rnF zs f (i + w) := by rw [h5]; simp
      rcases hbs with rfl | ⟨rfl, rfl, rfl⟩ | ⟨rfl, rfl, rfl, rfl⟩ | ⟨rfl, rfl, rfl, rfl, rfl⟩
      all_goals (
          first | (have FRx := FR; clear FRx) | have FR := fr0S
          have FA := Sm.mk (And.intro TFTxG (And.intro hdec (And.intro hs (And.intro s1 (And.intro q2 (And.intro q4 q5))))))
          repeat' first | (apply Sm.mk; refine Ys ?_) | refine WP.seq fun K hK => ?_ | (apply Ob.mk; exact Yo) | refine And.intro (Ob.out ?_) ?_ | refine Y1TxG ?_ | refine Yc (c := cL) (r := ?_) | refine Yc (c := cD) (r := ?_) | refine YzTxG ?_ | (refine WP.cond rfl (fun hc => ?_) (fun hc => ?_) <;> (try simp only [ZC, reduceCtorEq, ZD] at hc) <;> (try exact absurd hc (by decide)) <;> (try (exfalso; omega))) | refine Rt.mk (And.intro (fun hg => Sm.out ?_) fun hg => Sm.out ?_) | (refine Nu.mk ?_; first | (fail_if_success have := nb1); intro nb1 | (fail_if_success have := nb2); intro nb2 | (fail_if_success have := nb3); intro nb3 | (fail_if_success have := nb4); intro nb4 | intro nbz) | (apply Yfr; refine Yf FR fun hFRb FR => ?_) | refine Two.mk ?_ ?_ | (apply Yxc; exact Yx) | refine Cs.mk fun hcs => Sm.out ?_ | go_step | omega | (simp only [maxLen_eq]; omega) | exact trivial)
      all_goals exact ⟨⟨i + w, f, A ++ [(r : Int)], (r : Int)⟩, ⟨by simp only; omega, by simp only; omega, by simp only [hlen]; omega, fun h => by simp at h, hL2, hA1, fun _ => hA2⟩, by simp only; omega, (Sub.pick (by simp [pickB, hget, hdel, FR.out, hAn]) (by simp [look, hAn]))⟩
    · have hno : ¬ NameP L := fun hN => by
        have hLn : L.getD n 0 = (elR zs i).1 := by rw [h5, hn]; exact getD_mid _ _ _
        have hlen : n < L.length := by rw [h5, List.length_append, hAn]; simp
        have hin : inP n (elR zs i).1 := by
          by_cases hn0 : n = 0
          · left; have := hN.2.2.1; rw [hn0] at hLn; rw [hLn] at this; exact this
          · have := hN.2.2.2 n hlen
            rw [hLn] at this
            rcases this with h | h | h
            · exact .inl h
            · exact .inr ⟨by omega, .inl h⟩
            · exact .inr ⟨by omega, .inr h.2⟩
        rcases hcs with h | h
        · rw [h.1] at hin; exact hgo hin
        · rw [h.1] at hin
          obtain ⟨d1, d2, d3, d4⟩ := bad_rune
          rcases hin with h' | ⟨_, h' | h' | h'⟩
          · rw [d1] at h'; cases h'
          · rw [d2] at h'; cases h'
          · omega
          · omega
      have e : R = false := by rw [hR]; exact nmB_false hno
      rcases hbs with ⟨rfl, rfl⟩ | ⟨rfl, rfl, rfl, rfl, rfl⟩
      all_goals (
          first | (have FRx := FR; clear FRx) | have FR := fr0S
          have FA := Sm.mk (And.intro TFTxG (And.intro hdec (And.intro hs (And.intro s1 (And.intro q2 (And.intro q4 q5))))))
          repeat' first | (apply Sm.mk; refine Ys ?_) | refine WP.seq fun K hK => ?_ | (apply Ob.mk; exact Yo) | refine And.intro (Ob.out ?_) ?_ | refine Y1TxG ?_ | refine Yc (c := cL) (r := ?_) | refine Yc (c := cD) (r := ?_) | refine YzTxG ?_ | (refine WP.cond rfl (fun hc => ?_) (fun hc => ?_) <;> (try simp only [ZC, reduceCtorEq, ZD] at hc) <;> (try exact absurd hc (by decide)) <;> (try (exfalso; omega))) | refine Rt.mk (And.intro (fun hg => Sm.out ?_) fun hg => Sm.out ?_) | (refine Nu.mk ?_; first | (fail_if_success have := nb1); intro nb1 | (fail_if_success have := nb2); intro nb2 | (fail_if_success have := nb3); intro nb3 | (fail_if_success have := nb4); intro nb4 | intro nbz) | (apply Yfr; refine Yf FR fun hFRb FR => ?_) | refine Two.mk ?_ ?_ | (apply Yxc; exact Yx) | refine Cs.mk fun hcs => Sm.out ?_ | go_step | omega | (simp only [maxLen_eq]; omega) | exact trivial)
      all_goals (have FA := Sm.mk (And.intro e FA.out); refine Yg ?_; try exact trivial)
  · obtain rfl : i = zs.length := by omega
    have hLA : L = A := by
      rw [h5]
      cases f with
      | zero => exact List.append_nil _
      | succ f => rw [rnF_succ, if_neg (Nat.lt_irrefl _), List.append_nil]
    by_cases h0 : n = 0
    · have k1 : decide ((n : Int) > 0) = false := decide_eq_false (by omega)
      have e : R = false := by rw [hR]; exact nmB_false fun h => by have := h.1; rw [hLA] at this; omega
      first | (have FRx := FR; clear FRx) | have FR := fr0S
      have FA := Sm.mk (And.intro TFTxG (And.intro hs k1))
      repeat' first | (apply Sm.mk; refine Ys ?_) | refine WP.seq fun K hK => ?_ | (apply Ob.mk; exact Yo) | refine And.intro (Ob.out ?_) ?_ | refine Y1TxG ?_ | refine Yc (c := letter_ct last) (r := ?_) | refine Yc (c := digit_ct last) (r := ?_) | refine YzTxG ?_ | (refine WP.cond rfl (fun hc => ?_) (fun hc => ?_) <;> (try simp only [ZC, reduceCtorEq, ZD] at hc) <;> (try exact absurd hc (by decide)) <;> (try (exfalso; omega))) | refine Rt.mk (And.intro (fun hg => Sm.out ?_) fun hg => Sm.out ?_) | (refine Nu.mk ?_; first | (fail_if_success have := nb1); intro nb1 | (fail_if_success have := nb2); intro nb2 | (fail_if_success have := nb3); intro nb3 | (fail_if_success have := nb4); intro nb4 | intro nbz) | (apply Yfr; refine Yf FR fun hFRb FR => ?_) | refine Two.mk ?_ ?_ | (apply Yxc; exact Yx) | refine Cs.mk fun hcs => Sm.out ?_ | go_step | omega | (simp only [maxLen_eq]; omega) | exact trivial
      (have FA := Sm.mk (And.intro e FA.out); refine Yg ?_; try exact trivial)
    have k1 : decide ((n : Int) > 0) = true := decide_eq_true (by omega)
    by_cases h24 : n > 24
    · have k2 : decide ((n : Int) ≤ 24) = false := decide_eq_false (by omega)
      have e : R = false := by rw [hR]; exact nmB_false fun h => by have := h.2.1; rw [hLA] at this; omega
      first | (have FRx := FR; clear FRx) | have FR := fr0S
      have FA := Sm.mk (And.intro TFTxG (And.intro hs (And.intro k1 k2)))
      repeat' first | (apply Sm.mk; refine Ys ?_) | refine WP.seq fun K hK => ?_ | (apply Ob.mk; exact Yo) | refine And.intro (Ob.out ?_) ?_ | refine Y1TxG ?_ | refine Yc (c := letter_ct last) (r := ?_) | refine Yc (c := digit_ct last) (r := ?_) | refine YzTxG ?_ | (refine WP.cond rfl (fun hc => ?_) (fun hc => ?_) <;> (try simp only [ZC, reduceCtorEq, ZD] at hc) <;> (try exact absurd hc (by decide)) <;> (try (exfalso; omega))) | refine Rt.mk (And.intro (fun hg => Sm.out ?_) fun hg => Sm.out ?_) | (refine Nu.mk ?_; first | (fail_if_success have := nb1); intro nb1 | (fail_if_success have := nb2); intro nb2 | (fail_if_success have := nb3); intro nb3 | (fail_if_success have := nb4); intro nb4 | intro nbz) | (apply Yfr; refine Yf FR fun hFRb FR => ?_) | refine Two.mk ?_ ?_ | (apply Yxc; exact Yx) | refine Cs.mk fun hcs => Sm.out ?_ | go_step | omega | (simp only [maxLen_eq]; omega) | exact trivial
      (have FA := Sm.mk (And.intro e FA.out); refine Yg ?_; try exact trivial)
    have k2 : decide ((n : Int) ≤ 24) = true := decide_eq_true (by omega)
    have hend := name_end A last (by omega) (by omega) (fun q hq => h6 q (by omega)) (by rw [hAn]; exact h7 (by omega))
    rw [← hLA, ← hR] at hend
    have cL := letter_ct last
    have cD := digit_ct last
    obtain ⟨b1, hb1⟩ : ∃ b1, b1 = letB last := ⟨_, rfl⟩
    obtain ⟨b2, hb2⟩ : ∃ b2, b2 = digB last := ⟨_, rfl⟩
    rw [← hb1] at cL hend
    rw [← hb2] at cD hend
    cases b1
    · cases b2
      · have e : R = false := hend
        first | (have FRx := FR; clear FRx) | have FR := fr0S
        have FA := Sm.mk (And.intro TFTxG (And.intro hs (And.intro k1 k2)))
        repeat' first | (apply Sm.mk; refine Ys ?_) | refine WP.seq fun K hK => ?_ | (apply Ob.mk; exact Yo) | refine And.intro (Ob.out ?_) ?_ | refine Y1TxG ?_ | refine Yc (c := cL) (r := ?_) | refine Yc (c := cD) (r := ?_) | refine YzTxG ?_ | (refine WP.cond rfl (fun hc => ?_) (fun hc => ?_) <;> (try simp only [ZC, reduceCtorEq, ZD] at hc) <;> (try exact absurd hc (by decide)) <;> (try (exfalso; omega))) | refine Rt.mk (And.intro (fun hg => Sm.out ?_) fun hg => Sm.out ?_) | (refine Nu.mk ?_; first | (fail_if_success have := nb1); intro nb1 | (fail_if_success have := nb2); intro nb2 | (fail_if_success have := nb3); intro nb3 | (fail_if_success have := nb4); intro nb4 | intro nbz) | (apply Yfr; refine Yf FR fun hFRb FR => ?_) | refine Two.mk ?_ ?_ | (apply Yxc; exact Yx) | refine Cs.mk fun hcs => Sm.out ?_ | go_step | omega | (simp only [maxLen_eq]; omega) | exact trivial
        (have FA := Sm.mk (And.intro e FA.out); refine Yg ?_; try exact trivial)
      · have e : R = true := hend
        first | (have FRx := FR; clear FRx) | have FR := fr0S
        have FA := Sm.mk (And.intro TFTxG (And.intro hs (And.intro k1 k2)))
        repeat' first | (apply Sm.mk; refine Ys ?_) | refine WP.seq fun K hK => ?_ | (apply Ob.mk; exact Yo) | refine And.intro (Ob.out ?_) ?_ | refine Y1TxG ?_ | refine Yc (c := cL) (r := ?_) | refine Yc (c := cD) (r := ?_) | refine YzTxG ?_ | (refine WP.cond rfl (fun hc => ?_) (fun hc => ?_) <;> (try simp only [ZC, reduceCtorEq, ZD] at hc) <;> (try exact absurd hc (by decide)) <;> (try (exfalso; omega))) | refine Rt.mk (And.intro (fun hg => Sm.out ?_) fun hg => Sm.out ?_) | (refine Nu.mk ?_; first | (fail_if_success have := nb1); intro nb1 | (fail_if_success have := nb2); intro nb2 | (fail_if_success have := nb3); intro nb3 | (fail_if_success have := nb4); intro nb4 | intro nbz) | (apply Yfr; refine Yf FR fun hFRb FR => ?_) | refine Two.mk ?_ ?_ | (apply Yxc; exact Yx) | refine Cs.mk fun hcs => Sm.out ?_ | go_step | omega | (simp only [maxLen_eq]; omega) | exact trivial
        (have FA := Sm.mk (And.intro e FA.out); refine Yg ?_; try exact trivial)
    · have e : R = true := hend
      first | (have FRx := FR; clear FRx) | have FR := fr0S
      have FA := Sm.mk (And.intro TFTxG (And.intro hs (And.intro k1 k2)))
      repeat' first | (apply Sm.mk; refine Ys ?_) | refine WP.seq fun K hK => ?_ | (apply Ob.mk; exact Yo) | refine And.intro (Ob.out ?_) ?_ | refine Y1TxG ?_ | refine Yc (c := cL) (r := ?_) | refine Yc (c := cD) (r := ?_) | refine YzTxG ?_ | (refine WP.cond rfl (fun hc => ?_) (fun hc => ?_) <;> (try simp only [ZC, reduceCtorEq, ZD] at hc) <;> (try exact absurd hc (by decide)) <;> (try (exfalso; omega))) | refine Rt.mk (And.intro (fun hg => Sm.out ?_) fun hg => Sm.out ?_) | (refine Nu.mk ?_; first | (fail_if_success have := nb1); intro nb1 | (fail_if_success have := nb2); intro nb2 | (fail_if_success have := nb3); intro nb3 | (fail_if_success have := nb4); intro nb4 | intro nbz) | (apply Yfr; refine Yf FR fun hFRb FR => ?_) | refine Two.mk ?_ ?_ | (apply Yxc; exact Yx) | refine Cs.mk fun hcs => Sm.out ?_ | go_step | omega | (simp only [maxLen_eq]; omega) | exact trivial
      (have FA := Sm.mk (And.intro e FA.out); refine Yg ?_; try exact trivial)
def TFTxK :=
  And.intro (And.intro (And.intro tyc5 (And.intro zmb5 tyc9)) (And.intro (And.intro zmb9 tyc12) (And.intro zmb12 tyc22))) (And.intro (And.intro (And.intro zmb22 tyc95) (And.intro zmb95 Tryd.underlying5)) (And.intro (And.intro Tryd.underlying9 Tryd.underlying12) (And.intro Tryd.underlying22 Tryd.underlying95)))
theorem Y1TxK {G R : Prop} (r : R) (h : R → G := by intro r; first | (apply WP.region; exact rvc_sound _ _ (Sm.out r)) | exact WP.drawK rfl mixed (by decide +kernel) (Sm.out r) | (apply WP.block; exact r) | (apply WP.skip; exact Yq r) | (apply WP.exit; exact Yq r) | (apply WP.ret; exact Sm.out r) | exact WP.cond rfl (fun _ => r) (fun hg => absurd hg (by decide)) | exact WP.cond rfl (fun hg => absurd hg (by decide)) (fun _ => r) | exact Rt.mk (And.intro (fun _ => Sm.out r) fun hg => absurd hg (by decide)) | exact Rt.mk (And.intro (fun hg => absurd hg (by decide)) fun _ => Sm.out r)) : G := h r
theorem YzTxK {G R : Prop} (r : R) (h : R → G := by intro r; first | (apply ExG.no; exact Sm.out r) | (apply Or.inl; apply ExG.no; exact Sm.out r) | exact Or.inl (And.intro (fun hg => absurd hg (by decide)) (ExG.no (Sm.out r)))) : G := h r
theorem land_split (a x m y : Nat) (ha : a < 256) (hm : m < 256) : (256 * x + a) &&& (256 * y + m) = 256 * (x &&& y) + (a &&& m) := by
  have e8 : (256 : Nat) = 2 ^ 8 := rfl
  have hlt : a &&& m < 2 ^ 8 := Nat.and_lt_two_pow a (by rw [← e8]; exact hm)
  apply Nat.eq_of_testBit_eq
  intro i
  rw [Nat.testBit_and, e8, Nat.testBit_two_pow_mul_add x ha, Nat.testBit_two_pow_mul_add y hm, Nat.testBit_two_pow_mul_add (x &&& y) hlt]
  split
  · rw [Nat.testBit_and]
  · rw [Nat.testBit_and]
theorem and128 : ∀ a, a < 256 → (a &&& 128 = 0 ↔ a < 128) := by decide +kernel
def w8 : List Nat → Nat
  | [] => 0
  | a :: r => 256 * w8 r + a
def m8 : Nat → Nat
  | 0 => 0
  | k + 1 => 256 * m8 k + 128
theorem w8_hi : ∀ l : List Nat, (∀ a ∈ l, a < 256) → (w8 l &&& m8 l.length = 0 ↔ ∀ a ∈ l, a < 128) := by
  intro l
  induction l with
  | nil => intro _; simp [w8, m8]
  | cons a r ih =>
    intro h
    have ha := h a (by simp)
    have ih := ih fun b hb => h b (by simp [hb])
    have h1 := and128 a ha
    show (256 * w8 r + a) &&& (256 * m8 r.length + 128) = 0 ↔ _
    rw [land_split a _ 128 _ ha (by decide)]
    constructor
    · intro h0
      have e1 : w8 r &&& m8 r.length = 0 := by omega
      have e2 : a &&& 128 = 0 := by omega
      intro b hb
      rcases List.mem_cons.1 hb with rfl | hb
      · exact h1.1 e2
      · exact ih.1 e1 b hb
    · intro hall
      have e1 := ih.2 fun b hb => hall b (by simp [hb])
      have e2 := h1.2 (hall a (by simp))
      rw [e1, e2]
theorem m8_8 : m8 8 = 9259542123273814144 := by decide
theorem or_zero (x y m : Nat) : (x ||| y) &&& m = 0 ↔ x &&& m = 0 ∧ y &&& m = 0 := by
  constructor
  · intro h
    constructor
    · apply Nat.eq_of_testBit_eq
      intro i
      have := congrArg (fun n => n.testBit i) h
      simp only [Nat.testBit_and, Nat.testBit_or, Nat.zero_testBit] at this ⊢
      cases hx : x.testBit i <;> cases hm : m.testBit i <;> simp_all
    · apply Nat.eq_of_testBit_eq
      intro i
      have := congrArg (fun n => n.testBit i) h
      simp only [Nat.testBit_and, Nat.testBit_or, Nat.zero_testBit] at this ⊢
      cases hx : y.testBit i <;> cases hm : m.testBit i <;> simp_all
  · rintro ⟨h1, h2⟩
    apply Nat.eq_of_testBit_eq
    intro i
    have a1 := congrArg (fun n => n.testBit i) h1
    have a2 := congrArg (fun n => n.testBit i) h2
    simp only [Nat.testBit_and, Nat.testBit_or, Nat.zero_testBit] at a1 a2 ⊢
    cases hx : x.testBit i <;> cases hy : y.testBit i <;> cases hm : m.testBit i <;> simp_all
theorem or_add (a b s : Nat) (ha : a < 2 ^ s) : a ||| (b * 2 ^ s) = b * 2 ^ s + a := by
  rw [Nat.or_comm, Nat.mul_comm]
  exact (Nat.two_pow_add_eq_or_of_lt ha b).symm
theorem ibit_or (a b : Nat) (ha : a < 18446744073709551616) (hb : b < 18446744073709551616) : ibit .or .u64 (a : Int) (b : Int) = ((a ||| b : Nat) : Int) := by
  have e : ibit .or .u64 (a : Int) (b : Int) = IntKind.u64.wrap ((BitVec.ofInt 64 (a : Int) ||| BitVec.ofInt 64 (b : Int)).toNat : Int) := rfl
  rw [e, BitVec.toNat_or, BitVec.ofInt_natCast, BitVec.ofInt_natCast, BitVec.toNat_ofNat, BitVec.toNat_ofNat, Nat.mod_eq_of_lt ha, Nat.mod_eq_of_lt hb]
  have : a ||| b < 2 ^ 64 := Nat.or_lt_two_pow ha hb
  rw [wrap_u64 (by omega) (by omega)]
theorem ibit_and (a b : Nat) (ha : a < 18446744073709551616) (hb : b < 18446744073709551616) : ibit .and .u64 (a : Int) (b : Int) = ((a &&& b : Nat) : Int) := by
  have e : ibit .and .u64 (a : Int) (b : Int) = IntKind.u64.wrap ((BitVec.ofInt 64 (a : Int) &&& BitVec.ofInt 64 (b : Int)).toNat : Int) := rfl
  rw [e, BitVec.toNat_and, BitVec.ofInt_natCast, BitVec.ofInt_natCast, BitVec.toNat_ofNat, BitVec.toNat_ofNat, Nat.mod_eq_of_lt ha, Nat.mod_eq_of_lt hb]
  have : a &&& b ≤ a := Nat.and_le_left
  rw [wrap_u64 (by omega) (by omega)]
def wrd (zs : List Int) (i : Nat) : Nat := w8 ((List.range 8).map fun k => (zs.getD (i + k) 0).toNat)
theorem wrd_eq (zs : List Int) (i : Nat) : wrd zs i = 256 * (256 * (256 * (256 * (256 * (256 * (256 * (256 * 0 + (zs.getD (i + 7) 0).toNat) + (zs.getD (i + 6) 0).toNat) + (zs.getD (i + 5) 0).toNat) + (zs.getD (i + 4) 0).toNat) + (zs.getD (i + 3) 0).toNat) + (zs.getD (i + 2) 0).toNat) + (zs.getD (i + 1) 0).toNat) + (zs.getD (i + 0) 0).toNat := rfl
theorem wrd_hi {zs : List Int} (hb : By zs) {i : Nat} (h : i + 8 ≤ zs.length) : wrd zs i &&& 9259542123273814144 = 0 ↔ ∀ k, k < 8 → zs.getD (i + k) 0 < 128 := by
  have h1 : ∀ a ∈ (List.range 8).map fun k => (zs.getD (i + k) 0).toNat, a < 256 := fun a ha => by
    obtain ⟨k, hk, rfl⟩ := List.mem_map.1 ha
    have := hb (i + k) (by have := List.mem_range.1 hk; omega)
    omega
  have h2 := w8_hi _ h1
  rw [List.length_map, List.length_range, m8_8] at h2
  unfold wrd
  rw [h2]
  constructor
  · intro h3 k hk
    have := h3 _ (List.mem_map.2 ⟨k, List.mem_range.2 hk, rfl⟩)
    have := hb (i + k) (by omega)
    omega
  · intro h3 a ha
    obtain ⟨k, hk, rfl⟩ := List.mem_map.1 ha
    have := h3 k (List.mem_range.1 hk)
    have := hb (i + k) (by have := List.mem_range.1 hk; omega)
    omega
theorem wrd_lt {zs : List Int} (hb : By zs) {i : Nat} (h : i + 8 ≤ zs.length) : wrd zs i < 18446744073709551616 := by
  rw [wrd_eq]
  have b0 := hb (i + 0) (by omega); have b1 := hb (i + 1) (by omega); have b2 := hb (i + 2) (by omega); have b3 := hb (i + 3) (by omega)
  have b4 := hb (i + 4) (by omega); have b5 := hb (i + 5) (by omega); have b6 := hb (i + 6) (by omega); have b7 := hb (i + 7) (by omega)
  omega
theorem orsh (a x s c : Nat) (hc : c = 2 ^ s) (ha : a < c) (hx : x < 256) (hs : 256 * c ≤ 18446744073709551616) : ibit .or .u64 (a : Int) (IntKind.u64.wrap (IntKind.u64.wrap (x : Int) * (c : Int))) = ((c * x + a : Nat) : Int) := by
  have h1 : c * x + c ≤ 256 * c := by
    rw [show c * x + c = (x + 1) * c by rw [Nat.add_mul, Nat.mul_comm c x, Nat.one_mul]]
    exact Nat.mul_le_mul_right c (by omega)
  rw [wrap_u64 (n := (x : Int)) (by omega) (by omega)]
  have e : (x : Int) * (c : Int) = ((c * x : Nat) : Int) := by rw [Int.natCast_mul, Int.mul_comm]
  rw [e, wrap_u64 (by omega) (by omega), ibit_or a (c * x) (by omega) (by omega), hc, Nat.mul_comm (2 ^ s) x, or_add a x s (by rw [← hc]; exact ha)]
theorem word_nest (x0 x1 x2 x3 x4 x5 x6 x7 : Nat) (d0 : x0 < 256) (d1 : x1 < 256) (d2 : x2 < 256) (d3 : x3 < 256) (d4 : x4 < 256) (d5 : x5 < 256) (d6 : x6 < 256) (d7 : x7 < 256) :
    ibit .or .u64 (ibit .or .u64 (ibit .or .u64 (ibit .or .u64 (ibit .or .u64 (ibit .or .u64 (ibit .or .u64 (IntKind.u64.wrap (x0 : Int)) (IntKind.u64.wrap (IntKind.u64.wrap (x1 : Int) * 256))) (IntKind.u64.wrap (IntKind.u64.wrap (x2 : Int) * 65536))) (IntKind.u64.wrap (IntKind.u64.wrap (x3 : Int) * 16777216))) (IntKind.u64.wrap (IntKind.u64.wrap (x4 : Int) * 4294967296))) (IntKind.u64.wrap (IntKind.u64.wrap (x5 : Int) * 1099511627776))) (IntKind.u64.wrap (IntKind.u64.wrap (x6 : Int) * 281474976710656))) (IntKind.u64.wrap (IntKind.u64.wrap (x7 : Int) * 72057594037927936))
    = ((256 * (256 * (256 * (256 * (256 * (256 * (256 * (256 * 0 + x7) + x6) + x5) + x4) + x3) + x2) + x1) + x0 : Nat) : Int) := by
  rw [wrap_u64 (n := (x0 : Int)) (by omega) (by omega)]
  rw [show (256 : Int) = ((256 : Nat) : Int) from rfl, orsh x0 x1 8 256 rfl (by omega) d1 (by omega)]
  rw [show (65536 : Int) = ((65536 : Nat) : Int) from rfl, orsh _ x2 16 65536 rfl (by omega) d2 (by omega)]
  rw [show (16777216 : Int) = ((16777216 : Nat) : Int) from rfl, orsh _ x3 24 16777216 rfl (by omega) d3 (by omega)]
  rw [show (4294967296 : Int) = ((4294967296 : Nat) : Int) from rfl, orsh _ x4 32 4294967296 rfl (by omega) d4 (by omega)]
  rw [show (1099511627776 : Int) = ((1099511627776 : Nat) : Int) from rfl, orsh _ x5 40 1099511627776 rfl (by omega) d5 (by omega)]
  rw [show (281474976710656 : Int) = ((281474976710656 : Nat) : Int) from rfl, orsh _ x6 48 281474976710656 rfl (by omega) d6 (by omega)]
  rw [show (72057594037927936 : Int) = ((72057594037927936 : Nat) : Int) from rfl, orsh _ x7 56 72057594037927936 rfl (by omega) d7 (by omega)]
  congr 1
  omega
set_option maxHeartbeats 2000000 in
theorem word_ct (zs : List Int) (hb : By zs) (i : Nat) (h : i + 8 ≤ zs.length) (hl : zs.length ≤ 5000) : ACt Tryd.prog 68 [stz (zs.drop i)] [] (Fn (iv .u64 ((wrd zs i : Nat) : Int))) := by
  have hat : ∀ k, k < 8 → (((bstr (zs.drop i)).data.toList.getD k 0).toNat : Int) = (((zs.getD (i + k) 0).toNat : Nat) : Int) := fun k hk => by
    have := bstr_at (hb.drop i) (show k < (zs.drop i).length by rw [List.length_drop]; omega)
    rw [this]
    have e : (zs.drop i).getD k 0 = zs.getD (i + k) 0 := by simp [List.getD_eq_getElem?_getD, List.getElem?_drop]
    rw [e]
    have := hb (i + k) (by omega)
    omega
  have hs := bstr_size (zs.drop i)
  rw [List.length_drop] at hs
  have hbn : ∀ k, k < 8 → (zs.getD (i + k) 0).toNat < 256 := fun k hk => by have := hb (i + k) (by omega); omega
  rw [wrd_eq]
  have c0 := hat 0 (by omega); have c1 := hat 1 (by omega); have c2 := hat 2 (by omega); have c3 := hat 3 (by omega)
  have c4 := hat 4 (by omega); have c5 := hat 5 (by omega); have c6 := hat 6 (by omega); have c7 := hat 7 (by omega)
  have d0 := hbn 0 (by omega); have d1 := hbn 1 (by omega); have d2 := hbn 2 (by omega); have d3 := hbn 3 (by omega)
  have d4 := hbn 4 (by omega); have d5 := hbn 5 (by omega); have d6 := hbn 6 (by omega); have d7 := hbn 7 (by omega)
  obtain ⟨S, hS⟩ : ∃ S, S = bstr (zs.drop i) := ⟨_, rfl⟩
  unfold stz
  rw [← hS] at hs c0 c1 c2 c3 c4 c5 c6 c7 ⊢
  generalize (zs.getD (i + 0) 0).toNat = x0 at *
  generalize (zs.getD (i + 1) 0).toNat = x1 at *
  generalize (zs.getD (i + 2) 0).toNat = x2 at *
  generalize (zs.getD (i + 3) 0).toNat = x3 at *
  generalize (zs.getD (i + 4) 0).toNat = x4 at *
  generalize (zs.getD (i + 5) 0).toNat = x5 at *
  generalize (zs.getD (i + 6) 0).toNat = x6 at *
  generalize (zs.getD (i + 7) 0).toNat = x7 at *
  obtain ⟨m, hm⟩ : ∃ m, m = zs.length - i := ⟨_, rfl⟩
  rw [← hm] at hs
  have im : 8 ≤ m := by omega
  have i0 : 0 < m := by omega
  have i1 : 1 < m := by omega
  have i2 : 2 < m := by omega
  have i3 : 3 < m := by omega
  have i4 : 4 < m := by omega
  have i5 : 5 < m := by omega
  have i6 : 6 < m := by omega
  have i7 : 7 < m := by omega
  refine ACt.intro Tryd.func68 rfl (by kernel_rfl) (by simp [Tryd.ntmps68]) (fun cx => ?_)
  simp only [argE, Tryd.ntmps68, Tryd.results68]
  have e := word_nest x0 x1 x2 x3 x4 x5 x6 x7 d0 d1 d2 d3 d4 d5 d6 d7
  obtain ⟨V, hV⟩ : ∃ V : Nat, V = 256 * (256 * (256 * (256 * (256 * (256 * (256 * (256 * 0 + x7) + x6) + x5) + x4) + x3) + x2) + x1) + x0 := ⟨_, rfl⟩
  rw [← hV] at e ⊢
  first | (have FRx := FR; clear FRx) | have FR := fr0S
  have FA := Sm.mk (And.intro TFTxK (And.intro hs (And.intro c0 (And.intro c1 (And.intro c2 (And.intro c3 (And.intro c4 (And.intro c5 (And.intro c6 (And.intro c7 (And.intro i0 (And.intro i1 (And.intro i2 (And.intro i3 (And.intro i4 (And.intro i5 (And.intro i6 i7)))))))))))))))))
  repeat' first | (apply Sm.mk; refine Ys ?_) | refine WP.seq fun K hK => ?_ | (apply Ob.mk; exact Yo) | refine And.intro (Ob.out ?_) ?_ | refine Y1TxK ?_ | refine YzTxK ?_ | (refine WP.cond rfl (fun hc => ?_) (fun hc => ?_) <;> (try simp only [ZC, reduceCtorEq, ZD] at hc) <;> (try exact absurd hc (by decide)) <;> (try (exfalso; omega))) | refine Rt.mk (And.intro (fun hg => Sm.out ?_) fun hg => Sm.out ?_) | (refine Nu.mk ?_; first | (fail_if_success have := nb1); intro nb1 | (fail_if_success have := nb2); intro nb2 | (fail_if_success have := nb3); intro nb3 | intro nbz) | (apply Yfr; refine Yf FR fun hFRb FR => ?_) | refine Two.mk ?_ ?_ | (apply Yxc; exact Yx) | refine Cs.mk fun hcs => Sm.out ?_ | go_step | omega | (simp only [maxLen_eq]; omega) | exact trivial
  (have FA := Sm.mk (And.intro e FA.out); refine Yg ?_; try exact trivial)
end Go.Proofs.YtpidkkgjgichdaaDoor
