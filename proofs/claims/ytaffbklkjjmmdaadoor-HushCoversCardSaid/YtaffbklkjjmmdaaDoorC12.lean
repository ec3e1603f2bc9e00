/-
  The walks and the laws that the statement leans on, part 12.
-/
import Derived.Test.YtaffbklkjjmmdaaDoorC9
import Derived.Test.YtaffbklkjjmmdaaDoorC10
import Derived.Test.YtaffbklkjjmmdaaDoorC11
namespace Go.Proofs.YtaffbklkjjmmdaaDoor
open Go
set_option linter.unusedVariables false
set_option linter.unusedSimpArgs false
set_option linter.defProp false
def TFTxF :=
  And.intro (And.intro (And.intro (And.intro tyc0 tyc3) (And.intro zmb3 (And.intro tyc4 zmb4))) (And.intro (And.intro tyc9 zmb9) (And.intro tyc21 (And.intro zmb21 tyc87)))) (And.intro (And.intro (And.intro elt87 mkz87) (And.intro apT87 (And.intro elk87 zmb87))) (And.intro (And.intro Tryd.underlying0 (And.intro Tryd.underlying3 Tryd.underlying4)) (And.intro Tryd.underlying9 (And.intro Tryd.underlying21 Tryd.underlying87))))
theorem Y1TxF {G R : Prop} (r : R) (h : R → G := by intro r; first | (apply WP.region; exact rvc_sound _ _ (Sm.out r)) | exact WP.drawK rfl mixed (by decide +kernel) (Sm.out r) | (apply WP.block; exact r) | (apply WP.skip; exact Yq r) | (apply WP.exit; exact Yq r) | (apply WP.ret; exact Sm.out r) | exact WP.cond rfl (fun _ => r) (fun hg => absurd hg (by decide)) | exact WP.cond rfl (fun hg => absurd hg (by decide)) (fun _ => r) | exact Rt.mk (And.intro (fun _ => Sm.out r) fun hg => absurd hg (by decide)) | exact Rt.mk (And.intro (fun hg => absurd hg (by decide)) fun _ => Sm.out r)) : G := h r
theorem YzTxF {G R : Prop} (r : R) (h : R → G := by intro r; first | (apply ExG.no; exact Sm.out r) | (apply Or.inl; apply ExG.no; exact Sm.out r) | exact Or.inl (And.intro (fun hg => absurd hg (by decide)) (ExG.no (Sm.out r)))) : G := h r
theorem YsTxF0 {P Q : Prop} (q : Q) (h : P = Q := by (try (conv => lhs; simp -dsimp only [ZK, rvc, capA, appA, litL, mkfv, drawF, headN, pureH, stp, dvc, calleeOf, gcall, pev, eff, newB, okd, og, ogs, ogo, ogp, slv, bltv, opd, litv, strip, one, both, putE, St.put, look, gdOf, gdv, picka, pickv, pickw, binv, bini, bins, binb, binp, binq, isSlT, bina, shp, eqCells, unv, convv, nilv, faddv, addp, idxav, idxp, load1, load1m, loadn, loadnm, loadv, hget, hset, hrep, hdel, slicev, slice3v, bnd, shift1, lenv, capv, IntKind.bits, extractv, fieldv, indexv, min2v, max2v, mkiv, tasv, tasz, cellsA, fillA, buildv, stC, oneC, rowMB, intsA, plN, appE, appZ, appC, appS, srcB, appNZ, appNC, VwL, srcC, srcZ, srcM, isBoolT, isPtrT, isSliceT, uOk, Value.oneCell', Nat.reducePow, Int.reducePow, Nat.reduceAdd, Nat.reduceMul, Nat.reduceSub, Nat.reduceLT, Nat.reduceLeDiff, Nat.reduceEqDiff, Nat.reduceBEq, Nat.reduceDiv, Nat.reduceMod, ↓reduceIte, reduceCtorEq, Int.reduceToNat, Int.reduceLT, Int.reduceLE, TFTxF, SeqQ, BlkQ, LoopQ, BodyQ, hin, FA.out, FR.out])) <;> exact rfl) : P := h.mpr q
def okN (n i : Nat) (x : Int) : Prop := letB x = true ∨ digB x = true ∨ (i ≠ n - 1 ∧ (x = 95 ∨ x = 45))
def NameP (L : List Int) : Prop := 0 < L.length ∧ L.length ≤ 24 ∧ letB (L.getD 0 0) = true ∧ ∀ i, i < L.length → okN L.length i (L.getD i 0)
open Classical in
noncomputable def nmB (L : List Int) : Bool := decide (NameP L)
open Classical in
theorem nmB_true {L : List Int} (h : NameP L) : nmB L = true := by unfold nmB; exact decide_eq_true h
open Classical in
theorem nmB_false {L : List Int} (h : ¬ NameP L) : nmB L = false := by unfold nmB; exact decide_eq_false h
theorem rnF_len (zs : List Int) : ∀ f i, (rnF zs f i).length ≤ f := by
  intro f
  induction f with
  | zero => intro i; exact Nat.le_refl _
  | succ f ih =>
    intro i
    rw [rnF_succ]
    split
    · have := ih (i + (elR zs i).2); simp; exact this
    · simp
set_option maxRecDepth 8000 in
set_option maxHeartbeats 8000000 in
theorem rname_ct (zs : List Int) (hb : By zs) (hl : zs.length ≤ 2000000) : ACt Tryd.prog 34 [stz zs] [] (Fn (bv (nmB (rn zs)))) := by
  have cR := ACt.fzRow (runes_ct zs hb (by omega))
  have hL : (rn zs).length ≤ 2000000 := by have := rnF_len zs zs.length 0; unfold rn; omega
  have hbd : ∀ i, i < (rn zs).length → True := fun _ _ => trivial
  obtain ⟨L, eL⟩ : ∃ L, L = rn zs := ⟨_, rfl⟩
  rw [← eL] at cR hL ⊢
  obtain ⟨R, hR⟩ : ∃ R, R = nmB L := ⟨_, rfl⟩
  rw [← hR]
  have cL := fun r => rletter_ct r
  obtain ⟨n, hn⟩ : ∃ n, n = L.length := ⟨_, rfl⟩
  have hLn : L.length = n := hn.symm
  by_cases h0 : n = 0
  · have k1 : ((n : Int) == 0) = true := beq_iff_eq.2 (by omega)
    have e : R = false := by rw [hR]; exact nmB_false fun h => by have := h.1; omega
    refine ACt.intro Tryd.func34 rfl (by kernel_rfl) (by simp [Tryd.ntmps34]) (fun cx => ?_)
    simp only [argE, Tryd.ntmps34, Tryd.results34]
    first | (have FRx := FR; clear FRx) | have FR := fr0S
    have FA := Sm.mk (And.intro TFTxF (And.intro hLn k1))
    repeat' first | (apply Sm.mk; refine Ys ?_) | refine WP.seq fun K hK => ?_ | (apply Ob.mk; exact Yo) | refine And.intro (Ob.out ?_) ?_ | refine Y1TxF ?_ | refine Yc (c := cR) (r := ?_) | refine YzTxF ?_ | (refine WP.cond rfl (fun hc => ?_) (fun hc => ?_) <;> (try simp only [ZC, reduceCtorEq, ZD] at hc) <;> (try exact absurd hc (by decide)) <;> (try (exfalso; omega))) | refine Rt.mk (And.intro (fun hg => Sm.out ?_) fun hg => Sm.out ?_) | (refine Nu.mk ?_; first | (fail_if_success have := nb1); intro nb1 | (fail_if_success have := nb2); intro nb2 | (fail_if_success have := nb3); intro nb3 | (fail_if_success have := nb4); intro nb4 | intro nbz) | (apply Yfr; refine Yf FR fun hFRb FR => ?_) | refine Two.mk ?_ ?_ | (apply Yxc; exact Yx) | refine Cs.mk fun hcs => Sm.out ?_ | go_step | omega | (simp only [maxLen_eq]; omega) | exact trivial
    (have FA := Sm.mk (And.intro e FA.out); refine Yg ?_; try exact trivial)
  have k1 : ((n : Int) == 0) = false := beq_eq_false_iff_ne.2 (by omega)
  by_cases h24 : n > 24
  · have k2 : decide ((n : Int) > 24) = true := decide_eq_true (by omega)
    have e : R = false := by rw [hR]; exact nmB_false fun h => by have := h.2.1; omega
    refine ACt.intro Tryd.func34 rfl (by kernel_rfl) (by simp [Tryd.ntmps34]) (fun cx => ?_)
    simp only [argE, Tryd.ntmps34, Tryd.results34]
    first | (have FRx := FR; clear FRx) | have FR := fr0S
    have FA := Sm.mk (And.intro TFTxF (And.intro hLn (And.intro k1 k2)))
    repeat' first | (apply Sm.mk; refine Ys ?_) | refine WP.seq fun K hK => ?_ | (apply Ob.mk; exact Yo) | refine And.intro (Ob.out ?_) ?_ | refine Y1TxF ?_ | refine Yc (c := cR) (r := ?_) | refine YzTxF ?_ | (refine WP.cond rfl (fun hc => ?_) (fun hc => ?_) <;> (try simp only [ZC, reduceCtorEq, ZD] at hc) <;> (try exact absurd hc (by decide)) <;> (try (exfalso; omega))) | refine Rt.mk (And.intro (fun hg => Sm.out ?_) fun hg => Sm.out ?_) | (refine Nu.mk ?_; first | (fail_if_success have := nb1); intro nb1 | (fail_if_success have := nb2); intro nb2 | (fail_if_success have := nb3); intro nb3 | (fail_if_success have := nb4); intro nb4 | intro nbz) | (apply Yfr; refine Yf FR fun hFRb FR => ?_) | refine Two.mk ?_ ?_ | (apply Yxc; exact Yx) | refine Cs.mk fun hcs => Sm.out ?_ | go_step | omega | (simp only [maxLen_eq]; omega) | exact trivial
    (have FA := Sm.mk (And.intro e FA.out); refine Yg ?_; try exact trivial)
  have k2 : decide ((n : Int) > 24) = false := decide_eq_false (by omega)
  have hpos : 0 < n := by omega
  have c0 := cL (L.getD 0 0)
  cases hl0 : letB (L.getD 0 0)
  · rw [hl0] at c0
    have e : R = false := by rw [hR]; exact nmB_false fun h => by have := h.2.2.1; rw [hl0] at this; cases this
    refine ACt.intro Tryd.func34 rfl (by kernel_rfl) (by simp [Tryd.ntmps34]) (fun cx => ?_)
    simp only [argE, Tryd.ntmps34, Tryd.results34]
    first | (have FRx := FR; clear FRx) | have FR := fr0S
    have FA := Sm.mk (And.intro TFTxF (And.intro hLn (And.intro k1 (And.intro k2 hpos))))
    repeat' first | (apply Sm.mk; refine Ys ?_) | refine WP.seq fun K hK => ?_ | (apply Ob.mk; exact Yo) | refine And.intro (Ob.out ?_) ?_ | refine Y1TxF ?_ | refine Yc (c := cR) (r := ?_) | refine Yc (c := c0) (r := ?_) | refine YzTxF ?_ | (refine WP.cond rfl (fun hc => ?_) (fun hc => ?_) <;> (try simp only [ZC, reduceCtorEq, ZD] at hc) <;> (try exact absurd hc (by decide)) <;> (try (exfalso; omega))) | refine Rt.mk (And.intro (fun hg => Sm.out ?_) fun hg => Sm.out ?_) | (refine Nu.mk ?_; first | (fail_if_success have := nb1); intro nb1 | (fail_if_success have := nb2); intro nb2 | (fail_if_success have := nb3); intro nb3 | (fail_if_success have := nb4); intro nb4 | intro nbz) | (apply Yfr; refine Yf FR fun hFRb FR => ?_) | refine Two.mk ?_ ?_ | (apply Yxc; exact Yx) | refine Cs.mk fun hcs => Sm.out ?_ | go_step | omega | (simp only [maxLen_eq]; omega) | exact trivial
    (have FA := Sm.mk (And.intro e FA.out); refine Yg ?_; try exact trivial)
  · rw [hl0] at c0
    refine ACt.intro Tryd.func34 rfl (by kernel_rfl) (by simp [Tryd.ntmps34]) (fun cx => ?_)
    simp only [argE, Tryd.ntmps34, Tryd.results34]
    first | (have FRx := FR; clear FRx) | have FR := fr0S
    have FA := Sm.mk (And.intro TFTxF (And.intro hLn (And.intro k1 (And.intro k2 hpos))))
    repeat' first | (apply Sm.mk; refine Ys ?_) | refine WP.seq fun K hK => ?_ | (apply Ob.mk; exact Yo) | refine And.intro (Ob.out ?_) ?_ | refine Y1TxF ?_ | refine Yc (c := cR) (r := ?_) | refine Yc (c := c0) (r := ?_) | refine YzTxF ?_ | (refine WP.cond rfl (fun hc => ?_) (fun hc => ?_) <;> (try simp only [ZC, reduceCtorEq, ZD] at hc) <;> (try exact absurd hc (by decide)) <;> (try (exfalso; omega))) | refine Rt.mk (And.intro (fun hg => Sm.out ?_) fun hg => Sm.out ?_) | (refine Nu.mk ?_; first | (fail_if_success have := nb1); intro nb1 | (fail_if_success have := nb2); intro nb2 | (fail_if_success have := nb3); intro nb3 | (fail_if_success have := nb4); intro nb4 | intro nbz) | (apply Yfr; refine Yf FR fun hFRb FR => ?_) | refine Two.mk ?_ ?_ | (apply Yxc; exact Yx) | refine Cs.mk fun hcs => Sm.out ?_ | go_step | omega | (simp only [maxLen_eq]; omega) | exact trivial
    refine WP.loop (Γ := Nat) (fun i => ⟨[(4, iv .i64 (i : Int)), (3, .slz .i32 L)], []⟩) (fun i => i ≤ n ∧ ∀ q, q < i → okN n q (L.getD q 0)) (fun i => n - i) 0 ⟨Nat.zero_le _, fun q hq => absurd hq (Nat.not_lt_zero _)⟩ (Sub.pick (by simp [pickB, hget, hdel, FR.out]) (by simp [look])) ?_
    intro i ⟨hi, hok⟩
    have FR : Sm (¬ ((1 : Nat) = 0)) := Sm.mk Nat.one_ne_zero
    by_cases hin : i < n
    · have ki : decide ((i : Int) < (n : Int)) = true := decide_eq_true (by omega)
      have w1 : IntKind.i64.wrap ((n : Int) - 1) = ((n - 1 : Nat) : Int) := by rw [wrap_i64 (by omega) (by omega)]; omega
      obtain ⟨e1, he1⟩ : ∃ e1, e1 = n - 1 := ⟨_, rfl⟩
      rw [← he1] at w1
      have s1 : IntKind.i64.wrap ((i : Int) + 1) = ((i + 1 : Nat) : Int) := by rw [wrap_i64 (by omega) (by omega)]; omega
      have t1 : ∀ k : Nat, ((k : Nat) : Int).toNat = k := fun k => by omega
      have cX := cL (L.getD i 0)
      obtain ⟨X, hX⟩ : ∃ X, X = L.getD i 0 := ⟨_, rfl⟩
      have hX' : L.getD i 0 = X := hX.symm
      have hX2 : L[i]?.getD 0 = X := by rw [hX]; rfl
      rw [← hX] at cX
      obtain ⟨b1, b2, b3, b4, b5, b6, q1, q2, q3, q4, q5, q6, hbs⟩ : ∃ b1 b2 b3 b4 b5 b6 : Bool, letB X = b1 ∧ decide (X ≥ 48) = b2 ∧ decide (X ≤ 57) = b3 ∧ ((i : Int) == (e1 : Int)) = b4 ∧ (X != 95) = b5 ∧ (X != 45) = b6 ∧
          (((b1 = true ∧ b2 = true ∧ b3 = true ∨ b1 = true ∧ b2 = true ∧ b3 = false ∨ b1 = true ∧ b2 = false ∨ b1 = false ∧ b2 = true ∧ b3 = true ∨ b1 = false ∧ b2 = true ∧ b3 = false ∧ b4 = false ∧ b5 = false ∨ b1 = false ∧ b2 = true ∧ b3 = false ∧ b4 = false ∧ b5 = true ∧ b6 = false ∨ b1 = false ∧ b2 = false ∧ b4 = false ∧ b5 = false ∨ b1 = false ∧ b2 = false ∧ b4 = false ∧ b5 = true ∧ b6 = false) ∧ okN n i X) ∨
           ((b1 = false ∧ b2 = true ∧ b3 = false ∧ b4 = true ∨ b1 = false ∧ b2 = true ∧ b3 = false ∧ b4 = false ∧ b5 = true ∧ b6 = true ∨ b1 = false ∧ b2 = false ∧ b4 = true ∨ b1 = false ∧ b2 = false ∧ b4 = false ∧ b5 = true ∧ b6 = true) ∧ ¬ okN n i X)) := by
        refine ⟨_, _, _, _, _, _, rfl, rfl, rfl, rfl, rfl, rfl, ?_⟩
        unfold okN digB
        cases hB1 : letB X
        · by_cases h48 : 48 ≤ X
          · by_cases h57 : X ≤ 57
            · exact .inl ⟨.inr (.inr (.inr (.inl ⟨rfl, decide_eq_true h48, decide_eq_true h57⟩))), .inr (.inl (decide_eq_true ⟨h48, h57⟩))⟩
            · by_cases he : i = e1
              · exact .inr ⟨.inl ⟨rfl, decide_eq_true h48, decide_eq_false h57, beq_iff_eq.2 (by omega)⟩, fun h => by
                  rcases h with h | h | h
                  · cases h
                  · have := of_decide_eq_true h; omega
                  · omega⟩
              · by_cases h95 : X = 95
                · exact .inl ⟨.inr (.inr (.inr (.inr (.inl ⟨rfl, decide_eq_true h48, decide_eq_false h57, beq_eq_false_iff_ne.2 (by omega), by rw [bne_eq_false_iff_eq]; exact h95⟩)))), .inr (.inr ⟨by omega, .inl h95⟩)⟩
                · exact .inr ⟨.inr (.inl ⟨rfl, decide_eq_true h48, decide_eq_false h57, beq_eq_false_iff_ne.2 (by omega), bne_iff_ne.2 h95, bne_iff_ne.2 (by omega)⟩), fun h => by
                    rcases h with h | h | h
                    · cases h
                    · have := of_decide_eq_true h; omega
                    · omega⟩
          · by_cases he : i = e1
            · exact .inr ⟨.inr (.inr (.inl ⟨rfl, decide_eq_false h48, beq_iff_eq.2 (by omega)⟩)), fun h => by
                rcases h with h | h | h
                · cases h
                · have := of_decide_eq_true h; omega
                · omega⟩
            · by_cases h45 : X = 45
              · exact .inl ⟨.inr (.inr (.inr (.inr (.inr (.inr (.inr ⟨rfl, decide_eq_false h48, beq_eq_false_iff_ne.2 (by omega), bne_iff_ne.2 (by omega), by rw [bne_eq_false_iff_eq]; exact h45⟩)))))), .inr (.inr ⟨by omega, .inr h45⟩)⟩
              · exact .inr ⟨.inr (.inr (.inr ⟨rfl, decide_eq_false h48, beq_eq_false_iff_ne.2 (by omega), bne_iff_ne.2 (by omega), bne_iff_ne.2 h45⟩)), fun h => by
                  rcases h with h | h | h
                  · cases h
                  · have := of_decide_eq_true h; omega
                  · omega⟩
        · by_cases h48 : 48 ≤ X
          · by_cases h57 : X ≤ 57
            · exact .inl ⟨.inl ⟨rfl, decide_eq_true h48, decide_eq_true h57⟩, .inl rfl⟩
            · exact .inl ⟨.inr (.inl ⟨rfl, decide_eq_true h48, decide_eq_false h57⟩), .inl rfl⟩
          · exact .inl ⟨.inr (.inr (.inl ⟨rfl, decide_eq_false h48⟩)), .inl rfl⟩
      rw [q1] at cX
      have cX' := cX
      rw [hX] at cX'
      rcases hbs with ⟨hbs, hgo⟩ | ⟨hbs, hgo⟩
      · have hnext : ∀ q, q < i + 1 → okN n q (L.getD q 0) := fun q hq => by
          by_cases hqi : q = i
          · rw [hqi, hX']; exact hgo
          · exact hok q (by omega)
        rcases hbs with ⟨rfl, rfl, rfl⟩ | ⟨rfl, rfl, rfl⟩ | ⟨rfl, rfl⟩ | ⟨rfl, rfl, rfl⟩ | ⟨rfl, rfl, rfl, rfl, rfl⟩ | ⟨rfl, rfl, rfl, rfl, rfl, rfl⟩ | ⟨rfl, rfl, rfl, rfl⟩ | ⟨rfl, rfl, rfl, rfl, rfl⟩
        all_goals (
            first | (have FRx := FR; clear FRx) | have FR := fr0S
            have FA := Sm.mk (And.intro TFTxF (And.intro hLn (And.intro ki (And.intro w1 (And.intro s1 (And.intro t1 (And.intro hX' (And.intro hX2 (And.intro q2 (And.intro q3 (And.intro q4 (And.intro q5 q6))))))))))))
            repeat' first | (apply Sm.mk; refine YsTxF0 ?_) | refine WP.seq fun K hK => ?_ | (apply Ob.mk; exact Yo) | refine And.intro (Ob.out ?_) ?_ | refine Y1TxF ?_ | refine Yc (c := cX) (r := ?_) | refine Yc (c := cX') (r := ?_) | refine YzTxF ?_ | (refine WP.cond rfl (fun hc => ?_) (fun hc => ?_) <;> (try simp only [ZC, reduceCtorEq, ZD] at hc) <;> (try exact absurd hc (by decide)) <;> (try (exfalso; omega))) | refine Rt.mk (And.intro (fun hg => Sm.out ?_) fun hg => Sm.out ?_) | (refine Nu.mk ?_; first | (fail_if_success have := nb1); intro nb1 | (fail_if_success have := nb2); intro nb2 | (fail_if_success have := nb3); intro nb3 | (fail_if_success have := nb4); intro nb4 | intro nbz) | (apply Yfr; refine Yf FR fun hFRb FR => ?_) | refine Two.mk ?_ ?_ | (apply Yxc; exact Yx) | refine Cs.mk fun hcs => Sm.out ?_ | go_step | omega | (simp only [maxLen_eq]; omega) | exact trivial)
        all_goals exact ⟨i + 1, ⟨by omega, hnext⟩, by omega, (Sub.pick (by simp [pickB, hget, hdel, FR.out]) (by simp [look]))⟩
      · have e : R = false := by rw [hR]; exact nmB_false fun h => hgo (by rw [← hX', hn]; exact h.2.2.2 i (by omega))
        rcases hbs with ⟨rfl, rfl, rfl, rfl⟩ | ⟨rfl, rfl, rfl, rfl, rfl, rfl⟩ | ⟨rfl, rfl, rfl⟩ | ⟨rfl, rfl, rfl, rfl, rfl⟩
        all_goals (
            first | (have FRx := FR; clear FRx) | have FR := fr0S
            have FA := Sm.mk (And.intro TFTxF (And.intro hLn (And.intro ki (And.intro w1 (And.intro s1 (And.intro t1 (And.intro hX' (And.intro hX2 (And.intro q2 (And.intro q3 (And.intro q4 (And.intro q5 q6))))))))))))
            repeat' first | (apply Sm.mk; refine YsTxF0 ?_) | refine WP.seq fun K hK => ?_ | (apply Ob.mk; exact Yo) | refine And.intro (Ob.out ?_) ?_ | refine Y1TxF ?_ | refine Yc (c := cX) (r := ?_) | refine Yc (c := cX') (r := ?_) | refine YzTxF ?_ | (refine WP.cond rfl (fun hc => ?_) (fun hc => ?_) <;> (try simp only [ZC, reduceCtorEq, ZD] at hc) <;> (try exact absurd hc (by decide)) <;> (try (exfalso; omega))) | refine Rt.mk (And.intro (fun hg => Sm.out ?_) fun hg => Sm.out ?_) | (refine Nu.mk ?_; first | (fail_if_success have := nb1); intro nb1 | (fail_if_success have := nb2); intro nb2 | (fail_if_success have := nb3); intro nb3 | (fail_if_success have := nb4); intro nb4 | intro nbz) | (apply Yfr; refine Yf FR fun hFRb FR => ?_) | refine Two.mk ?_ ?_ | (apply Yxc; exact Yx) | refine Cs.mk fun hcs => Sm.out ?_ | go_step | omega | (simp only [maxLen_eq]; omega) | exact trivial)
        all_goals (have FA := Sm.mk (And.intro e FA.out); refine Yg ?_; try exact trivial)
    · obtain rfl : i = n := by omega
      have ki : decide ((i : Int) < (i : Int)) = false := decide_eq_false (by omega)
      have e : R = true := by rw [hR]; exact nmB_true ⟨by omega, by omega, hl0, fun q hq => by rw [hLn] at hq ⊢; exact hok q hq⟩
      first | (have FRx := FR; clear FRx) | have FR := fr0S
      have FA := Sm.mk (And.intro TFTxF (And.intro hLn ki))
      repeat' first | (apply Sm.mk; refine Ys ?_) | refine WP.seq fun K hK => ?_ | (apply Ob.mk; exact Yo) | refine And.intro (Ob.out ?_) ?_ | refine Y1TxF ?_ | refine YzTxF ?_ | (refine WP.cond rfl (fun hc => ?_) (fun hc => ?_) <;> (try simp only [ZC, reduceCtorEq, ZD] at hc) <;> (try exact absurd hc (by decide)) <;> (try (exfalso; omega))) | refine Rt.mk (And.intro (fun hg => Sm.out ?_) fun hg => Sm.out ?_) | (refine Nu.mk ?_; first | (fail_if_success have := nb1); intro nb1 | (fail_if_success have := nb2); intro nb2 | (fail_if_success have := nb3); intro nb3 | (fail_if_success have := nb4); intro nb4 | intro nbz) | (apply Yfr; refine Yf FR fun hFRb FR => ?_) | refine Two.mk ?_ ?_ | (apply Yxc; exact Yx) | refine Cs.mk fun hcs => Sm.out ?_ | go_step | omega | (simp only [maxLen_eq]; omega) | exact trivial
      (have FA := Sm.mk (And.intro e FA.out); refine Yg ?_; try exact trivial)
end Go.Proofs.YtaffbklkjjmmdaaDoor
