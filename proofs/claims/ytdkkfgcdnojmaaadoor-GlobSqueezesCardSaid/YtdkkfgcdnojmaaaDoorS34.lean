/-
  The walks and the laws that the statement leans on, part 34.
-/
import Derived.Test.YtdkkfgcdnojmaaaDoorS13
import Derived.Test.YtdkkfgcdnojmaaaDoorS22
import Derived.Test.YtdkkfgcdnojmaaaDoorS26
namespace Go.Proofs.YtdkkfgcdnojmaaaDoor
open Go
set_option linter.unusedVariables false
set_option linter.unusedSimpArgs false
set_option linter.defProp false
def TFGbG :=
  And.intro (And.intro (And.intro tyc3 (And.intro zmb3 tyc4)) (And.intro zmb4 (And.intro tyc5 zmb5))) (And.intro (And.intro tyc9 (And.intro zmb9 Tryd.underlying3)) (And.intro Tryd.underlying4 (And.intro Tryd.underlying5 Tryd.underlying9)))
theorem Y1GbG {G R : Prop} (r : R) (h : R → G := by intro r; first | (apply WP.region; exact rvc_sound _ _ (Sm.out r)) | exact WP.drawK rfl mixed (by decide +kernel) (Sm.out r) | (apply WP.block; exact r) | (apply WP.skip; exact Yq r) | (apply WP.exit; exact Yq r) | (apply WP.ret; exact Sm.out r) | exact WP.cond rfl (fun _ => r) (fun hg => absurd hg (by decide)) | exact WP.cond rfl (fun hg => absurd hg (by decide)) (fun _ => r) | exact Rt.mk (And.intro (fun _ => Sm.out r) fun hg => absurd hg (by decide)) | exact Rt.mk (And.intro (fun hg => absurd hg (by decide)) fun _ => Sm.out r)) : G := h r
theorem YzGbG {G R : Prop} (r : R) (h : R → G := by intro r; first | (apply ExG.no; exact Sm.out r) | (apply Or.inl; apply ExG.no; exact Sm.out r) | exact Or.inl (And.intro (fun hg => absurd hg (by decide)) (ExG.no (Sm.out r)))) : G := h r
theorem YsGbG0 {P Q : Prop} (q : Q) (h : P = Q := by (try (conv => lhs; simp -dsimp only [ZK, rvc, capA, appA, litL, mkfv, drawF, headN, pureH, stp, dvc, calleeOf, gcall, pev, eff, newB, okd, og, ogs, ogo, ogp, slv, bltv, opd, litv, strip, one, both, putE, St.put, look, gdOf, gdv, picka, pickv, pickw, binv, bini, bins, binb, binp, binq, isSlT, bina, shp, eqCells, unv, convv, nilv, faddv, addp, idxav, idxp, load1, load1m, loadn, loadnm, loadv, hget, hset, hrep, hdel, slicev, slice3v, bnd, shift1, lenv, capv, IntKind.bits, extractv, fieldv, indexv, min2v, max2v, mkiv, tasv, tasz, cellsA, fillA, buildv, stC, oneC, rowMB, intsA, plN, appE, appZ, appC, appS, srcB, appNZ, appNC, VwL, srcC, srcZ, srcM, isBoolT, isPtrT, isSliceT, uOk, Value.oneCell', Nat.reducePow, Int.reducePow, Nat.reduceAdd, Nat.reduceMul, Nat.reduceSub, Nat.reduceLT, Nat.reduceLeDiff, Nat.reduceEqDiff, Nat.reduceBEq, Nat.reduceDiv, Nat.reduceMod, ↓reduceIte, reduceCtorEq, Int.reduceToNat, Int.reduceLT, Int.reduceLE, TFGbG, SeqQ, BlkQ, LoopQ, BodyQ, hjn, FA.out, FR.out])) <;> exact rfl) : P := h.mpr q
structure RqG where
  i : Nat
  O : List Int
structure RqI where
  i : Nat
  k : Nat
  b : Bool
def stB (b : Bool) : List Int := if b then [42] else []
theorem stB_len (b : Bool) : (stB b).length ≤ 1 := by cases b <;> simp [stB]
theorem sq_out (k : Nat) (b : Bool) {l : List Int} (h : ∀ c ∈ l.head?, c ≠ 42 ∧ c ≠ 63) : sq k b l = mkE k b ++ sq 0 false l := by
  cases l with
  | nil => simp [sq, mkE]
  | cons c l =>
    obtain ⟨h1, h2⟩ := h c rfl
    rw [sq_else k b l h1 h2, sq_else 0 false l h1 h2]; rfl
theorem rsq_no (zs : List Int) (hb : By zs) (hl : zs.length ≤ 5000) (h : rtB zs = false) : ACt Tryd.prog 16 [stz zs] [] (Fn (stz [])) := by
  have cR := rright_ct zs hb hl
  rw [h] at cR
  have eN : (⟨#[]⟩ : ByteArray) = bstr [] := rfl
  unfold stz at *
  obtain ⟨B, hB⟩ : ∃ B, B = bstr zs := ⟨_, rfl⟩
  rw [← hB] at cR ⊢
  refine ACt.intro Tryd.func16 rfl (by kernel_rfl) (by simp [Tryd.ntmps16]) (fun cx => ?_)
  simp only [argE, Tryd.ntmps16, Tryd.results16]
  first | (have FRx := FR; clear FRx) | have FR := fr0S
  have FA := Sm.mk (TFGbG)
  repeat' first | (apply Sm.mk; refine Ys ?_) | refine WP.seq fun K hK => ?_ | (apply Ob.mk; exact Yo) | refine And.intro (Ob.out ?_) ?_ | refine Y1GbG ?_ | refine Yc (c := cR) (r := ?_) | refine YzGbG ?_ | (refine WP.cond rfl (fun hc => ?_) (fun hc => ?_) <;> (try simp only [ZC, reduceCtorEq, ZD] at hc) <;> (try exact absurd hc (by decide)) <;> (try (exfalso; omega))) | refine Rt.mk (And.intro (fun hg => Sm.out ?_) fun hg => Sm.out ?_) | (refine Nu.mk ?_; first | (fail_if_success have := nb1); intro nb1 | (fail_if_success have := nb2); intro nb2 | (fail_if_success have := nb3); intro nb3 | (fail_if_success have := nb4); intro nb4 | intro nbz) | (apply Yfr; refine Yf FR fun hFRb FR => ?_) | refine Two.mk ?_ ?_ | (apply Yxc; exact Yx) | refine Cs.mk fun hcs => Sm.out ?_ | go_step | omega | (simp only [maxLen_eq]; omega) | exact trivial
  (have FA := Sm.mk (And.intro eN FA.out); refine Yg ?_; try exact trivial)
set_option maxHeartbeats 4000000 in
theorem rsq_ct (zs : List Int) (hb : By zs) (hl : zs.length ≤ 5000) (h : rtB zs = true) : ACt Tryd.prog 16 [stz zs] [] (Fn (stz (sq 0 false zs))) := by
  have cR := rright_ct zs hb hl
  rw [h] at cR
  have hs := bstr_size zs
  have hat := fun i (h : i < zs.length) => bstr_at hb h
  have hsl := fun i => bstr_ext zs i (i + 1)
  obtain ⟨R, hR⟩ : ∃ R, R = sq 0 false zs := ⟨_, rfl⟩
  have hRl : R.length ≤ zs.length := by
    have := sq_len zs 0 false
    rw [← hR] at this
    simpa using this
  rw [← hR]
  unfold stz at *
  obtain ⟨B, hB⟩ : ∃ B, B = bstr zs := ⟨_, rfl⟩
  rw [← hB] at hs cR ⊢
  simp only [← hB] at hat hsl
  obtain ⟨n, hn⟩ : ∃ n, n = zs.length := ⟨_, rfl⟩
  rw [← hn] at hs hRl
  have t1 : ∀ k : Nat, ((k : Nat) : Int).toNat = k := fun k => by omega
  have eN : (⟨#[]⟩ : ByteArray) = bstr [] := rfl
  have eS : (⟨#[42]⟩ : ByteArray) = bstr [42] := rfl
  have eO : (⟨#[63]⟩ : ByteArray) = bstr [63] := rfl
  have bs := bstr_size
  have ba := bstr_app
  refine ACt.intro Tryd.func16 rfl (by kernel_rfl) (by simp [Tryd.ntmps16]) (fun cx => ?_)
  simp only [argE, Tryd.ntmps16, Tryd.results16]
  first | (have FRx := FR; clear FRx) | have FR := fr0S
  have FA := Sm.mk (TFGbG)
  repeat' first | (apply Sm.mk; refine Ys ?_) | refine WP.seq fun K hK => ?_ | (apply Ob.mk; exact Yo) | refine And.intro (Ob.out ?_) ?_ | refine Y1GbG ?_ | refine Yc (c := cR) (r := ?_) | refine YzGbG ?_ | (refine WP.cond rfl (fun hc => ?_) (fun hc => ?_) <;> (try simp only [ZC, reduceCtorEq, ZD] at hc) <;> (try exact absurd hc (by decide)) <;> (try (exfalso; omega))) | refine Rt.mk (And.intro (fun hg => Sm.out ?_) fun hg => Sm.out ?_) | (refine Nu.mk ?_; first | (fail_if_success have := nb1); intro nb1 | (fail_if_success have := nb2); intro nb2 | (fail_if_success have := nb3); intro nb3 | (fail_if_success have := nb4); intro nb4 | intro nbz) | (apply Yfr; refine Yf FR fun hFRb FR => ?_) | refine Two.mk ?_ ?_ | (apply Yxc; exact Yx) | refine Cs.mk fun hcs => Sm.out ?_ | go_step | omega | (simp only [maxLen_eq]; omega) | exact trivial
  refine WP.loop (Γ := RqG) (fun g => ⟨[(4, iv .i64 (g.i : Int)), (3, .lit (.string (bstr g.O))), (0, .lit (.string B))], []⟩) (fun g => g.i ≤ n ∧ g.O ++ sq 0 false (zs.drop g.i) = R) (fun g => n - g.i) ⟨0, []⟩ ⟨Nat.zero_le _, by rw [List.drop_zero]; exact hR.symm⟩ (Sub.pick (by simp [pickB, hget, hdel, FR.out, eN]) (by simp [look, eN])) ?_
  intro ⟨i, O⟩ ⟨hi, hr⟩
  simp only at hi hr ⊢
  have FR : Sm (¬ ((1 : Nat) = 0)) := Sm.mk Nat.one_ne_zero
  have hOl : O.length ≤ n := by
    have := congrArg List.length hr
    rw [List.length_append] at this
    omega
  by_cases h : i < n
  · have k1 : decide ((i : Int) < (n : Int)) = true := decide_eq_true (by omega)
    have s1 : IntKind.i64.wrap ((i : Int) + 1) = ((i + 1 : Nat) : Int) := by rw [wrap_i64 (by omega) (by omega)]; omega
    have hz := hat i (by omega)
    have hsl := hsl i
    have hdr := drop_one zs (show i < zs.length by omega)
    have e1 : (zs.take (i + 1)).drop i = [zs.getD i 0] := by
      rw [List.drop_take, show i + 1 - i = 1 by omega, hdr]; rfl
    rw [e1] at hsl
    clear e1
    obtain ⟨X, hX⟩ : ∃ X, zs.getD i 0 = X := ⟨_, rfl⟩
    rw [hX] at hdr hz hsl
    obtain ⟨x, hx⟩ : ∃ x, (X != 42) = x := ⟨_, rfl⟩
    obtain ⟨y, hy⟩ : ∃ y, (X != 63) = y := ⟨_, rfl⟩
    obtain ⟨W, hW⟩ : ∃ W, W = bstr O := ⟨_, rfl⟩
    obtain ⟨V, hV⟩ : ∃ V, V = bstr [X] := ⟨_, rfl⟩
    have hWV : W ++ V = bstr (O ++ [X]) := by rw [hW, hV, bstr_app]
    have hWs : W.size = O.length := by rw [hW, bstr_size]
    have hVs : V.size = 1 := by rw [hV, bstr_size]; rfl
    have hWl : W.size + V.size ≤ 9223372036854775807 := by omega
    rw [← hW]
    rw [← hV] at hsl
    first | (have FRx := FR; clear FRx) | have FR := fr0S
    have FA := Sm.mk (And.intro TFGbG (And.intro hs (And.intro k1 (And.intro s1 (And.intro t1 (And.intro hz (And.intro h (And.intro hx (And.intro hy hsl)))))))))
    repeat' first | (apply Sm.mk; refine Ys ?_) | refine WP.seq fun K hK => ?_ | (apply Ob.mk; exact Yo) | refine And.intro (Ob.out ?_) ?_ | ((fail_if_success (show WP _ _ _ (.region 9 _ _) _ _)); refine Y1GbG ?_) | refine YzGbG ?_ | (refine WP.cond rfl (fun hc => ?_) (fun hc => ?_) <;> (try simp only [ZC, reduceCtorEq, ZD] at hc) <;> (try exact absurd hc (by decide)) <;> (try (exfalso; omega))) | refine Rt.mk (And.intro (fun hg => Sm.out ?_) fun hg => Sm.out ?_) | (refine Nu.mk ?_; first | (fail_if_success have := nb1); intro nb1 | (fail_if_success have := nb2); intro nb2 | (fail_if_success have := nb3); intro nb3 | (fail_if_success have := nb4); intro nb4 | intro nbz) | (apply Yfr; refine Yf FR fun hFRb FR => ?_) | refine Two.mk ?_ ?_ | (apply Yxc; exact Yx) | refine Cs.mk fun hcs => Sm.out ?_ | go_step | omega | (simp only [maxLen_eq]; omega) | exact trivial
    · have h1 : X ≠ 42 := by have := hx.trans hc.1; simpa using this
      have h2 : X ≠ 63 := by have := hy.trans hc.2; simpa using this
      refine ⟨⟨i + 1, O ++ [X]⟩, ⟨by simp only; omega, ?_⟩, by simp only; omega, (Sub.pick (by simp [pickB, hget, hdel, FR.out, hWV]) (by simp [look, hWV]))⟩
      simp only
      rw [hdr, sq_else 0 false _ h1 h2, mkE_zero] at hr
      simpa using hr
    · have hm : X = 42 ∨ X = 63 := by
        by_cases a1 : X = 42
        · exact .inl a1
        · by_cases a2 : X = 63
          · exact .inr a2
          · have b1 : x = true := by rw [← hx]; simpa using a1
            have b2 : y = true := by rw [← hy]; simpa using a2
            rw [b1, b2] at hc; simp at hc
      clear hc hx hy hWV hWs hVs hWl hsl hz hV
      first | (have FRx := FR; clear FRx) | have FR := fr0S
      have FA := Sm.mk (And.intro TFGbG eN)
      repeat' first | (apply Sm.mk; refine Ys ?_) | refine WP.seq fun K hK => ?_ | (apply Ob.mk; exact Yo) | refine And.intro (Ob.out ?_) ?_ | refine Y1GbG ?_ | refine YzGbG ?_ | (refine WP.cond rfl (fun hc => ?_) (fun hc => ?_) <;> (try simp only [ZC, reduceCtorEq, ZD] at hc) <;> (try exact absurd hc (by decide)) <;> (try (exfalso; omega))) | refine Rt.mk (And.intro (fun hg => Sm.out ?_) fun hg => Sm.out ?_) | (refine Nu.mk ?_; first | (fail_if_success have := nb1); intro nb1 | (fail_if_success have := nb2); intro nb2 | (fail_if_success have := nb3); intro nb3 | (fail_if_success have := nb4); intro nb4 | intro nbz) | (apply Yfr; refine Yf FR fun hFRb FR => ?_) | refine Two.mk ?_ ?_ | (apply Yxc; exact Yx) | refine Cs.mk fun hcs => Sm.out ?_ | go_step | omega | (simp only [maxLen_eq]; omega) | exact trivial
      refine WP.loop (Γ := RqI) (fun g => ⟨[(5, .lit (.string (bstr (stB g.b)))), (4, iv .i64 (g.i : Int)), (3, .lit (.string (bstr (O ++ List.replicate g.k 63)))), (0, .lit (.string B))], []⟩) (fun g => i ≤ g.i ∧ g.i ≤ n ∧ g.k ≤ g.i ∧ O ++ sq g.k g.b (zs.drop g.i) = R) (fun g => n - g.i) ⟨i, 0, false⟩ ⟨Nat.le_refl _, hi, Nat.zero_le _, hr⟩ (Sub.of_env [] (by exact List.Perm.refl _) (by simp [look, stB, hW, eN])) ?_
      intro ⟨j, k, b⟩ ⟨hj1, hj, hk, hr2⟩
      simp only at hj1 hj hk hr2 ⊢
      have FR : Sm (¬ ((1 : Nat) = 0)) := Sm.mk Nat.one_ne_zero
      obtain ⟨W2, hW2⟩ : ∃ W, W = bstr (O ++ List.replicate k 63) := ⟨_, rfl⟩
      obtain ⟨S2, hS2⟩ : ∃ W, W = bstr (stB b) := ⟨_, rfl⟩
      obtain ⟨Q, hQ⟩ : ∃ W, W = bstr [63] := ⟨_, rfl⟩
      have hst := stB_len b
      have hW2s : W2.size = O.length + k := by rw [hW2, bstr_size]; simp
      have hS2s : S2.size ≤ 1 := by rw [hS2, bstr_size]; exact hst
      have hQs : Q.size = 1 := by rw [hQ, bstr_size]; rfl
      have hl1 : W2.size + Q.size ≤ 9223372036854775807 := by omega
      have hl2 : W2.size + S2.size ≤ 9223372036854775807 := by omega
      have hWQ : W2 ++ Q = bstr (O ++ List.replicate (k + 1) 63) := by rw [hW2, hQ, bstr_app, List.append_assoc, List.replicate_succ']
      have hWS : W2 ++ S2 = bstr (O ++ List.replicate k 63 ++ stB b) := by rw [hW2, hS2, bstr_app]
      rw [← hQ] at eO
      rw [← hW2, ← hS2]
      have hend : (∀ c ∈ (zs.drop j).head?, c ≠ 42 ∧ c ≠ 63) → (O ++ List.replicate k 63 ++ stB b) ++ sq 0 false (zs.drop j) = R := fun hh => by
        rw [sq_out k b hh] at hr2
        rw [← hr2]
        simp [mkE, stB]
      by_cases hjn : j < n
      · have k2 : decide ((j : Int) < (n : Int)) = true := decide_eq_true (by omega)
        have s2 : IntKind.i64.wrap ((j : Int) + 1) = ((j + 1 : Nat) : Int) := by rw [wrap_i64 (by omega) (by omega)]; omega
        have hz := hat j (by omega)
        have hdj := drop_one zs (show j < zs.length by omega)
        obtain ⟨Y, hY⟩ : ∃ Y, zs.getD j 0 = Y := ⟨_, rfl⟩
        rw [hY] at hdj hz
        by_cases a1 : Y = 42
        · have u1 : (Y == 42) = true := beq_iff_eq.2 a1
          first | (have FRx := FR; clear FRx) | have FR := fr0S
          have FA := Sm.mk (And.intro TFGbG (And.intro hs (And.intro k2 (And.intro s2 (And.intro t1 (And.intro hz (And.intro u1 eS)))))))
          repeat' first | (apply Sm.mk; refine YsGbG0 ?_) | refine WP.seq fun K hK => ?_ | (apply Ob.mk; exact Yo) | refine And.intro (Ob.out ?_) ?_ | refine Y1GbG ?_ | refine YzGbG ?_ | (refine WP.cond rfl (fun hc => ?_) (fun hc => ?_) <;> (try simp only [ZC, reduceCtorEq, ZD] at hc) <;> (try exact absurd hc (by decide)) <;> (try (exfalso; omega))) | refine Rt.mk (And.intro (fun hg => Sm.out ?_) fun hg => Sm.out ?_) | (refine Nu.mk ?_; first | (fail_if_success have := nb1); intro nb1 | (fail_if_success have := nb2); intro nb2 | (fail_if_success have := nb3); intro nb3 | (fail_if_success have := nb4); intro nb4 | intro nbz) | (apply Yfr; refine Yf FR fun hFRb FR => ?_) | refine Two.mk ?_ ?_ | (apply Yxc; exact Yx) | refine Cs.mk fun hcs => Sm.out ?_ | go_step | omega | (simp only [maxLen_eq]; omega) | exact trivial
          refine ⟨⟨j + 1, k, true⟩, ⟨by simp only; omega, by simp only; omega, by simp only; omega, ?_⟩, by simp only; omega, Sub.of_env [] (by exact List.Perm.refl _) (by simp [look, stB, hW2, s2, eS])⟩
          simp only
          rw [hdj, a1, sq_star] at hr2
          exact hr2
        · have u1 : (Y == 42) = false := beq_eq_false_iff_ne.2 a1
          by_cases a2 : Y = 63
          · have u2 : (Y == 63) = true := beq_iff_eq.2 a2
            first | (have FRx := FR; clear FRx) | have FR := fr0S
            have FA := Sm.mk (And.intro TFGbG (And.intro hs (And.intro k2 (And.intro s2 (And.intro t1 (And.intro hz (And.intro u1 (And.intro u2 (And.intro eO hl1)))))))))
            repeat' first | (apply Sm.mk; refine YsGbG0 ?_) | refine WP.seq fun K hK => ?_ | (apply Ob.mk; exact Yo) | refine And.intro (Ob.out ?_) ?_ | refine Y1GbG ?_ | refine YzGbG ?_ | (refine WP.cond rfl (fun hc => ?_) (fun hc => ?_) <;> (try simp only [ZC, reduceCtorEq, ZD] at hc) <;> (try exact absurd hc (by decide)) <;> (try (exfalso; omega))) | refine Rt.mk (And.intro (fun hg => Sm.out ?_) fun hg => Sm.out ?_) | (refine Nu.mk ?_; first | (fail_if_success have := nb1); intro nb1 | (fail_if_success have := nb2); intro nb2 | (fail_if_success have := nb3); intro nb3 | (fail_if_success have := nb4); intro nb4 | intro nbz) | (apply Yfr; refine Yf FR fun hFRb FR => ?_) | refine Two.mk ?_ ?_ | (apply Yxc; exact Yx) | refine Cs.mk fun hcs => Sm.out ?_ | go_step | omega | (simp only [maxLen_eq]; omega) | exact trivial
            refine ⟨⟨j + 1, k + 1, b⟩, ⟨by simp only; omega, by simp only; omega, by simp only; omega, ?_⟩, by simp only; omega, Sub.of_env [] (by exact List.Perm.refl _) (by simp [look, ← hWQ, hS2, s2])⟩
            simp only
            rw [hdj, a2, sq_one] at hr2
            exact hr2
          · have u2 : (Y == 63) = false := beq_eq_false_iff_ne.2 a2
            have hji : i < j := by
              rcases Nat.lt_or_eq_of_le hj1 with h | h
              · exact h
              · subst h; rw [hX] at hY; subst hY; exact absurd hm (by simp [a1, a2])
            first | (have FRx := FR; clear FRx) | have FR := fr0S
            have FA := Sm.mk (And.intro TFGbG (And.intro hs (And.intro k2 (And.intro s2 (And.intro t1 (And.intro hz (And.intro u1 (And.intro u2 hl2))))))))
            repeat' first | (apply Sm.mk; refine YsGbG0 ?_) | refine WP.seq fun K hK => ?_ | (apply Ob.mk; exact Yo) | refine And.intro (Ob.out ?_) ?_ | refine Y1GbG ?_ | refine YzGbG ?_ | (refine WP.cond rfl (fun hc => ?_) (fun hc => ?_) <;> (try simp only [ZC, reduceCtorEq, ZD] at hc) <;> (try exact absurd hc (by decide)) <;> (try (exfalso; omega))) | refine Rt.mk (And.intro (fun hg => Sm.out ?_) fun hg => Sm.out ?_) | (refine Nu.mk ?_; first | (fail_if_success have := nb1); intro nb1 | (fail_if_success have := nb2); intro nb2 | (fail_if_success have := nb3); intro nb3 | (fail_if_success have := nb4); intro nb4 | intro nbz) | (apply Yfr; refine Yf FR fun hFRb FR => ?_) | refine Two.mk ?_ ?_ | (apply Yxc; exact Yx) | refine Cs.mk fun hcs => Sm.out ?_ | go_step | omega | (simp only [maxLen_eq]; omega) | exact trivial
            exact ⟨⟨j, O ++ List.replicate k 63 ++ stB b⟩, ⟨hj, hend (by rw [hdj]; intro c hc; cases hc; exact ⟨a1, a2⟩)⟩, by simp only; omega, Sub.of_env [] (by exact List.Perm.refl _) (by simp [look, hWS])⟩
      · have k2 : decide ((j : Int) < (n : Int)) = false := decide_eq_false (by omega)
        first | (have FRx := FR; clear FRx) | have FR := fr0S
        have FA := Sm.mk (And.intro TFGbG (And.intro hs (And.intro k2 hl2)))
        repeat' first | (apply Sm.mk; refine Ys ?_) | refine WP.seq fun K hK => ?_ | (apply Ob.mk; exact Yo) | refine And.intro (Ob.out ?_) ?_ | refine Y1GbG ?_ | refine YzGbG ?_ | (refine WP.cond rfl (fun hc => ?_) (fun hc => ?_) <;> (try simp only [ZC, reduceCtorEq, ZD] at hc) <;> (try exact absurd hc (by decide)) <;> (try (exfalso; omega))) | refine Rt.mk (And.intro (fun hg => Sm.out ?_) fun hg => Sm.out ?_) | (refine Nu.mk ?_; first | (fail_if_success have := nb1); intro nb1 | (fail_if_success have := nb2); intro nb2 | (fail_if_success have := nb3); intro nb3 | (fail_if_success have := nb4); intro nb4 | intro nbz) | (apply Yfr; refine Yf FR fun hFRb FR => ?_) | refine Two.mk ?_ ?_ | (apply Yxc; exact Yx) | refine Cs.mk fun hcs => Sm.out ?_ | go_step | omega | (simp only [maxLen_eq]; omega) | exact trivial
        exact ⟨⟨j, O ++ List.replicate k 63 ++ stB b⟩, ⟨hj, hend (by rw [List.drop_eq_nil_of_le (by omega)]; intro c hc; cases hc)⟩, by simp only; omega, Sub.of_env [] (by exact List.Perm.refl _) (by simp [look, hWS])⟩
  · have k1 : decide ((i : Int) < (n : Int)) = false := decide_eq_false (by omega)
    have e0 : O = R := by
      rw [List.drop_eq_nil_of_le (by omega)] at hr
      rw [← hr]
      simp [sq, mkE]
    subst e0
    first | (have FRx := FR; clear FRx) | have FR := fr0S
    have FA := Sm.mk (And.intro TFGbG (And.intro hs k1))
    repeat' first | (apply Sm.mk; refine Ys ?_) | refine WP.seq fun K hK => ?_ | (apply Ob.mk; exact Yo) | refine And.intro (Ob.out ?_) ?_ | refine Y1GbG ?_ | refine YzGbG ?_ | (refine WP.cond rfl (fun hc => ?_) (fun hc => ?_) <;> (try simp only [ZC, reduceCtorEq, ZD] at hc) <;> (try exact absurd hc (by decide)) <;> (try (exfalso; omega))) | refine Rt.mk (And.intro (fun hg => Sm.out ?_) fun hg => Sm.out ?_) | (refine Nu.mk ?_; first | (fail_if_success have := nb1); intro nb1 | (fail_if_success have := nb2); intro nb2 | (fail_if_success have := nb3); intro nb3 | (fail_if_success have := nb4); intro nb4 | intro nbz) | (apply Yfr; refine Yf FR fun hFRb FR => ?_) | refine Two.mk ?_ ?_ | (apply Yxc; exact Yx) | refine Cs.mk fun hcs => Sm.out ?_ | go_step | omega | (simp only [maxLen_eq]; omega) | exact trivial
    (refine Yg ?_; try exact trivial)
end Go.Proofs.YtdkkfgcdnojmaaaDoor
