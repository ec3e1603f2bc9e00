/-
  The walks and the laws that the statement leans on, part 16.
-/
import Derived.OpenShut
import Derived.ChangeSame
import Derived.Test.YtaffbklkjjmmdaaDoorC9
import Derived.Test.YtaffbklkjjmmdaaDoorC12
import Derived.Test.YtaffbklkjjmmdaaDoorC15
namespace Go.Proofs.YtaffbklkjjmmdaaDoor
open Go
set_option linter.unusedVariables false
set_option linter.unusedSimpArgs false
set_option linter.defProp false
def TFTxN :=
  And.intro (And.intro (And.intro (And.intro tyc0 tyc3) (And.intro zmb3 (And.intro tyc4 zmb4))) (And.intro (And.intro tyc9 zmb9) (And.intro tyc21 (And.intro zmb21 tyc87)))) (And.intro (And.intro (And.intro elt87 mkz87) (And.intro apT87 (And.intro elk87 zmb87))) (And.intro (And.intro Tryd.underlying0 (And.intro Tryd.underlying3 Tryd.underlying4)) (And.intro Tryd.underlying9 (And.intro Tryd.underlying21 Tryd.underlying87))))
theorem Y1TxN {G R : Prop} (r : R) (h : R → G := by intro r; first | (apply WP.region; exact rvc_sound _ _ (Sm.out r)) | exact WP.drawK rfl mixed (by decide +kernel) (Sm.out r) | (apply WP.block; exact r) | (apply WP.skip; exact Yq r) | (apply WP.exit; exact Yq r) | (apply WP.ret; exact Sm.out r) | exact WP.cond rfl (fun _ => r) (fun hg => absurd hg (by decide)) | exact WP.cond rfl (fun hg => absurd hg (by decide)) (fun _ => r) | exact Rt.mk (And.intro (fun _ => Sm.out r) fun hg => absurd hg (by decide)) | exact Rt.mk (And.intro (fun hg => absurd hg (by decide)) fun _ => Sm.out r)) : G := h r
theorem YzTxN {G R : Prop} (r : R) (h : R → G := by intro r; first | (apply ExG.no; exact Sm.out r) | (apply Or.inl; apply ExG.no; exact Sm.out r) | exact Or.inl (And.intro (fun hg => absurd hg (by decide)) (ExG.no (Sm.out r)))) : G := h r
theorem YsTxN0 {P Q : Prop} (q : Q) (h : P = Q := by (try (conv => lhs; simp -dsimp only [ZK, rvc, capA, appA, litL, mkfv, drawF, headN, pureH, stp, dvc, calleeOf, gcall, pev, eff, newB, okd, og, ogs, ogo, ogp, slv, bltv, opd, litv, strip, one, both, putE, St.put, look, gdOf, gdv, picka, pickv, pickw, binv, bini, bins, binb, binp, binq, isSlT, bina, shp, eqCells, unv, convv, nilv, faddv, addp, idxav, idxp, load1, load1m, loadn, loadnm, loadv, hget, hset, hrep, hdel, slicev, slice3v, bnd, shift1, lenv, capv, IntKind.bits, extractv, fieldv, indexv, min2v, max2v, mkiv, tasv, tasz, cellsA, fillA, buildv, stC, oneC, rowMB, intsA, plN, appE, appZ, appC, appS, srcB, appNZ, appNC, VwL, srcC, srcZ, srcM, isBoolT, isPtrT, isSliceT, uOk, Value.oneCell', Nat.reducePow, Int.reducePow, Nat.reduceAdd, Nat.reduceMul, Nat.reduceSub, Nat.reduceLT, Nat.reduceLeDiff, Nat.reduceEqDiff, Nat.reduceBEq, Nat.reduceDiv, Nat.reduceMod, ↓reduceIte, reduceCtorEq, Int.reduceToNat, Int.reduceLT, Int.reduceLE, TFTxN, SeqQ, BlkQ, LoopQ, BodyQ, hin, FA.out, FR.out])) <;> exact rfl) : P := h.mpr q
theorem elR_in {zs : List Int} (hb : By zs) {i : Nat} (h : i < zs.length) : i + (elR zs i).2 ≤ zs.length ∧ (elR zs i).2 ≤ 4 := by
  obtain ⟨r, w, -, -, ⟨e, h1, h2, h3⟩ | ⟨e, -, hw⟩⟩ := el_dec hb h
  · rw [e]; exact ⟨h3, h2⟩
  · rw [e]; exact ⟨by simp only; omega, by simp only; omega⟩
noncomputable def rF (zs : List Int) (i : Nat) : List Int := rnF zs (zs.length - i) i
theorem rF_zero (zs : List Int) : rF zs 0 = rn zs := by unfold rF rn; rw [Nat.sub_zero]
theorem rF_end {zs : List Int} {i : Nat} (h : zs.length ≤ i) : rF zs i = [] := by
  unfold rF
  rw [show zs.length - i = 0 by omega]
  rfl
theorem rF_step {zs : List Int} {i : Nat} (h : i < zs.length) : rF zs i = (elR zs i).1 :: rF zs (i + (elR zs i).2) := by
  unfold rF
  obtain ⟨f, hf⟩ : ∃ f, zs.length - i = f + 1 := ⟨zs.length - i - 1, by omega⟩
  rw [hf, rnF_succ, if_pos h]
  have := elR_w zs i
  rw [rnF_more zs f (i + (elR zs i).2) (zs.length - (i + (elR zs i).2)) (by omega) (by omega)]
theorem rF_len (zs : List Int) (i : Nat) : (rF zs i).length ≤ zs.length - i := rnF_len zs _ _
theorem dec_el {zs : List Int} (hb : By zs) {i : Nat} (h : i < zs.length) : ∃ r : Nat, Utf8.decode (bstr zs) i = (r, (elR zs i).2) ∧ r < 2000000 := by
  obtain ⟨r, w, hd, hr, ⟨e, h1, h2, h3⟩ | ⟨e, -, hw⟩⟩ := el_dec hb h
  · exact ⟨r, by rw [e]; exact hd, hr⟩
  · exact ⟨r, by rw [e, hd, hw], hr⟩
set_option maxRecDepth 8000 in
set_option maxHeartbeats 2000000 in
theorem cnt_ct (zs : List Int) (hb : By zs) (hl : zs.length ≤ 50000) : ACt Tryd.prog 59 [stz zs] [] (Fn (iv .i64 ((rn zs).length : Int))) := by
  have hs := bstr_size zs
  have hdec := fun i (h : i < zs.length) => dec_el hb h
  have hrl := rF_len zs 0
  have hr0 := rF_zero zs
  obtain ⟨B, hB⟩ : ∃ B, B = bstr zs := ⟨_, rfl⟩
  obtain ⟨N, hN⟩ : ∃ N, N = (rn zs).length := ⟨_, rfl⟩
  unfold stz
  rw [← hB] at hs ⊢
  rw [← hN]
  simp only [← hB] at hdec
  refine ACt.intro Tryd.func59 rfl (by kernel_rfl) (by simp [Tryd.ntmps59]) (fun cx => ?_)
  simp only [argE, Tryd.ntmps59, Tryd.results59]
  first | (have FRx := FR; clear FRx) | have FR := fr0S
  have FA := Sm.mk (TFTxN)
  repeat' first | (apply Sm.mk; refine Ys ?_) | refine WP.seq fun K hK => ?_ | (apply Ob.mk; exact Yo) | refine And.intro (Ob.out ?_) ?_ | refine Y1TxN ?_ | refine YzTxN ?_ | (refine WP.cond rfl (fun hc => ?_) (fun hc => ?_) <;> (try simp only [ZC, reduceCtorEq, ZD] at hc) <;> (try exact absurd hc (by decide)) <;> (try (exfalso; omega))) | refine Rt.mk (And.intro (fun hg => Sm.out ?_) fun hg => Sm.out ?_) | (refine Nu.mk ?_; first | (fail_if_success have := nb1); intro nb1 | (fail_if_success have := nb2); intro nb2 | (fail_if_success have := nb3); intro nb3 | (fail_if_success have := nb4); intro nb4 | intro nbz) | (apply Yfr; refine Yf FR fun hFRb FR => ?_) | refine Two.mk ?_ ?_ | (apply Yxc; exact Yx) | refine Cs.mk fun hcs => Sm.out ?_ | go_step | omega | (simp only [maxLen_eq]; omega) | exact trivial
  refine WP.loop (Γ := Nat × Nat) (fun g => ⟨[(5, pt nb1 0), (3, iv .i64 (g.2 : Int))], [(nb1, .obj (.stringIter B g.1))]⟩) (fun g => g.1 ≤ zs.length ∧ N = g.2 + (rF zs g.1).length) (fun g => zs.length - g.1) (0, 0) ⟨Nat.zero_le _, by simp only; rw [hr0]; omega⟩ (Sub.pick (by simp [pickB, hget, hdel, FR.out]) (by simp [look])) ?_
  intro ⟨i, k⟩ ⟨hi, hk⟩
  try simp only at hi hk ⊢
  have FR : Sm (¬ ((1 : Nat) = 0)) := Sm.mk Nat.one_ne_zero
  have hN5 : N ≤ 50000 := by rw [hr0] at hrl; omega
  by_cases hlt : i < zs.length
  · obtain ⟨r, hd, hr⟩ := hdec i hlt
    have hin := elR_in hb hlt
    have hw := elR_w zs i
    rw [rF_step hlt, List.length_cons] at hk
    obtain ⟨w, ew⟩ : ∃ w, w = (elR zs i).2 := ⟨_, rfl⟩
    rw [← ew] at hd hin hw hk
    have e1 : IntKind.i64.wrap ((k : Int) + 1) = ((k + 1 : Nat) : Int) := by rw [wrap_i64 (by omega) (by omega)]; omega
    first | (have FRx := FR; clear FRx) | have FR := fr0S
    have FA := Sm.mk (And.intro TFTxN (And.intro hd (And.intro hs e1)))
    repeat' first | (apply Sm.mk; refine Ys ?_) | refine WP.seq fun K hK => ?_ | (apply Ob.mk; exact Yo) | refine And.intro (Ob.out ?_) ?_ | refine Y1TxN ?_ | refine YzTxN ?_ | (refine WP.cond rfl (fun hc => ?_) (fun hc => ?_) <;> (try simp only [ZC, reduceCtorEq, ZD] at hc) <;> (try exact absurd hc (by decide)) <;> (try (exfalso; omega))) | refine Rt.mk (And.intro (fun hg => Sm.out ?_) fun hg => Sm.out ?_) | (refine Nu.mk ?_; first | (fail_if_success have := nb1); intro nb1 | (fail_if_success have := nb2); intro nb2 | (fail_if_success have := nb3); intro nb3 | (fail_if_success have := nb4); intro nb4 | intro nbz) | (apply Yfr; refine Yf FR fun hFRb FR => ?_) | refine Two.mk ?_ ?_ | (apply Yxc; exact Yx) | refine Cs.mk fun hcs => Sm.out ?_ | go_step | omega | (simp only [maxLen_eq]; omega) | exact trivial
    exact ⟨(i + w, k + 1), ⟨by simp only; omega, by simp only; omega⟩, by simp only; omega, (Sub.pick (by simp [pickB, hget, hdel, FR.out]) (by simp [look]))⟩
  · obtain rfl : i = zs.length := by omega
    rw [rF_end (Nat.le_refl _)] at hk
    have hk : k = N := by simp at hk; exact hk.symm
    first | (have FRx := FR; clear FRx) | have FR := fr0S
    have FA := Sm.mk (And.intro TFTxN hs)
    repeat' first | (apply Sm.mk; refine Ys ?_) | refine WP.seq fun K hK => ?_ | (apply Ob.mk; exact Yo) | refine And.intro (Ob.out ?_) ?_ | refine Y1TxN ?_ | refine YzTxN ?_ | (refine WP.cond rfl (fun hc => ?_) (fun hc => ?_) <;> (try simp only [ZC, reduceCtorEq, ZD] at hc) <;> (try exact absurd hc (by decide)) <;> (try (exfalso; omega))) | refine Rt.mk (And.intro (fun hg => Sm.out ?_) fun hg => Sm.out ?_) | (refine Nu.mk ?_; first | (fail_if_success have := nb1); intro nb1 | (fail_if_success have := nb2); intro nb2 | (fail_if_success have := nb3); intro nb3 | (fail_if_success have := nb4); intro nb4 | intro nbz) | (apply Yfr; refine Yf FR fun hFRb FR => ?_) | refine Two.mk ?_ ?_ | (apply Yxc; exact Yx) | refine Cs.mk fun hcs => Sm.out ?_ | go_step | omega | (simp only [maxLen_eq]; omega) | exact trivial
    (have FA := Sm.mk (And.intro hk FA.out); refine Yg ?_; try exact trivial)
theorem By.take {zs : List Int} (h : By zs) (k : Nat) : By (zs.take k) := fun i hi => by
  rw [List.length_take] at hi
  have := h i (by omega)
  simpa [List.getD_eq_getElem?_getD, List.getElem?_take, show i < k by omega] using this
theorem rnF_min {zs : List Int} (hb : By zs) : ∀ f i, ∀ r ∈ rnF zs f i, -1 ≤ r := by
  intro f
  induction f with
  | zero => intro i r hr; cases hr
  | succ f ih =>
    intro i r hr
    rw [rnF_succ] at hr
    split at hr
    · rename_i hlt
      rcases List.mem_cons.1 hr with rfl | hr
      · obtain ⟨r, w, -, -, ⟨e, -⟩ | ⟨e, -⟩⟩ := el_dec hb hlt
        · rw [e]; simp only; omega
        · rw [e]; simp
      · exact ih _ r hr
    · cases hr
theorem rn_min {zs : List Int} (hb : By zs) : ∀ r ∈ rn zs, -1 ≤ r := rnF_min hb _ _
set_option maxRecDepth 8000 in
set_option maxHeartbeats 2000000 in
theorem rgood_ct (zs : List Int) (hb : By zs) (hl : zs.length ≤ 5000) : ACt Tryd.prog 62 [stz zs] [] (Fn (bv (gdB zs))) := by
  have cR := ACt.fzRow (runes_ct zs hb (by omega))
  have hL : (rn zs).length ≤ 5000 := by have := rnF_len zs zs.length 0; unfold rn; omega
  have hg : Gd zs 0 ↔ ∀ r ∈ rn zs, r ≠ -1 := by unfold Gd rn; exact Iff.rfl
  have hm := rn_min hb
  obtain ⟨L, eL⟩ : ∃ L, L = rn zs := ⟨_, rfl⟩
  rw [← eL] at cR hL hg hm
  obtain ⟨R, hR⟩ : ∃ R, R = gdB zs := ⟨_, rfl⟩
  rw [← hR]
  obtain ⟨n, hn⟩ : ∃ n, n = L.length := ⟨_, rfl⟩
  have hLn : L.length = n := hn.symm
  refine ACt.intro Tryd.func62 rfl (by kernel_rfl) (by simp [Tryd.ntmps62]) (fun cx => ?_)
  simp only [argE, Tryd.ntmps62, Tryd.results62]
  first | (have FRx := FR; clear FRx) | have FR := fr0S
  have FA := Sm.mk (And.intro TFTxN hLn)
  repeat' first | (apply Sm.mk; refine Ys ?_) | refine WP.seq fun K hK => ?_ | (apply Ob.mk; exact Yo) | refine And.intro (Ob.out ?_) ?_ | refine Y1TxN ?_ | refine Yc (c := cR) (r := ?_) | refine YzTxN ?_ | (refine WP.cond rfl (fun hc => ?_) (fun hc => ?_) <;> (try simp only [ZC, reduceCtorEq, ZD] at hc) <;> (try exact absurd hc (by decide)) <;> (try (exfalso; omega))) | refine Rt.mk (And.intro (fun hg => Sm.out ?_) fun hg => Sm.out ?_) | (refine Nu.mk ?_; first | (fail_if_success have := nb1); intro nb1 | (fail_if_success have := nb2); intro nb2 | (fail_if_success have := nb3); intro nb3 | (fail_if_success have := nb4); intro nb4 | intro nbz) | (apply Yfr; refine Yf FR fun hFRb FR => ?_) | refine Two.mk ?_ ?_ | (apply Yxc; exact Yx) | refine Cs.mk fun hcs => Sm.out ?_ | go_step | omega | (simp only [maxLen_eq]; omega) | exact trivial
  refine WP.loop (Γ := Nat) (fun i => ⟨[(4, iv .i64 (i : Int)), (3, .slz .i32 L)], []⟩) (fun i => i ≤ n ∧ ∀ q, q < i → L.getD q 0 ≠ -1) (fun i => n - i) 0 ⟨Nat.zero_le _, fun q hq => absurd hq (Nat.not_lt_zero _)⟩ (Sub.pick (by simp [pickB, hget, hdel, FR.out]) (by simp [look])) ?_
  intro i ⟨hi, hok⟩
  have FR : Sm (¬ ((1 : Nat) = 0)) := Sm.mk Nat.one_ne_zero
  by_cases hin : i < n
  · have ki : decide ((i : Int) < (n : Int)) = true := decide_eq_true (by omega)
    have s1 : IntKind.i64.wrap ((i : Int) + 1) = ((i + 1 : Nat) : Int) := by rw [wrap_i64 (by omega) (by omega)]; omega
    have t1 : ∀ k : Nat, ((k : Nat) : Int).toNat = k := fun k => by omega
    obtain ⟨X, hX⟩ : ∃ X, X = L.getD i 0 := ⟨_, rfl⟩
    have hX' : L.getD i 0 = X := hX.symm
    have hmem : X ∈ L := by rw [hX, List.getD_eq_getElem?_getD, List.getElem?_eq_getElem (by omega)]; simp
    have hmm := hm X hmem
    by_cases hx : X < 0
    · have kx : decide (X < 0) = true := decide_eq_true hx
      have e : R = false := by
        rw [hR]; unfold gdB
        exact @decide_eq_false _ (Classical.propDecidable _) fun h0 => hg.1 h0 X hmem (by omega)
      first | (have FRx := FR; clear FRx) | have FR := fr0S
      have FA := Sm.mk (And.intro TFTxN (And.intro hLn (And.intro ki (And.intro s1 (And.intro t1 (And.intro hX' kx))))))
      repeat' first | (apply Sm.mk; refine YsTxN0 ?_) | refine WP.seq fun K hK => ?_ | (apply Ob.mk; exact Yo) | refine And.intro (Ob.out ?_) ?_ | refine Y1TxN ?_ | refine YzTxN ?_ | (refine WP.cond rfl (fun hc => ?_) (fun hc => ?_) <;> (try simp only [ZC, reduceCtorEq, ZD] at hc) <;> (try exact absurd hc (by decide)) <;> (try (exfalso; omega))) | refine Rt.mk (And.intro (fun hg => Sm.out ?_) fun hg => Sm.out ?_) | (refine Nu.mk ?_; first | (fail_if_success have := nb1); intro nb1 | (fail_if_success have := nb2); intro nb2 | (fail_if_success have := nb3); intro nb3 | (fail_if_success have := nb4); intro nb4 | intro nbz) | (apply Yfr; refine Yf FR fun hFRb FR => ?_) | refine Two.mk ?_ ?_ | (apply Yxc; exact Yx) | refine Cs.mk fun hcs => Sm.out ?_ | go_step | omega | (simp only [maxLen_eq]; omega) | exact trivial
      (have FA := Sm.mk (And.intro e FA.out); refine Yg ?_; try exact trivial)
    · have kx : decide (X < 0) = false := decide_eq_false hx
      first | (have FRx := FR; clear FRx) | have FR := fr0S
      have FA := Sm.mk (And.intro TFTxN (And.intro hLn (And.intro ki (And.intro s1 (And.intro t1 (And.intro hX' kx))))))
      repeat' first | (apply Sm.mk; refine YsTxN0 ?_) | refine WP.seq fun K hK => ?_ | (apply Ob.mk; exact Yo) | refine And.intro (Ob.out ?_) ?_ | refine Y1TxN ?_ | refine YzTxN ?_ | (refine WP.cond rfl (fun hc => ?_) (fun hc => ?_) <;> (try simp only [ZC, reduceCtorEq, ZD] at hc) <;> (try exact absurd hc (by decide)) <;> (try (exfalso; omega))) | refine Rt.mk (And.intro (fun hg => Sm.out ?_) fun hg => Sm.out ?_) | (refine Nu.mk ?_; first | (fail_if_success have := nb1); intro nb1 | (fail_if_success have := nb2); intro nb2 | (fail_if_success have := nb3); intro nb3 | (fail_if_success have := nb4); intro nb4 | intro nbz) | (apply Yfr; refine Yf FR fun hFRb FR => ?_) | refine Two.mk ?_ ?_ | (apply Yxc; exact Yx) | refine Cs.mk fun hcs => Sm.out ?_ | go_step | omega | (simp only [maxLen_eq]; omega) | exact trivial
      exact ⟨i + 1, ⟨by omega, fun q hq => by
        by_cases e : q = i
        · subst e; rw [hX']; omega
        · exact hok q (by omega)⟩, by omega, (Sub.pick (by simp [pickB, hget, hdel, FR.out]) (by simp [look]))⟩
  · have ki : decide ((i : Int) < (n : Int)) = false := decide_eq_false (by omega)
    have e : R = true := by
      rw [hR]; unfold gdB
      exact @decide_eq_true _ (Classical.propDecidable _) (hg.2 fun r hr => by
        obtain ⟨q, hq, rfl⟩ := List.mem_iff_getElem.1 hr
        have := hok q (by omega)
        rwa [List.getD_eq_getElem?_getD, List.getElem?_eq_getElem hq, Option.getD_some] at this)
    first | (have FRx := FR; clear FRx) | have FR := fr0S
    have FA := Sm.mk (And.intro TFTxN (And.intro hLn ki))
    repeat' first | (apply Sm.mk; refine Ys ?_) | refine WP.seq fun K hK => ?_ | (apply Ob.mk; exact Yo) | refine And.intro (Ob.out ?_) ?_ | refine Y1TxN ?_ | refine YzTxN ?_ | (refine WP.cond rfl (fun hc => ?_) (fun hc => ?_) <;> (try simp only [ZC, reduceCtorEq, ZD] at hc) <;> (try exact absurd hc (by decide)) <;> (try (exfalso; omega))) | refine Rt.mk (And.intro (fun hg => Sm.out ?_) fun hg => Sm.out ?_) | (refine Nu.mk ?_; first | (fail_if_success have := nb1); intro nb1 | (fail_if_success have := nb2); intro nb2 | (fail_if_success have := nb3); intro nb3 | (fail_if_success have := nb4); intro nb4 | intro nbz) | (apply Yfr; refine Yf FR fun hFRb FR => ?_) | refine Two.mk ?_ ?_ | (apply Yxc; exact Yx) | refine Cs.mk fun hcs => Sm.out ?_ | go_step | omega | (simp only [maxLen_eq]; omega) | exact trivial
    (have FA := Sm.mk (And.intro e FA.out); refine Yg ?_; try exact trivial)
theorem row2_of_trod {H : Type} {enc : TypeId × Value → H} {P : Program} {w : World} {base fuel : Nat} {sp : Nat → Bool} {held : Bool} {t e u : TypeId} {m : Nat} {k : IntKind} {cs : List Value} {prs : List (Int × Int)} {p : List MemPlace} {f0 f1 : Field}
    (ht : P.underlying t = some (.array m e)) (he : P.underlying e = some (.struct #[f0, f1])) (hf : f0.type = u ∧ f1.type = u ∧ f0.offset = 0 ∧ f1.offset = 1) (hu : P.underlying u = some (.int k)) (hc : P.cellsOf e = 2) (hcu : P.cellsOf u = 1)
    (h : DataW.trod enc P w base sp held fuel t cs = some (.agg (prs.map fun z => .agg [.lit (.int k z.1), .lit (.int k z.2)]), p)) (hl : cs.length = 2 * m) : cs = (prs.flatMap fun z => [z.1, z.2]).map (Value.int k) := by
  obtain ⟨f0t, f1t, f0o, f1o⟩ := hf
  obtain ⟨xs, n, rfl, hx, hlen, hxl, hel⟩ := DataW.trod_array ht h
  simp only [Prod.mk.injEq, DataW.agg.injEq] at hx
  have hzl : prs.length = m := by have := congrArg List.length hx.1; simpa [hxl] using this
  have key : ∀ i, i < m → ∃ a b, prs[i]? = some (a, b) ∧ (cs.drop (i * 2)).take 2 = [.int k a, .int k b] := fun i hi => by
    refine ⟨(prs[i]'(by omega)).1, (prs[i]'(by omega)).2, by rw [List.getElem?_eq_getElem (by omega)], ?_⟩
    have hh := hel i hi
    rw [hc, List.getElem?_eq_getElem (by omega)] at hh
    obtain ⟨y0, y1, n', e1, e2, e3, e4⟩ := Go.ChangeShapes.trod_struct2 he hh
    rw [f0t, f0o, hcu, List.drop_zero] at e3
    rw [f1t, f1o, hcu] at e4
    have hlen2 : ((cs.drop (i * 2)).take 2).length = 2 := by rw [List.length_take, List.length_drop]; omega
    match hd : (cs.drop (i * 2)).take 2, hlen2 with
    | [v0, v1], _ =>
      rw [hd] at e3 e4
      obtain ⟨z0, a1, a2, _⟩ := DataW.trod_int hu e3
      obtain ⟨z1, b1, b2, _⟩ := DataW.trod_int hu e4
      have c0 : v0 = .int k z0 := by simpa using a1
      have c1 : v1 = .int k z1 := by simpa using b1
      have e5 : (xs[i]'(by omega)).1 = .agg [.lit (.int k z0), .lit (.int k z1)] := by rw [e1]; simp only; rw [a2, b2]
      have e6 : (xs.map (·.1))[i]'(by simpa using (by omega : i < xs.length)) = (prs.map fun z => (DataW.agg [.lit (.int k z.1), .lit (.int k z.2)] : DataW H))[i]'(by simp; omega) := by simp only [hx.1]
      simp only [List.getElem_map] at e6
      rw [e5] at e6
      have e7 : z0 = (prs[i]'(by omega)).1 ∧ z1 = (prs[i]'(by omega)).2 := by
        injection e6 with e6
        injection e6 with g1 g2
        injection g2 with g2 _
        injection g1 with g1
        injection g2 with g2
        injection g1 with _ g1
        injection g2 with _ g2
        exact ⟨g1, g2⟩
      rw [c0, c1, e7.1, e7.2]
  clear hx hel h ht he hlen hxl
  induction m generalizing cs prs with
  | zero =>
    have : prs = [] := List.length_eq_zero_iff.1 hzl
    subst this
    have : cs = [] := List.length_eq_zero_iff.1 (by omega)
    subst this
    rfl
  | succ m ih =>
    cases prs with
    | nil => simp at hzl
    | cons q r =>
      obtain ⟨a0, b0, q0, h0⟩ := key 0 (by omega)
      simp only [Nat.zero_mul, List.drop_zero, List.getElem?_cons_zero, Option.some.injEq] at h0 q0
      subst q0
      have ih := ih (cs := cs.drop 2) (prs := r) (by rw [List.length_drop]; omega) (by simp at hzl; omega) (fun i hi => by
        obtain ⟨a, b, q1, q2⟩ := key (i + 1) (by omega)
        rw [List.getElem?_cons_succ] at q1
        exact ⟨a, b, q1, by rw [List.drop_drop, show 2 + i * 2 = (i + 1) * 2 by omega]; exact q2⟩)
      rw [List.flatMap_cons, List.map_append, ← ih, ← List.take_append_drop 2 cs, h0]
      simp
def acP : List (Int × Int) := [(128, 191), (160, 191), (128, 159), (144, 191), (128, 143), (0, 0), (0, 0), (0, 0), (0, 0), (0, 0), (0, 0), (0, 0), (0, 0), (0, 0), (0, 0), (0, 0)]
theorem acP_eq : (acP.flatMap fun z => [z.1, z.2]) = acZ := by decide +kernel
end Go.Proofs.YtaffbklkjjmmdaaDoor
