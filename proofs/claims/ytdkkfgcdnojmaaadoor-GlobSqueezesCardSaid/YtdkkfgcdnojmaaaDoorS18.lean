/-
  The walks and the laws that the statement leans on, part 18.
-/
import Derived.OpenShut
import Derived.ChangeSame
import Derived.Test.YtdkkfgcdnojmaaaDoorS13
import Derived.Test.YtdkkfgcdnojmaaaDoorS17
namespace Go.Proofs.YtdkkfgcdnojmaaaDoor
open Go
set_option linter.unusedVariables false
set_option linter.unusedSimpArgs false
set_option linter.defProp false
def TFTxN :=
  And.intro (And.intro (And.intro (And.intro tyc0 tyc3) (And.intro zmb3 (And.intro tyc4 zmb4))) (And.intro (And.intro tyc9 zmb9) (And.intro tyc21 (And.intro zmb21 tyc25)))) (And.intro (And.intro (And.intro elt25 mkz25) (And.intro apT25 (And.intro elk25 zmb25))) (And.intro (And.intro Tryd.underlying0 (And.intro Tryd.underlying3 Tryd.underlying4)) (And.intro Tryd.underlying9 (And.intro Tryd.underlying21 Tryd.underlying25))))
theorem Y1TxN {G R : Prop} (r : R) (h : R → G := by intro r; first | (apply WP.region; exact rvc_sound _ _ (Sm.out r)) | exact WP.drawK rfl mixed (by decide +kernel) (Sm.out r) | (apply WP.block; exact r) | (apply WP.skip; exact Yq r) | (apply WP.exit; exact Yq r) | (apply WP.ret; exact Sm.out r) | exact WP.cond rfl (fun _ => r) (fun hg => absurd hg (by decide)) | exact WP.cond rfl (fun hg => absurd hg (by decide)) (fun _ => r) | exact Rt.mk (And.intro (fun _ => Sm.out r) fun hg => absurd hg (by decide)) | exact Rt.mk (And.intro (fun hg => absurd hg (by decide)) fun _ => Sm.out r)) : G := h r
theorem YzTxN {G R : Prop} (r : R) (h : R → G := by intro r; first | (apply ExG.no; exact Sm.out r) | (apply Or.inl; apply ExG.no; exact Sm.out r) | exact Or.inl (And.intro (fun hg => absurd hg (by decide)) (ExG.no (Sm.out r)))) : G := h r
theorem YsTxN0 {P Q : Prop} (q : Q) (h : P = Q := by (try (conv => lhs; simp -dsimp only [ZK, rvc, capA, appA, litL, mkfv, drawF, headN, pureH, stp, dvc, calleeOf, gcall, pev, eff, newB, okd, og, ogs, ogo, ogp, slv, bltv, opd, litv, strip, one, both, putE, St.put, look, gdOf, gdv, picka, pickv, pickw, binv, bini, bins, binb, binp, binq, isSlT, bina, shp, eqCells, unv, convv, nilv, faddv, addp, idxav, idxp, load1, load1m, loadn, loadnm, loadv, hget, hset, hrep, hdel, slicev, slice3v, bnd, shift1, lenv, capv, IntKind.bits, extractv, fieldv, indexv, min2v, max2v, mkiv, tasv, tasz, cellsA, fillA, buildv, stC, oneC, rowMB, intsA, plN, appE, appZ, appC, appS, srcB, appNZ, appNC, VwL, srcC, srcZ, srcM, isBoolT, isPtrT, isSliceT, uOk, Value.oneCell', Nat.reducePow, Int.reducePow, Nat.reduceAdd, Nat.reduceMul, Nat.reduceSub, Nat.reduceLT, Nat.reduceLeDiff, Nat.reduceEqDiff, Nat.reduceBEq, Nat.reduceDiv, Nat.reduceMod, ↓reduceIte, reduceCtorEq, Int.reduceToNat, Int.reduceLT, Int.reduceLE, TFTxN, SeqQ, BlkQ, LoopQ, BodyQ, hin, FA.out, FR.out])) <;> exact rfl) : P := h.mpr q
theorem rnF_len (zs : List Int) : ∀ f i, (rnF zs f i).length ≤ f := by
  intro f
  induction f with
  | zero => intro i; exact Nat.le_refl _
  | succ f ih =>
    intro i
    rw [rnF_succ]
    split
    · have := ih (i + (elR zs i).2); simp; exact this
    · simp
theorem elR_in {zs : List Int} (hb : By zs) {i : Nat} (h : i < zs.length) : i + (elR zs i).2 ≤ zs.length ∧ (elR zs i).2 ≤ 4 := by
  obtain ⟨r, w, -, -, ⟨e, h1, h2, h3⟩ | ⟨e, -, hw⟩⟩ := el_dec hb h
  · rw [e]; exact ⟨h3, h2⟩
  · rw [e]; exact ⟨by simp only; omega, by simp only; omega⟩
noncomputable def rF (zs : List Int) (i : Nat) : List Int := rnF zs (zs.length - i) i
theorem rF_zero (zs : List Int) : rF zs 0 = rn zs := by unfold rF rn; rw [Nat.sub_zero]
theorem rF_end {zs : List Int} {i : Nat} (h : zs.length ≤ i) : rF zs i = [] := by
  unfold rF
  rw [show zs.length - i = 0 by omega]
  rfl
theorem rF_step {zs : List Int} {i : Nat} (h : i < zs.length) : rF zs i = (elR zs i).1 :: rF zs (i + (elR zs i).2) := by
  unfold rF
  obtain ⟨f, hf⟩ : ∃ f, zs.length - i = f + 1 := ⟨zs.length - i - 1, by omega⟩
  rw [hf, rnF_succ, if_pos h]
  have := elR_w zs i
  rw [rnF_more zs f (i + (elR zs i).2) (zs.length - (i + (elR zs i).2)) (by omega) (by omega)]
theorem rF_len (zs : List Int) (i : Nat) : (rF zs i).length ≤ zs.length - i := rnF_len zs _ _
theorem dec_el {zs : List Int} (hb : By zs) {i : Nat} (h : i < zs.length) : ∃ r : Nat, Utf8.decode (bstr zs) i = (r, (elR zs i).2) ∧ r < 2000000 := by
  obtain ⟨r, w, hd, hr, ⟨e, h1, h2, h3⟩ | ⟨e, -, hw⟩⟩ := el_dec hb h
  · exact ⟨r, by rw [e]; exact hd, hr⟩
  · exact ⟨r, by rw [e, hd, hw], hr⟩
set_option maxHeartbeats 2000000 in
theorem cnt_ct (zs : List Int) (hb : By zs) (hl : zs.length ≤ 50000) : ACt Tryd.prog 18 [stz zs] [] (Fn (iv .i64 ((rn zs).length : Int))) := by
  have hs := bstr_size zs
  have hdec := fun i (h : i < zs.length) => dec_el hb h
  have hrl := rF_len zs 0
  have hr0 := rF_zero zs
  obtain ⟨B, hB⟩ : ∃ B, B = bstr zs := ⟨_, rfl⟩
  obtain ⟨N, hN⟩ : ∃ N, N = (rn zs).length := ⟨_, rfl⟩
  unfold stz
  rw [← hB] at hs ⊢
  rw [← hN]
  simp only [← hB] at hdec
  refine ACt.intro Tryd.func18 rfl (by kernel_rfl) (by simp [Tryd.ntmps18]) (fun cx => ?_)
  simp only [argE, Tryd.ntmps18, Tryd.results18]
  first | (have FRx := FR; clear FRx) | have FR := fr0S
  have FA := Sm.mk (TFTxN)
  repeat' first | (apply Sm.mk; refine Ys ?_) | refine WP.seq fun K hK => ?_ | (apply Ob.mk; exact Yo) | refine And.intro (Ob.out ?_) ?_ | refine Y1TxN ?_ | refine YzTxN ?_ | (refine WP.cond rfl (fun hc => ?_) (fun hc => ?_) <;> (try simp only [ZC, reduceCtorEq, ZD] at hc) <;> (try exact absurd hc (by decide)) <;> (try (exfalso; omega))) | refine Rt.mk (And.intro (fun hg => Sm.out ?_) fun hg => Sm.out ?_) | (refine Nu.mk ?_; first | (fail_if_success have := nb1); intro nb1 | (fail_if_success have := nb2); intro nb2 | (fail_if_success have := nb3); intro nb3 | (fail_if_success have := nb4); intro nb4 | intro nbz) | (apply Yfr; refine Yf FR fun hFRb FR => ?_) | refine Two.mk ?_ ?_ | (apply Yxc; exact Yx) | refine Cs.mk fun hcs => Sm.out ?_ | go_step | omega | (simp only [maxLen_eq]; omega) | exact trivial
  refine WP.loop (Γ := Nat × Nat) (fun g => ⟨[(5, pt nb1 0), (3, iv .i64 (g.2 : Int))], [(nb1, .obj (.stringIter B g.1))]⟩) (fun g => g.1 ≤ zs.length ∧ N = g.2 + (rF zs g.1).length) (fun g => zs.length - g.1) (0, 0) ⟨Nat.zero_le _, by simp only; rw [hr0]; omega⟩ (Sub.pick (by simp [pickB, hget, hdel, FR.out]) (by simp [look])) ?_
  intro ⟨i, k⟩ ⟨hi, hk⟩
  try simp only at hi hk ⊢
  have FR : Sm (¬ ((1 : Nat) = 0)) := Sm.mk Nat.one_ne_zero
  have hN5 : N ≤ 50000 := by rw [hr0] at hrl; omega
  by_cases hlt : i < zs.length
  · obtain ⟨r, hd, hr⟩ := hdec i hlt
    have hin := elR_in hb hlt
    have hw := elR_w zs i
    rw [rF_step hlt, List.length_cons] at hk
    obtain ⟨w, ew⟩ : ∃ w, w = (elR zs i).2 := ⟨_, rfl⟩
    rw [← ew] at hd hin hw hk
    have e1 : IntKind.i64.wrap ((k : Int) + 1) = ((k + 1 : Nat) : Int) := by rw [wrap_i64 (by omega) (by omega)]; omega
    first | (have FRx := FR; clear FRx) | have FR := fr0S
    have FA := Sm.mk (And.intro TFTxN (And.intro hd (And.intro hs e1)))
    repeat' first | (apply Sm.mk; refine Ys ?_) | refine WP.seq fun K hK => ?_ | (apply Ob.mk; exact Yo) | refine And.intro (Ob.out ?_) ?_ | refine Y1TxN ?_ | refine YzTxN ?_ | (refine WP.cond rfl (fun hc => ?_) (fun hc => ?_) <;> (try simp only [ZC, reduceCtorEq, ZD] at hc) <;> (try exact absurd hc (by decide)) <;> (try (exfalso; omega))) | refine Rt.mk (And.intro (fun hg => Sm.out ?_) fun hg => Sm.out ?_) | (refine Nu.mk ?_; first | (fail_if_success have := nb1); intro nb1 | (fail_if_success have := nb2); intro nb2 | (fail_if_success have := nb3); intro nb3 | (fail_if_success have := nb4); intro nb4 | intro nbz) | (apply Yfr; refine Yf FR fun hFRb FR => ?_) | refine Two.mk ?_ ?_ | (apply Yxc; exact Yx) | refine Cs.mk fun hcs => Sm.out ?_ | go_step | omega | (simp only [maxLen_eq]; omega) | exact trivial
    exact ⟨(i + w, k + 1), ⟨by simp only; omega, by simp only; omega⟩, by simp only; omega, (Sub.pick (by simp [pickB, hget, hdel, FR.out]) (by simp [look]))⟩
  · obtain rfl : i = zs.length := by omega
    rw [rF_end (Nat.le_refl _)] at hk
    have hk : k = N := by simp at hk; exact hk.symm
    first | (have FRx := FR; clear FRx) | have FR := fr0S
    have FA := Sm.mk (And.intro TFTxN hs)
    repeat' first | (apply Sm.mk; refine Ys ?_) | refine WP.seq fun K hK => ?_ | (apply Ob.mk; exact Yo) | refine And.intro (Ob.out ?_) ?_ | refine Y1TxN ?_ | refine YzTxN ?_ | (refine WP.cond rfl (fun hc => ?_) (fun hc => ?_) <;> (try simp only [ZC, reduceCtorEq, ZD] at hc) <;> (try exact absurd hc (by decide)) <;> (try (exfalso; omega))) | refine Rt.mk (And.intro (fun hg => Sm.out ?_) fun hg => Sm.out ?_) | (refine Nu.mk ?_; first | (fail_if_success have := nb1); intro nb1 | (fail_if_success have := nb2); intro nb2 | (fail_if_success have := nb3); intro nb3 | (fail_if_success have := nb4); intro nb4 | intro nbz) | (apply Yfr; refine Yf FR fun hFRb FR => ?_) | refine Two.mk ?_ ?_ | (apply Yxc; exact Yx) | refine Cs.mk fun hcs => Sm.out ?_ | go_step | omega | (simp only [maxLen_eq]; omega) | exact trivial
    (have FA := Sm.mk (And.intro hk FA.out); refine Yg ?_; try exact trivial)
theorem By.take {zs : List Int} (h : By zs) (k : Nat) : By (zs.take k) := fun i hi => by
  rw [List.length_take] at hi
  have := h i (by omega)
  simpa [List.getD_eq_getElem?_getD, List.getElem?_take, show i < k by omega] using this
theorem rnF_min {zs : List Int} (hb : By zs) : ∀ f i, ∀ r ∈ rnF zs f i, -1 ≤ r := by
  intro f
  induction f with
  | zero => intro i r hr; cases hr
  | succ f ih =>
    intro i r hr
    rw [rnF_succ] at hr
    split at hr
    · rename_i hlt
      rcases List.mem_cons.1 hr with rfl | hr
      · obtain ⟨r, w, -, -, ⟨e, -⟩ | ⟨e, -⟩⟩ := el_dec hb hlt
        · rw [e]; simp only; omega
        · rw [e]; simp
      · exact ih _ r hr
    · cases hr
theorem rn_min {zs : List Int} (hb : By zs) : ∀ r ∈ rn zs, -1 ≤ r := rnF_min hb _ _
set_option maxHeartbeats 2000000 in
theorem rgood_ct (zs : List Int) (hb : By zs) (hl : zs.length ≤ 5000) : ACt Tryd.prog 13 [stz zs] [] (Fn (bv (gdB zs))) := by
  have cR := ACt.fzRow (runes_ct zs hb hl)
  have hL : (rn zs).length ≤ 5000 := by have := rnF_len zs zs.length 0; unfold rn; omega
  have hg : Gd zs 0 ↔ ∀ r ∈ rn zs, r ≠ -1 := by unfold Gd rn; exact Iff.rfl
  have hm := rn_min hb
  obtain ⟨L, eL⟩ : ∃ L, L = rn zs := ⟨_, rfl⟩
  rw [← eL] at cR hL hg hm
  obtain ⟨R, hR⟩ : ∃ R, R = gdB zs := ⟨_, rfl⟩
  rw [← hR]
  obtain ⟨n, hn⟩ : ∃ n, n = L.length := ⟨_, rfl⟩
  have hLn : L.length = n := hn.symm
  refine ACt.intro Tryd.func13 rfl (by kernel_rfl) (by simp [Tryd.ntmps13]) (fun cx => ?_)
  simp only [argE, Tryd.ntmps13, Tryd.results13]
  first | (have FRx := FR; clear FRx) | have FR := fr0S
  have FA := Sm.mk (And.intro TFTxN hLn)
  repeat' first | (apply Sm.mk; refine Ys ?_) | refine WP.seq fun K hK => ?_ | (apply Ob.mk; exact Yo) | refine And.intro (Ob.out ?_) ?_ | refine Y1TxN ?_ | refine Yc (c := cR) (r := ?_) | refine YzTxN ?_ | (refine WP.cond rfl (fun hc => ?_) (fun hc => ?_) <;> (try simp only [ZC, reduceCtorEq, ZD] at hc) <;> (try exact absurd hc (by decide)) <;> (try (exfalso; omega))) | refine Rt.mk (And.intro (fun hg => Sm.out ?_) fun hg => Sm.out ?_) | (refine Nu.mk ?_; first | (fail_if_success have := nb1); intro nb1 | (fail_if_success have := nb2); intro nb2 | (fail_if_success have := nb3); intro nb3 | (fail_if_success have := nb4); intro nb4 | intro nbz) | (apply Yfr; refine Yf FR fun hFRb FR => ?_) | refine Two.mk ?_ ?_ | (apply Yxc; exact Yx) | refine Cs.mk fun hcs => Sm.out ?_ | go_step | omega | (simp only [maxLen_eq]; omega) | exact trivial
  refine WP.loop (Γ := Nat) (fun i => ⟨[(4, iv .i64 (i : Int)), (3, .slz .i32 L)], []⟩) (fun i => i ≤ n ∧ ∀ q, q < i → L.getD q 0 ≠ -1) (fun i => n - i) 0 ⟨Nat.zero_le _, fun q hq => absurd hq (Nat.not_lt_zero _)⟩ (Sub.pick (by simp [pickB, hget, hdel, FR.out]) (by simp [look])) ?_
  intro i ⟨hi, hok⟩
  have FR : Sm (¬ ((1 : Nat) = 0)) := Sm.mk Nat.one_ne_zero
  by_cases hin : i < n
  · have ki : decide ((i : Int) < (n : Int)) = true := decide_eq_true (by omega)
    have s1 : IntKind.i64.wrap ((i : Int) + 1) = ((i + 1 : Nat) : Int) := by rw [wrap_i64 (by omega) (by omega)]; omega
    have t1 : ∀ k : Nat, ((k : Nat) : Int).toNat = k := fun k => by omega
    obtain ⟨X, hX⟩ : ∃ X, X = L.getD i 0 := ⟨_, rfl⟩
    have hX' : L.getD i 0 = X := hX.symm
    have hmem : X ∈ L := by rw [hX, List.getD_eq_getElem?_getD, List.getElem?_eq_getElem (by omega)]; simp
    have hmm := hm X hmem
    by_cases hx : X < 0
    · have kx : decide (X < 0) = true := decide_eq_true hx
      have e : R = false := by
        rw [hR]; unfold gdB
        exact @decide_eq_false _ (Classical.propDecidable _) fun h0 => hg.1 h0 X hmem (by omega)
      first | (have FRx := FR; clear FRx) | have FR := fr0S
      have FA := Sm.mk (And.intro TFTxN (And.intro hLn (And.intro ki (And.intro s1 (And.intro t1 (And.intro hX' kx))))))
      repeat' first | (apply Sm.mk; refine YsTxN0 ?_) | refine WP.seq fun K hK => ?_ | (apply Ob.mk; exact Yo) | refine And.intro (Ob.out ?_) ?_ | refine Y1TxN ?_ | refine YzTxN ?_ | (refine WP.cond rfl (fun hc => ?_) (fun hc => ?_) <;> (try simp only [ZC, reduceCtorEq, ZD] at hc) <;> (try exact absurd hc (by decide)) <;> (try (exfalso; omega))) | refine Rt.mk (And.intro (fun hg => Sm.out ?_) fun hg => Sm.out ?_) | (refine Nu.mk ?_; first | (fail_if_success have := nb1); intro nb1 | (fail_if_success have := nb2); intro nb2 | (fail_if_success have := nb3); intro nb3 | (fail_if_success have := nb4); intro nb4 | intro nbz) | (apply Yfr; refine Yf FR fun hFRb FR => ?_) | refine Two.mk ?_ ?_ | (apply Yxc; exact Yx) | refine Cs.mk fun hcs => Sm.out ?_ | go_step | omega | (simp only [maxLen_eq]; omega) | exact trivial
      (have FA := Sm.mk (And.intro e FA.out); refine Yg ?_; try exact trivial)
    · have kx : decide (X < 0) = false := decide_eq_false hx
      first | (have FRx := FR; clear FRx) | have FR := fr0S
      have FA := Sm.mk (And.intro TFTxN (And.intro hLn (And.intro ki (And.intro s1 (And.intro t1 (And.intro hX' kx))))))
      repeat' first | (apply Sm.mk; refine YsTxN0 ?_) | refine WP.seq fun K hK => ?_ | (apply Ob.mk; exact Yo) | refine And.intro (Ob.out ?_) ?_ | refine Y1TxN ?_ | refine YzTxN ?_ | (refine WP.cond rfl (fun hc => ?_) (fun hc => ?_) <;> (try simp only [ZC, reduceCtorEq, ZD] at hc) <;> (try exact absurd hc (by decide)) <;> (try (exfalso; omega))) | refine Rt.mk (And.intro (fun hg => Sm.out ?_) fun hg => Sm.out ?_) | (refine Nu.mk ?_; first | (fail_if_success have := nb1); intro nb1 | (fail_if_success have := nb2); intro nb2 | (fail_if_success have := nb3); intro nb3 | (fail_if_success have := nb4); intro nb4 | intro nbz) | (apply Yfr; refine Yf FR fun hFRb FR => ?_) | refine Two.mk ?_ ?_ | (apply Yxc; exact Yx) | refine Cs.mk fun hcs => Sm.out ?_ | go_step | omega | (simp only [maxLen_eq]; omega) | exact trivial
      exact ⟨i + 1, ⟨by omega, fun q hq => by
        by_cases e : q = i
        · subst e; rw [hX']; omega
        · exact hok q (by omega)⟩, by omega, (Sub.pick (by simp [pickB, hget, hdel, FR.out]) (by simp [look]))⟩
  · have ki : decide ((i : Int) < (n : Int)) = false := decide_eq_false (by omega)
    have e : R = true := by
      rw [hR]; unfold gdB
      exact @decide_eq_true _ (Classical.propDecidable _) (hg.2 fun r hr => by
        obtain ⟨q, hq, rfl⟩ := List.mem_iff_getElem.1 hr
        have := hok q (by omega)
        rwa [List.getD_eq_getElem?_getD, List.getElem?_eq_getElem hq, Option.getD_some] at this)
    first | (have FRx := FR; clear FRx) | have FR := fr0S
    have FA := Sm.mk (And.intro TFTxN (And.intro hLn ki))
    repeat' first | (apply Sm.mk; refine Ys ?_) | refine WP.seq fun K hK => ?_ | (apply Ob.mk; exact Yo) | refine And.intro (Ob.out ?_) ?_ | refine Y1TxN ?_ | refine YzTxN ?_ | (refine WP.cond rfl (fun hc => ?_) (fun hc => ?_) <;> (try simp only [ZC, reduceCtorEq, ZD] at hc) <;> (try exact absurd hc (by decide)) <;> (try (exfalso; omega))) | refine Rt.mk (And.intro (fun hg => Sm.out ?_) fun hg => Sm.out ?_) | (refine Nu.mk ?_; first | (fail_if_success have := nb1); intro nb1 | (fail_if_success have := nb2); intro nb2 | (fail_if_success have := nb3); intro nb3 | (fail_if_success have := nb4); intro nb4 | intro nbz) | (apply Yfr; refine Yf FR fun hFRb FR => ?_) | refine Two.mk ?_ ?_ | (apply Yxc; exact Yx) | refine Cs.mk fun hcs => Sm.out ?_ | go_step | omega | (simp only [maxLen_eq]; omega) | exact trivial
    (have FA := Sm.mk (And.intro e FA.out); refine Yg ?_; try exact trivial)
theorem row2_of_trod {H : Type} {enc : TypeId × Value → H} {P : Program} {w : World} {base fuel : Nat} {sp : Nat → Bool} {held : Bool} {t e u : TypeId} {m : Nat} {k : IntKind} {cs : List Value} {prs : List (Int × Int)} {p : List MemPlace} {f0 f1 : Field}
    (ht : P.underlying t = some (.array m e)) (he : P.underlying e = some (.struct #[f0, f1])) (hf : f0.type = u ∧ f1.type = u ∧ f0.offset = 0 ∧ f1.offset = 1) (hu : P.underlying u = some (.int k)) (hc : P.cellsOf e = 2) (hcu : P.cellsOf u = 1)
    (h : DataW.trod enc P w base sp held fuel t cs = some (.agg (prs.map fun z => .agg [.lit (.int k z.1), .lit (.int k z.2)]), p)) (hl : cs.length = 2 * m) : cs = (prs.flatMap fun z => [z.1, z.2]).map (Value.int k) := by
  obtain ⟨f0t, f1t, f0o, f1o⟩ := hf
  obtain ⟨xs, n, rfl, hx, hlen, hxl, hel⟩ := DataW.trod_array ht h
  simp only [Prod.mk.injEq, DataW.agg.injEq] at hx
  have hzl : prs.length = m := by have := congrArg List.length hx.1; simpa [hxl] using this
  have key : ∀ i, i < m → ∃ a b, prs[i]? = some (a, b) ∧ (cs.drop (i * 2)).take 2 = [.int k a, .int k b] := fun i hi => by
    refine ⟨(prs[i]'(by omega)).1, (prs[i]'(by omega)).2, by rw [List.getElem?_eq_getElem (by omega)], ?_⟩
    have hh := hel i hi
    rw [hc, List.getElem?_eq_getElem (by omega)] at hh
    obtain ⟨y0, y1, n', e1, e2, e3, e4⟩ := Go.ChangeShapes.trod_struct2 he hh
    rw [f0t, f0o, hcu, List.drop_zero] at e3
    rw [f1t, f1o, hcu] at e4
    have hlen2 : ((cs.drop (i * 2)).take 2).length = 2 := by rw [List.length_take, List.length_drop]; omega
    match hd : (cs.drop (i * 2)).take 2, hlen2 with
    | [v0, v1], _ =>
      rw [hd] at e3 e4
      obtain ⟨z0, a1, a2, _⟩ := DataW.trod_int hu e3
      obtain ⟨z1, b1, b2, _⟩ := DataW.trod_int hu e4
      have c0 : v0 = .int k z0 := by simpa using a1
      have c1 : v1 = .int k z1 := by simpa using b1
      have e5 : (xs[i]'(by omega)).1 = .agg [.lit (.int k z0), .lit (.int k z1)] := by rw [e1]; simp only; rw [a2, b2]
      have e6 : (xs.map (·.1))[i]'(by simpa using (by omega : i < xs.length)) = (prs.map fun z => (DataW.agg [.lit (.int k z.1), .lit (.int k z.2)] : DataW H))[i]'(by simp; omega) := by simp only [hx.1]
      simp only [List.getElem_map] at e6
      rw [e5] at e6
      have e7 : z0 = (prs[i]'(by omega)).1 ∧ z1 = (prs[i]'(by omega)).2 := by
        injection e6 with e6
        injection e6 with g1 g2
        injection g2 with g2 _
        injection g1 with g1
        injection g2 with g2
        injection g1 with _ g1
        injection g2 with _ g2
        exact ⟨g1, g2⟩
      rw [c0, c1, e7.1, e7.2]
  clear hx hel h ht he hlen hxl
  induction m generalizing cs prs with
  | zero =>
    have : prs = [] := List.length_eq_zero_iff.1 hzl
    subst this
    have : cs = [] := List.length_eq_zero_iff.1 (by omega)
    subst this
    rfl
  | succ m ih =>
    cases prs with
    | nil => simp at hzl
    | cons q r =>
      obtain ⟨a0, b0, q0, h0⟩ := key 0 (by omega)
      simp only [Nat.zero_mul, List.drop_zero, List.getElem?_cons_zero, Option.some.injEq] at h0 q0
      subst q0
      have ih := ih (cs := cs.drop 2) (prs := r) (by rw [List.length_drop]; omega) (by simp at hzl; omega) (fun i hi => by
        obtain ⟨a, b, q1, q2⟩ := key (i + 1) (by omega)
        rw [List.getElem?_cons_succ] at q1
        exact ⟨a, b, q1, by rw [List.drop_drop, show 2 + i * 2 = (i + 1) * 2 by omega]; exact q2⟩)
      rw [List.flatMap_cons, List.map_append, ← ih, ← List.take_append_drop 2 cs, h0]
      simp
def acP : List (Int × Int) := [(128, 191), (160, 191), (128, 159), (144, 191), (128, 143), (0, 0), (0, 0), (0, 0), (0, 0), (0, 0), (0, 0), (0, 0), (0, 0), (0, 0), (0, 0), (0, 0)]
theorem acP_eq : (acP.flatMap fun z => [z.1, z.2]) = acZ := by decide +kernel
theorem getD_drop (zs : List Int) (p q : Nat) : (zs.drop p).getD q 0 = zs.getD (p + q) 0 := by simp [List.getD_eq_getElem?_getD, List.getElem?_drop]
theorem cP_drop (zs : List Int) (p q n : Nat) : ∀ k, cP (zs.drop p) q n k = cP zs (p + q) n k := by
  intro k
  induction k with
  | zero => show (zs.drop p).getD q 0 - _ = zs.getD (p + q) 0 - _; rw [getD_drop]
  | succ k ih => rw [cP_succ, cP_succ, ih, getD_drop, Nat.add_assoc]
theorem ctB_drop (zs : List Int) (p k : Nat) : ctB (zs.drop p) k ↔ ctB zs (p + k) := by
  unfold ctB
  rw [getD_drop, List.length_drop]
  constructor
  · rintro ⟨h1, h2⟩; exact ⟨by omega, h2⟩
  · rintro ⟨h1, h2⟩; exact ⟨by omega, h2⟩
theorem allC_drop (zs : List Int) (p q n : Nat) : allC (zs.drop p) q n ↔ allC zs (p + q) n := by
  unfold allC
  constructor
  · intro h k h1 h2
    have := (ctB_drop zs p (q + k)).1 (h k h1 h2)
    rwa [← Nat.add_assoc] at this
  · intro h k h1 h2
    have := h k h1 h2
    rw [Nat.add_assoc] at this
    exact (ctB_drop zs p (q + k)).2 this
theorem elR_drop (zs : List Int) (p q : Nat) : elR (zs.drop p) q = elR zs (p + q) := by
  have e0 := getD_drop zs p q
  unfold elR
  rw [e0]
  by_cases h0 : zs.getD (p + q) 0 < 128
  · rw [if_pos h0, if_pos h0]
  rw [if_neg h0, if_neg h0]
  have hi : (nB (zs.getD (p + q) 0) ≠ 0 ∧ allC (zs.drop p) q (nB (zs.getD (p + q) 0)) ∧ fitR (nB (zs.getD (p + q) 0)) (cP (zs.drop p) q (nB (zs.getD (p + q) 0)) (nB (zs.getD (p + q) 0)))) ↔
      (nB (zs.getD (p + q) 0) ≠ 0 ∧ allC zs (p + q) (nB (zs.getD (p + q) 0)) ∧ fitR (nB (zs.getD (p + q) 0)) (cP zs (p + q) (nB (zs.getD (p + q) 0)) (nB (zs.getD (p + q) 0)))) := by
    rw [allC_drop, cP_drop]
  by_cases hC : nB (zs.getD (p + q) 0) ≠ 0 ∧ allC zs (p + q) (nB (zs.getD (p + q) 0)) ∧ fitR (nB (zs.getD (p + q) 0)) (cP zs (p + q) (nB (zs.getD (p + q) 0)) (nB (zs.getD (p + q) 0)))
  · rw [if_pos (hi.2 hC), if_pos hC, cP_drop]
  · rw [if_neg (fun h => hC (hi.1 h)), if_neg hC]
theorem rnF_drop (zs : List Int) (p : Nat) : ∀ f q, rnF (zs.drop p) f q = rnF zs f (p + q) := by
  intro f
  induction f with
  | zero => intro q; rfl
  | succ f ih =>
    intro q
    rw [rnF_succ, rnF_succ, elR_drop, ih, List.length_drop]
    by_cases h : p + q < zs.length
    · rw [if_pos h, if_pos (by omega), Nat.add_assoc]
    · rw [if_neg h, if_neg (by omega)]
theorem rn_drop (zs : List Int) (p : Nat) : rn (zs.drop p) = rF zs p := by
  unfold rn rF
  rw [rnF_drop, List.length_drop, Nat.add_zero]
def enc8 (r : Int) : List Int :=
  if r < 128 then [r] else if r < 2048 then [192 + r / 64, 128 + r % 64] else if r < 65536 then [224 + r / 4096, 128 + r / 64 % 64, 128 + r % 64]
  else [240 + r / 262144, 128 + r / 4096 % 64, 128 + r / 64 % 64, 128 + r % 64]
def Gr (r : Int) : Prop := 0 ≤ r ∧ r ≤ 1114111 ∧ ¬ (55296 ≤ r ∧ r < 57344)
theorem enc8_len (r : Int) : 1 ≤ (enc8 r).length ∧ (enc8 r).length ≤ 4 := by unfold enc8; (repeat' split) <;> simp
theorem enc8_by {r : Int} (h : Gr r) : By (enc8 r) := by
  obtain ⟨h1, h2, -⟩ := h
  have key : ∀ x ∈ enc8 r, 0 ≤ x ∧ x ≤ 255 := by
    unfold enc8
    intro x hx
    split at hx
    · simp only [List.mem_cons, List.not_mem_nil, or_false] at hx; omega
    · split at hx
      · simp only [List.mem_cons, List.not_mem_nil, or_false] at hx; omega
      · split at hx
        · simp only [List.mem_cons, List.not_mem_nil, or_false] at hx; omega
        · simp only [List.mem_cons, List.not_mem_nil, or_false] at hx; omega
  intro i hi
  rw [List.getD_eq_getElem?_getD, List.getElem?_eq_getElem hi, Option.getD_some]
  exact key _ (List.getElem_mem hi)
theorem el_Gr {zs : List Int} (hb : By zs) {i : Nat} (h : i < zs.length) (hg : (elR zs i).1 ≠ -1) : Gr (elR zs i).1 := by
  have hbi := hb i h
  unfold elR at hg ⊢
  by_cases h0 : zs.getD i 0 < 128
  · rw [if_pos h0] at hg ⊢
    exact ⟨hbi.1, by simp only; omega, by simp only; omega⟩
  rw [if_neg h0] at hg ⊢
  by_cases hC : nB (zs.getD i 0) ≠ 0 ∧ allC zs i (nB (zs.getD i 0)) ∧ fitR (nB (zs.getD i 0)) (cP zs i (nB (zs.getD i 0)) (nB (zs.getD i 0)))
  · rw [if_pos hC]
    obtain ⟨h1, -, h2, h3, h4⟩ := hC
    have hls : 0 ≤ lsR (nB (zs.getD i 0)) := by
      unfold nB
      (repeat' split) <;> decide
    exact ⟨by simp only; omega, h3, h4⟩
  · rw [if_neg hC] at hg
    exact absurd rfl hg
theorem gd_el {zs : List Int} (hb : By zs) {i : Nat} (h : i < zs.length) (hg : Gd zs i) : Gr (elR zs i).1 ∧ Gd zs (i + (elR zs i).2) :=
  ⟨el_Gr hb h ((Gd_step h).1 hg).1, ((Gd_step h).1 hg).2⟩
theorem By.app {xs ys : List Int} (hx : By xs) (hy : By ys) : By (xs ++ ys) := fun i hi => by
  rw [List.length_append] at hi
  by_cases h : i < xs.length
  · have := hx i h
    simpa [List.getD_eq_getElem?_getD, List.getElem?_append_left h] using this
  · have := hy (i - xs.length) (by omega)
    simpa [List.getD_eq_getElem?_getD, List.getElem?_append_right (show xs.length ≤ i by omega)] using this
theorem By.nil : By [] := fun i hi => absurd hi (Nat.not_lt_zero _)
theorem elR_enc {r : Int} (hr : Gr r) (T : List Int) : elR (enc8 r ++ T) 0 = (r, (enc8 r).length) := by
  obtain ⟨h0, h1, h2⟩ := hr
  by_cases c1 : r < 128
  · have e : enc8 r = [r] := by unfold enc8; rw [if_pos c1]
    rw [e]
    have g : ([r] ++ T).getD 0 0 = r := rfl
    unfold elR
    rw [g, if_pos c1]; rfl
  by_cases c2 : r < 2048
  · have e : enc8 r = [192 + r / 64, 128 + r % 64] := by unfold enc8; rw [if_neg c1, if_pos c2]
    rw [e]
    obtain ⟨zs, hzs⟩ : ∃ zs, zs = [192 + r / 64, 128 + r % 64] ++ T := ⟨_, rfl⟩
    have g0 : zs.getD 0 0 = 192 + r / 64 := by rw [hzs]; rfl
    have g1 : zs.getD (0 + 1) 0 = 128 + r % 64 := by rw [hzs]; rfl
    have hl : 2 ≤ zs.length := by rw [hzs]; simp
    rw [← hzs]
    have hn : nB (192 + r / 64) = 1 := by unfold nB; rw [if_pos (by omega)]
    have hcp : cP zs 0 1 1 = r := by
      rw [cP_succ, g1]; show 64 * (zs.getD 0 0 - 192) + _ - _ = _; rw [g0]; omega
    have ha : allC zs 0 1 := fun k k1 k2 => by rcases (show k = 1 by omega) with rfl; exact ⟨by omega, by omega, by omega⟩
    unfold elR
    rw [g0, hn, if_neg (by omega), hcp, if_pos ⟨by decide, ha, by show (128 : Int) ≤ _; omega, h1, h2⟩]; rfl
  by_cases c3 : r < 65536
  · have e : enc8 r = [224 + r / 4096, 128 + r / 64 % 64, 128 + r % 64] := by unfold enc8; rw [if_neg c1, if_neg c2, if_pos c3]
    rw [e]
    obtain ⟨zs, hzs⟩ : ∃ zs, zs = [224 + r / 4096, 128 + r / 64 % 64, 128 + r % 64] ++ T := ⟨_, rfl⟩
    have g0 : zs.getD 0 0 = 224 + r / 4096 := by rw [hzs]; rfl
    have g1 : zs.getD (0 + 1) 0 = 128 + r / 64 % 64 := by rw [hzs]; rfl
    have g2 : zs.getD (0 + (1 + 1)) 0 = 128 + r % 64 := by rw [hzs]; rfl
    have g2' : zs.getD (0 + 2) 0 = 128 + r % 64 := by rw [hzs]; rfl
    have hl : 3 ≤ zs.length := by rw [hzs]; simp
    rw [← hzs]
    have hn : nB (224 + r / 4096) = 2 := by unfold nB; rw [if_neg (by omega), if_pos (by omega)]
    have hcp : cP zs 0 2 2 = r := by
      rw [cP_succ, cP_succ, g1, g2]; show 64 * (64 * (zs.getD 0 0 - 224) + _ - _) + _ - _ = _; rw [g0]; omega
    have ha : allC zs 0 2 := fun k k1 k2 => by rcases (by omega : k = 1 ∨ k = 2) with rfl | rfl; exact ⟨by omega, by omega, by omega⟩; exact ⟨by omega, by omega, by omega⟩
    unfold elR
    rw [g0, hn, if_neg (by omega), hcp, if_pos ⟨by decide, ha, by show (2048 : Int) ≤ _; omega, h1, h2⟩]; rfl
  · have e : enc8 r = [240 + r / 262144, 128 + r / 4096 % 64, 128 + r / 64 % 64, 128 + r % 64] := by unfold enc8; rw [if_neg c1, if_neg c2, if_neg c3]
    rw [e]
    obtain ⟨zs, hzs⟩ : ∃ zs, zs = [240 + r / 262144, 128 + r / 4096 % 64, 128 + r / 64 % 64, 128 + r % 64] ++ T := ⟨_, rfl⟩
    have g0 : zs.getD 0 0 = 240 + r / 262144 := by rw [hzs]; rfl
    have g1 : zs.getD (0 + 1) 0 = 128 + r / 4096 % 64 := by rw [hzs]; rfl
    have g2 : zs.getD (0 + (1 + 1)) 0 = 128 + r / 64 % 64 := by rw [hzs]; rfl
    have g3 : zs.getD (0 + (1 + 1 + 1)) 0 = 128 + r % 64 := by rw [hzs]; rfl
    have g2' : zs.getD (0 + 2) 0 = 128 + r / 64 % 64 := by rw [hzs]; rfl
    have g3' : zs.getD (0 + 3) 0 = 128 + r % 64 := by rw [hzs]; rfl
    have hl : 4 ≤ zs.length := by rw [hzs]; simp
    rw [← hzs]
    have hn : nB (240 + r / 262144) = 3 := by unfold nB; rw [if_neg (by omega), if_neg (by omega), if_pos (by omega)]
    have hcp : cP zs 0 3 3 = r := by
      rw [cP_succ, cP_succ, cP_succ, g1, g2, g3]; show 64 * (64 * (64 * (zs.getD 0 0 - 240) + _ - _) + _ - _) + _ - _ = _; rw [g0]; omega
    have ha : allC zs 0 3 := fun k k1 k2 => by rcases (by omega : k = 1 ∨ k = 2 ∨ k = 3) with rfl | rfl | rfl; exact ⟨by omega, by omega, by omega⟩; exact ⟨by omega, by omega, by omega⟩; exact ⟨by omega, by omega, by omega⟩
    unfold elR
    rw [g0, hn, if_neg (by omega), hcp, if_pos ⟨by decide, ha, by show (65536 : Int) ≤ _; omega, h1, h2⟩]; rfl
theorem rn_enc {r : Int} (hr : Gr r) (T : List Int) : rn (enc8 r ++ T) = r :: rn T := by
  have hl := enc8_len r
  have h : 0 < (enc8 r ++ T).length := by rw [List.length_append]; omega
  rw [← rF_zero, rF_step h, elR_enc hr, ← rn_drop, Nat.zero_add, List.drop_left]
theorem rn_nil : rn [] = [] := rfl
theorem rn_encs {l : List Int} (hl : ∀ r ∈ l, Gr r) (T : List Int) : rn (l.flatMap enc8 ++ T) = l ++ rn T := by
  induction l with
  | nil => rfl
  | cons r l ih => rw [List.flatMap_cons, List.append_assoc, rn_enc (hl r (by simp)), ih fun x hx => hl x (by simp [hx])]; rfl
theorem rn_encs0 {l : List Int} (hl : ∀ r ∈ l, Gr r) : rn (l.flatMap enc8) = l := by
  have := rn_encs hl []
  rwa [List.append_nil, rn_nil, List.append_nil] at this
theorem gd_encs {l : List Int} (hl : ∀ r ∈ l, Gr r) : Gd (l.flatMap enc8) 0 := fun r hr => by
  have e : rnF (l.flatMap enc8) ((l.flatMap enc8).length - 0) 0 = rn (l.flatMap enc8) := rfl
  rw [e, rn_encs0 hl] at hr
  have := hl r hr
  unfold Gr at this
  omega
theorem by_encs {l : List Int} (hl : ∀ r ∈ l, Gr r) : By (l.flatMap enc8) := by
  induction l with
  | nil => exact By.nil
  | cons r l ih => rw [List.flatMap_cons]; exact (enc8_by (hl r (by simp))).app (ih fun x hx => hl x (by simp [hx]))
theorem drop_cons2 {zs : List Int} {i : Nat} (h : i < zs.length) : zs.drop i = zs.getD i 0 :: zs.drop (i + 1) := by
  rw [List.drop_eq_getElem_cons h, List.getD_eq_getElem?_getD, List.getElem?_eq_getElem h, Option.getD_some]
theorem enc_el {zs : List Int} (hb : By zs) {i : Nat} (h : i < zs.length) (hg : (elR zs i).1 ≠ -1) : zs.drop i = enc8 (elR zs i).1 ++ zs.drop (i + (elR zs i).2) := by
  have hbi := hb i h
  unfold elR at hg ⊢
  by_cases h0 : zs.getD i 0 < 128
  · rw [if_pos h0] at hg ⊢
    have e : enc8 (zs.getD i 0) = [zs.getD i 0] := by unfold enc8; rw [if_pos h0]
    simp only
    rw [e, drop_cons2 h]; rfl
  rw [if_neg h0] at hg ⊢
  by_cases hC : nB (zs.getD i 0) ≠ 0 ∧ allC zs i (nB (zs.getD i 0)) ∧ fitR (nB (zs.getD i 0)) (cP zs i (nB (zs.getD i 0)) (nB (zs.getD i 0)))
  case neg => rw [if_neg hC] at hg; exact absurd rfl hg
  rw [if_pos hC]
  simp only
  clear hg
  obtain ⟨hn0, ha, hf⟩ := hC
  obtain ⟨n, hn⟩ : ∃ n, n = nB (zs.getD i 0) := ⟨_, rfl⟩
  rw [← hn] at hn0 ha hf ⊢
  have d0 := drop_cons2 h
  have hcase : (n = 1 ∧ 192 ≤ zs.getD i 0 ∧ zs.getD i 0 < 224) ∨ (n = 2 ∧ 224 ≤ zs.getD i 0 ∧ zs.getD i 0 < 240) ∨ (n = 3 ∧ 240 ≤ zs.getD i 0 ∧ zs.getD i 0 < 248) := by
    unfold nB at hn
    split at hn
    · exact .inl ⟨hn, by omega, by omega⟩
    · split at hn
      · exact .inr (.inl ⟨hn, by omega, by omega⟩)
      · split at hn
        · exact .inr (.inr ⟨hn, by omega, by omega⟩)
        · exact absurd hn hn0
  rcases hcase with ⟨rfl, b1, b2⟩ | ⟨rfl, b1, b2⟩ | ⟨rfl, b1, b2⟩
  · have a1 := ha 1 (by omega) (by omega)
    obtain ⟨hf1, hf2, hf3⟩ := hf
    have hcp : cP zs i 1 1 = 64 * (zs.getD i 0 - 192) + zs.getD (i + 1) 0 - 128 := rfl
    have d1 := drop_cons2 a1.1
    have hf1 : (128 : Int) ≤ cP zs i 1 1 := hf1
    obtain ⟨a1, a2, a3⟩ := a1
    obtain ⟨z, hz⟩ : ∃ z, z = zs.getD i 0 := ⟨_, rfl⟩
    obtain ⟨y, hy⟩ : ∃ z, z = zs.getD (i + 1) 0 := ⟨_, rfl⟩
    rw [← hz, ← hy] at hcp
    rw [← hz] at b1 b2 d0
    rw [← hy] at a2 a3 d1
    have e : enc8 (cP zs i 1 1) = [z, y] := by
      unfold enc8
      rw [if_neg (by omega), if_pos (by omega)]
      rw [show 192 + cP zs i 1 1 / 64 = z by omega, show 128 + cP zs i 1 1 % 64 = y by omega]
    rw [e, d0, d1]; rfl
  · have a1 := ha 1 (by omega) (by omega)
    have a4 := ha 2 (by omega) (by omega)
    obtain ⟨hf1, hf2, hf3⟩ := hf
    have hcp : cP zs i 2 2 = 64 * (64 * (zs.getD i 0 - 224) + zs.getD (i + 1) 0 - 128) + zs.getD (i + 2) 0 - 128 := rfl
    have d1 := drop_cons2 a1.1
    have d2 := drop_cons2 a4.1
    have hf1 : (2048 : Int) ≤ cP zs i 2 2 := hf1
    obtain ⟨a1, a2, a3⟩ := a1
    obtain ⟨a4, a5, a6⟩ := a4
    obtain ⟨z, hz⟩ : ∃ z, z = zs.getD i 0 := ⟨_, rfl⟩
    obtain ⟨y, hy⟩ : ∃ z, z = zs.getD (i + 1) 0 := ⟨_, rfl⟩
    obtain ⟨x, hx⟩ : ∃ z, z = zs.getD (i + 2) 0 := ⟨_, rfl⟩
    rw [← hz, ← hy, ← hx] at hcp
    rw [← hz] at b1 b2 d0
    rw [← hy] at a2 a3 d1
    rw [← hx] at a5 a6 d2
    have e : enc8 (cP zs i 2 2) = [z, y, x] := by
      unfold enc8
      rw [if_neg (by omega), if_neg (by omega), if_pos (by omega)]
      rw [show 224 + cP zs i 2 2 / 4096 = z by omega, show 128 + cP zs i 2 2 / 64 % 64 = y by omega, show 128 + cP zs i 2 2 % 64 = x by omega]
    rw [e, d0, d1, d2]; rfl
  · have a1 := ha 1 (by omega) (by omega)
    have a4 := ha 2 (by omega) (by omega)
    have a7 := ha 3 (by omega) (by omega)
    obtain ⟨hf1, hf2, hf3⟩ := hf
    have hcp : cP zs i 3 3 = 64 * (64 * (64 * (zs.getD i 0 - 240) + zs.getD (i + 1) 0 - 128) + zs.getD (i + 2) 0 - 128) + zs.getD (i + 3) 0 - 128 := rfl
    have d1 := drop_cons2 a1.1
    have d2 := drop_cons2 a4.1
    have d3 := drop_cons2 a7.1
    have hf1 : (65536 : Int) ≤ cP zs i 3 3 := hf1
    obtain ⟨a1, a2, a3⟩ := a1
    obtain ⟨a4, a5, a6⟩ := a4
    obtain ⟨a7, a8, a9⟩ := a7
    obtain ⟨z, hz⟩ : ∃ z, z = zs.getD i 0 := ⟨_, rfl⟩
    obtain ⟨y, hy⟩ : ∃ z, z = zs.getD (i + 1) 0 := ⟨_, rfl⟩
    obtain ⟨x, hx⟩ : ∃ z, z = zs.getD (i + 2) 0 := ⟨_, rfl⟩
    obtain ⟨w, hw⟩ : ∃ z, z = zs.getD (i + 3) 0 := ⟨_, rfl⟩
    rw [← hz, ← hy, ← hx, ← hw] at hcp
    rw [← hz] at b1 b2 d0
    rw [← hy] at a2 a3 d1
    rw [← hx] at a5 a6 d2
    rw [← hw] at a8 a9 d3
    have e : enc8 (cP zs i 3 3) = [z, y, x, w] := by
      unfold enc8
      rw [if_neg (by omega), if_neg (by omega), if_neg (by omega)]
      rw [show 240 + cP zs i 3 3 / 262144 = z by omega, show 128 + cP zs i 3 3 / 4096 % 64 = y by omega, show 128 + cP zs i 3 3 / 64 % 64 = x by omega, show 128 + cP zs i 3 3 % 64 = w by omega]
    rw [e, d0, d1, d2, d3]; rfl
theorem enc_rF {zs : List Int} (hb : By zs) : ∀ k i, zs.length - i ≤ k → Gd zs i → (rF zs i).flatMap enc8 = zs.drop i := by
  intro k
  induction k with
  | zero => intro i hk _; rw [rF_end (by omega), List.drop_eq_nil_of_le (by omega)]; rfl
  | succ k ih =>
    intro i hk hg
    by_cases h : i < zs.length
    · have hw := elR_w zs i
      have hg2 := (Gd_step h).1 hg
      rw [rF_step h, List.flatMap_cons, ih _ (by omega) hg2.2, ← enc_el hb h hg2.1]
    · rw [rF_end (by omega), List.drop_eq_nil_of_le (by omega)]; rfl
theorem enc_rn {zs : List Int} (hb : By zs) (hg : Gd zs 0) : (rn zs).flatMap enc8 = zs := by
  rw [← rF_zero, enc_rF hb _ 0 (Nat.le_refl _) hg]; rfl
theorem gr_rF {zs : List Int} (hb : By zs) : ∀ k i, zs.length - i ≤ k → Gd zs i → ∀ r ∈ rF zs i, Gr r := by
  intro k
  induction k with
  | zero => intro i hk _ r hr; rw [rF_end (by omega)] at hr; cases hr
  | succ k ih =>
    intro i hk hg r hr
    by_cases h : i < zs.length
    · have hw := elR_w zs i
      have hg2 := gd_el hb h hg
      rw [rF_step h] at hr
      rcases List.mem_cons.1 hr with e | e
      · rw [e]; exact hg2.1
      · exact ih _ (by omega) hg2.2 r e
    · rw [rF_end (by omega)] at hr; cases hr
theorem gr_rn {zs : List Int} (hb : By zs) (hg : Gd zs 0) : ∀ r ∈ rn zs, Gr r := by
  rw [← rF_zero]; exact gr_rF hb _ 0 (Nat.le_refl _) hg
theorem gdB_iff {zs : List Int} : gdB zs = true ↔ Gd zs 0 := by
  unfold gdB
  exact ⟨fun h => @of_decide_eq_true _ (Classical.propDecidable _) h, fun h => @decide_eq_true _ (Classical.propDecidable _) h⟩
theorem s_bstr (s : ByteArray) : s = bstr (ub s.data.toList) ∧ By (ub s.data.toList) := by
  constructor
  · apply ByteArray.ext
    apply Array.ext'
    simp only [bstr, ub, List.map_map]
    have e2 : s.data.toList.map ((fun n : Int => UInt8.ofNat n.toNat) ∘ fun b : UInt8 => (b.toNat : Int)) = s.data.toList.map id := List.map_congr_left fun b _ => by simp
    rw [e2, List.map_id]
  · intro i hi
    rw [ub_getD]
    have := ((s.data.toList).getD i 0).toNat_lt
    omega
end Go.Proofs.YtdkkfgcdnojmaaaDoor
