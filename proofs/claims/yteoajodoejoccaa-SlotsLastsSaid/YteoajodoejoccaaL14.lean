/-
  The walks and the laws that the statement leans on, part 14.
-/
import Derived.Test.YteoajodoejoccaaL10
import Derived.Test.YteoajodoejoccaaL13
namespace Go.Proofs.Yteoajodoejoccaa
open Go
set_option linter.unusedVariables false
set_option linter.unusedSimpArgs false
set_option linter.defProp false
def TFBlH :=
  And.intro (And.intro (And.intro (And.intro (And.intro (And.intro tyc0 tyc3) (And.intro zmb3 tyc4)) (And.intro (And.intro zmb4 tyc5) (And.intro zmb5 tyc25))) (And.intro (And.intro (And.intro mth25_45 mth25_44) (And.intro mth25_43 con25)) (And.intro (And.intro zmb25 tyc36) (And.intro elt36 mkz36)))) (And.intro (And.intro (And.intro (And.intro apT36 elk36) (And.intro zmb36 tyc70)) (And.intro (And.intro elt70 mkz70) (And.intro mkc70 apT70))) (And.intro (And.intro (And.intro elk70 zmb70) (And.intro tyc71 elt71)) (And.intro (And.intro mkz71 mkc71) (And.intro apT71 (And.intro elk71 zmb71)))))) (And.intro (And.intro (And.intro (And.intro (And.intro tyc73 foff73_0) (And.intro fpart73_0 foff73_1)) (And.intro (And.intro fpart73_1 foff73_2) (And.intro fpart73_2 foff73_3))) (And.intro (And.intro (And.intro fpart73_3 foff73_4) (And.intro fpart73_4 foff73_5)) (And.intro (And.intro fpart73_5 foff73_6) (And.intro fpart73_6 (And.intro zmb73 bldT73))))) (And.intro (And.intro (And.intro (And.intro tyc76 foff76_0) (And.intro fpart76_0 foff76_1)) (And.intro (And.intro fpart76_1 zmb76) (And.intro bldT76 Try.underlying0))) (And.intro (And.intro (And.intro Try.underlying3 Try.underlying4) (And.intro Try.underlying5 Try.underlying25)) (And.intro (And.intro Try.underlying36 Try.underlying70) (And.intro Try.underlying71 (And.intro Try.underlying73 Try.underlying76))))))
theorem Y1BlH {G R : Prop} (r : R) (h : R → G := by intro r; first | (apply WP.region; exact rvc_sound _ _ (Sm.out r)) | exact WP.drawN (cs := [20,21]) (k := 22) (bs := []) mixed (by decide +kernel) (by decide +kernel) (by decide +kernel) (by decide +kernel) (Sm.out r) | exact WP.drawMk (ia := 20) (k := 23) mixed (by decide +kernel) (by decide +kernel) (by decide +kernel) (by decide +kernel) (Sm.out r) | exact WP.drawK rfl mixed (by decide +kernel) (Sm.out r) | (apply WP.block; exact r) | (apply WP.skip; exact Yq r) | (apply WP.exit; exact Yq r) | (apply WP.ret; exact Sm.out r) | exact WP.cond rfl (fun _ => r) (fun hg => absurd hg (by decide)) | exact WP.cond rfl (fun hg => absurd hg (by decide)) (fun _ => r) | exact Rt.mk (And.intro (fun _ => Sm.out r) fun hg => absurd hg (by decide)) | exact Rt.mk (And.intro (fun hg => absurd hg (by decide)) fun _ => Sm.out r)) : G := h r
theorem YzBlH {G R : Prop} (r : R) (h : R → G := by intro r; first | (apply ExG.no; exact Sm.out r) | (apply Or.inl; apply ExG.no; exact Sm.out r) | exact Or.inl (And.intro (fun hg => absurd hg (by decide)) (ExG.no (Sm.out r)))) : G := h r
theorem YsBlH0 {P Q : Prop} (q : Q) (h : P = Q := by (try (conv => lhs; simp -dsimp only [ZK, rvc, capA, appA, litL, mkfv, drawF, headN, pureH, stp, dvc, calleeOf, gcall, pev, eff, newB, okd, og, ogs, ogo, ogp, slv, bltv, opd, litv, strip, one, both, putE, St.put, look, gdOf, gdv, picka, pickv, pickw, binv, bini, bins, binb, binp, binq, isSlT, bina, shp, eqCells, unv, convv, nilv, faddv, addp, idxav, idxp, load1, load1m, loadn, loadnm, loadv, hget, hset, hrep, hdel, slicev, slice3v, bnd, shift1, lenv, capv, IntKind.bits, extractv, fieldv, indexv, min2v, max2v, mkiv, tasv, tasz, cellsA, fillA, buildv, stC, oneC, rowMB, intsA, plN, appE, appZ, appC, appS, srcB, appNZ, appNC, VwL, srcC, srcZ, srcM, isBoolT, isPtrT, isSliceT, uOk, Value.oneCell', Nat.reducePow, Int.reducePow, Nat.reduceAdd, Nat.reduceMul, Nat.reduceSub, Nat.reduceLT, Nat.reduceLeDiff, Nat.reduceEqDiff, Nat.reduceBEq, Nat.reduceDiv, Nat.reduceMod, ↓reduceIte, reduceCtorEq, Int.reduceToNat, Int.reduceLT, Int.reduceLE, drawMF, mkS, drawNF, drawNF1, drawNTF, nvc, xst, chF, chS, splA, mkV, splitH, calleeV, putE, hdel, TFBlH, SeqQ, BlkQ, LoopQ, BodyQ, ite_self, Nat.sub_zero, FA.out, FR.out])) <;> exact rfl) : P := h.mpr q
def layW : List (List Int) → List (Nat × List Int) → List (List Int)
  | L, [] => L
  | L, (i, x) :: r => layW (L.set i x) r
theorem layW_len : ∀ (W : List (Nat × List Int)) (L : List (List Int)), (layW L W).length = L.length
  | [], L => rfl
  | (i, x) :: r, L => by rw [layW, layW_len r, List.length_set]
theorem layW_app : ∀ (W V : List (Nat × List Int)) (L : List (List Int)), layW L (W ++ V) = layW (layW L W) V
  | [], V, L => rfl
  | (i, x) :: r, V, L => by rw [List.cons_append, layW, layW_app r, layW]
theorem layW_rows {size : Nat} : ∀ (W : List (Nat × List Int)) (L : List (List Int)), (∀ z ∈ L, z.length = size) → (∀ w ∈ W, w.2.length = size) → ∀ z ∈ layW L W, z.length = size
  | [], L, h, _ => h
  | (i, x) :: r, L, h, hw => by
    rw [layW]
    refine layW_rows r _ (fun z hz => ?_) fun w hw' => hw w (List.mem_cons_of_mem _ hw')
    rcases List.mem_or_eq_of_mem_set hz with h1 | rfl
    · exact h z h1
    · exact hw _ (List.mem_cons_self ..)
def crL (L : List (List Int)) (W : List (Nat × List Int)) (k t : Nat) : List (List Int) :=
  match W[k]? with
  | none => layW L (W.take k)
  | some w => (layW L (W.take k)).set w.1 (w.2.take t ++ ((layW L (W.take k)).getD w.1 []).drop t)
def hN (n : Int) (m : Nat) : Nat := (held n m).toNat
theorem hN_le (n : Int) (m : Nat) : hN n m ≤ m := by unfold hN held; split <;> split at * <;> omega
theorem hN_eq (n : Int) (m : Nat) : held n m = (hN n m : Int) := by unfold hN held; split <;> split at * <;> omega
theorem wcs_drop : ∀ (W : List (Nat × List Int)) (j : Nat) (h : j < W.length), (wcs W).drop (j * 2) = iv .i64 (W[j].1 : Int) :: .slz .u8 W[j].2 :: wcs (W.drop (j + 1))
  | (i, x) :: r, 0, _ => rfl
  | (i, x) :: r, j + 1, h => by
    have := wcs_drop r j (by simpa using h)
    rw [show (j + 1) * 2 = j * 2 + 2 by omega]
    simpa [wcs] using this
theorem rws_set (L : List (List Int)) (i : Nat) (x : List Int) : (rws L).set i (.slz .u8 x) = rws (L.set i x) := by simp [rws, List.map_set]
set_option maxRecDepth 20000 in
theorem crash_none (b size de bl cl n : Nat) (f keep torn : Int) (dk : Bool) (S : AV) (Ls : List (List Int)) (hd : b ≠ bl ∧ bl ≠ b) (hn : Ls.length = n) (h1 : 1 ≤ n) (h2 : n ≤ 400) (hcl : n ≤ cl) :
    ACt Try.prog 21 [pt b 0, iv .i64 keep, iv .i64 torn] [(b, dkM size (ms bl 0 n cl) S nl f dk de), (bl, .cells (rws Ls) cl 36)]
    (fun r F' => ∃ x c : Nat, n ≤ c ∧ r = .tup [] ∧ F' = [(x, .cells (rws Ls) c 36), (b, dkM size (ms x 0 n c) (ms bl 0 n cl) nl (-1) false de), (bl, .cells (rws Ls) cl 36)]) := by
  refine ACt.intro Try.func21 rfl (by kernel_rfl) (by simp [Try.ntmps21]) (fun cx => ?_)
  simp only [argE, Try.ntmps21, Try.results21]
  have c1 := held_ct keep 0
  have h0 : held keep 0 = 0 := by unfold held; (repeat' split) <;> omega
  rw [h0] at c1
  have c3 := settle_ct b size de bl cl bl cl n nl f dk [] Ls hd hn h1 h2 hcl
  unfold dkM at c3 ⊢
  first | (have FRx := FR; clear FRx) | have FR := fr0S
  have FA := Sm.mk (And.intro TFBlH hd)
  repeat' first | (apply Sm.mk; refine Ys ?_) | refine WP.seq fun K hK => ?_ | (apply Ob.mk; exact Yo) | refine And.intro (Ob.out ?_) ?_ | refine Y1BlH ?_ | refine Yc (c := c1) (r := ?_) | refine YzBlH ?_ | (refine WP.cond rfl (fun hc => ?_) (fun hc => ?_) <;> (try simp only [ZC, reduceCtorEq, ZD] at hc) <;> (try exact absurd hc (by decide)) <;> (try (exfalso; omega))) | refine Rt.mk (And.intro (fun hg => Sm.out ?_) fun hg => Sm.out ?_) | (refine Nu.mk ?_; first | (fail_if_success have := nb1); intro nb1 | (fail_if_success have := nb2); intro nb2 | (fail_if_success have := nb3); intro nb3 | (fail_if_success have := nb4); intro nb4 | (fail_if_success have := nb5); intro nb5 | (fail_if_success have := nb6); intro nb6 | (fail_if_success have := nb7); intro nb7 | (fail_if_success have := nb8); intro nb8 | (fail_if_success have := nb9); intro nb9 | (fail_if_success have := nb10); intro nb10 | (fail_if_success have := nb11); intro nb11 | (fail_if_success have := nb12); intro nb12 | intro nbz) | (apply Yfr; refine Yf FR fun hFRb FR => ?_) | refine Two.mk ?_ ?_ | (apply Yxc; exact Yx) | refine Cs.mk fun hcs => Sm.out ?_ | go_step | omega | (simp only [maxLen_eq]; omega) | exact trivial
  refine WP.loop (Γ := Unit) (fun _ => ⟨[(33, iv .i64 0), (32, iv .i64 0), (2, iv .i64 torn), (1, iv .i64 0), (0, pt b 0)], [(b, MB.cells [iv .i64 (size : Int), ms bl 0 n cl, ms bl 0 n cl, nl, iv .i64 f, bv dk, iv .i64 (de : Int)] 7 73), (bl, .cells (rws Ls) cl 36)]⟩)
    (fun _ => True) (fun _ => 0) () trivial (Sub.pick (by simp [pickB, hget, hdel, FR.out, hd]) (by simp [look, hd])) ?_
  intro _ _
  have FR : Sm (¬ ((1 : Nat) = 0)) := Sm.mk Nat.one_ne_zero
  first | (have FRx := FR; clear FRx) | have FR := fr0S
  have FA := Sm.mk (And.intro TFBlH hd)
  repeat' first | (apply Sm.mk; refine Ys ?_) | refine WP.seq fun K hK => ?_ | (apply Ob.mk; exact Yo) | refine And.intro (Ob.out ?_) ?_ | refine Y1BlH ?_ | (refine CallV.newC (c3) (perm2 (by simp only [hget, hdel, ↓reduceIte, FR.out, hd]; first | done | rfl) (by simp only [hget, hdel, ↓reduceIte, FR.out, hd]; first | done | rfl)) (fun _ _ => rfl) (Sm.out ?_)) | refine YzBlH ?_ | (refine WP.cond rfl (fun hc => ?_) (fun hc => ?_) <;> (try simp only [ZC, reduceCtorEq, ZD] at hc) <;> (try exact absurd hc (by decide)) <;> (try (exfalso; omega))) | refine Rt.mk (And.intro (fun hg => Sm.out ?_) fun hg => Sm.out ?_) | (refine Nu.mk ?_; first | (fail_if_success have := nb1); intro nb1 | (fail_if_success have := nb2); intro nb2 | (fail_if_success have := nb3); intro nb3 | (fail_if_success have := nb4); intro nb4 | (fail_if_success have := nb5); intro nb5 | (fail_if_success have := nb6); intro nb6 | (fail_if_success have := nb7); intro nb7 | (fail_if_success have := nb8); intro nb8 | (fail_if_success have := nb9); intro nb9 | (fail_if_success have := nb10); intro nb10 | (fail_if_success have := nb11); intro nb11 | (fail_if_success have := nb12); intro nb12 | intro nbz) | (apply Yfr; refine Yf FR fun hFRb FR => ?_) | refine Two.mk ?_ ?_ | (apply Yxc; exact Yx) | refine Cs.mk fun hcs => Sm.out ?_ | go_step | omega | (simp only [maxLen_eq]; omega) | exact trivial
  (refine OutQ.drop _ _ (perm3 (by simp only [hget, hdel, ↓reduceIte, if_true, if_false, FR.out, hd]; first | done | rfl) (by simp only [hget, hdel, ↓reduceIte, if_true, if_false, FR.out, hd]; first | done | rfl) (by simp only [hget, hdel, ↓reduceIte, if_true, if_false, FR.out, hd]; first | done | rfl)) (by simp only [resv, ZK, look, loadv, loadn, loadnm, load1, load1m, hget, ↓reduceIte, Nat.reduceEqDiff, Nat.reduceAdd, Nat.reduceMul, Nat.reduceLeDiff, Nat.reduceLT, reduceCtorEq, TFBlH, FR.out, hd]) ⟨nb1, nb2, FR.out.1.1, (by simp only [resv, resA, ZK, look, loadv, loadn, loadnm, load1, load1m, hget, ↓reduceIte, Nat.reduceEqDiff, Nat.reduceAdd, Nat.reduceMul, Nat.reduceLeDiff, Nat.reduceLT, reduceCtorEq, TFBlH, FR.out, hd]; first | done | rfl), rfl⟩)
set_option maxRecDepth 20000 in
theorem crash_some (b size de bl cl bw k m n : Nat) (f keep torn : Int) (dk : Bool) (S : AV) (Ls : List (List Int)) (Wl : List (Nat × List Int)) (hd : (b ≠ bl ∧ bl ≠ b) ∧ (b ≠ bw ∧ bw ≠ b) ∧ bl ≠ bw ∧ bw ≠ bl) (hn : Ls.length = n) (h1 : 1 ≤ n) (h2 : n ≤ 400) (hcl : n ≤ cl)
    (hm : Wl.length = m) (hm1 : 1 ≤ m) (hm2 : m ≤ 1000) (hmk : m ≤ k) (hs1 : 1 ≤ size) (hs2 : size ≤ 512) (hL : ∀ z ∈ Ls, z.length = size) (hW : ∀ w ∈ Wl, w.1 < n ∧ w.2.length = size) :
    ACt Try.prog 21 [pt b 0, iv .i64 keep, iv .i64 torn] [(b, dkM size (ms bl 0 n cl) S (ms bw 0 m k) f dk de), (bl, .cells (rws Ls) cl 36), (bw, .cells (wcs Wl) (k * 2) 76)]
    (fun r F' => ∃ x c : Nat, n ≤ c ∧ r = .tup [] ∧ F' = [(x, .cells (rws (crL Ls Wl (hN keep m) (hN torn size))) c 36), (b, dkM size (ms x 0 n c) (ms bl 0 n cl) nl (-1) false de), (bl, .cells (rws (crL Ls Wl (hN keep m) (hN torn size))) cl 36), (bw, .cells (wcs Wl) (k * 2) 76)]) := by
  refine ACt.intro Try.func21 rfl (by kernel_rfl) (by simp [Try.ntmps21]) (fun cx => ?_)
  simp only [argE, Try.ntmps21, Try.results21]
  have c1 := held_ct keep m
  have hk1 := hN_le keep m
  rw [hN_eq] at c1
  obtain ⟨kk, hkk⟩ : ∃ kk, kk = hN keep m := ⟨_, rfl⟩
  rw [← hkk] at c1 hk1 ⊢
  unfold dkM
  have hwl := wcs_len Wl
  have hwd := wcs_drop Wl
  obtain ⟨C, hC⟩ : ∃ C, C = wcs Wl := ⟨_, rfl⟩
  rw [← hC] at hwl hwd ⊢
  have z1 : (kk : Int) ≤ (m : Int) := by omega
  first | (have FRx := FR; clear FRx) | have FR := fr0S
  have FA := Sm.mk (And.intro TFBlH (And.intro hd z1))
  repeat' first | (apply Sm.mk; refine YsBlH0 ?_) | refine WP.seq fun K hK => ?_ | (apply Ob.mk; exact Yo) | refine And.intro (Ob.out ?_) ?_ | refine Y1BlH ?_ | refine Yc (c := c1) (r := ?_) | refine YzBlH ?_ | (refine WP.cond rfl (fun hc => ?_) (fun hc => ?_) <;> (try simp only [ZC, reduceCtorEq, ZD] at hc) <;> (try exact absurd hc (by decide)) <;> (try (exfalso; omega))) | refine Rt.mk (And.intro (fun hg => Sm.out ?_) fun hg => Sm.out ?_) | (refine Nu.mk ?_; first | (fail_if_success have := nb1); intro nb1 | (fail_if_success have := nb2); intro nb2 | (fail_if_success have := nb3); intro nb3 | (fail_if_success have := nb4); intro nb4 | (fail_if_success have := nb5); intro nb5 | (fail_if_success have := nb6); intro nb6 | (fail_if_success have := nb7); intro nb7 | (fail_if_success have := nb8); intro nb8 | (fail_if_success have := nb9); intro nb9 | (fail_if_success have := nb10); intro nb10 | (fail_if_success have := nb11); intro nb11 | (fail_if_success have := nb12); intro nb12 | intro nbz) | (apply Yfr; refine Yf FR fun hFRb FR => ?_) | refine Two.mk ?_ ?_ | (apply Yxc; exact Yx) | refine Cs.mk fun hcs => Sm.out ?_ | go_step | omega | (simp only [maxLen_eq]; omega) | exact trivial
  refine WP.loop (Γ := Nat) (fun j => ⟨[(33, iv .i64 (j : Nat)), (32, iv .i64 (kk : Nat)), (31, ms bw 0 kk k), (2, iv .i64 torn), (1, iv .i64 (kk : Nat)), (0, pt b 0)], [(b, MB.cells [iv .i64 (size : Int), ms bl 0 n cl, ms bl 0 n cl, ms bw 0 m k, iv .i64 f, bv dk, iv .i64 (de : Int)] 7 73), (bl, .cells (rws (layW Ls (Wl.take j))) cl 36), (bw, .cells C (k * 2) 76)]⟩)
    (fun j => j ≤ kk) (fun j => kk - j) 0 (by omega) (Sub.pick (by simp [pickB, hget, hdel, FR.out, hd, layW]) (by simp [look, hd, layW])) ?_
  intro j hj
  have FR : Sm (¬ ((1 : Nat) = 0)) := Sm.mk Nat.one_ne_zero
  have el : (rws (layW Ls (Wl.take j))).length = n := by rw [rws_len, layW_len, hn]
  by_cases hlt : j < kk
  · have k1 : decide ((j : Int) < (kk : Int)) = true := by simp; omega
    have hjw : j < Wl.length := by omega
    have hd1 := hwd j hjw
    have ew := hW _ (List.getElem_mem hjw)
    have et : Wl.take (j + 1) = Wl.take j ++ [Wl[j]] := by rw [List.take_add_one, List.getElem?_eq_getElem hjw]; rfl
    have es : layW Ls (Wl.take (j + 1)) = (layW Ls (Wl.take j)).set Wl[j].1 Wl[j].2 := by rw [et, layW_app]; rfl
    obtain ⟨w, hw⟩ : ∃ w, w = Wl[j] := ⟨_, rfl⟩
    rw [← hw] at hd1 ew es
    obtain ⟨TR, hTR⟩ : ∃ TR, TR = wcs (Wl.drop (j + 1)) := ⟨_, rfl⟩
    rw [← hTR] at hd1
    obtain ⟨cur, hcur⟩ : ∃ cur, cur = layW Ls (Wl.take j) := ⟨_, rfl⟩
    rw [← hcur] at el es ⊢
    have q1 : j * 2 + 2 ≤ C.length := by omega
    have q2 := ew.1
    have q3 := rws_set cur w.1 w.2
    have w1 : IntKind.i64.wrap ((j : Int) + 1) = ((j + 1 : Nat) : Int) := by rw [wrap_i64 (by omega) (by omega)]; omega
    clear hwd hTR hcur hw et
    first | (have FRx := FR; clear FRx) | have FR := fr0S
    have FA := Sm.mk (And.intro TFBlH (And.intro hd (And.intro k1 (And.intro hd1 (And.intro el (And.intro q1 (And.intro q2 q3)))))))
    repeat' first | (apply Sm.mk; refine Ys ?_) | refine WP.seq fun K hK => ?_ | (apply Ob.mk; exact Yo) | refine And.intro (Ob.out ?_) ?_ | refine Y1BlH ?_ | refine YzBlH ?_ | (refine WP.cond rfl (fun hc => ?_) (fun hc => ?_) <;> (try simp only [ZC, reduceCtorEq, ZD] at hc) <;> (try exact absurd hc (by decide)) <;> (try (exfalso; omega))) | refine Rt.mk (And.intro (fun hg => Sm.out ?_) fun hg => Sm.out ?_) | (refine Nu.mk ?_; first | (fail_if_success have := nb1); intro nb1 | (fail_if_success have := nb2); intro nb2 | (fail_if_success have := nb3); intro nb3 | (fail_if_success have := nb4); intro nb4 | (fail_if_success have := nb5); intro nb5 | (fail_if_success have := nb6); intro nb6 | (fail_if_success have := nb7); intro nb7 | (fail_if_success have := nb8); intro nb8 | (fail_if_success have := nb9); intro nb9 | (fail_if_success have := nb10); intro nb10 | (fail_if_success have := nb11); intro nb11 | (fail_if_success have := nb12); intro nb12 | intro nbz) | (apply Yfr; refine Yf FR fun hFRb FR => ?_) | refine Two.mk ?_ ?_ | (apply Yxc; exact Yx) | refine Cs.mk fun hcs => Sm.out ?_ | go_step | omega | (simp only [maxLen_eq]; omega) | exact trivial
    exact ⟨j + 1, by omega, by omega, (Sub.pick (by simp [pickB, hget, hdel, FR.out, hd, w1, es]) (by simp [look, hd, w1, es]))⟩
  · obtain rfl : j = kk := by omega
    have k1 : decide ((j : Int) < (j : Int)) = false := by simp
    have hrow := layW_rows (Wl.take j) Ls hL fun w hw => (hW w (List.mem_of_mem_take hw)).2
    have hln := layW_len (Wl.take j) Ls
    by_cases hjm : j < m
    · have k2 : decide ((j : Int) < (m : Int)) = true := by simp; omega
      have hjw : j < Wl.length := by omega
      have hd1 := hwd j hjw
      have ew := hW _ (List.getElem_mem hjw)
      have ec : crL Ls Wl j (hN torn size) = (layW Ls (Wl.take j)).set Wl[j].1 (Wl[j].2.take (hN torn size) ++ ((layW Ls (Wl.take j)).getD Wl[j].1 []).drop (hN torn size)) := by
        unfold crL; rw [List.getElem?_eq_getElem hjw]
      obtain ⟨w, hw⟩ : ∃ w, w = Wl[j] := ⟨_, rfl⟩
      rw [← hw] at hd1 ew ec
      obtain ⟨TR, hTR⟩ : ∃ TR, TR = wcs (Wl.drop (j + 1)) := ⟨_, rfl⟩
      rw [← hTR] at hd1
      have c2 := held_ct torn size
      have ht1 := hN_le torn size
      rw [hN_eq] at c2
      obtain ⟨tt, htt⟩ : ∃ tt, tt = hN torn size := ⟨_, rfl⟩
      rw [← htt] at c2 ht1 ec ⊢
      obtain ⟨cur, hcur⟩ : ∃ cur, cur = layW Ls (Wl.take j) := ⟨_, rfl⟩
      rw [← hcur] at el hrow hln ec ⊢
      have q1 : j * 2 + 2 ≤ C.length := by omega
      have q2 := ew.1
      have eg := rws_get (Ls := cur) (i := w.1) (by omega)
      have ly : (cur.getD w.1 []).length = size := by
        rw [List.getD_eq_getElem?_getD, List.getElem?_eq_getElem (by omega)]
        exact hrow _ (List.getElem_mem _)
      obtain ⟨y, hy⟩ : ∃ y, y = cur.getD w.1 [] := ⟨_, rfl⟩
      rw [← hy] at eg ly ec
      have eg2 : (rws cur).getD w.1 .any = .slz .u8 y := by rw [List.getD_eq_getElem?_getD, eg]; rfl
      have q3 := rws_set cur w.1 (w.2.take tt ++ y.drop tt)
      have lx := ew.2
      have l1 : (w.2.take tt).length = tt := by rw [List.length_take]; omega
      have l2 : (y.drop tt).length = size - tt := by rw [List.length_drop]; omega
      have cc := fun x => concat_ct x (w.2.take tt) (y.drop tt) (by omega) (by omega)
      have c3 := settle_ct b size de bl cl bl cl n (ms bw 0 m k) f dk [] (cur.set w.1 (w.2.take tt ++ y.drop tt)) hd.1 (by rw [List.length_set]; omega) h1 h2 hcl
      unfold dkM at c3
      have ec2 : crL Ls Wl j (hN torn size) = cur.set w.1 (w.2.take tt ++ y.drop tt) := by rw [← htt]; exact ec
      have ty : y.take size = y := List.take_of_length_le (by omega)
      clear hwd hTR hcur hw hy hkk ec
      first | (have FRx := FR; clear FRx) | have FR := fr0S
      have FA := Sm.mk (And.intro TFBlH (And.intro hd (And.intro k1 (And.intro k2 (And.intro hd1 (And.intro el (And.intro eg (And.intro eg2 (And.intro q1 (And.intro q2 (And.intro q3 (And.intro lx (And.intro ly ty)))))))))))))
      repeat' first | (apply Sm.mk; refine Ys ?_) | refine WP.seq fun K hK => ?_ | (apply Ob.mk; exact Yo) | refine And.intro (Ob.out ?_) ?_ | refine Y1BlH ?_ | (first | refine CallV.fn (c2) (Sm.out ?_) | refine ExF.mk (c2) (Sm.out ?_) | refine ExG.mk (fun _ => c2) (Sm.out ?_) | refine ExG.mkJ (fun _ => c2) (Sm.out ?_) | refine ExG.mkI (Ob.out ?_) (fun _ => c2) (Sm.out ?_)) | (refine CallV.updM (cc _) (perm1 (by simp only [hget, hdel, ↓reduceIte, FR.out, hd, k1, k2, hd1, el, eg, eg2, q1, q2, q3, lx, ly, ty]; first | done | rfl)) (Sm.out ?_)) | (refine WCt.updM (cc _) (perm1 (by simp only [hget, hdel, ↓reduceIte, FR.out, hd, k1, k2, hd1, el, eg, eg2, q1, q2, q3, lx, ly, ty]; first | done | rfl)) (Sm.out ?_)) | (refine CallV.newC (c3) (perm2 (by simp only [hget, hdel, ↓reduceIte, FR.out, hd, k1, k2, hd1, el, eg, eg2, q1, q2, q3, lx, ly, ty]; first | done | rfl) (by simp only [hget, hdel, ↓reduceIte, FR.out, hd, k1, k2, hd1, el, eg, eg2, q1, q2, q3, lx, ly, ty]; first | done | rfl)) (fun _ _ => rfl) (Sm.out ?_)) | refine YzBlH ?_ | (refine WP.cond rfl (fun hc => ?_) (fun hc => ?_) <;> (try simp only [ZC, reduceCtorEq, ZD] at hc) <;> (try exact absurd hc (by decide)) <;> (try (exfalso; omega))) | refine Rt.mk (And.intro (fun hg => Sm.out ?_) fun hg => Sm.out ?_) | (refine Nu.mk ?_; first | (fail_if_success have := nb1); intro nb1 | (fail_if_success have := nb2); intro nb2 | (fail_if_success have := nb3); intro nb3 | (fail_if_success have := nb4); intro nb4 | (fail_if_success have := nb5); intro nb5 | (fail_if_success have := nb6); intro nb6 | (fail_if_success have := nb7); intro nb7 | (fail_if_success have := nb8); intro nb8 | (fail_if_success have := nb9); intro nb9 | (fail_if_success have := nb10); intro nb10 | (fail_if_success have := nb11); intro nb11 | (fail_if_success have := nb12); intro nb12 | intro nbz) | (apply Yfr; refine Yf FR fun hFRb FR => ?_) | refine Two.mk ?_ ?_ | (apply Yxc; exact Yx) | refine Cs.mk fun hcs => Sm.out ?_ | go_step | omega | (simp only [maxLen_eq]; omega) | exact trivial
      (refine OutQ.drop _ _ (perm4 (by simp only [hget, hdel, ↓reduceIte, if_true, if_false, FR.out, hd, ec2]; first | done | rfl) (by simp only [hget, hdel, ↓reduceIte, if_true, if_false, FR.out, hd, ec2]; first | done | rfl) (by simp only [hget, hdel, ↓reduceIte, if_true, if_false, FR.out, hd, ec2]; first | done | rfl) (by simp only [hget, hdel, ↓reduceIte, if_true, if_false, FR.out, hd, ec2]; first | done | rfl)) (by simp only [resv, ZK, look, loadv, loadn, loadnm, load1, load1m, hget, ↓reduceIte, Nat.reduceEqDiff, Nat.reduceAdd, Nat.reduceMul, Nat.reduceLeDiff, Nat.reduceLT, reduceCtorEq, TFBlH, FR.out, hd, ec2]) ⟨nb3, nb4, FR.out.1.1, (by simp only [resv, resA, ZK, look, loadv, loadn, loadnm, load1, load1m, hget, ↓reduceIte, Nat.reduceEqDiff, Nat.reduceAdd, Nat.reduceMul, Nat.reduceLeDiff, Nat.reduceLT, reduceCtorEq, TFBlH, FR.out, hd, ec2]; first | done | rfl), rfl⟩)
    · obtain rfl : j = m := by omega
      have k2 : decide ((j : Int) < (j : Int)) = false := by simp
      have ec : crL Ls Wl j (hN torn size) = layW Ls (Wl.take j) := by unfold crL; rw [List.getElem?_eq_none (by omega)]
      obtain ⟨cur, hcur⟩ : ∃ cur, cur = layW Ls (Wl.take j) := ⟨_, rfl⟩
      rw [← hcur] at el hrow hln ec ⊢
      have c3 := settle_ct b size de bl cl bl cl n (ms bw 0 j k) f dk [] cur hd.1 (by omega) h1 h2 hcl
      unfold dkM at c3
      first | (have FRx := FR; clear FRx) | have FR := fr0S
      have FA := Sm.mk (And.intro TFBlH (And.intro hd (And.intro k1 k2)))
      repeat' first | (apply Sm.mk; refine Ys ?_) | refine WP.seq fun K hK => ?_ | (apply Ob.mk; exact Yo) | refine And.intro (Ob.out ?_) ?_ | refine Y1BlH ?_ | (refine CallV.newC (c3) (perm2 (by simp only [hget, hdel, ↓reduceIte, FR.out, hd, k1, k2]; first | done | rfl) (by simp only [hget, hdel, ↓reduceIte, FR.out, hd, k1, k2]; first | done | rfl)) (fun _ _ => rfl) (Sm.out ?_)) | refine YzBlH ?_ | (refine WP.cond rfl (fun hc => ?_) (fun hc => ?_) <;> (try simp only [ZC, reduceCtorEq, ZD] at hc) <;> (try exact absurd hc (by decide)) <;> (try (exfalso; omega))) | refine Rt.mk (And.intro (fun hg => Sm.out ?_) fun hg => Sm.out ?_) | (refine Nu.mk ?_; first | (fail_if_success have := nb1); intro nb1 | (fail_if_success have := nb2); intro nb2 | (fail_if_success have := nb3); intro nb3 | (fail_if_success have := nb4); intro nb4 | (fail_if_success have := nb5); intro nb5 | (fail_if_success have := nb6); intro nb6 | (fail_if_success have := nb7); intro nb7 | (fail_if_success have := nb8); intro nb8 | (fail_if_success have := nb9); intro nb9 | (fail_if_success have := nb10); intro nb10 | (fail_if_success have := nb11); intro nb11 | (fail_if_success have := nb12); intro nb12 | intro nbz) | (apply Yfr; refine Yf FR fun hFRb FR => ?_) | refine Two.mk ?_ ?_ | (apply Yxc; exact Yx) | refine Cs.mk fun hcs => Sm.out ?_ | go_step | omega | (simp only [maxLen_eq]; omega) | exact trivial
      (refine OutQ.drop _ _ (perm4 (by simp only [hget, hdel, ↓reduceIte, if_true, if_false, FR.out, hd, ec]; first | done | rfl) (by simp only [hget, hdel, ↓reduceIte, if_true, if_false, FR.out, hd, ec]; first | done | rfl) (by simp only [hget, hdel, ↓reduceIte, if_true, if_false, FR.out, hd, ec]; first | done | rfl) (by simp only [hget, hdel, ↓reduceIte, if_true, if_false, FR.out, hd, ec]; first | done | rfl)) (by simp only [resv, ZK, look, loadv, loadn, loadnm, load1, load1m, hget, ↓reduceIte, Nat.reduceEqDiff, Nat.reduceAdd, Nat.reduceMul, Nat.reduceLeDiff, Nat.reduceLT, reduceCtorEq, TFBlH, FR.out, hd, ec]) ⟨nb1, nb2, FR.out.1.1, (by simp only [resv, resA, ZK, look, loadv, loadn, loadnm, load1, load1m, hget, ↓reduceIte, Nat.reduceEqDiff, Nat.reduceAdd, Nat.reduceMul, Nat.reduceLeDiff, Nat.reduceLT, reduceCtorEq, TFBlH, FR.out, hd, ec]; first | done | rfl), rfl⟩)
end Go.Proofs.Yteoajodoejoccaa
