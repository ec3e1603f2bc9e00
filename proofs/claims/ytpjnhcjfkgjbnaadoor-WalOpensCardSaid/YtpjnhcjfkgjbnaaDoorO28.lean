/-
  The walks and the laws that the statement leans on, part 28.
-/
import Derived.Test.YtpjnhcjfkgjbnaaDoorO9
import Derived.Test.YtpjnhcjfkgjbnaaDoorO27
namespace Go.Proofs.YtpjnhcjfkgjbnaaDoor
open Go
set_option linter.unusedVariables false
set_option linter.unusedSimpArgs false
set_option linter.defProp false
def TFWlK :=
  And.intro (And.intro (And.intro (And.intro (And.intro tyc0 tyc3) (And.intro zmb3 (And.intro tyc4 zmb4))) (And.intro (And.intro tyc5 zmb5) (And.intro tyc9 (And.intro zmb9 tyc32)))) (And.intro (And.intro (And.intro elt32 mkz32) (And.intro mkc32 (And.intro apT32 elk32))) (And.intro (And.intro zmb32 tyc35) (And.intro zmb35 (And.intro tyc37 foff37_0))))) (And.intro (And.intro (And.intro (And.intro fpart37_0 foff37_1) (And.intro fpart37_1 (And.intro zmb37 bldT37))) (And.intro (And.intro tyc38 elt38) (And.intro mkz38 (And.intro apT38 elk38)))) (And.intro (And.intro (And.intro zmb38 Tryd.underlying0) (And.intro Tryd.underlying3 (And.intro Tryd.underlying4 Tryd.underlying5))) (And.intro (And.intro Tryd.underlying9 Tryd.underlying32) (And.intro Tryd.underlying35 (And.intro Tryd.underlying37 Tryd.underlying38)))))
theorem Y1WlK {G R : Prop} (r : R) (h : R → G := by intro r; first | (apply WP.region; exact rvc_sound _ _ (Sm.out r)) | exact WP.drawK rfl mixed (by decide +kernel) (Sm.out r) | (apply WP.block; exact r) | (apply WP.skip; exact Yq r) | (apply WP.exit; exact Yq r) | (apply WP.ret; exact Sm.out r) | exact WP.cond rfl (fun _ => r) (fun hg => absurd hg (by decide)) | exact WP.cond rfl (fun hg => absurd hg (by decide)) (fun _ => r) | exact Rt.mk (And.intro (fun _ => Sm.out r) fun hg => absurd hg (by decide)) | exact Rt.mk (And.intro (fun hg => absurd hg (by decide)) fun _ => Sm.out r)) : G := h r
theorem YzWlK {G R : Prop} (r : R) (h : R → G := by intro r; first | (apply ExG.no; exact Sm.out r) | (apply Or.inl; apply ExG.no; exact Sm.out r) | exact Or.inl (And.intro (fun hg => absurd hg (by decide)) (ExG.no (Sm.out r)))) : G := h r
theorem YsWlK0 {P Q : Prop} (q : Q) (h : P = Q := by (try (conv => lhs; simp -dsimp only [ZK, rvc, capA, appA, litL, mkfv, drawF, headN, pureH, stp, dvc, calleeOf, gcall, pev, eff, newB, okd, og, ogs, ogo, ogp, slv, bltv, opd, litv, strip, one, both, putE, St.put, look, gdOf, gdv, picka, pickv, pickw, binv, bini, bins, binb, binp, binq, isSlT, bina, shp, eqCells, unv, convv, nilv, faddv, addp, idxav, idxp, load1, load1m, loadn, loadnm, loadv, hget, hset, hrep, hdel, slicev, slice3v, bnd, shift1, lenv, capv, IntKind.bits, extractv, fieldv, indexv, min2v, max2v, mkiv, tasv, tasz, cellsA, fillA, buildv, stC, oneC, rowMB, intsA, plN, appE, appZ, appC, appS, srcB, appNZ, appNC, VwL, srcC, srcZ, srcM, isBoolT, isPtrT, isSliceT, uOk, Value.oneCell', Nat.reducePow, Int.reducePow, Nat.reduceAdd, Nat.reduceMul, Nat.reduceSub, Nat.reduceLT, Nat.reduceLeDiff, Nat.reduceEqDiff, Nat.reduceBEq, Nat.reduceDiv, Nat.reduceMod, ↓reduceIte, reduceCtorEq, Int.reduceToNat, Int.reduceLT, Int.reduceLE, TFWlK, SeqQ, BlkQ, LoopQ, BodyQ, hin, FA.out, FR.out])) <;> exact rfl) : P := h.mpr q
theorem YsWlK2 {P Q : Prop} (q : Q) (h : P = Q := by (try (conv => lhs; simp -dsimp only [ZK, rvc, capA, appA, litL, mkfv, drawF, headN, pureH, stp, dvc, calleeOf, gcall, pev, eff, newB, okd, og, ogs, ogo, ogp, slv, bltv, opd, litv, strip, one, both, putE, St.put, look, gdOf, gdv, picka, pickv, pickw, binv, bini, bins, binb, binp, binq, isSlT, bina, shp, eqCells, unv, convv, nilv, faddv, addp, idxav, idxp, load1, load1m, loadn, loadnm, loadv, hget, hset, hrep, hdel, slicev, slice3v, bnd, shift1, lenv, capv, IntKind.bits, extractv, fieldv, indexv, min2v, max2v, mkiv, tasv, tasz, cellsA, fillA, buildv, stC, oneC, rowMB, intsA, plN, appE, appZ, appC, appS, srcB, appNZ, appNC, VwL, srcC, srcZ, srcM, isBoolT, isPtrT, isSliceT, uOk, Value.oneCell', Nat.reducePow, Int.reducePow, Nat.reduceAdd, Nat.reduceMul, Nat.reduceSub, Nat.reduceLT, Nat.reduceLeDiff, Nat.reduceEqDiff, Nat.reduceBEq, Nat.reduceDiv, Nat.reduceMod, ↓reduceIte, reduceCtorEq, Int.reduceToNat, Int.reduceLT, Int.reduceLE, TFWlK, SeqQ, BlkQ, LoopQ, BodyQ, List.length_replicate, FA.out, FR.out])) <;> exact rfl) : P := h.mpr q
theorem usd_take (L : List Bs) (i : Nat) (h : i < L.length) : usd (L.take (i + 1)) = usd (L.take i) + (L.getD i []).length + 10 := by
  have e : L.take (i + 1) = L.take i ++ [L.getD i []] := by
    rw [List.take_add_one, List.getElem?_eq_getElem h, List.getD_eq_getElem?_getD, List.getElem?_eq_getElem h]; rfl
  rw [e, usd_snoc]; omega
theorem frs_take (L : List Bs) (i : Nat) (h : i < L.length) : frs (L.take (i + 1)) = frs (L.take i) ++ frameB (L.getD i []) := by
  have e : L.take (i + 1) = L.take i ++ [L.getD i []] := by
    rw [List.take_add_one, List.getElem?_eq_getElem h, List.getD_eq_getElem?_getD, List.getElem?_eq_getElem h]; rfl
  rw [e, frs_snoc]
theorem usd_le (L : List Bs) (i : Nat) : usd (L.take i) ≤ usd L := by
  have := List.take_append_drop i L
  have h2 : usd L = usd (L.take i) + usd (L.drop i) := by
    unfold usd
    rw [← List.length_append, ← frs_app, this]
  omega
theorem row_le (L : List Bs) (i : Nat) (h : i < L.length) : (L.getD i []).length ≤ usd L := by
  have h1 := usd_take L i h
  have h2 := usd_le L (i + 1)
  omega
theorem len_le (L : List Bs) : L.length ≤ usd L := by
  induction L with
  | nil => exact Nat.zero_le _
  | cons x r ih => rw [usd_cons, List.length_cons]; omega
theorem rusedR_ct (L : List Bs) (mb A : Nat)  (hu : usd L ≤ 1000000) : ACt Tryd.prog 18 [pt mb 0] [(mb, .cells [.sl L.length (rowsA L), iv .i64 (A : Int)] 2 37)] (fun r F' => r = iv .i64 ((usd L : Nat) : Int) ∧ F' = [(mb, .cells [.sl L.length (rowsA L), iv .i64 (A : Int)] 2 37)]) := by
  have hll := len_le L
  have hg := rowsA_get L
  have hut := usd_take L
  have hul := usd_le L
  have hrl := row_le L
  obtain ⟨u, hu0⟩ : ∃ u : Nat → Nat, u = fun i => usd (L.take i) := ⟨_, rfl⟩
  have ha : ∀ i, usd (L.take i) = u i := fun i => by rw [hu0]
  have hb : usd L = u L.length := by rw [hu0]; simp
  have hz : u 0 = 0 := by rw [hu0]; rfl
  simp only [ha] at hut hul
  rw [hb] at hu hul hrl hll ⊢
  have hRl := rowsA_len L
  obtain ⟨n, hn⟩ : ∃ n, L.length = n := ⟨_, rfl⟩
  obtain ⟨C, hC⟩ : ∃ C, C = rowsA L := ⟨_, rfl⟩
  rw [← hC] at hRl ⊢
  simp only [← hC] at hg
  simp only [hn] at hu hul hrl hll hRl ⊢
  clear hC hu0 ha hb
  refine ACt.intro Tryd.func18 rfl (by kernel_rfl) (by simp [Tryd.ntmps18]) (fun cx => ?_)
  simp only [argE, Tryd.ntmps18, Tryd.results18]
  first | (have FRx := FR; clear FRx) | have FR := fr0S
  have FA := Sm.mk (TFWlK)
  repeat' first | (apply Sm.mk; refine Ys ?_) | refine WP.seq fun K hK => ?_ | (apply Ob.mk; exact Yo) | refine And.intro (Ob.out ?_) ?_ | refine Y1WlK ?_ | refine YzWlK ?_ | (refine WP.cond rfl (fun hc => ?_) (fun hc => ?_) <;> (try simp only [ZC, reduceCtorEq, ZD] at hc) <;> (try exact absurd hc (by decide)) <;> (try (exfalso; omega))) | refine Rt.mk (And.intro (fun hg => Sm.out ?_) fun hg => Sm.out ?_) | (refine Nu.mk ?_; first | (fail_if_success have := nb1); intro nb1 | (fail_if_success have := nb2); intro nb2 | (fail_if_success have := nb3); intro nb3 | (fail_if_success have := nb4); intro nb4 | (fail_if_success have := nb5); intro nb5 | (fail_if_success have := nb6); intro nb6 | (fail_if_success have := nb7); intro nb7 | (fail_if_success have := nb8); intro nb8 | intro nbz) | (apply Yfr; refine Yf FR fun hFRb FR => ?_) | refine Two.mk ?_ ?_ | (apply Yxc; exact Yx) | refine Cs.mk fun hcs => Sm.out ?_ | go_step | omega | (simp only [maxLen_eq]; omega) | exact trivial
  refine WP.loop (Γ := Nat) (fun i => ⟨[(4, iv .i64 (i : Int)), (3, iv .i64 ((u i : Nat) : Int)), (0, pt mb 0)], [(mb, .cells [.sl n C, iv .i64 (A : Int)] 2 37)]⟩) (fun i => i ≤ n) (fun i => n - i) 0 (Nat.zero_le _) (Sub.pick (by simp [pickB, hget, hdel, FR.out, hz]) (by simp [look, hz])) ?_
  intro i hi
  have FR : Sm (¬ ((1 : Nat) = 0)) := Sm.mk Nat.one_ne_zero
  by_cases hin : i < n
  · have ki : decide ((i : Int) < (n : Int)) = true := decide_eq_true (by omega)
    have hu1 := hut i (by omega)
    have hu2 := hul i
    have hu3 := hul (i + 1)
    have hr := hrl i (by omega)
    have g2 := hg i (by omega)
    obtain ⟨y, hy⟩ : ∃ y, y = L.getD i [] := ⟨_, rfl⟩
    rw [← hy] at hu1 hr g2
    have yl := ub_len y
    obtain ⟨Y, hY⟩ : ∃ Y, Y = ub y := ⟨_, rfl⟩
    rw [← hY] at yl g2
    have w1 : IntKind.i64.wrap (((u i : Nat) : Int) + (y.length : Int)) = ((u i + y.length : Nat) : Int) := by rw [wrap_i64 (by omega) (by omega)]; omega
    have w2 : IntKind.i64.wrap (((u i + y.length : Nat) : Int) + 10) = ((u (i + 1) : Nat) : Int) := by rw [wrap_i64 (by omega) (by omega)]; omega
    have w3 : IntKind.i64.wrap ((i : Int) + 1) = ((i + 1 : Nat) : Int) := by rw [wrap_i64 (by omega) (by omega)]; omega
    first | (have FRx := FR; clear FRx) | have FR := fr0S
    have FA := Sm.mk (And.intro TFWlK (And.intro ki (And.intro hRl (And.intro g2 (And.intro yl (And.intro w1 (And.intro w2 w3)))))))
    repeat' first | (apply Sm.mk; refine YsWlK0 ?_) | refine WP.seq fun K hK => ?_ | (apply Ob.mk; exact Yo) | refine And.intro (Ob.out ?_) ?_ | refine Y1WlK ?_ | refine YzWlK ?_ | (refine WP.cond rfl (fun hc => ?_) (fun hc => ?_) <;> (try simp only [ZC, reduceCtorEq, ZD] at hc) <;> (try exact absurd hc (by decide)) <;> (try (exfalso; omega))) | refine Rt.mk (And.intro (fun hg => Sm.out ?_) fun hg => Sm.out ?_) | (refine Nu.mk ?_; first | (fail_if_success have := nb1); intro nb1 | (fail_if_success have := nb2); intro nb2 | (fail_if_success have := nb3); intro nb3 | (fail_if_success have := nb4); intro nb4 | (fail_if_success have := nb5); intro nb5 | (fail_if_success have := nb6); intro nb6 | (fail_if_success have := nb7); intro nb7 | (fail_if_success have := nb8); intro nb8 | intro nbz) | (apply Yfr; refine Yf FR fun hFRb FR => ?_) | refine Two.mk ?_ ?_ | (apply Yxc; exact Yx) | refine Cs.mk fun hcs => Sm.out ?_ | go_step | omega | (simp only [maxLen_eq]; omega) | exact trivial
    exact ⟨i + 1, by omega, by omega, (Sub.pick (by simp [pickB, hget, hdel, FR.out]) (by simp [look]))⟩
  · obtain rfl : i = n := by omega
    have ki : decide ((i : Int) < (i : Int)) = false := by simp
    first | (have FRx := FR; clear FRx) | have FR := fr0S
    have FA := Sm.mk (And.intro TFWlK ki)
    repeat' first | (apply Sm.mk; refine Ys ?_) | refine WP.seq fun K hK => ?_ | (apply Ob.mk; exact Yo) | refine And.intro (Ob.out ?_) ?_ | refine Y1WlK ?_ | refine YzWlK ?_ | (refine WP.cond rfl (fun hc => ?_) (fun hc => ?_) <;> (try simp only [ZC, reduceCtorEq, ZD] at hc) <;> (try exact absurd hc (by decide)) <;> (try (exfalso; omega))) | refine Rt.mk (And.intro (fun hg => Sm.out ?_) fun hg => Sm.out ?_) | (refine Nu.mk ?_; first | (fail_if_success have := nb1); intro nb1 | (fail_if_success have := nb2); intro nb2 | (fail_if_success have := nb3); intro nb3 | (fail_if_success have := nb4); intro nb4 | (fail_if_success have := nb5); intro nb5 | (fail_if_success have := nb6); intro nb6 | (fail_if_success have := nb7); intro nb7 | (fail_if_success have := nb8); intro nb8 | intro nbz) | (apply Yfr; refine Yf FR fun hFRb FR => ?_) | refine Two.mk ?_ ?_ | (apply Yxc; exact Yx) | refine Cs.mk fun hcs => Sm.out ?_ | go_step | omega | (simp only [maxLen_eq]; omega) | exact trivial
    (refine OutQ.drop _ _ (perm1 (by simp only [hget, hdel, ↓reduceIte, if_true, if_false, FR.out]; first | done | rfl)) (by simp only [resv, ZK, look, loadv, loadn, loadnm, load1, load1m, hget, ↓reduceIte, Nat.reduceEqDiff, Nat.reduceAdd, Nat.reduceMul, Nat.reduceLeDiff, Nat.reduceLT, reduceCtorEq, TFWlK, FR.out]) ⟨(by simp only [resv, resA, ZK, look, loadv, loadn, loadnm, load1, load1m, hget, ↓reduceIte, Nat.reduceEqDiff, Nat.reduceAdd, Nat.reduceMul, Nat.reduceLeDiff, Nat.reduceLT, reduceCtorEq, TFWlK, FR.out]; first | done | rfl), rfl⟩)
theorem rtextR_ct (L : List Bs) (mb A : Nat)  (hu : usd L ≤ A) (hA : A ≤ 1000000) : ACt Tryd.prog 21 [pt mb 0] [(mb, .cells [.sl L.length (rowsA L), iv .i64 (A : Int)] 2 37)] (fun r F' => r = .lit (.string (bstr (ub (frs L ++ zrs (A - usd L))))) ∧ F' = [(mb, .cells [.sl L.length (rowsA L), iv .i64 (A : Int)] 2 37)]) := by
  have hll := len_le L
  have hg := rowsA_get L
  have hft := frs_take L
  have hut := usd_take L
  have hul := usd_le L
  have hrl := row_le L
  have cFr := fun y (h : y.length ≤ 1000000) => refFrame_ct y h
  have hfz : frs (L.take 0) = [] := rfl
  have hfn : L.take L.length = L := List.take_length
  obtain ⟨R, hR⟩ : ∃ R, R = bstr (ub (frs L ++ zrs (A - usd L))) := ⟨_, rfl⟩
  rw [← hR]
  have hRl := rowsA_len L
  obtain ⟨n, hn⟩ : ∃ n, L.length = n := ⟨_, rfl⟩
  obtain ⟨C, hC⟩ : ∃ C, C = rowsA L := ⟨_, rfl⟩
  rw [← hC] at hRl ⊢
  simp only [← hC] at hg
  simp only [hn] at hRl hfn ⊢
  clear hC
  have e0 : bstr (ub (frs [])) = (⟨#[]⟩ : ByteArray) := rfl
  refine ACt.intro Tryd.func21 rfl (by kernel_rfl) (by simp [Tryd.ntmps21]) (fun cx => ?_)
  simp only [argE, Tryd.ntmps21, Tryd.results21]
  first | (have FRx := FR; clear FRx) | have FR := fr0S
  have FA := Sm.mk (TFWlK)
  repeat' first | (apply Sm.mk; refine Ys ?_) | refine WP.seq fun K hK => ?_ | (apply Ob.mk; exact Yo) | refine And.intro (Ob.out ?_) ?_ | refine Y1WlK ?_ | refine YzWlK ?_ | (refine WP.cond rfl (fun hc => ?_) (fun hc => ?_) <;> (try simp only [ZC, reduceCtorEq, ZD] at hc) <;> (try exact absurd hc (by decide)) <;> (try (exfalso; omega))) | refine Rt.mk (And.intro (fun hg => Sm.out ?_) fun hg => Sm.out ?_) | (refine Nu.mk ?_; first | (fail_if_success have := nb1); intro nb1 | (fail_if_success have := nb2); intro nb2 | (fail_if_success have := nb3); intro nb3 | (fail_if_success have := nb4); intro nb4 | (fail_if_success have := nb5); intro nb5 | (fail_if_success have := nb6); intro nb6 | (fail_if_success have := nb7); intro nb7 | (fail_if_success have := nb8); intro nb8 | intro nbz) | (apply Yfr; refine Yf FR fun hFRb FR => ?_) | refine Two.mk ?_ ?_ | (apply Yxc; exact Yx) | refine Cs.mk fun hcs => Sm.out ?_ | go_step | omega | (simp only [maxLen_eq]; omega) | exact trivial
  refine WP.loop (Γ := Nat) (fun i => ⟨[(4, iv .i64 (i : Int)), (3, .lit (.string (bstr (ub (frs (L.take i)))))), (0, pt mb 0)], [(mb, .cells [.sl n C, iv .i64 (A : Int)] 2 37)]⟩) (fun i => i ≤ n) (fun i => n - i) 0 (Nat.zero_le _) (Sub.pick (by simp [pickB, hget, hdel, FR.out, e0]) (by simp [look, e0])) ?_
  intro i hi
  have FR : Sm (¬ ((1 : Nat) = 0)) := Sm.mk Nat.one_ne_zero
  by_cases hin : i < n
  · have ki : decide ((i : Int) < (n : Int)) = true := decide_eq_true (by omega)
    have hf1 := hft i (by omega)
    have hu1 := hut i (by omega)
    have hu3 := hul (i + 1)
    have hr := hrl i (by omega)
    have g2 := hg i (by omega)
    have cF := cFr (L.getD i []) (by omega)
    have fl := frame_len (L.getD i [])
    have fs : (frs (L.take i)).length = usd (L.take i) := rfl
    obtain ⟨y, hy⟩ : ∃ y, y = L.getD i [] := ⟨_, rfl⟩
    rw [← hy] at hf1 hu1 hr g2 cF fl
    obtain ⟨B, hB⟩ : ∃ B, B = bstr (ub (frs (L.take i))) := ⟨_, rfl⟩
    have bz : B.size = usd (L.take i) := by rw [hB, bstr_size, ub_len]; exact fs
    have gz : (bstr (ub (frameB y))).size = y.length + 10 := by rw [bstr_size, ub_len, fl]
    have eB : B ++ bstr (ub (frameB y)) = bstr (ub (frs (L.take (i + 1)))) := by rw [hB, bstr_app, ← ub_append, hf1]
    rw [← hB]
    clear hB
    obtain ⟨G, hG⟩ : ∃ G, G = ub (frameB y) := ⟨_, rfl⟩
    rw [← hG] at cF eB gz
    have q1 : usd (L.take i) + (y.length + 10) ≤ 9223372036854775807 := by omega
    have w3 : IntKind.i64.wrap ((i : Int) + 1) = ((i + 1 : Nat) : Int) := by rw [wrap_i64 (by omega) (by omega)]; omega
    first | (have FRx := FR; clear FRx) | have FR := fr0S
    have FA := Sm.mk (And.intro TFWlK (And.intro ki (And.intro hRl (And.intro g2 (And.intro w3 (And.intro bz (And.intro gz (And.intro eB q1))))))))
    repeat' first | (apply Sm.mk; refine YsWlK0 ?_) | refine WP.seq fun K hK => ?_ | (apply Ob.mk; exact Yo) | refine And.intro (Ob.out ?_) ?_ | refine Y1WlK ?_ | refine Yc (c := cF) (r := ?_) | refine YzWlK ?_ | (refine WP.cond rfl (fun hc => ?_) (fun hc => ?_) <;> (try simp only [ZC, reduceCtorEq, ZD] at hc) <;> (try exact absurd hc (by decide)) <;> (try (exfalso; omega))) | refine Rt.mk (And.intro (fun hg => Sm.out ?_) fun hg => Sm.out ?_) | (refine Nu.mk ?_; first | (fail_if_success have := nb1); intro nb1 | (fail_if_success have := nb2); intro nb2 | (fail_if_success have := nb3); intro nb3 | (fail_if_success have := nb4); intro nb4 | (fail_if_success have := nb5); intro nb5 | (fail_if_success have := nb6); intro nb6 | (fail_if_success have := nb7); intro nb7 | (fail_if_success have := nb8); intro nb8 | intro nbz) | (apply Yfr; refine Yf FR fun hFRb FR => ?_) | refine Two.mk ?_ ?_ | (apply Yxc; exact Yx) | refine Cs.mk fun hcs => Sm.out ?_ | go_step | omega | (simp only [maxLen_eq]; omega) | exact trivial
    exact ⟨i + 1, by omega, by omega, (Sub.pick (by simp [pickB, hget, hdel, FR.out]) (by simp [look]))⟩
  · obtain rfl : i = n := by omega
    have ki : decide ((i : Int) < (i : Int)) = false := by simp
    rw [hfn]
    obtain ⟨Z, hZ⟩ : ∃ Z, Z = A - usd L := ⟨_, rfl⟩
    obtain ⟨B, hB⟩ : ∃ B, B = bstr (ub (frs L)) := ⟨_, rfl⟩
    have bz : B.size = usd L := by rw [hB, bstr_size, ub_len]; rfl
    have eB : B ++ bstr (List.replicate Z 0) = R := by rw [hB, hR, ← ub_zrs, bstr_app, ← ub_append, hZ]
    have zz : (bstr (List.replicate Z (0 : Int))).size = Z := by rw [bstr_size]; simp
    have w1 : IntKind.i64.wrap ((A : Int) - ((usd L : Nat) : Int)) = (Z : Int) := by rw [wrap_i64 (by omega) (by omega)]; omega
    have tz : (List.replicate Z (0 : Int)).take Z = List.replicate Z 0 := by simp
    rw [← hB]
    obtain ⟨u, hu0⟩ : ∃ u, u = usd L := ⟨_, rfl⟩
    rw [← hu0] at bz w1 hZ hu
    have q1 : Z ≤ 9223372036854775807 := by omega
    have q2 : u + Z ≤ 9223372036854775807 := by omega
    clear hB hR hul hut hll hrl hft hg cFr hfn hfz
    first | (have FRx := FR; clear FRx) | have FR := fr0S
    have FA := Sm.mk (And.intro TFWlK (And.intro ki (And.intro bz (And.intro w1 (And.intro tz (And.intro q1 (And.intro q2 (And.intro eB zz))))))))
    repeat' first | (apply Sm.mk; refine YsWlK2 ?_) | refine WP.seq fun K hK => ?_ | (apply Ob.mk; exact Yo) | refine And.intro (Ob.out ?_) ?_ | refine Y1WlK ?_ | refine YzWlK ?_ | (refine WP.cond rfl (fun hc => ?_) (fun hc => ?_) <;> (try simp only [ZC, reduceCtorEq, ZD] at hc) <;> (try exact absurd hc (by decide)) <;> (try (exfalso; omega))) | refine Rt.mk (And.intro (fun hg => Sm.out ?_) fun hg => Sm.out ?_) | (refine Nu.mk ?_; first | (fail_if_success have := nb1); intro nb1 | (fail_if_success have := nb2); intro nb2 | (fail_if_success have := nb3); intro nb3 | (fail_if_success have := nb4); intro nb4 | (fail_if_success have := nb5); intro nb5 | (fail_if_success have := nb6); intro nb6 | (fail_if_success have := nb7); intro nb7 | (fail_if_success have := nb8); intro nb8 | intro nbz) | (apply Yfr; refine Yf FR fun hFRb FR => ?_) | refine Two.mk ?_ ?_ | (apply Yxc; exact Yx) | refine Cs.mk fun hcs => Sm.out ?_ | go_step | omega | (simp only [maxLen_eq]; omega) | exact trivial
    (refine OutQ.drop _ _ (perm1 (by simp only [hget, hdel, ↓reduceIte, if_true, if_false, FR.out, FR.out]; first | done | rfl)) (by simp only [resv, ZK, look, loadv, loadn, loadnm, load1, load1m, hget, ↓reduceIte, Nat.reduceEqDiff, Nat.reduceAdd, Nat.reduceMul, Nat.reduceLeDiff, Nat.reduceLT, reduceCtorEq, TFWlK, FR.out, FR.out]) ⟨(by simp only [resv, resA, ZK, look, loadv, loadn, loadnm, load1, load1m, hget, ↓reduceIte, Nat.reduceEqDiff, Nat.reduceAdd, Nat.reduceMul, Nat.reduceLeDiff, Nat.reduceLT, reduceCtorEq, TFWlK, FR.out, FR.out]; first | done | rfl), rfl⟩)
end Go.Proofs.YtpjnhcjfkgjbnaaDoor
