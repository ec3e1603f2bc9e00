/-
  The walks and the laws that the statement leans on, part 12.
-/
import Derived.Test.YtjdjpgjjnajjhaaDoorZ11
namespace Go.Proofs.YtjdjpgjjnajjhaaDoor
open Go
set_option linter.unusedVariables false
set_option linter.unusedSimpArgs false
theorem TFTxZ : ((((((type_of% tyc0) ∧ (type_of% tyc3)) ∧ ((type_of% zmb3) ∧ ((type_of% tyc4) ∧ (type_of% zmb4)))) ∧ (((type_of% tyc9) ∧ ((type_of% zmb9) ∧ (type_of% tyc21))) ∧ ((type_of% zmb21) ∧ ((type_of% tyc32) ∧ (type_of% zmb32))))) ∧ ((((type_of% tyc38) ∧ ((type_of% foff38_0) ∧ (type_of% fpart38_0))) ∧ ((type_of% foff38_1) ∧ ((type_of% fpart38_1) ∧ (type_of% zmb38)))) ∧ (((type_of% bldT38) ∧ ((type_of% tyc46) ∧ (type_of% tyc48))) ∧ ((type_of% mth48_38) ∧ ((type_of% mth48_29) ∧ (type_of% mth48_39)))))) ∧ (((((type_of% con48) ∧ (type_of% zmb48)) ∧ ((type_of% tyc50) ∧ ((type_of% foff50_0) ∧ (type_of% fpart50_0)))) ∧ (((type_of% foff50_1) ∧ ((type_of% fpart50_1) ∧ (type_of% foff50_2))) ∧ ((type_of% fpart50_2) ∧ ((type_of% foff50_3) ∧ (type_of% fpart50_3))))) ∧ ((((type_of% zmb50) ∧ ((type_of% bldT50) ∧ (type_of% Tryd.underlying0))) ∧ ((type_of% Tryd.underlying3) ∧ ((type_of% Tryd.underlying4) ∧ (type_of% Tryd.underlying9)))) ∧ (((type_of% Tryd.underlying21) ∧ ((type_of% Tryd.underlying32) ∧ (type_of% Tryd.underlying38))) ∧ ((type_of% Tryd.underlying46) ∧ ((type_of% Tryd.underlying48) ∧ (type_of% Tryd.underlying50))))))) :=
  ⟨⟨⟨⟨⟨tyc0, tyc3⟩, ⟨zmb3, ⟨tyc4, zmb4⟩⟩⟩, ⟨⟨tyc9, ⟨zmb9, tyc21⟩⟩, ⟨zmb21, ⟨tyc32, zmb32⟩⟩⟩⟩, ⟨⟨⟨tyc38, ⟨foff38_0, fpart38_0⟩⟩, ⟨foff38_1, ⟨fpart38_1, zmb38⟩⟩⟩, ⟨⟨bldT38, ⟨tyc46, tyc48⟩⟩, ⟨mth48_38, ⟨mth48_29, mth48_39⟩⟩⟩⟩⟩, ⟨⟨⟨⟨con48, zmb48⟩, ⟨tyc50, ⟨foff50_0, fpart50_0⟩⟩⟩, ⟨⟨foff50_1, ⟨fpart50_1, foff50_2⟩⟩, ⟨fpart50_2, ⟨foff50_3, fpart50_3⟩⟩⟩⟩, ⟨⟨⟨zmb50, ⟨bldT50, Tryd.underlying0⟩⟩, ⟨Tryd.underlying3, ⟨Tryd.underlying4, Tryd.underlying9⟩⟩⟩, ⟨⟨Tryd.underlying21, ⟨Tryd.underlying32, Tryd.underlying38⟩⟩, ⟨Tryd.underlying46, ⟨Tryd.underlying48, Tryd.underlying50⟩⟩⟩⟩⟩⟩
theorem el_Gr {zs : List Int} (hb : By zs) {i : Nat} (h : i < zs.length) (hg : (elR zs i).1 ≠ -1) : Gr (elR zs i).1 := by
  have hbi := hb i h
  unfold elR at hg ⊢
  by_cases h0 : zs.getD i 0 < 128
  · rw [if_pos h0] at hg ⊢
    exact ⟨hbi.1, by simp only; omega, by simp only; omega⟩
  rw [if_neg h0] at hg ⊢
  by_cases hC : nB (zs.getD i 0) ≠ 0 ∧ allC zs i (nB (zs.getD i 0)) ∧ fitR (nB (zs.getD i 0)) (cP zs i (nB (zs.getD i 0)) (nB (zs.getD i 0)))
  · rw [if_pos hC]
    obtain ⟨h1, -, h2, h3, h4⟩ := hC
    have hls : 0 ≤ lsR (nB (zs.getD i 0)) := by
      unfold nB
      (repeat' split) <;> decide
    exact ⟨by simp only; omega, h3, h4⟩
  · rw [if_neg hC] at hg
    exact absurd rfl hg
theorem gd_el {zs : List Int} (hb : By zs) {i : Nat} (h : i < zs.length) (hg : Gd zs i) : Gr (elR zs i).1 ∧ Gd zs (i + (elR zs i).2) :=
  ⟨el_Gr hb h ((Gd_step h).1 hg).1, ((Gd_step h).1 hg).2⟩
theorem dec_good {zs : List Int} (hb : By zs) {i : Nat} (h : i < zs.length) (hg : Gd zs i) : ∃ r : Nat, Utf8.decode (bstr zs) i = (r, (elR zs i).2) ∧ (elR zs i).1 = (r : Int) := by
  have hg := ((Gd_step h).1 hg).1
  obtain ⟨r, w, hd, hr, ⟨e, h1, h2, h3⟩ | ⟨e, -, hw⟩⟩ := el_dec hb h
  · exact ⟨r, by rw [e]; exact hd, by rw [e]⟩
  · rw [e] at hg; exact absurd rfl hg
/-- the reader over a list of runes; none: one of them can't stand there -/
noncomputable def mach : RS → List Int → List Int → Option (RS × List Int)
  | s, o, [] => some (s, o)
  | s, o, r :: l => if (tkS s r).ok = true then mach (tkS s r).s (o ++ (tkS s r).out) l else none
theorem mach_cons (s : RS) (o : List Int) (r : Int) (l : List Int) : mach s o (r :: l) = if (tkS s r).ok = true then mach (tkS s r).s (o ++ (tkS s r).out) l else none := rfl
/-- what comes of a reader that has gone through -/
noncomputable def unqE : Option (RS × List Int) → List Int × Int
  | none => ([], 5)
  | some (s, o) => if s.st ≠ 4 then ([], 5) else if 120 < (rn o).length then ([], 9) else (o, 0)
theorem unqE_some (s : RS) (o : List Int) : unqE (some (s, o)) = if s.st ≠ 4 then ([], 5) else if 120 < (rn o).length then ([], 9) else (o, 0) := rfl
open Classical in
/-- what Unquote answers -/
noncomputable def unqA (zs : List Int) : List Int × Int := if zs.take 1 = [34] ∧ gdB zs = true then unqE (mach ⟨0, 0, 0⟩ [] (rn (zs.drop 1))) else ([], 5)
theorem By.app {xs ys : List Int} (hx : By xs) (hy : By ys) : By (xs ++ ys) := fun i hi => by
  rw [List.length_append] at hi
  by_cases h : i < xs.length
  · have := hx i h
    simpa [List.getD_eq_getElem?_getD, List.getElem?_append_left h] using this
  · have := hy (i - xs.length) (by omega)
    simpa [List.getD_eq_getElem?_getD, List.getElem?_append_right (show xs.length ≤ i by omega)] using this
theorem By.nil : By [] := fun i hi => absurd hi (Nat.not_lt_zero _)
theorem tkS_by (s : RS) {r : Int} (hr : Gr r) : By (tkS s r).out := by
  obtain ⟨st, nn, ct⟩ := s
  unfold tkS
  have g10 : Gr 10 := by unfold Gr; omega
  have g9 : Gr 9 := by unfold Gr; omega
  split
  · split
    · exact By.nil
    · split
      · exact By.nil
      · split
        · exact By.nil
        · exact enc8_by hr
  · split
    · split
      · exact By.nil
      · split
        · exact enc8_by hr
        · split
          · exact enc8_by g10
          · split
            · exact enc8_by g9
            · exact By.nil
    · split
      · exact By.nil
      · split
        · split
          · exact By.nil
          · split
            · exact By.nil
            · rename_i h
              exact enc8_by (Classical.byContradiction fun hx => h (.inr (.inr hx)))
        · exact By.nil
theorem liftX {f : FuncId} {args : List AV} {F : Hp} {ι : Type} {x : AV} {M : ι → Hp} (X : Hp) (h : ACt Tryd.prog f args F (fun r F' => ∃ g : ι, r = x ∧ F' = M g)) :
    ACt Tryd.prog f args (X ++ F) (fun r F' => ∃ g : ι, r = x ∧ F' = X ++ M g) :=
  ACt.frm (R := X) h List.perm_append_comm fun r F' hr _ => by
    obtain ⟨g, e1, e2⟩ := hr
    subst e1 e2
    exact ⟨X ++ M g, [], by rw [List.append_nil]; exact List.perm_append_comm, g, rfl, rfl⟩
theorem perm4r (a b c d : Nat × MB) : List.Perm [a, b, c, d] ([c, d, a, b] ++ []) := by
  show List.Perm ([a, b] ++ [c, d]) ([c, d] ++ [a, b])
  exact List.perm_append_comm
theorem perm2t (a b : Nat × MB) (l : Hp) : List.Perm (a :: b :: l) ([a, b] ++ l) := List.Perm.refl _
structure UnG where
  i : Nat
  s : RS
  o : List Int
  q : BQ
set_option maxHeartbeats 8000000 in
set_option maxRecDepth 20000 in
theorem unq_ct (zs : List Int) (hb : By zs) (hl : zs.length ≤ 5000) (n0 n1 : Nat) : ACt Tryd.prog 19 [stz zs] [(0, .zs .u8 fsZ 256 n0), (1, .zs .u8 acZ 32 n1)] (fun r F' => r = .tup [stz (unqA zs).1, iv .i64 (unqA zs).2] ∧ F' = [(0, .zs .u8 fsZ 256 n0), (1, .zs .u8 acZ 32 n1)]) := by
  have cG := goodT_ct zs hb hl n0 n1
  obtain ⟨FZ, hFZ⟩ : ∃ FZ, FZ = fsZ := ⟨_, rfl⟩
  obtain ⟨AZ, hAZ⟩ : ∃ AZ, AZ = acZ := ⟨_, rfl⟩
  rw [← hFZ, ← hAZ] at cG ⊢
  clear hFZ hAZ
  by_cases h1 : zs.take 1 = [34]
  case neg =>
    have cC := cutp_no zs hb h1
    have e : unqA zs = ([], 5) := by unfold unqA; rw [if_neg (fun h => h1 h.1)]
    rw [e]
    refine ACt.intro Tryd.func19 rfl (by kernel_rfl) (by simp [Tryd.ntmps19]) (fun cx => ?_)
    simp only [argE, Tryd.ntmps19, Tryd.results19]
    first | (have FRx := FR; clear FRx) | (have FR : Sm (¬ ((1 : Nat) = 0)) := Sm.mk Nat.one_ne_zero)
    repeat' first
      | (refine Sm.mk ?_; try simp -dsimp only [ZK, rvc, drawF, headN, pureH, stp, dvc, calleeOf, gcall, pev, eff, newB, okd, og, ogs, ogo, ogp, slv, bltv, opd, litv, strip, one, both, putE, St.put, look, gdOf, gdv, picka, pickv, pickw, binv, bini, bins, binb, binp, binq, isSlT, bina, shp, eqCells, unv, convv, nilv, faddv, addp, idxav, idxp, load1, load1m, loadn, loadnm, loadv, hget, hset, hrep, hdel, slicev, bnd, shift1, lenv, capv, IntKind.bits, extractv, fieldv, indexv, min2v, max2v, mkiv, cellsA, fillA, buildv, stC, oneC, rowMB, intsA, plN, appE, appZ, appC, appNZ, appNC, VwL, srcC, srcZ, srcM, isBoolT, isPtrT, isSliceT, uOk, Value.oneCell', Nat.reducePow, Int.reducePow, Nat.reduceAdd, Nat.reduceMul, Nat.reduceSub, Nat.reduceLT, Nat.reduceLeDiff, Nat.reduceEqDiff, Nat.reduceBEq, Nat.reduceDiv, Nat.reduceMod, ↓reduceIte, reduceCtorEq, Int.reduceToNat, Int.reduceLT, Int.reduceLE, TFTxZ, SeqQ, BlkQ, LoopQ, BodyQ, FR.out])
      | (first | refine CallV.fn (cC) (Sm.out ?_) | refine ExF.mk (cC) (Sm.out ?_) | refine ExG.mk (fun _ => cC) (Sm.out ?_) | refine ExG.mkJ (fun _ => cC) (Sm.out ?_) | refine ExG.mkI (Ob.out ?_) (fun _ => cC) (Sm.out ?_))
      | (refine CallV.updM (cG) (perm2 (by simp only [hget, hdel, ↓reduceIte, FR.out]; first | done | rfl) (by simp only [hget, hdel, ↓reduceIte, FR.out]; first | done | rfl)) (Sm.out ?_))
      | ((first | refine ExF.up ?_ (cG) (Sm.out ?_) | refine ExG.up ?_ (fun _ => cG) (Sm.out ?_) | refine ExG.upJ ?_ (fun _ => cG) (Sm.out ?_) | refine ExG.upI ?_ (fun _ => cG) (Ob.out ?_) (Sm.out ?_)); focus (exact ⟨_, (perm2 (by simp only [hget, hdel, ↓reduceIte, FR.out]; first | done | rfl) (by simp only [hget, hdel, ↓reduceIte, FR.out]; first | done | rfl))⟩))
      | (refine WP.seq fun K hK => ?_)
      | (refine WP.region (rvc_sound _ _ (Sm.out ?_)))
      | (refine WP.drawK rfl mixed (by decide +kernel) (Sm.out ?_))
      | (refine Ob.mk ?_; focus (first | assumption | omega | decide | trivial | (intro hob; simp only [hob, ZF]; done) | (intros; (repeat' refine And.intro ?_ ?_) <;> first | assumption | omega | trivial | decide) | (intros; simp only [ZE] at *; (repeat' refine And.intro ?_ ?_) <;> first | assumption | omega | trivial)))
      | (refine And.intro (Ob.out ?_) ?_)
      | (refine WP.block ?_)
      | (refine WP.cond rfl (fun hc => ?_) (fun hc => ?_) <;> (try simp only [ZC, reduceCtorEq, ZD] at hc) <;> (try (exact absurd hc (by decide))) <;> (try (exfalso; omega)))
      | ((first | refine WP.skip ?_ | refine WP.exit ?_); simp only [SeqQ, BlkQ, LoopQ, BodyQ, ↓reduceIte, Nat.reduceEqDiff, reduceCtorEq, look, true_and])
      | (refine WP.ret (Sm.out ?_))
      | (first | refine ExG.no (Sm.out ?_) | refine Or.inl (ExG.no (Sm.out ?_)) | refine Or.inl (And.intro (fun hg => absurd hg (by decide)) (ExG.no (Sm.out ?_))))
      | (refine Rt.mk ?_; refine And.intro ?_ ?_ <;> (intro hg; first | exact absurd hg (by decide) | refine Sm.out ?_))
      | (refine Nu.mk ?_; first | (fail_if_success (have := nb1)); intro nb1 | (fail_if_success (have := nb2)); intro nb2 | (fail_if_success (have := nb3)); intro nb3 | (fail_if_success (have := nb4)); intro nb4 | intro nbz)
      | (refine Fr.mk ?_; intro hfr; (first | (have hFRb : _ ≤ _ ∧ _ ≤ _ := And.intro hfr.1 hfr.2.1) | (have hFRb : _ ≤ _ := hfr.1) | skip); replace FR := Sm.mk (And.intro hfr FR.out); clear hfr; refine Sm.out ?_)
      | (refine Two.mk ?_ ?_)
      | (refine Cs.mk ?_; intro hcs; first | exact False.elim hcs | (exfalso; omega) | (refine Sm.out ?_))
      | go_step
      | omega
      | (simp only [maxLen_eq]; omega)
    (refine OutQ.drop _ _ (perm2 (by simp only [hget, hdel, ↓reduceIte, if_true, if_false, FR.out]; first | done | rfl) (by simp only [hget, hdel, ↓reduceIte, if_true, if_false, FR.out]; first | done | rfl)) (by simp only [resv, ZK, look, loadv, loadn, loadnm, load1, load1m, hget, ↓reduceIte, Nat.reduceEqDiff, Nat.reduceAdd, Nat.reduceMul, Nat.reduceLeDiff, Nat.reduceLT, reduceCtorEq, TFTxZ, FR.out]) ⟨(by simp only [resv, resA, ZK, look, loadv, loadn, loadnm, load1, load1m, hget, ↓reduceIte, Nat.reduceEqDiff, Nat.reduceAdd, Nat.reduceMul, Nat.reduceLeDiff, Nat.reduceLT, reduceCtorEq, TFTxZ, FR.out]; first | done | rfl), rfl⟩)
  have cC := cutp_yes zs hb h1
  by_cases h2 : gdB zs = true
  case neg =>
    have h2' : gdB zs = false := by simpa using h2
    rw [h2'] at cG
    have e : unqA zs = ([], 5) := by unfold unqA; rw [if_neg (fun h => h2 h.2)]
    rw [e]
    refine ACt.intro Tryd.func19 rfl (by kernel_rfl) (by simp [Tryd.ntmps19]) (fun cx => ?_)
    simp only [argE, Tryd.ntmps19, Tryd.results19]
    first | (have FRx := FR; clear FRx) | (have FR : Sm (¬ ((1 : Nat) = 0)) := Sm.mk Nat.one_ne_zero)
    repeat' first
      | (refine Sm.mk ?_; try simp -dsimp only [ZK, rvc, drawF, headN, pureH, stp, dvc, calleeOf, gcall, pev, eff, newB, okd, og, ogs, ogo, ogp, slv, bltv, opd, litv, strip, one, both, putE, St.put, look, gdOf, gdv, picka, pickv, pickw, binv, bini, bins, binb, binp, binq, isSlT, bina, shp, eqCells, unv, convv, nilv, faddv, addp, idxav, idxp, load1, load1m, loadn, loadnm, loadv, hget, hset, hrep, hdel, slicev, bnd, shift1, lenv, capv, IntKind.bits, extractv, fieldv, indexv, min2v, max2v, mkiv, cellsA, fillA, buildv, stC, oneC, rowMB, intsA, plN, appE, appZ, appC, appNZ, appNC, VwL, srcC, srcZ, srcM, isBoolT, isPtrT, isSliceT, uOk, Value.oneCell', Nat.reducePow, Int.reducePow, Nat.reduceAdd, Nat.reduceMul, Nat.reduceSub, Nat.reduceLT, Nat.reduceLeDiff, Nat.reduceEqDiff, Nat.reduceBEq, Nat.reduceDiv, Nat.reduceMod, ↓reduceIte, reduceCtorEq, Int.reduceToNat, Int.reduceLT, Int.reduceLE, TFTxZ, SeqQ, BlkQ, LoopQ, BodyQ, FR.out])
      | (first | refine CallV.fn (cC) (Sm.out ?_) | refine ExF.mk (cC) (Sm.out ?_) | refine ExG.mk (fun _ => cC) (Sm.out ?_) | refine ExG.mkJ (fun _ => cC) (Sm.out ?_) | refine ExG.mkI (Ob.out ?_) (fun _ => cC) (Sm.out ?_))
      | (refine CallV.updM (cG) (perm2 (by simp only [hget, hdel, ↓reduceIte, FR.out]; first | done | rfl) (by simp only [hget, hdel, ↓reduceIte, FR.out]; first | done | rfl)) (Sm.out ?_))
      | ((first | refine ExF.up ?_ (cG) (Sm.out ?_) | refine ExG.up ?_ (fun _ => cG) (Sm.out ?_) | refine ExG.upJ ?_ (fun _ => cG) (Sm.out ?_) | refine ExG.upI ?_ (fun _ => cG) (Ob.out ?_) (Sm.out ?_)); focus (exact ⟨_, (perm2 (by simp only [hget, hdel, ↓reduceIte, FR.out]; first | done | rfl) (by simp only [hget, hdel, ↓reduceIte, FR.out]; first | done | rfl))⟩))
      | (refine WP.seq fun K hK => ?_)
      | (refine WP.region (rvc_sound _ _ (Sm.out ?_)))
      | (refine WP.drawK rfl mixed (by decide +kernel) (Sm.out ?_))
      | (refine Ob.mk ?_; focus (first | assumption | omega | decide | trivial | (intro hob; simp only [hob, ZF]; done) | (intros; (repeat' refine And.intro ?_ ?_) <;> first | assumption | omega | trivial | decide) | (intros; simp only [ZE] at *; (repeat' refine And.intro ?_ ?_) <;> first | assumption | omega | trivial)))
      | (refine And.intro (Ob.out ?_) ?_)
      | (refine WP.block ?_)
      | (refine WP.cond rfl (fun hc => ?_) (fun hc => ?_) <;> (try simp only [ZC, reduceCtorEq, ZD] at hc) <;> (try (exact absurd hc (by decide))) <;> (try (exfalso; omega)))
      | ((first | refine WP.skip ?_ | refine WP.exit ?_); simp only [SeqQ, BlkQ, LoopQ, BodyQ, ↓reduceIte, Nat.reduceEqDiff, reduceCtorEq, look, true_and])
      | (refine WP.ret (Sm.out ?_))
      | (first | refine ExG.no (Sm.out ?_) | refine Or.inl (ExG.no (Sm.out ?_)) | refine Or.inl (And.intro (fun hg => absurd hg (by decide)) (ExG.no (Sm.out ?_))))
      | (refine Rt.mk ?_; refine And.intro ?_ ?_ <;> (intro hg; first | exact absurd hg (by decide) | refine Sm.out ?_))
      | (refine Nu.mk ?_; first | (fail_if_success (have := nb1)); intro nb1 | (fail_if_success (have := nb2)); intro nb2 | (fail_if_success (have := nb3)); intro nb3 | (fail_if_success (have := nb4)); intro nb4 | intro nbz)
      | (refine Fr.mk ?_; intro hfr; (first | (have hFRb : _ ≤ _ ∧ _ ≤ _ := And.intro hfr.1 hfr.2.1) | (have hFRb : _ ≤ _ := hfr.1) | skip); replace FR := Sm.mk (And.intro hfr FR.out); clear hfr; refine Sm.out ?_)
      | (refine Two.mk ?_ ?_)
      | (refine Cs.mk ?_; intro hcs; first | exact False.elim hcs | (exfalso; omega) | (refine Sm.out ?_))
      | go_step
      | omega
      | (simp only [maxLen_eq]; omega)
    (refine OutQ.drop _ _ (perm2 (by simp only [hget, hdel, ↓reduceIte, if_true, if_false, FR.out]; first | done | rfl) (by simp only [hget, hdel, ↓reduceIte, if_true, if_false, FR.out]; first | done | rfl)) (by simp only [resv, ZK, look, loadv, loadn, loadnm, load1, load1m, hget, ↓reduceIte, Nat.reduceEqDiff, Nat.reduceAdd, Nat.reduceMul, Nat.reduceLeDiff, Nat.reduceLT, reduceCtorEq, TFTxZ, FR.out]) ⟨(by simp only [resv, resA, ZK, look, loadv, loadn, loadnm, load1, load1m, hget, ↓reduceIte, Nat.reduceEqDiff, Nat.reduceAdd, Nat.reduceMul, Nat.reduceLeDiff, Nat.reduceLT, reduceCtorEq, TFTxZ, FR.out]; first | done | rfl), rfl⟩)
  rw [h2] at cG
  have hA : unqA zs = unqE (mach ⟨0, 0, 0⟩ [] (rn (zs.drop 1))) := by unfold unqA; rw [if_pos ⟨h1, h2⟩]
  obtain ⟨M, hM⟩ : ∃ M, M = mach ⟨0, 0, 0⟩ [] (rn (zs.drop 1)) := ⟨_, rfl⟩
  rw [← hM] at hA
  rw [hA]
  have hg0 : Gd zs 0 := by unfold gdB at h2; exact @of_decide_eq_true _ (Classical.propDecidable _) h2
  have hl1 : 1 ≤ zs.length := by
    cases zs with
    | nil => cases h1
    | cons z r => simp
  have hz0 : zs.getD 0 0 = 34 := by
    cases zs with
    | nil => cases h1
    | cons z r => simp at h1; simp [h1]
  have hgi : Gd (zs.drop 1) 0 := by
    have h := (Gd_lo hb hl1 (by rw [hz0]; decide)).1 hg0
    unfold Gd at h ⊢
    rw [rnF_drop, List.length_drop]
    exact h
  have hbi : By (zs.drop 1) := hb.drop 1
  obtain ⟨ys, hys⟩ : ∃ ys, ys = zs.drop 1 := ⟨_, rfl⟩
  rw [← hys] at hM hgi hbi cC
  have hyl : ys.length ≤ 5000 := by rw [hys, List.length_drop]; omega
  rw [← rF_zero] at hM
  have hs := bstr_size ys
  have hdec := fun i (h : i < ys.length) (hg : Gd ys i) => dec_good hbi h hg
  unfold stz at cC
  obtain ⟨B, hB⟩ : ∃ B, B = bstr ys := ⟨_, rfl⟩
  rw [← hB] at hs cC
  simp only [← hB] at hdec
  refine ACt.intro Tryd.func19 rfl (by kernel_rfl) (by simp [Tryd.ntmps19]) (fun cx => ?_)
  simp only [argE, Tryd.ntmps19, Tryd.results19]
  first | (have FRx := FR; clear FRx) | (have FR : Sm (¬ ((1 : Nat) = 0)) := Sm.mk Nat.one_ne_zero)
  repeat' first
    | (refine Sm.mk ?_; try simp -dsimp only [ZK, rvc, drawF, headN, pureH, stp, dvc, calleeOf, gcall, pev, eff, newB, okd, og, ogs, ogo, ogp, slv, bltv, opd, litv, strip, one, both, putE, St.put, look, gdOf, gdv, picka, pickv, pickw, binv, bini, bins, binb, binp, binq, isSlT, bina, shp, eqCells, unv, convv, nilv, faddv, addp, idxav, idxp, load1, load1m, loadn, loadnm, loadv, hget, hset, hrep, hdel, slicev, bnd, shift1, lenv, capv, IntKind.bits, extractv, fieldv, indexv, min2v, max2v, mkiv, cellsA, fillA, buildv, stC, oneC, rowMB, intsA, plN, appE, appZ, appC, appNZ, appNC, VwL, srcC, srcZ, srcM, isBoolT, isPtrT, isSliceT, uOk, Value.oneCell', Nat.reducePow, Int.reducePow, Nat.reduceAdd, Nat.reduceMul, Nat.reduceSub, Nat.reduceLT, Nat.reduceLeDiff, Nat.reduceEqDiff, Nat.reduceBEq, Nat.reduceDiv, Nat.reduceMod, ↓reduceIte, reduceCtorEq, Int.reduceToNat, Int.reduceLT, Int.reduceLE, TFTxZ, SeqQ, BlkQ, LoopQ, BodyQ, FR.out])
    | (first | refine CallV.fn (cC) (Sm.out ?_) | refine ExF.mk (cC) (Sm.out ?_) | refine ExG.mk (fun _ => cC) (Sm.out ?_) | refine ExG.mkJ (fun _ => cC) (Sm.out ?_) | refine ExG.mkI (Ob.out ?_) (fun _ => cC) (Sm.out ?_))
    | (refine CallV.updM (cG) (perm2 (by simp only [hget, hdel, ↓reduceIte, FR.out]; first | done | rfl) (by simp only [hget, hdel, ↓reduceIte, FR.out]; first | done | rfl)) (Sm.out ?_))
    | ((first | refine ExF.up ?_ (cG) (Sm.out ?_) | refine ExG.up ?_ (fun _ => cG) (Sm.out ?_) | refine ExG.upJ ?_ (fun _ => cG) (Sm.out ?_) | refine ExG.upI ?_ (fun _ => cG) (Ob.out ?_) (Sm.out ?_)); focus (exact ⟨_, (perm2 (by simp only [hget, hdel, ↓reduceIte, FR.out]; first | done | rfl) (by simp only [hget, hdel, ↓reduceIte, FR.out]; first | done | rfl))⟩))
    | (refine WP.seq fun K hK => ?_)
    | (refine WP.region (rvc_sound _ _ (Sm.out ?_)))
    | (refine WP.drawK rfl mixed (by decide +kernel) (Sm.out ?_))
    | (refine Ob.mk ?_; focus (first | assumption | omega | decide | trivial | (intro hob; simp only [hob, ZF]; done) | (intros; (repeat' refine And.intro ?_ ?_) <;> first | assumption | omega | trivial | decide) | (intros; simp only [ZE] at *; (repeat' refine And.intro ?_ ?_) <;> first | assumption | omega | trivial)))
    | (refine And.intro (Ob.out ?_) ?_)
    | (refine WP.block ?_)
    | (refine WP.cond rfl (fun hc => ?_) (fun hc => ?_) <;> (try simp only [ZC, reduceCtorEq, ZD] at hc) <;> (try (exact absurd hc (by decide))) <;> (try (exfalso; omega)))
    | ((first | refine WP.skip ?_ | refine WP.exit ?_); simp only [SeqQ, BlkQ, LoopQ, BodyQ, ↓reduceIte, Nat.reduceEqDiff, reduceCtorEq, look, true_and])
    | (refine WP.ret (Sm.out ?_))
    | (first | refine ExG.no (Sm.out ?_) | refine Or.inl (ExG.no (Sm.out ?_)) | refine Or.inl (And.intro (fun hg => absurd hg (by decide)) (ExG.no (Sm.out ?_))))
    | (refine Rt.mk ?_; refine And.intro ?_ ?_ <;> (intro hg; first | exact absurd hg (by decide) | refine Sm.out ?_))
    | (refine Nu.mk ?_; first | (fail_if_success (have := nb1)); intro nb1 | (fail_if_success (have := nb2)); intro nb2 | (fail_if_success (have := nb3)); intro nb3 | (fail_if_success (have := nb4)); intro nb4 | intro nbz)
    | (refine Fr.mk ?_; intro hfr; (first | (have hFRb : _ ≤ _ ∧ _ ≤ _ := And.intro hfr.1 hfr.2.1) | (have hFRb : _ ≤ _ := hfr.1) | skip); replace FR := Sm.mk (And.intro hfr FR.out); clear hfr; refine Sm.out ?_)
    | (refine Two.mk ?_ ?_)
    | (refine Cs.mk ?_; intro hcs; first | exact False.elim hcs | (exfalso; omega) | (refine Sm.out ?_))
    | go_step
    | omega
    | (simp only [maxLen_eq]; omega)
  have hnn : (nb2 ≠ 0 ∧ 0 ≠ nb2) ∧ (nb2 ≠ 1 ∧ 1 ≠ nb2) ∧ (nb1 ≠ 0 ∧ 0 ≠ nb1) ∧ (nb1 ≠ 1 ∧ 1 ≠ nb1) ∧ (nb1 ≠ nb2 ∧ nb2 ≠ nb1) := by simp [FR.out]
  refine WP.loop (Γ := UnG) (fun t => ⟨[(25, pt nb2 0), (6, pt nb1 0)], [(0, .zs .u8 FZ 256 n0), (1, .zs .u8 AZ 32 n1), (nb2, .obj (.stringIter B t.i))] ++ rH nb1 t.s.st t.s.nn t.s.ct t.o t.q⟩)
    (fun t => t.i ≤ ys.length ∧ RSok t.s ∧ t.o.length ≤ 4 * t.i ∧ By t.o ∧ bOk nb1 t.o t.q ∧ Gd ys t.i ∧ M = mach t.s t.o (rF ys t.i)) (fun t => ys.length - t.i) ⟨0, ⟨0, 0, 0⟩, [], ⟨0, 0⟩⟩
    ⟨Nat.zero_le _, ⟨.inl rfl, by simp, by simp, 0, by simp, by simp, by simp⟩, by simp, By.nil, fun h => absurd rfl h, hgi, hM⟩ (Sub.of_env [] (perm4r _ _ _ _) (by simp [look])) ?_
  intro ⟨i, s, o, q⟩ ⟨hi, hsk, hol, hob, hq, hgd, hMi⟩
  simp only at hi hsk hol hob hq hgd hMi ⊢
  have FR : Sm (¬ ((1 : Nat) = 0)) := Sm.mk Nat.one_ne_zero
  by_cases hlt : i < ys.length
  · obtain ⟨r, hd, hrr⟩ := hdec i hlt hgd
    have hin := elR_in hbi hlt
    have hw := elR_w ys i
    obtain ⟨hGr, hgn⟩ := gd_el hbi hlt hgd
    rw [rF_step hlt, mach_cons] at hMi
    rw [hrr] at hMi hGr
    obtain ⟨w, ew⟩ : ∃ w, w = (elR ys i).2 := ⟨_, rfl⟩
    rw [← ew] at hd hin hw hMi hgn
    have cT := liftX [(0, .zs .u8 FZ 256 n0), (1, .zs .u8 AZ 32 n1), (nb2, .obj (.stringIter B (i + w)))] (take_r hq (by omega) s hsk (r : Int) hGr)
    have hok' := tkS_ok hsk (r := (r : Int))
    have hby := tkS_by s hGr
    obtain ⟨O, hO⟩ : ∃ O, O = tkS s (r : Int) := ⟨_, rfl⟩
    rw [← hO] at cT hMi hok' hby
    obtain ⟨ok, s', out⟩ := O
    simp only at cT hMi hok' hby
    cases ok
    · have eM : M = none := by rw [hMi]; rfl
      have eA : unqE M = ([], 5) := by rw [eM]; rfl
      rw [eA]
      first | (have FRx := FR; clear FRx) | (have FR : Sm (¬ ((1 : Nat) = 0)) := Sm.mk Nat.one_ne_zero)
      repeat' first
        | (refine Sm.mk ?_; try simp -dsimp only [ZK, rvc, drawF, headN, pureH, stp, dvc, calleeOf, gcall, pev, eff, newB, okd, og, ogs, ogo, ogp, slv, bltv, opd, litv, strip, one, both, putE, St.put, look, gdOf, gdv, picka, pickv, pickw, binv, bini, bins, binb, binp, binq, isSlT, bina, shp, eqCells, unv, convv, nilv, faddv, addp, idxav, idxp, load1, load1m, loadn, loadnm, loadv, hget, hset, hrep, hdel, slicev, bnd, shift1, lenv, capv, IntKind.bits, extractv, fieldv, indexv, min2v, max2v, mkiv, cellsA, fillA, buildv, stC, oneC, rowMB, intsA, plN, appE, appZ, appC, appNZ, appNC, VwL, srcC, srcZ, srcM, isBoolT, isPtrT, isSliceT, uOk, Value.oneCell', Nat.reducePow, Int.reducePow, Nat.reduceAdd, Nat.reduceMul, Nat.reduceSub, Nat.reduceLT, Nat.reduceLeDiff, Nat.reduceEqDiff, Nat.reduceBEq, Nat.reduceDiv, Nat.reduceMod, ↓reduceIte, reduceCtorEq, Int.reduceToNat, Int.reduceLT, Int.reduceLE, TFTxZ, SeqQ, BlkQ, LoopQ, BodyQ, hd, hs, hnn, List.append_nil, List.cons_append, List.nil_append, FR.out])
        | (refine CallV.exM (cT) (pmz _) (fun h => Sm.out ?_))
        | (refine WP.seq fun K hK => ?_)
        | (refine WP.region (rvc_sound _ _ (Sm.out ?_)))
        | (refine WP.drawK rfl mixed (by decide +kernel) (Sm.out ?_))
        | (refine Ob.mk ?_; focus (first | assumption | omega | decide | trivial | (intro hob; simp only [hob, ZF]; done) | (intros; (repeat' refine And.intro ?_ ?_) <;> first | assumption | omega | trivial | decide) | (intros; simp only [ZE] at *; (repeat' refine And.intro ?_ ?_) <;> first | assumption | omega | trivial)))
        | (refine And.intro (Ob.out ?_) ?_)
        | (refine WP.block ?_)
        | (refine WP.cond rfl (fun hc => ?_) (fun hc => ?_) <;> (try simp only [ZC, reduceCtorEq, ZD] at hc) <;> (try (exact absurd hc (by decide))) <;> (try (exfalso; omega)))
        | ((first | refine WP.skip ?_ | refine WP.exit ?_); simp only [SeqQ, BlkQ, LoopQ, BodyQ, ↓reduceIte, Nat.reduceEqDiff, reduceCtorEq, look, true_and])
        | (refine WP.ret (Sm.out ?_))
        | (first | refine ExG.no (Sm.out ?_) | refine Or.inl (ExG.no (Sm.out ?_)) | refine Or.inl (And.intro (fun hg => absurd hg (by decide)) (ExG.no (Sm.out ?_))))
        | (refine Rt.mk ?_; refine And.intro ?_ ?_ <;> (intro hg; first | exact absurd hg (by decide) | refine Sm.out ?_))
        | (refine Nu.mk ?_; first | (fail_if_success (have := nb1)); intro nb1 | (fail_if_success (have := nb2)); intro nb2 | (fail_if_success (have := nb3)); intro nb3 | (fail_if_success (have := nb4)); intro nb4 | intro nbz)
        | (refine Fr.mk ?_; intro hfr; (first | (have hFRb : _ ≤ _ ∧ _ ≤ _ := And.intro hfr.1 hfr.2.1) | (have hFRb : _ ≤ _ := hfr.1) | skip); replace FR := Sm.mk (And.intro hfr FR.out); clear hfr; refine Sm.out ?_)
        | (refine Two.mk ?_ ?_)
        | (refine Cs.mk ?_; intro hcs; first | exact False.elim hcs | (exfalso; omega) | (refine Sm.out ?_))
        | go_step
        | omega
        | (simp only [maxLen_eq]; omega)
      (refine OutQ.drop _ _ (perm2t _ _ _) (by simp only [resv, ZK, look, loadv, loadn, loadnm, load1, load1m, hget, ↓reduceIte, Nat.reduceEqDiff, Nat.reduceAdd, Nat.reduceMul, Nat.reduceLeDiff, Nat.reduceLT, reduceCtorEq, TFTxZ, FR.out]) ⟨(by simp only [resv, resA, ZK, look, loadv, loadn, loadnm, load1, load1m, hget, ↓reduceIte, Nat.reduceEqDiff, Nat.reduceAdd, Nat.reduceMul, Nat.reduceLeDiff, Nat.reduceLT, reduceCtorEq, TFTxZ, FR.out]; first | done | rfl), rfl⟩)
    · have eM : M = mach s' (o ++ out) (rF ys (i + w)) := by rw [hMi]; rfl
      first | (have FRx := FR; clear FRx) | (have FR : Sm (¬ ((1 : Nat) = 0)) := Sm.mk Nat.one_ne_zero)
      repeat' first
        | (refine Sm.mk ?_; try simp -dsimp only [ZK, rvc, drawF, headN, pureH, stp, dvc, calleeOf, gcall, pev, eff, newB, okd, og, ogs, ogo, ogp, slv, bltv, opd, litv, strip, one, both, putE, St.put, look, gdOf, gdv, picka, pickv, pickw, binv, bini, bins, binb, binp, binq, isSlT, bina, shp, eqCells, unv, convv, nilv, faddv, addp, idxav, idxp, load1, load1m, loadn, loadnm, loadv, hget, hset, hrep, hdel, slicev, bnd, shift1, lenv, capv, IntKind.bits, extractv, fieldv, indexv, min2v, max2v, mkiv, cellsA, fillA, buildv, stC, oneC, rowMB, intsA, plN, appE, appZ, appC, appNZ, appNC, VwL, srcC, srcZ, srcM, isBoolT, isPtrT, isSliceT, uOk, Value.oneCell', Nat.reducePow, Int.reducePow, Nat.reduceAdd, Nat.reduceMul, Nat.reduceSub, Nat.reduceLT, Nat.reduceLeDiff, Nat.reduceEqDiff, Nat.reduceBEq, Nat.reduceDiv, Nat.reduceMod, ↓reduceIte, reduceCtorEq, Int.reduceToNat, Int.reduceLT, Int.reduceLE, TFTxZ, SeqQ, BlkQ, LoopQ, BodyQ, hd, hs, hnn, List.append_nil, List.cons_append, List.nil_append, FR.out])
        | (refine CallV.exM (cT) (pmz _) (fun h => Sm.out ?_))
        | (refine WP.seq fun K hK => ?_)
        | (refine WP.region (rvc_sound _ _ (Sm.out ?_)))
        | (refine WP.drawK rfl mixed (by decide +kernel) (Sm.out ?_))
        | (refine Ob.mk ?_; focus (first | assumption | omega | decide | trivial | (intro hob; simp only [hob, ZF]; done) | (intros; (repeat' refine And.intro ?_ ?_) <;> first | assumption | omega | trivial | decide) | (intros; simp only [ZE] at *; (repeat' refine And.intro ?_ ?_) <;> first | assumption | omega | trivial)))
        | (refine And.intro (Ob.out ?_) ?_)
        | (refine WP.block ?_)
        | (refine WP.cond rfl (fun hc => ?_) (fun hc => ?_) <;> (try simp only [ZC, reduceCtorEq, ZD] at hc) <;> (try (exact absurd hc (by decide))) <;> (try (exfalso; omega)))
        | ((first | refine WP.skip ?_ | refine WP.exit ?_); simp only [SeqQ, BlkQ, LoopQ, BodyQ, ↓reduceIte, Nat.reduceEqDiff, reduceCtorEq, look, true_and])
        | (refine WP.ret (Sm.out ?_))
        | (first | refine ExG.no (Sm.out ?_) | refine Or.inl (ExG.no (Sm.out ?_)) | refine Or.inl (And.intro (fun hg => absurd hg (by decide)) (ExG.no (Sm.out ?_))))
        | (refine Rt.mk ?_; refine And.intro ?_ ?_ <;> (intro hg; first | exact absurd hg (by decide) | refine Sm.out ?_))
        | (refine Nu.mk ?_; first | (fail_if_success (have := nb1)); intro nb1 | (fail_if_success (have := nb2)); intro nb2 | (fail_if_success (have := nb3)); intro nb3 | (fail_if_success (have := nb4)); intro nb4 | intro nbz)
        | (refine Fr.mk ?_; intro hfr; (first | (have hFRb : _ ≤ _ ∧ _ ≤ _ := And.intro hfr.1 hfr.2.1) | (have hFRb : _ ≤ _ := hfr.1) | skip); replace FR := Sm.mk (And.intro hfr FR.out); clear hfr; refine Sm.out ?_)
        | (refine Two.mk ?_ ?_)
        | (refine Cs.mk ?_; intro hcs; first | exact False.elim hcs | (exfalso; omega) | (refine Sm.out ?_))
        | go_step
        | omega
        | (simp only [maxLen_eq]; omega)
      exact ⟨⟨i + w, s', o ++ out, h.1⟩, ⟨by simp only; omega, hok'.1, by simp only [List.length_append]; omega, hob.app hby, h.2, hgn, eM⟩, by simp only; omega, Sub.of_env [] (pmz _) (by simp [look])⟩
  · obtain rfl : i = ys.length := by omega
    rw [rF_end (Nat.le_refl _)] at hMi
    have eM : M = some (s, o) := hMi
    have cN := cnt_ct o hob (by omega)
    have cS := liftF [(0, .zs .u8 FZ 256 n0), (1, .zs .u8 AZ 32 n1), (nb2, .obj (.stringIter B ys.length))] (str_r (st := s.st) (nn := s.nn) (ct := s.ct) hq (by omega))
    obtain ⟨st, nn, ct⟩ := s
    simp only at cS
    obtain ⟨eAv, hEA⟩ : ∃ x, x = eA nb1 o := ⟨_, rfl⟩
    obtain ⟨eSv, hES⟩ : ∃ x, x = eS q o := ⟨_, rfl⟩
    rw [← hEA, ← hES] at cS
    clear hEA hES
    obtain ⟨N, hN⟩ : ∃ N, N = (rn o).length := ⟨_, rfl⟩
    rw [← hN] at cN
    by_cases h4 : st = 4
    case neg =>
      have e : unqE (some (⟨st, nn, ct⟩, o)) = ([], 5) := by rw [unqE_some]; exact if_pos h4
      have k4 : (st != 4) = true := bne_iff_ne.2 h4
      unfold stz at cS cN
      obtain ⟨Z, hZ⟩ : ∃ Z, Z = bstr o := ⟨_, rfl⟩
      rw [← hZ] at cS cN
      first | (have FRx := FR; clear FRx) | (have FR : Sm (¬ ((1 : Nat) = 0)) := Sm.mk Nat.one_ne_zero)
      repeat' first
        | (refine Sm.mk ?_; try simp -dsimp only [ZK, rvc, drawF, headN, pureH, stp, dvc, calleeOf, gcall, pev, eff, newB, okd, og, ogs, ogo, ogp, slv, bltv, opd, litv, strip, one, both, putE, St.put, look, gdOf, gdv, picka, pickv, pickw, binv, bini, bins, binb, binp, binq, isSlT, bina, shp, eqCells, unv, convv, nilv, faddv, addp, idxav, idxp, load1, load1m, loadn, loadnm, loadv, hget, hset, hrep, hdel, slicev, bnd, shift1, lenv, capv, IntKind.bits, extractv, fieldv, indexv, min2v, max2v, mkiv, cellsA, fillA, buildv, stC, oneC, rowMB, intsA, plN, appE, appZ, appC, appNZ, appNC, VwL, srcC, srcZ, srcM, isBoolT, isPtrT, isSliceT, uOk, Value.oneCell', Nat.reducePow, Int.reducePow, Nat.reduceAdd, Nat.reduceMul, Nat.reduceSub, Nat.reduceLT, Nat.reduceLeDiff, Nat.reduceEqDiff, Nat.reduceBEq, Nat.reduceDiv, Nat.reduceMod, ↓reduceIte, reduceCtorEq, Int.reduceToNat, Int.reduceLT, Int.reduceLE, TFTxZ, SeqQ, BlkQ, LoopQ, BodyQ, hs, hnn, k4, List.append_nil, List.cons_append, List.nil_append, FR.out])
        | (refine CallV.updM (cS) (pmz _) (Sm.out ?_))
        | (first | refine CallV.fn (cN) (Sm.out ?_) | refine ExF.mk (cN) (Sm.out ?_) | refine ExG.mk (fun _ => cN) (Sm.out ?_) | refine ExG.mkJ (fun _ => cN) (Sm.out ?_) | refine ExG.mkI (Ob.out ?_) (fun _ => cN) (Sm.out ?_))
        | (refine WP.seq fun K hK => ?_)
        | (refine WP.region (rvc_sound _ _ (Sm.out ?_)))
        | (refine WP.drawK rfl mixed (by decide +kernel) (Sm.out ?_))
        | (refine Ob.mk ?_; focus (first | assumption | omega | decide | trivial | (intro hob; simp only [hob, ZF]; done) | (intros; (repeat' refine And.intro ?_ ?_) <;> first | assumption | omega | trivial | decide) | (intros; simp only [ZE] at *; (repeat' refine And.intro ?_ ?_) <;> first | assumption | omega | trivial)))
        | (refine And.intro (Ob.out ?_) ?_)
        | (refine WP.block ?_)
        | (refine WP.cond rfl (fun hc => ?_) (fun hc => ?_) <;> (try simp only [ZC, reduceCtorEq, ZD] at hc) <;> (try (exact absurd hc (by decide))) <;> (try (exfalso; omega)))
        | ((first | refine WP.skip ?_ | refine WP.exit ?_); simp only [SeqQ, BlkQ, LoopQ, BodyQ, ↓reduceIte, Nat.reduceEqDiff, reduceCtorEq, look, true_and])
        | (refine WP.ret (Sm.out ?_))
        | (first | refine ExG.no (Sm.out ?_) | refine Or.inl (ExG.no (Sm.out ?_)) | refine Or.inl (And.intro (fun hg => absurd hg (by decide)) (ExG.no (Sm.out ?_))))
        | (refine Rt.mk ?_; refine And.intro ?_ ?_ <;> (intro hg; first | exact absurd hg (by decide) | refine Sm.out ?_))
        | (refine Nu.mk ?_; first | (fail_if_success (have := nb1)); intro nb1 | (fail_if_success (have := nb2)); intro nb2 | (fail_if_success (have := nb3)); intro nb3 | (fail_if_success (have := nb4)); intro nb4 | intro nbz)
        | (refine Fr.mk ?_; intro hfr; (first | (have hFRb : _ ≤ _ ∧ _ ≤ _ := And.intro hfr.1 hfr.2.1) | (have hFRb : _ ≤ _ := hfr.1) | skip); replace FR := Sm.mk (And.intro hfr FR.out); clear hfr; refine Sm.out ?_)
        | (refine Two.mk ?_ ?_)
        | (refine Cs.mk ?_; intro hcs; first | exact False.elim hcs | (exfalso; omega) | (refine Sm.out ?_))
        | go_step
        | omega
        | (simp only [maxLen_eq]; omega)
      rw [eM, e]
      subst hZ
      (refine OutQ.drop _ _ (perm2 (by simp only [hget, hdel, ↓reduceIte, if_true, if_false, FR.out]; first | done | rfl) (by simp only [hget, hdel, ↓reduceIte, if_true, if_false, FR.out]; first | done | rfl)) (by simp only [resv, ZK, look, loadv, loadn, loadnm, load1, load1m, hget, ↓reduceIte, Nat.reduceEqDiff, Nat.reduceAdd, Nat.reduceMul, Nat.reduceLeDiff, Nat.reduceLT, reduceCtorEq, TFTxZ, FR.out]) ⟨(by simp only [resv, resA, ZK, look, loadv, loadn, loadnm, load1, load1m, hget, ↓reduceIte, Nat.reduceEqDiff, Nat.reduceAdd, Nat.reduceMul, Nat.reduceLeDiff, Nat.reduceLT, reduceCtorEq, TFTxZ, FR.out]; first | done | rfl), rfl⟩)
    have k4 : (st != 4) = false := by rw [h4]; rfl
    by_cases h12 : 120 < N
    · have e : unqE (some (⟨st, nn, ct⟩, o)) = ([], 9) := by rw [unqE_some]; exact (if_neg (fun h => h h4)).trans (if_pos (by rw [← hN]; exact h12))
      have kN : decide ((N : Int) > 120) = true := decide_eq_true (by omega)
      unfold stz at cS cN
      obtain ⟨Z, hZ⟩ : ∃ Z, Z = bstr o := ⟨_, rfl⟩
      rw [← hZ] at cS cN
      first | (have FRx := FR; clear FRx) | (have FR : Sm (¬ ((1 : Nat) = 0)) := Sm.mk Nat.one_ne_zero)
      repeat' first
        | (refine Sm.mk ?_; try simp -dsimp only [ZK, rvc, drawF, headN, pureH, stp, dvc, calleeOf, gcall, pev, eff, newB, okd, og, ogs, ogo, ogp, slv, bltv, opd, litv, strip, one, both, putE, St.put, look, gdOf, gdv, picka, pickv, pickw, binv, bini, bins, binb, binp, binq, isSlT, bina, shp, eqCells, unv, convv, nilv, faddv, addp, idxav, idxp, load1, load1m, loadn, loadnm, loadv, hget, hset, hrep, hdel, slicev, bnd, shift1, lenv, capv, IntKind.bits, extractv, fieldv, indexv, min2v, max2v, mkiv, cellsA, fillA, buildv, stC, oneC, rowMB, intsA, plN, appE, appZ, appC, appNZ, appNC, VwL, srcC, srcZ, srcM, isBoolT, isPtrT, isSliceT, uOk, Value.oneCell', Nat.reducePow, Int.reducePow, Nat.reduceAdd, Nat.reduceMul, Nat.reduceSub, Nat.reduceLT, Nat.reduceLeDiff, Nat.reduceEqDiff, Nat.reduceBEq, Nat.reduceDiv, Nat.reduceMod, ↓reduceIte, reduceCtorEq, Int.reduceToNat, Int.reduceLT, Int.reduceLE, TFTxZ, SeqQ, BlkQ, LoopQ, BodyQ, hs, hnn, k4, kN, List.append_nil, List.cons_append, List.nil_append, FR.out])
        | (refine CallV.updM (cS) (pmz _) (Sm.out ?_))
        | (first | refine CallV.fn (cN) (Sm.out ?_) | refine ExF.mk (cN) (Sm.out ?_) | refine ExG.mk (fun _ => cN) (Sm.out ?_) | refine ExG.mkJ (fun _ => cN) (Sm.out ?_) | refine ExG.mkI (Ob.out ?_) (fun _ => cN) (Sm.out ?_))
        | (refine WP.seq fun K hK => ?_)
        | (refine WP.region (rvc_sound _ _ (Sm.out ?_)))
        | (refine WP.drawK rfl mixed (by decide +kernel) (Sm.out ?_))
        | (refine Ob.mk ?_; focus (first | assumption | omega | decide | trivial | (intro hob; simp only [hob, ZF]; done) | (intros; (repeat' refine And.intro ?_ ?_) <;> first | assumption | omega | trivial | decide) | (intros; simp only [ZE] at *; (repeat' refine And.intro ?_ ?_) <;> first | assumption | omega | trivial)))
        | (refine And.intro (Ob.out ?_) ?_)
        | (refine WP.block ?_)
        | (refine WP.cond rfl (fun hc => ?_) (fun hc => ?_) <;> (try simp only [ZC, reduceCtorEq, ZD] at hc) <;> (try (exact absurd hc (by decide))) <;> (try (exfalso; omega)))
        | ((first | refine WP.skip ?_ | refine WP.exit ?_); simp only [SeqQ, BlkQ, LoopQ, BodyQ, ↓reduceIte, Nat.reduceEqDiff, reduceCtorEq, look, true_and])
        | (refine WP.ret (Sm.out ?_))
        | (first | refine ExG.no (Sm.out ?_) | refine Or.inl (ExG.no (Sm.out ?_)) | refine Or.inl (And.intro (fun hg => absurd hg (by decide)) (ExG.no (Sm.out ?_))))
        | (refine Rt.mk ?_; refine And.intro ?_ ?_ <;> (intro hg; first | exact absurd hg (by decide) | refine Sm.out ?_))
        | (refine Nu.mk ?_; first | (fail_if_success (have := nb1)); intro nb1 | (fail_if_success (have := nb2)); intro nb2 | (fail_if_success (have := nb3)); intro nb3 | (fail_if_success (have := nb4)); intro nb4 | intro nbz)
        | (refine Fr.mk ?_; intro hfr; (first | (have hFRb : _ ≤ _ ∧ _ ≤ _ := And.intro hfr.1 hfr.2.1) | (have hFRb : _ ≤ _ := hfr.1) | skip); replace FR := Sm.mk (And.intro hfr FR.out); clear hfr; refine Sm.out ?_)
        | (refine Two.mk ?_ ?_)
        | (refine Cs.mk ?_; intro hcs; first | exact False.elim hcs | (exfalso; omega) | (refine Sm.out ?_))
        | go_step
        | omega
        | (simp only [maxLen_eq]; omega)
      rw [eM, e]
      subst hZ
      (refine OutQ.drop _ _ (perm2 (by simp only [hget, hdel, ↓reduceIte, if_true, if_false, FR.out]; first | done | rfl) (by simp only [hget, hdel, ↓reduceIte, if_true, if_false, FR.out]; first | done | rfl)) (by simp only [resv, ZK, look, loadv, loadn, loadnm, load1, load1m, hget, ↓reduceIte, Nat.reduceEqDiff, Nat.reduceAdd, Nat.reduceMul, Nat.reduceLeDiff, Nat.reduceLT, reduceCtorEq, TFTxZ, FR.out]) ⟨(by simp only [resv, resA, ZK, look, loadv, loadn, loadnm, load1, load1m, hget, ↓reduceIte, Nat.reduceEqDiff, Nat.reduceAdd, Nat.reduceMul, Nat.reduceLeDiff, Nat.reduceLT, reduceCtorEq, TFTxZ, FR.out]; first | done | rfl), rfl⟩)
    · have e : unqE (some (⟨st, nn, ct⟩, o)) = (o, 0) := by rw [unqE_some]; exact (if_neg (fun h => h h4)).trans (if_neg (by rw [← hN]; exact h12))
      have kN : decide ((N : Int) > 120) = false := decide_eq_false (by omega)
      unfold stz at cS cN
      obtain ⟨Z, hZ⟩ : ∃ Z, Z = bstr o := ⟨_, rfl⟩
      rw [← hZ] at cS cN
      first | (have FRx := FR; clear FRx) | (have FR : Sm (¬ ((1 : Nat) = 0)) := Sm.mk Nat.one_ne_zero)
      repeat' first
        | (refine Sm.mk ?_; try simp -dsimp only [ZK, rvc, drawF, headN, pureH, stp, dvc, calleeOf, gcall, pev, eff, newB, okd, og, ogs, ogo, ogp, slv, bltv, opd, litv, strip, one, both, putE, St.put, look, gdOf, gdv, picka, pickv, pickw, binv, bini, bins, binb, binp, binq, isSlT, bina, shp, eqCells, unv, convv, nilv, faddv, addp, idxav, idxp, load1, load1m, loadn, loadnm, loadv, hget, hset, hrep, hdel, slicev, bnd, shift1, lenv, capv, IntKind.bits, extractv, fieldv, indexv, min2v, max2v, mkiv, cellsA, fillA, buildv, stC, oneC, rowMB, intsA, plN, appE, appZ, appC, appNZ, appNC, VwL, srcC, srcZ, srcM, isBoolT, isPtrT, isSliceT, uOk, Value.oneCell', Nat.reducePow, Int.reducePow, Nat.reduceAdd, Nat.reduceMul, Nat.reduceSub, Nat.reduceLT, Nat.reduceLeDiff, Nat.reduceEqDiff, Nat.reduceBEq, Nat.reduceDiv, Nat.reduceMod, ↓reduceIte, reduceCtorEq, Int.reduceToNat, Int.reduceLT, Int.reduceLE, TFTxZ, SeqQ, BlkQ, LoopQ, BodyQ, hs, hnn, k4, kN, List.append_nil, List.cons_append, List.nil_append, FR.out])
        | (refine CallV.updM (cS) (pmz _) (Sm.out ?_))
        | (first | refine CallV.fn (cN) (Sm.out ?_) | refine ExF.mk (cN) (Sm.out ?_) | refine ExG.mk (fun _ => cN) (Sm.out ?_) | refine ExG.mkJ (fun _ => cN) (Sm.out ?_) | refine ExG.mkI (Ob.out ?_) (fun _ => cN) (Sm.out ?_))
        | (refine WP.seq fun K hK => ?_)
        | (refine WP.region (rvc_sound _ _ (Sm.out ?_)))
        | (refine WP.drawK rfl mixed (by decide +kernel) (Sm.out ?_))
        | (refine Ob.mk ?_; focus (first | assumption | omega | decide | trivial | (intro hob; simp only [hob, ZF]; done) | (intros; (repeat' refine And.intro ?_ ?_) <;> first | assumption | omega | trivial | decide) | (intros; simp only [ZE] at *; (repeat' refine And.intro ?_ ?_) <;> first | assumption | omega | trivial)))
        | (refine And.intro (Ob.out ?_) ?_)
        | (refine WP.block ?_)
        | (refine WP.cond rfl (fun hc => ?_) (fun hc => ?_) <;> (try simp only [ZC, reduceCtorEq, ZD] at hc) <;> (try (exact absurd hc (by decide))) <;> (try (exfalso; omega)))
        | ((first | refine WP.skip ?_ | refine WP.exit ?_); simp only [SeqQ, BlkQ, LoopQ, BodyQ, ↓reduceIte, Nat.reduceEqDiff, reduceCtorEq, look, true_and])
        | (refine WP.ret (Sm.out ?_))
        | (first | refine ExG.no (Sm.out ?_) | refine Or.inl (ExG.no (Sm.out ?_)) | refine Or.inl (And.intro (fun hg => absurd hg (by decide)) (ExG.no (Sm.out ?_))))
        | (refine Rt.mk ?_; refine And.intro ?_ ?_ <;> (intro hg; first | exact absurd hg (by decide) | refine Sm.out ?_))
        | (refine Nu.mk ?_; first | (fail_if_success (have := nb1)); intro nb1 | (fail_if_success (have := nb2)); intro nb2 | (fail_if_success (have := nb3)); intro nb3 | (fail_if_success (have := nb4)); intro nb4 | intro nbz)
        | (refine Fr.mk ?_; intro hfr; (first | (have hFRb : _ ≤ _ ∧ _ ≤ _ := And.intro hfr.1 hfr.2.1) | (have hFRb : _ ≤ _ := hfr.1) | skip); replace FR := Sm.mk (And.intro hfr FR.out); clear hfr; refine Sm.out ?_)
        | (refine Two.mk ?_ ?_)
        | (refine Cs.mk ?_; intro hcs; first | exact False.elim hcs | (exfalso; omega) | (refine Sm.out ?_))
        | go_step
        | omega
        | (simp only [maxLen_eq]; omega)
      rw [eM, e]
      subst hZ
      (refine OutQ.drop _ _ (perm2 (by simp only [hget, hdel, ↓reduceIte, if_true, if_false, FR.out]; first | done | rfl) (by simp only [hget, hdel, ↓reduceIte, if_true, if_false, FR.out]; first | done | rfl)) (by simp only [resv, ZK, look, loadv, loadn, loadnm, load1, load1m, hget, ↓reduceIte, Nat.reduceEqDiff, Nat.reduceAdd, Nat.reduceMul, Nat.reduceLeDiff, Nat.reduceLT, reduceCtorEq, TFTxZ, FR.out]) ⟨(by simp only [resv, resA, ZK, look, loadv, loadn, loadnm, load1, load1m, hget, ↓reduceIte, Nat.reduceEqDiff, Nat.reduceAdd, Nat.reduceMul, Nat.reduceLeDiff, Nat.reduceLT, reduceCtorEq, TFTxZ, FR.out]; first | done | rfl), rfl⟩)
end Go.Proofs.YtjdjpgjjnajjhaaDoor
namespace Go.Proofs.YtjdjpgjjnajjhaaDoor
open Go
set_option linter.unusedVariables false
set_option linter.unusedSimpArgs false
theorem TFTyA : ((((((type_of% tyc0) ∧ ((type_of% tyc2) ∧ (type_of% zmb2))) ∧ ((type_of% tyc3) ∧ ((type_of% zmb3) ∧ (type_of% tyc4)))) ∧ (((type_of% zmb4) ∧ ((type_of% tyc5) ∧ (type_of% zmb5))) ∧ (((type_of% tyc9) ∧ (type_of% zmb9)) ∧ ((type_of% tyc20) ∧ (type_of% zmb20))))) ∧ ((((type_of% tyc21) ∧ ((type_of% zmb21) ∧ (type_of% tyc35))) ∧ ((type_of% elt35) ∧ ((type_of% mkz35) ∧ (type_of% apT35)))) ∧ (((type_of% elk35) ∧ ((type_of% zmb35) ∧ (type_of% tyc57))) ∧ (((type_of% zmb57) ∧ (type_of% tyc61)) ∧ ((type_of% zmb61) ∧ (type_of% tyc64)))))) ∧ (((((type_of% zmb64) ∧ ((type_of% tyc67) ∧ (type_of% elt67))) ∧ ((type_of% zmb67) ∧ ((type_of% bldT67) ∧ (type_of% tyc70)))) ∧ (((type_of% elt75) ∧ ((type_of% elt80) ∧ (type_of% arr167))) ∧ (((type_of% arr175) ∧ (type_of% arr180)) ∧ ((type_of% Tryd.underlying0) ∧ (type_of% Tryd.underlying2))))) ∧ ((((type_of% Tryd.underlying3) ∧ ((type_of% Tryd.underlying4) ∧ (type_of% Tryd.underlying5))) ∧ (((type_of% Tryd.underlying9) ∧ (type_of% Tryd.underlying20)) ∧ ((type_of% Tryd.underlying21) ∧ (type_of% Tryd.underlying35)))) ∧ (((type_of% Tryd.underlying57) ∧ ((type_of% Tryd.underlying61) ∧ (type_of% Tryd.underlying64))) ∧ (((type_of% Tryd.underlying67) ∧ (type_of% Tryd.underlying70)) ∧ ((type_of% Tryd.underlying75) ∧ (type_of% Tryd.underlying80))))))) :=
  ⟨⟨⟨⟨⟨tyc0, ⟨tyc2, zmb2⟩⟩, ⟨tyc3, ⟨zmb3, tyc4⟩⟩⟩, ⟨⟨zmb4, ⟨tyc5, zmb5⟩⟩, ⟨⟨tyc9, zmb9⟩, ⟨tyc20, zmb20⟩⟩⟩⟩, ⟨⟨⟨tyc21, ⟨zmb21, tyc35⟩⟩, ⟨elt35, ⟨mkz35, apT35⟩⟩⟩, ⟨⟨elk35, ⟨zmb35, tyc57⟩⟩, ⟨⟨zmb57, tyc61⟩, ⟨zmb61, tyc64⟩⟩⟩⟩⟩, ⟨⟨⟨⟨zmb64, ⟨tyc67, elt67⟩⟩, ⟨zmb67, ⟨bldT67, tyc70⟩⟩⟩, ⟨⟨elt75, ⟨elt80, arr167⟩⟩, ⟨⟨arr175, arr180⟩, ⟨Tryd.underlying0, Tryd.underlying2⟩⟩⟩⟩, ⟨⟨⟨Tryd.underlying3, ⟨Tryd.underlying4, Tryd.underlying5⟩⟩, ⟨⟨Tryd.underlying9, Tryd.underlying20⟩, ⟨Tryd.underlying21, Tryd.underlying35⟩⟩⟩, ⟨⟨Tryd.underlying57, ⟨Tryd.underlying61, Tryd.underlying64⟩⟩, ⟨⟨Tryd.underlying67, Tryd.underlying70⟩, ⟨Tryd.underlying75, Tryd.underlying80⟩⟩⟩⟩⟩⟩
def dbZ : List Int := [0, 1, 56, 2, 57, 49, 28, 3, 61, 58, 42, 50, 38, 29, 17, 4, 62, 47, 59, 36, 45, 43, 51, 22, 53, 39, 33, 30, 24, 18, 12, 5, 63, 55, 48, 27, 60, 41, 37, 16, 46, 35, 44, 21, 52, 32, 23, 11, 54, 26, 40, 15, 34, 20, 31, 10, 25, 14, 19, 9, 13, 8, 7, 6]
/-- a hex digit -/
def hxd (n : Nat) : Int := if n < 10 then ((48 + n : Nat) : Int) else ((87 + n : Nat) : Int)
/-- a number below 256 in hex digits -/
def hexD (n : Nat) : List Int := if n < 16 then [hxd n] else [hxd (n / 16), hxd (n % 16)]
def tab16 : ByteArray := ⟨List.toArray [48, 49, 50, 51, 52, 53, 54, 55, 56, 57, 97, 98, 99, 100, 101, 102]⟩
theorem tab16_eq : (⟨List.toArray [48, 49, 50, 51, 52, 53, 54, 55, 56, 57, 97, 98, 99, 100, 101, 102]⟩ : ByteArray) = tab16 := rfl
theorem tab16_size : tab16.size = 16 := by decide +kernel
theorem tab16_ext : ∀ n, n < 16 → tab16.extract n (n + 1) = bstr [hxd n] := by decide +kernel
def tab36 : ByteArray := ⟨List.toArray [48, 49, 50, 51, 52, 53, 54, 55, 56, 57, 97, 98, 99, 100, 101, 102, 103, 104, 105, 106, 107, 108, 109, 110, 111, 112, 113, 114, 115, 116, 117, 118, 119, 120, 121, 122]⟩
theorem tab36_eq : (⟨List.toArray [48, 49, 50, 51, 52, 53, 54, 55, 56, 57, 97, 98, 99, 100, 101, 102, 103, 104, 105, 106, 107, 108, 109, 110, 111, 112, 113, 114, 115, 116, 117, 118, 119, 120, 121, 122]⟩ : ByteArray) = tab36 := rfl
theorem tab36_size : tab36.size = 36 := by decide +kernel
theorem tab36_at : ∀ n, n < 16 → ((tab36.data.toList.getD n 0).toNat : Int) = hxd n := by decide +kernel
theorem rhex1_ct (n : Nat) (h : n < 16) : ACt Tryd.prog 30 [iv .i32 (n : Int)] [] (Fn (stz [hxd n])) := by
  have e := tab16_ext n h
  have m1 : Int.tmod (n : Int) 16 = (n : Int) := by rw [Int.tmod_eq_emod_of_nonneg (by omega)]; omega
  have w0 : IntKind.i32.wrap (n : Int) = (n : Int) := wrap_i32 (by omega) (by omega)
  have w1 : IntKind.i32.wrap ((n : Int) + 1) = ((n + 1 : Nat) : Int) := by rw [wrap_i32 (by omega) (by omega)]; omega
  have k1 : decide ((n : Int) ≥ 16) = false := decide_eq_false (by omega)
  have t1 : ∀ k : Nat, ((k : Nat) : Int).toNat = k := fun k => by omega
  have i1 : n + 1 ≤ 16 := by omega
  refine ACt.intro Tryd.func30 rfl (by kernel_rfl) (by simp [Tryd.ntmps30]) (fun cx => ?_)
  simp only [argE, Tryd.ntmps30, Tryd.results30]
  first | (have FRx := FR; clear FRx) | (have FR : Sm (¬ ((1 : Nat) = 0)) := Sm.mk Nat.one_ne_zero)
  repeat' first
    | (refine Sm.mk ?_; try simp -dsimp only [ZK, rvc, drawF, headN, pureH, stp, dvc, calleeOf, gcall, pev, eff, newB, okd, og, ogs, ogo, ogp, slv, bltv, opd, litv, strip, one, both, putE, St.put, look, gdOf, gdv, picka, pickv, pickw, binv, bini, bins, binb, binp, binq, isSlT, bina, shp, eqCells, unv, convv, nilv, faddv, addp, idxav, idxp, load1, load1m, loadn, loadnm, loadv, hget, hset, hrep, hdel, slicev, bnd, shift1, lenv, capv, IntKind.bits, extractv, fieldv, indexv, min2v, max2v, mkiv, cellsA, fillA, buildv, stC, oneC, rowMB, intsA, plN, appE, appZ, appC, appNZ, appNC, VwL, srcC, srcZ, srcM, isBoolT, isPtrT, isSliceT, uOk, Value.oneCell', Nat.reducePow, Int.reducePow, Nat.reduceAdd, Nat.reduceMul, Nat.reduceSub, Nat.reduceLT, Nat.reduceLeDiff, Nat.reduceEqDiff, Nat.reduceBEq, Nat.reduceDiv, Nat.reduceMod, ↓reduceIte, reduceCtorEq, Int.reduceToNat, Int.reduceLT, Int.reduceLE, TFTyA, SeqQ, BlkQ, LoopQ, BodyQ, m1, w0, w1, k1, t1, i1, tab16_eq, tab16_size, e, FR.out])
    | (refine WP.seq fun K hK => ?_)
    | (refine WP.region (rvc_sound _ _ (Sm.out ?_)))
    | (refine WP.drawK rfl mixed (by decide +kernel) (Sm.out ?_))
    | (refine Ob.mk ?_; focus (first | assumption | omega | decide | trivial | (intro hob; simp only [hob, ZF]; done) | (intros; (repeat' refine And.intro ?_ ?_) <;> first | assumption | omega | trivial | decide) | (intros; simp only [ZE] at *; (repeat' refine And.intro ?_ ?_) <;> first | assumption | omega | trivial)))
    | (refine And.intro (Ob.out ?_) ?_)
    | (refine WP.block ?_)
    | (refine WP.cond rfl (fun hc => ?_) (fun hc => ?_) <;> (try simp only [ZC, reduceCtorEq, ZD] at hc) <;> (try (exact absurd hc (by decide))) <;> (try (exfalso; omega)))
    | ((first | refine WP.skip ?_ | refine WP.exit ?_); simp only [SeqQ, BlkQ, LoopQ, BodyQ, ↓reduceIte, Nat.reduceEqDiff, reduceCtorEq, look, true_and])
    | (refine WP.ret (Sm.out ?_))
    | (first | refine ExG.no (Sm.out ?_) | refine Or.inl (ExG.no (Sm.out ?_)) | refine Or.inl (And.intro (fun hg => absurd hg (by decide)) (ExG.no (Sm.out ?_))))
    | (refine Rt.mk ?_; refine And.intro ?_ ?_ <;> (intro hg; first | exact absurd hg (by decide) | refine Sm.out ?_))
    | (refine Nu.mk ?_; first | (fail_if_success (have := nb1)); intro nb1 | (fail_if_success (have := nb2)); intro nb2 | (fail_if_success (have := nb3)); intro nb3 | (fail_if_success (have := nb4)); intro nb4 | intro nbz)
    | (refine Fr.mk ?_; intro hfr; (first | (have hFRb : _ ≤ _ ∧ _ ≤ _ := And.intro hfr.1 hfr.2.1) | (have hFRb : _ ≤ _ := hfr.1) | skip); replace FR := Sm.mk (And.intro hfr FR.out); clear hfr; refine Sm.out ?_)
    | (refine Two.mk ?_ ?_)
    | (refine Cs.mk ?_; intro hcs; first | exact False.elim hcs | (exfalso; omega) | (refine Sm.out ?_))
    | go_step
    | omega
    | (simp only [maxLen_eq]; omega)
  (refine OutQ.all ?_ ?_; (focus (simp only [resv, ZK, look, loadv, loadn, loadnm, load1, load1m, hget, ↓reduceIte, Nat.reduceEqDiff, Nat.reduceAdd, Nat.reduceMul, Nat.reduceLeDiff, Nat.reduceLT, reduceCtorEq, TFTyA, e])); (try simp only [resv, resA, Fn, ZK, look, loadv, loadn, loadnm, load1, load1m, hget, ↓reduceIte, Nat.reduceEqDiff, Nat.reduceAdd, Nat.reduceMul, Nat.reduceLeDiff, Nat.reduceLT, reduceCtorEq, TFTyA, e]); (try simp [resA, Fn, look, e]))
theorem rhex_ct (n : Nat) (h : n < 256) : ACt Tryd.prog 30 [iv .i32 (n : Int)] [] (Fn (stz (hexD n))) := by
  by_cases h1 : n < 16
  · have e : hexD n = [hxd n] := by unfold hexD; rw [if_pos h1]
    rw [e]
    exact rhex1_ct n h1
  have eD : hexD n = [hxd (n / 16), hxd (n % 16)] := by unfold hexD; rw [if_neg h1]
  rw [eD]
  have cR := rhex1_ct (n / 16) (by omega)
  have e := tab16_ext (n % 16) (by omega)
  have ea := bstr_app [hxd (n / 16)] [hxd (n % 16)]
  rw [show [hxd (n / 16)] ++ [hxd (n % 16)] = [hxd (n / 16), hxd (n % 16)] from rfl] at ea
  have m1 : Int.tmod (n : Int) 16 = ((n % 16 : Nat) : Int) := by rw [Int.tmod_eq_emod_of_nonneg (by omega)]; omega
  have q1 : Int.tdiv (n : Int) 16 = ((n / 16 : Nat) : Int) := by rw [Int.tdiv_eq_ediv_of_nonneg (by omega)]; omega
  obtain ⟨a, ha⟩ : ∃ a, a = n / 16 := ⟨_, rfl⟩
  obtain ⟨b, hb⟩ : ∃ b, b = n % 16 := ⟨_, rfl⟩
  rw [← ha] at cR ea q1 ⊢
  rw [← hb] at e ea m1 ⊢
  have w0 : IntKind.i32.wrap (b : Int) = (b : Int) := wrap_i32 (by omega) (by omega)
  have w1 : IntKind.i32.wrap ((b : Int) + 1) = ((b + 1 : Nat) : Int) := by rw [wrap_i32 (by omega) (by omega)]; omega
  have w2 : IntKind.i32.wrap (a : Int) = (a : Int) := wrap_i32 (by omega) (by omega)
  have k1 : decide ((n : Int) ≥ 16) = true := decide_eq_true (by omega)
  have t1 : ∀ k : Nat, ((k : Nat) : Int).toNat = k := fun k => by omega
  have i1 : b + 1 ≤ 16 := by omega
  have za := bstr_size [hxd a]
  have zb := bstr_size [hxd b]
  simp only [List.length_cons, List.length_nil, Nat.zero_add] at za zb
  have hi2 : (1 : Nat) + 1 ≤ 9223372036854775807 := by decide
  refine ACt.intro Tryd.func30 rfl (by kernel_rfl) (by simp [Tryd.ntmps30]) (fun cx => ?_)
  simp only [argE, Tryd.ntmps30, Tryd.results30]
  first | (have FRx := FR; clear FRx) | (have FR : Sm (¬ ((1 : Nat) = 0)) := Sm.mk Nat.one_ne_zero)
  repeat' first
    | (refine Sm.mk ?_; try simp -dsimp only [ZK, rvc, drawF, headN, pureH, stp, dvc, calleeOf, gcall, pev, eff, newB, okd, og, ogs, ogo, ogp, slv, bltv, opd, litv, strip, one, both, putE, St.put, look, gdOf, gdv, picka, pickv, pickw, binv, bini, bins, binb, binp, binq, isSlT, bina, shp, eqCells, unv, convv, nilv, faddv, addp, idxav, idxp, load1, load1m, loadn, loadnm, loadv, hget, hset, hrep, hdel, slicev, bnd, shift1, lenv, capv, IntKind.bits, extractv, fieldv, indexv, min2v, max2v, mkiv, cellsA, fillA, buildv, stC, oneC, rowMB, intsA, plN, appE, appZ, appC, appNZ, appNC, VwL, srcC, srcZ, srcM, isBoolT, isPtrT, isSliceT, uOk, Value.oneCell', Nat.reducePow, Int.reducePow, Nat.reduceAdd, Nat.reduceMul, Nat.reduceSub, Nat.reduceLT, Nat.reduceLeDiff, Nat.reduceEqDiff, Nat.reduceBEq, Nat.reduceDiv, Nat.reduceMod, ↓reduceIte, reduceCtorEq, Int.reduceToNat, Int.reduceLT, Int.reduceLE, TFTyA, SeqQ, BlkQ, LoopQ, BodyQ, m1, q1, w0, w1, w2, k1, t1, i1, tab16_eq, tab16_size, e, za, zb, hi2, FR.out])
    | (first | refine CallV.fn (cR) (Sm.out ?_) | refine ExF.mk (cR) (Sm.out ?_) | refine ExG.mk (fun _ => cR) (Sm.out ?_) | refine ExG.mkJ (fun _ => cR) (Sm.out ?_) | refine ExG.mkI (Ob.out ?_) (fun _ => cR) (Sm.out ?_))
    | (refine WP.seq fun K hK => ?_)
    | (refine WP.region (rvc_sound _ _ (Sm.out ?_)))
    | (refine WP.drawK rfl mixed (by decide +kernel) (Sm.out ?_))
    | (refine Ob.mk ?_; focus (first | assumption | omega | decide | trivial | (intro hob; simp only [hob, ZF]; done) | (intros; (repeat' refine And.intro ?_ ?_) <;> first | assumption | omega | trivial | decide) | (intros; simp only [ZE] at *; (repeat' refine And.intro ?_ ?_) <;> first | assumption | omega | trivial)))
    | (refine And.intro (Ob.out ?_) ?_)
    | (refine WP.block ?_)
    | (refine WP.cond rfl (fun hc => ?_) (fun hc => ?_) <;> (try simp only [ZC, reduceCtorEq, ZD] at hc) <;> (try (exact absurd hc (by decide))) <;> (try (exfalso; omega)))
    | ((first | refine WP.skip ?_ | refine WP.exit ?_); simp only [SeqQ, BlkQ, LoopQ, BodyQ, ↓reduceIte, Nat.reduceEqDiff, reduceCtorEq, look, true_and])
    | (refine WP.ret (Sm.out ?_))
    | (first | refine ExG.no (Sm.out ?_) | refine Or.inl (ExG.no (Sm.out ?_)) | refine Or.inl (And.intro (fun hg => absurd hg (by decide)) (ExG.no (Sm.out ?_))))
    | (refine Rt.mk ?_; refine And.intro ?_ ?_ <;> (intro hg; first | exact absurd hg (by decide) | refine Sm.out ?_))
    | (refine Nu.mk ?_; first | (fail_if_success (have := nb1)); intro nb1 | (fail_if_success (have := nb2)); intro nb2 | (fail_if_success (have := nb3)); intro nb3 | (fail_if_success (have := nb4)); intro nb4 | intro nbz)
    | (refine Fr.mk ?_; intro hfr; (first | (have hFRb : _ ≤ _ ∧ _ ≤ _ := And.intro hfr.1 hfr.2.1) | (have hFRb : _ ≤ _ := hfr.1) | skip); replace FR := Sm.mk (And.intro hfr FR.out); clear hfr; refine Sm.out ?_)
    | (refine Two.mk ?_ ?_)
    | (refine Cs.mk ?_; intro hcs; first | exact False.elim hcs | (exfalso; omega) | (refine Sm.out ?_))
    | go_step
    | omega
    | (simp only [maxLen_eq]; omega)
  (refine OutQ.all ?_ ?_; (focus (simp only [resv, ZK, look, loadv, loadn, loadnm, load1, load1m, hget, ↓reduceIte, Nat.reduceEqDiff, Nat.reduceAdd, Nat.reduceMul, Nat.reduceLeDiff, Nat.reduceLT, reduceCtorEq, TFTyA, e, ea])); (try simp only [resv, resA, Fn, ZK, look, loadv, loadn, loadnm, load1, load1m, hget, ↓reduceIte, Nat.reduceEqDiff, Nat.reduceAdd, Nat.reduceMul, Nat.reduceLeDiff, Nat.reduceLT, reduceCtorEq, TFTyA, e, ea]); (try simp [resA, Fn, look, e, ea]))
theorem pow2_ct : ACt Tryd.prog 53 [iv .i64 16] [] (Fn (bv true)) := by
  have w1 : IntKind.i64.wrap (16 - 1) = 15 := by decide
  have a1 : ibit .and .i64 (16 : Int) (15 : Int) = (0 : Int) := by decide +kernel
  refine ACt.intro Tryd.func53 rfl (by kernel_rfl) (by simp [Tryd.ntmps53]) (fun cx => ?_)
  simp only [argE, Tryd.ntmps53, Tryd.results53]
  first | (have FRx := FR; clear FRx) | (have FR : Sm (¬ ((1 : Nat) = 0)) := Sm.mk Nat.one_ne_zero)
  repeat' first
    | (refine Sm.mk ?_; try simp -dsimp only [ZK, rvc, drawF, headN, pureH, stp, dvc, calleeOf, gcall, pev, eff, newB, okd, og, ogs, ogo, ogp, slv, bltv, opd, litv, strip, one, both, putE, St.put, look, gdOf, gdv, picka, pickv, pickw, binv, bini, bins, binb, binp, binq, isSlT, bina, shp, eqCells, unv, convv, nilv, faddv, addp, idxav, idxp, load1, load1m, loadn, loadnm, loadv, hget, hset, hrep, hdel, slicev, bnd, shift1, lenv, capv, IntKind.bits, extractv, fieldv, indexv, min2v, max2v, mkiv, cellsA, fillA, buildv, stC, oneC, rowMB, intsA, plN, appE, appZ, appC, appNZ, appNC, VwL, srcC, srcZ, srcM, isBoolT, isPtrT, isSliceT, uOk, Value.oneCell', Nat.reducePow, Int.reducePow, Nat.reduceAdd, Nat.reduceMul, Nat.reduceSub, Nat.reduceLT, Nat.reduceLeDiff, Nat.reduceEqDiff, Nat.reduceBEq, Nat.reduceDiv, Nat.reduceMod, ↓reduceIte, reduceCtorEq, Int.reduceToNat, Int.reduceLT, Int.reduceLE, TFTyA, SeqQ, BlkQ, LoopQ, BodyQ, w1, a1, FR.out])
    | (refine WP.seq fun K hK => ?_)
    | (refine WP.region (rvc_sound _ _ (Sm.out ?_)))
    | (refine WP.drawK rfl mixed (by decide +kernel) (Sm.out ?_))
    | (refine Ob.mk ?_; focus (first | assumption | omega | decide | trivial | (intro hob; simp only [hob, ZF]; done) | (intros; (repeat' refine And.intro ?_ ?_) <;> first | assumption | omega | trivial | decide) | (intros; simp only [ZE] at *; (repeat' refine And.intro ?_ ?_) <;> first | assumption | omega | trivial)))
    | (refine And.intro (Ob.out ?_) ?_)
    | (refine WP.block ?_)
    | (refine WP.cond rfl (fun hc => ?_) (fun hc => ?_) <;> (try simp only [ZC, reduceCtorEq, ZD] at hc) <;> (try (exact absurd hc (by decide))) <;> (try (exfalso; omega)))
    | ((first | refine WP.skip ?_ | refine WP.exit ?_); simp only [SeqQ, BlkQ, LoopQ, BodyQ, ↓reduceIte, Nat.reduceEqDiff, reduceCtorEq, look, true_and])
    | (refine WP.ret (Sm.out ?_))
    | (first | refine ExG.no (Sm.out ?_) | refine Or.inl (ExG.no (Sm.out ?_)) | refine Or.inl (And.intro (fun hg => absurd hg (by decide)) (ExG.no (Sm.out ?_))))
    | (refine Rt.mk ?_; refine And.intro ?_ ?_ <;> (intro hg; first | exact absurd hg (by decide) | refine Sm.out ?_))
    | (refine Nu.mk ?_; first | (fail_if_success (have := nb1)); intro nb1 | (fail_if_success (have := nb2)); intro nb2 | (fail_if_success (have := nb3)); intro nb3 | (fail_if_success (have := nb4)); intro nb4 | intro nbz)
    | (refine Fr.mk ?_; intro hfr; (first | (have hFRb : _ ≤ _ ∧ _ ≤ _ := And.intro hfr.1 hfr.2.1) | (have hFRb : _ ≤ _ := hfr.1) | skip); replace FR := Sm.mk (And.intro hfr FR.out); clear hfr; refine Sm.out ?_)
    | (refine Two.mk ?_ ?_)
    | (refine Cs.mk ?_; intro hcs; first | exact False.elim hcs | (exfalso; omega) | (refine Sm.out ?_))
    | go_step
    | omega
    | (simp only [maxLen_eq]; omega)
  (refine OutQ.all ?_ ?_; (focus (simp only [resv, ZK, look, loadv, loadn, loadnm, load1, load1m, hget, ↓reduceIte, Nat.reduceEqDiff, Nat.reduceAdd, Nat.reduceMul, Nat.reduceLeDiff, Nat.reduceLT, reduceCtorEq, TFTyA])); (try simp only [resv, resA, Fn, ZK, look, loadv, loadn, loadnm, load1, load1m, hget, ↓reduceIte, Nat.reduceEqDiff, Nat.reduceAdd, Nat.reduceMul, Nat.reduceLeDiff, Nat.reduceLT, reduceCtorEq, TFTyA]); (try simp [resA, Fn, look]))
theorem tz64_ct (n4 : Nat) : ACt Tryd.prog 56 [iv .u64 16] [(4, .zs .u8 dbZ 64 n4)] (fun r F' => r = iv .i64 4 ∧ F' = [(4, .zs .u8 dbZ 64 n4)]) := by
  have hd : dbZ.getD 15 0 = 4 := by decide +kernel
  have hl : dbZ.length = 64 := by decide +kernel
  have g1 : IntKind.u64.wrap (0 - 16) = 18446744073709551600 := by decide
  have a1 : ibit .and .u64 (16 : Int) (18446744073709551600 : Int) = (16 : Int) := by decide +kernel
  have w1 : IntKind.u64.wrap (16 * 285870213051353865) = 4573923408821661840 := by decide
  have f1 : Int.fdiv 4573923408821661840 288230376151711744 = 15 := by decide
  have w2 : IntKind.u64.wrap 15 = 15 := by decide
  have w3 : IntKind.i64.wrap 4 = 4 := by decide
  obtain ⟨D, hD⟩ : ∃ D, D = dbZ := ⟨_, rfl⟩
  rw [← hD] at hd hl ⊢
  refine ACt.intro Tryd.func56 rfl (by kernel_rfl) (by simp [Tryd.ntmps56]) (fun cx => ?_)
  simp only [argE, Tryd.ntmps56, Tryd.results56]
  first | (have FRx := FR; clear FRx) | (have FR : Sm (¬ ((1 : Nat) = 0)) := Sm.mk Nat.one_ne_zero)
  repeat' first
    | (refine Sm.mk ?_; try simp -dsimp only [ZK, rvc, drawF, headN, pureH, stp, dvc, calleeOf, gcall, pev, eff, newB, okd, og, ogs, ogo, ogp, slv, bltv, opd, litv, strip, one, both, putE, St.put, look, gdOf, gdv, picka, pickv, pickw, binv, bini, bins, binb, binp, binq, isSlT, bina, shp, eqCells, unv, convv, nilv, faddv, addp, idxav, idxp, load1, load1m, loadn, loadnm, loadv, hget, hset, hrep, hdel, slicev, bnd, shift1, lenv, capv, IntKind.bits, extractv, fieldv, indexv, min2v, max2v, mkiv, cellsA, fillA, buildv, stC, oneC, rowMB, intsA, plN, appE, appZ, appC, appNZ, appNC, VwL, srcC, srcZ, srcM, isBoolT, isPtrT, isSliceT, uOk, Value.oneCell', Nat.reducePow, Int.reducePow, Nat.reduceAdd, Nat.reduceMul, Nat.reduceSub, Nat.reduceLT, Nat.reduceLeDiff, Nat.reduceEqDiff, Nat.reduceBEq, Nat.reduceDiv, Nat.reduceMod, ↓reduceIte, reduceCtorEq, Int.reduceToNat, Int.reduceLT, Int.reduceLE, TFTyA, SeqQ, BlkQ, LoopQ, BodyQ, hd, hl, g1, a1, w1, f1, w2, w3, FR.out])
    | (refine WP.seq fun K hK => ?_)
    | (refine WP.region (rvc_sound _ _ (Sm.out ?_)))
    | (refine WP.drawK rfl mixed (by decide +kernel) (Sm.out ?_))
    | (refine Ob.mk ?_; focus (first | assumption | omega | decide | trivial | (intro hob; simp only [hob, ZF]; done) | (intros; (repeat' refine And.intro ?_ ?_) <;> first | assumption | omega | trivial | decide) | (intros; simp only [ZE] at *; (repeat' refine And.intro ?_ ?_) <;> first | assumption | omega | trivial)))
    | (refine And.intro (Ob.out ?_) ?_)
    | (refine WP.block ?_)
    | (refine WP.cond rfl (fun hc => ?_) (fun hc => ?_) <;> (try simp only [ZC, reduceCtorEq, ZD] at hc) <;> (try (exact absurd hc (by decide))) <;> (try (exfalso; omega)))
    | ((first | refine WP.skip ?_ | refine WP.exit ?_); simp only [SeqQ, BlkQ, LoopQ, BodyQ, ↓reduceIte, Nat.reduceEqDiff, reduceCtorEq, look, true_and])
    | (refine WP.ret (Sm.out ?_))
    | (first | refine ExG.no (Sm.out ?_) | refine Or.inl (ExG.no (Sm.out ?_)) | refine Or.inl (And.intro (fun hg => absurd hg (by decide)) (ExG.no (Sm.out ?_))))
    | (refine Rt.mk ?_; refine And.intro ?_ ?_ <;> (intro hg; first | exact absurd hg (by decide) | refine Sm.out ?_))
    | (refine Nu.mk ?_; first | (fail_if_success (have := nb1)); intro nb1 | (fail_if_success (have := nb2)); intro nb2 | (fail_if_success (have := nb3)); intro nb3 | (fail_if_success (have := nb4)); intro nb4 | intro nbz)
    | (refine Fr.mk ?_; intro hfr; (first | (have hFRb : _ ≤ _ ∧ _ ≤ _ := And.intro hfr.1 hfr.2.1) | (have hFRb : _ ≤ _ := hfr.1) | skip); replace FR := Sm.mk (And.intro hfr FR.out); clear hfr; refine Sm.out ?_)
    | (refine Two.mk ?_ ?_)
    | (refine Cs.mk ?_; intro hcs; first | exact False.elim hcs | (exfalso; omega) | (refine Sm.out ?_))
    | go_step
    | omega
    | (simp only [maxLen_eq]; omega)
  (refine OutQ.upd (by simp only [resv, ZK, look, loadv, loadn, loadnm, load1, load1m, hget, ↓reduceIte, Nat.reduceEqDiff, Nat.reduceAdd, Nat.reduceMul, Nat.reduceLeDiff, Nat.reduceLT, reduceCtorEq, TFTyA, FR.out, w3, hd]) (by simp only [resv, resA, ZK, look, loadv, loadn, loadnm, load1, load1m, hget, ↓reduceIte, Nat.reduceEqDiff, Nat.reduceAdd, Nat.reduceMul, Nat.reduceLeDiff, Nat.reduceLT, reduceCtorEq, TFTyA, FR.out, w3, hd]; first | done | rfl) (by simp only [hget, ↓reduceIte, if_true, if_false, FR.out, w3, hd]; first | done | rfl) ?_ <;> first | exact rfl | (simp only [ZK, look, loadv, loadn, loadnm, load1, load1m, hget, ↓reduceIte, Nat.reduceEqDiff, Nat.reduceAdd, Nat.reduceMul, Nat.reduceLeDiff, Nat.reduceLT, reduceCtorEq, TFTyA, FR.out, w3, hd]; done) | skip)
theorem tz_ct (n4 : Nat) : ACt Tryd.prog 54 [iv .u64 16] [(4, .zs .u8 dbZ 64 n4)] (fun r F' => r = iv .i64 4 ∧ F' = [(4, .zs .u8 dbZ 64 n4)]) := by
  have cT := tz64_ct n4
  obtain ⟨D, hD⟩ : ∃ D, D = dbZ := ⟨_, rfl⟩
  rw [← hD] at cT ⊢
  refine ACt.intro Tryd.func54 rfl (by kernel_rfl) (by simp [Tryd.ntmps54]) (fun cx => ?_)
  simp only [argE, Tryd.ntmps54, Tryd.results54]
  first | (have FRx := FR; clear FRx) | (have FR : Sm (¬ ((1 : Nat) = 0)) := Sm.mk Nat.one_ne_zero)
  repeat' first
    | (refine Sm.mk ?_; try simp -dsimp only [ZK, rvc, drawF, headN, pureH, stp, dvc, calleeOf, gcall, pev, eff, newB, okd, og, ogs, ogo, ogp, slv, bltv, opd, litv, strip, one, both, putE, St.put, look, gdOf, gdv, picka, pickv, pickw, binv, bini, bins, binb, binp, binq, isSlT, bina, shp, eqCells, unv, convv, nilv, faddv, addp, idxav, idxp, load1, load1m, loadn, loadnm, loadv, hget, hset, hrep, hdel, slicev, bnd, shift1, lenv, capv, IntKind.bits, extractv, fieldv, indexv, min2v, max2v, mkiv, cellsA, fillA, buildv, stC, oneC, rowMB, intsA, plN, appE, appZ, appC, appNZ, appNC, VwL, srcC, srcZ, srcM, isBoolT, isPtrT, isSliceT, uOk, Value.oneCell', Nat.reducePow, Int.reducePow, Nat.reduceAdd, Nat.reduceMul, Nat.reduceSub, Nat.reduceLT, Nat.reduceLeDiff, Nat.reduceEqDiff, Nat.reduceBEq, Nat.reduceDiv, Nat.reduceMod, ↓reduceIte, reduceCtorEq, Int.reduceToNat, Int.reduceLT, Int.reduceLE, TFTyA, SeqQ, BlkQ, LoopQ, BodyQ, FR.out])
    | (refine CallV.updM (cT) (perm1 (by simp only [hget, hdel, ↓reduceIte, FR.out]; first | done | rfl)) (Sm.out ?_))
    | ((first | refine ExF.up ?_ (cT) (Sm.out ?_) | refine ExG.up ?_ (fun _ => cT) (Sm.out ?_) | refine ExG.upJ ?_ (fun _ => cT) (Sm.out ?_) | refine ExG.upI ?_ (fun _ => cT) (Ob.out ?_) (Sm.out ?_)); focus (exact ⟨_, (perm1 (by simp only [hget, hdel, ↓reduceIte, FR.out]; first | done | rfl))⟩))
    | (refine WP.seq fun K hK => ?_)
    | (refine WP.region (rvc_sound _ _ (Sm.out ?_)))
    | (refine WP.drawK rfl mixed (by decide +kernel) (Sm.out ?_))
    | (refine Ob.mk ?_; focus (first | assumption | omega | decide | trivial | (intro hob; simp only [hob, ZF]; done) | (intros; (repeat' refine And.intro ?_ ?_) <;> first | assumption | omega | trivial | decide) | (intros; simp only [ZE] at *; (repeat' refine And.intro ?_ ?_) <;> first | assumption | omega | trivial)))
    | (refine And.intro (Ob.out ?_) ?_)
    | (refine WP.block ?_)
    | (refine WP.cond rfl (fun hc => ?_) (fun hc => ?_) <;> (try simp only [ZC, reduceCtorEq, ZD] at hc) <;> (try (exact absurd hc (by decide))) <;> (try (exfalso; omega)))
    | ((first | refine WP.skip ?_ | refine WP.exit ?_); simp only [SeqQ, BlkQ, LoopQ, BodyQ, ↓reduceIte, Nat.reduceEqDiff, reduceCtorEq, look, true_and])
    | (refine WP.ret (Sm.out ?_))
    | (first | refine ExG.no (Sm.out ?_) | refine Or.inl (ExG.no (Sm.out ?_)) | refine Or.inl (And.intro (fun hg => absurd hg (by decide)) (ExG.no (Sm.out ?_))))
    | (refine Rt.mk ?_; refine And.intro ?_ ?_ <;> (intro hg; first | exact absurd hg (by decide) | refine Sm.out ?_))
    | (refine Nu.mk ?_; first | (fail_if_success (have := nb1)); intro nb1 | (fail_if_success (have := nb2)); intro nb2 | (fail_if_success (have := nb3)); intro nb3 | (fail_if_success (have := nb4)); intro nb4 | intro nbz)
    | (refine Fr.mk ?_; intro hfr; (first | (have hFRb : _ ≤ _ ∧ _ ≤ _ := And.intro hfr.1 hfr.2.1) | (have hFRb : _ ≤ _ := hfr.1) | skip); replace FR := Sm.mk (And.intro hfr FR.out); clear hfr; refine Sm.out ?_)
    | (refine Two.mk ?_ ?_)
    | (refine Cs.mk ?_; intro hcs; first | exact False.elim hcs | (exfalso; omega) | (refine Sm.out ?_))
    | go_step
    | omega
    | (simp only [maxLen_eq]; omega)
  (refine OutQ.upd (by simp only [resv, ZK, look, loadv, loadn, loadnm, load1, load1m, hget, ↓reduceIte, Nat.reduceEqDiff, Nat.reduceAdd, Nat.reduceMul, Nat.reduceLeDiff, Nat.reduceLT, reduceCtorEq, TFTyA, FR.out]) (by simp only [resv, resA, ZK, look, loadv, loadn, loadnm, load1, load1m, hget, ↓reduceIte, Nat.reduceEqDiff, Nat.reduceAdd, Nat.reduceMul, Nat.reduceLeDiff, Nat.reduceLT, reduceCtorEq, TFTyA, FR.out]; first | done | rfl) (by simp only [hget, ↓reduceIte, if_true, if_false, FR.out]; first | done | rfl) ?_ <;> first | exact rfl | (simp only [ZK, look, loadv, loadn, loadnm, load1, load1m, hget, ↓reduceIte, Nat.reduceEqDiff, Nat.reduceAdd, Nat.reduceMul, Nat.reduceLeDiff, Nat.reduceLT, reduceCtorEq, TFTyA, FR.out]; done) | skip)
end Go.Proofs.YtjdjpgjjnajjhaaDoor
namespace Go.Proofs.YtjdjpgjjnajjhaaDoor
open Go
set_option linter.unusedVariables false
set_option linter.unusedSimpArgs false
theorem TFTyB : ((((((type_of% tyc0) ∧ (type_of% tyc2)) ∧ ((type_of% zmb2) ∧ ((type_of% tyc3) ∧ (type_of% zmb3)))) ∧ (((type_of% tyc4) ∧ ((type_of% zmb4) ∧ (type_of% tyc5))) ∧ ((type_of% zmb5) ∧ ((type_of% tyc9) ∧ (type_of% zmb9))))) ∧ ((((type_of% tyc20) ∧ ((type_of% zmb20) ∧ (type_of% tyc21))) ∧ ((type_of% zmb21) ∧ ((type_of% tyc35) ∧ (type_of% elt35)))) ∧ (((type_of% mkz35) ∧ ((type_of% apT35) ∧ (type_of% elk35))) ∧ ((type_of% zmb35) ∧ ((type_of% tyc57) ∧ (type_of% zmb57)))))) ∧ (((((type_of% tyc61) ∧ ((type_of% zmb61) ∧ (type_of% tyc67))) ∧ ((type_of% elt67) ∧ ((type_of% zmb67) ∧ (type_of% bldT67)))) ∧ (((type_of% tyc70) ∧ ((type_of% elt75) ∧ (type_of% arr167))) ∧ ((type_of% arr175) ∧ ((type_of% Tryd.underlying0) ∧ (type_of% Tryd.underlying2))))) ∧ ((((type_of% Tryd.underlying3) ∧ ((type_of% Tryd.underlying4) ∧ (type_of% Tryd.underlying5))) ∧ ((type_of% Tryd.underlying9) ∧ ((type_of% Tryd.underlying20) ∧ (type_of% Tryd.underlying21)))) ∧ (((type_of% Tryd.underlying35) ∧ ((type_of% Tryd.underlying57) ∧ (type_of% Tryd.underlying61))) ∧ ((type_of% Tryd.underlying67) ∧ ((type_of% Tryd.underlying70) ∧ (type_of% Tryd.underlying75))))))) :=
  ⟨⟨⟨⟨⟨tyc0, tyc2⟩, ⟨zmb2, ⟨tyc3, zmb3⟩⟩⟩, ⟨⟨tyc4, ⟨zmb4, tyc5⟩⟩, ⟨zmb5, ⟨tyc9, zmb9⟩⟩⟩⟩, ⟨⟨⟨tyc20, ⟨zmb20, tyc21⟩⟩, ⟨zmb21, ⟨tyc35, elt35⟩⟩⟩, ⟨⟨mkz35, ⟨apT35, elk35⟩⟩, ⟨zmb35, ⟨tyc57, zmb57⟩⟩⟩⟩⟩, ⟨⟨⟨⟨tyc61, ⟨zmb61, tyc67⟩⟩, ⟨elt67, ⟨zmb67, bldT67⟩⟩⟩, ⟨⟨tyc70, ⟨elt75, arr167⟩⟩, ⟨arr175, ⟨Tryd.underlying0, Tryd.underlying2⟩⟩⟩⟩, ⟨⟨⟨Tryd.underlying3, ⟨Tryd.underlying4, Tryd.underlying5⟩⟩, ⟨Tryd.underlying9, ⟨Tryd.underlying20, Tryd.underlying21⟩⟩⟩, ⟨⟨Tryd.underlying35, ⟨Tryd.underlying57, Tryd.underlying61⟩⟩, ⟨Tryd.underlying67, ⟨Tryd.underlying70, Tryd.underlying75⟩⟩⟩⟩⟩⟩
theorem and15 : ∀ x : Nat, x < 256 → ibit .and .u64 (x : Int) 15 = ((x % 16 : Nat) : Int) := by decide +kernel
def zr65 : List Int := List.replicate 65 0
theorem zr65_len : zr65.length = 65 := by decide
theorem zr_cut1 (Z : List Int) (h : Z.length = 65) (d : Int) : List.take 1 (List.drop 64 (Z.set 64 d)) = [d] := by
  rw [List.drop_set, if_neg (by omega), Nat.sub_self, List.take_set]
  obtain ⟨z, hz⟩ : ∃ z, List.take 1 (List.drop 64 Z) = [z] := by
    have : (List.take 1 (List.drop 64 Z)).length = 1 := by rw [List.length_take, List.length_drop, h]; rfl
    exact List.length_eq_one_iff.1 this
  rw [hz]; rfl
theorem zr_cut2 (Z : List Int) (h : Z.length = 65) (d e : Int) : List.take 2 (List.drop 63 ((Z.set 64 d).set 63 e)) = [e, d] := by
  rw [List.drop_set, if_neg (by omega), Nat.sub_self, List.drop_set, if_neg (by omega), List.take_set, List.take_set]
  obtain ⟨z, y, hz⟩ : ∃ z y, List.take 2 (List.drop 63 Z) = [z, y] := by
    have : (List.take 2 (List.drop 63 Z)).length = 2 := by rw [List.length_take, List.length_drop, h]; rfl
    match h2 : List.take 2 (List.drop 63 Z), this with
    | [a, b], _ => exact ⟨a, b, rfl⟩
  rw [hz]; rfl
set_option maxHeartbeats 4000000 in
set_option maxRecDepth 20000 in
theorem fbits_ct (n : Nat) (h : n < 256) (n4 : Nat) : ACt Tryd.prog 49 [nsl, iv .u64 (n : Int), iv .i64 16, bv false, bv false] [(4, .zs .u8 dbZ 64 n4)] (fun r F' => r = .tup [nsl, stz (hexD n)] ∧ F' = [(4, .zs .u8 dbZ 64 n4)]) := by
  have cT := tz_ct n4
  have cP := pow2_ct
  obtain ⟨D, hD⟩ : ∃ D, D = dbZ := ⟨_, rfl⟩
  rw [← hD] at cT ⊢
  have w4 : IntKind.u64.wrap 4 = 4 := by decide
  have w16 : IntKind.u64.wrap 16 = 16 := by decide
  have w15 : IntKind.u64.wrap (16 - 1) = 15 := by decide
  have w64 : IntKind.i64.wrap (65 - 1) = 64 := by decide
  have w63 : IntKind.i64.wrap (64 - 1) = 63 := by decide
  have wn : IntKind.u64.wrap (n : Int) = (n : Int) := wrap_u64 (by omega) (by omega)
  refine ACt.intro Tryd.func49 rfl (by kernel_rfl) (by simp [Tryd.ntmps49]) (fun cx => ?_)
  simp only [argE, Tryd.ntmps49, Tryd.results49]
  have hne : ∀ b c : Nat, b ≠ c → c ≠ b := fun b c h e => h e.symm
  first | (have FRx := FR; clear FRx) | (have FR : Sm (¬ ((1 : Nat) = 0)) := Sm.mk Nat.one_ne_zero)
  repeat' first
    | (refine Sm.mk ?_; try simp -dsimp only [ZK, rvc, drawF, headN, pureH, stp, dvc, calleeOf, gcall, pev, eff, newB, okd, og, ogs, ogo, ogp, slv, bltv, opd, litv, strip, one, both, putE, St.put, look, gdOf, gdv, picka, pickv, pickw, binv, bini, bins, binb, binp, binq, isSlT, bina, shp, eqCells, unv, convv, nilv, faddv, addp, idxav, idxp, load1, load1m, loadn, loadnm, loadv, hget, hset, hrep, hdel, slicev, bnd, shift1, lenv, capv, IntKind.bits, extractv, fieldv, indexv, min2v, max2v, mkiv, cellsA, fillA, buildv, stC, oneC, rowMB, intsA, plN, appE, appZ, appC, appNZ, appNC, VwL, srcC, srcZ, srcM, isBoolT, isPtrT, isSliceT, uOk, Value.oneCell', Nat.reducePow, Int.reducePow, Nat.reduceAdd, Nat.reduceMul, Nat.reduceSub, Nat.reduceLT, Nat.reduceLeDiff, Nat.reduceEqDiff, Nat.reduceBEq, Nat.reduceDiv, Nat.reduceMod, ↓reduceIte, reduceCtorEq, Int.reduceToNat, Int.reduceLT, Int.reduceLE, TFTyB, SeqQ, BlkQ, LoopQ, BodyQ, w4, w16, w15, FR.out])
    | (first | refine CallV.fn (cP) (Sm.out ?_) | refine ExF.mk (cP) (Sm.out ?_) | refine ExG.mk (fun _ => cP) (Sm.out ?_) | refine ExG.mkJ (fun _ => cP) (Sm.out ?_) | refine ExG.mkI (Ob.out ?_) (fun _ => cP) (Sm.out ?_))
    | (refine CallV.updM (cT) (perm1 (by simp only [hget, hdel, ↓reduceIte, FR.out, w4, w16, w15]; first | done | rfl)) (Sm.out ?_))
    | ((first | refine ExF.up ?_ (cT) (Sm.out ?_) | refine ExG.up ?_ (fun _ => cT) (Sm.out ?_) | refine ExG.upJ ?_ (fun _ => cT) (Sm.out ?_) | refine ExG.upI ?_ (fun _ => cT) (Ob.out ?_) (Sm.out ?_)); focus (exact ⟨_, (perm1 (by simp only [hget, hdel, ↓reduceIte, FR.out, w4, w16, w15]; first | done | rfl))⟩))
    | (refine WP.seq fun K hK => ?_)
    | (refine WP.region (rvc_sound _ _ (Sm.out ?_)))
    | (refine WP.drawK rfl mixed (by decide +kernel) (Sm.out ?_))
    | (refine Ob.mk ?_; focus (first | assumption | omega | decide | trivial | (intro hob; simp only [hob, ZF]; done) | (intros; (repeat' refine And.intro ?_ ?_) <;> first | assumption | omega | trivial | decide) | (intros; simp only [ZE] at *; (repeat' refine And.intro ?_ ?_) <;> first | assumption | omega | trivial)))
    | (refine And.intro (Ob.out ?_) ?_)
    | (refine WP.block ?_)
    | (refine WP.cond rfl (fun hc => ?_) (fun hc => ?_) <;> (try simp only [ZC, reduceCtorEq, ZD] at hc) <;> (try (exact absurd hc (by decide))) <;> (try (exfalso; omega)))
    | ((first | refine WP.skip ?_ | refine WP.exit ?_); simp only [SeqQ, BlkQ, LoopQ, BodyQ, ↓reduceIte, Nat.reduceEqDiff, reduceCtorEq, look, true_and])
    | (refine WP.ret (Sm.out ?_))
    | (first | refine ExG.no (Sm.out ?_) | refine Or.inl (ExG.no (Sm.out ?_)) | refine Or.inl (And.intro (fun hg => absurd hg (by decide)) (ExG.no (Sm.out ?_))))
    | (refine Rt.mk ?_; refine And.intro ?_ ?_ <;> (intro hg; first | exact absurd hg (by decide) | refine Sm.out ?_))
    | (refine Nu.mk ?_; first | (fail_if_success (have := nb1)); intro nb1 | (fail_if_success (have := nb2)); intro nb2 | (fail_if_success (have := nb3)); intro nb3 | (fail_if_success (have := nb4)); intro nb4 | intro nbz)
    | (refine Fr.mk ?_; intro hfr; (first | (have hFRb : _ ≤ _ ∧ _ ≤ _ := And.intro hfr.1 hfr.2.1) | (have hFRb : _ ≤ _ := hfr.1) | skip); replace FR := Sm.mk (And.intro hfr FR.out); clear hfr; refine Sm.out ?_)
    | (refine Two.mk ?_ ?_)
    | (refine Cs.mk ?_; intro hcs; first | exact False.elim hcs | (exfalso; omega) | (refine Sm.out ?_))
    | go_step
    | omega
    | (simp only [maxLen_eq]; omega)
  have hn4 : (4 ≠ nb1 ∧ nb1 ≠ 4) := by simp [FR.out]
  have hz : ([0, 0, 0, 0, 0, 0, 0, 0, 0, 0, 0, 0, 0, 0, 0, 0, 0, 0, 0, 0, 0, 0, 0, 0, 0, 0, 0, 0, 0, 0, 0, 0, 0, 0, 0, 0, 0, 0, 0, 0, 0, 0, 0, 0, 0, 0, 0, 0, 0, 0, 0, 0, 0, 0, 0, 0, 0, 0, 0, 0, 0, 0, 0, 0, 0] : List Int) = zr65 := rfl
  have hzl := zr65_len
  rw [hz]
  obtain ⟨ZL, hZ⟩ : ∃ ZL, ZL = zr65 := ⟨_, rfl⟩
  rw [← hZ] at hzl ⊢
  refine WP.loop (Γ := Nat × Nat × List Int) (fun g => ⟨[(16, iv .u64 15), (15, iv .u64 16), (14, iv .u64 4), (13, iv .i64 (g.1 : Int)), (12, pt nb1 0), (1, iv .u64 (g.2.1 : Int)), (10, nsl), (3, bv false), (4, bv false)], [(4, .zs .u8 D 64 n4), (nb1, .zs .u8 g.2.2 65 75)]⟩)
    (fun g => g = (65, n, ZL) ∨ (16 ≤ n ∧ g = (64, n / 16, ZL.set 64 (hxd (n % 16))))) (fun g => g.1) (65, n, ZL) (.inl rfl) (Sub.pick (by simp [pickB, hget, hdel, FR.out, hn4]) (by simp [look, hn4])) ?_
  intro g hg
  rcases hg with rfl | ⟨hn16, rfl⟩
  · by_cases hn : 16 ≤ n
    · have k1 : decide ((n : Int) ≥ 16) = true := decide_eq_true (by omega)
      have a15 := and15 n h
      have at1 := tab36_at (n % 16) (by omega)
      have i1 : n % 16 < 36 := by omega
      have f1 : (n : Int).fdiv 16 = ((n / 16 : Nat) : Int) := by rw [Int.fdiv_eq_ediv_of_nonneg _ (by omega)]; omega
      have wq : IntKind.u64.wrap ((n / 16 : Nat) : Int) = ((n / 16 : Nat) : Int) := wrap_u64 (by omega) (by omega)
      obtain ⟨a, ha⟩ : ∃ a, a = n % 16 := ⟨_, rfl⟩
      obtain ⟨d, hd⟩ : ∃ d, d = hxd a := ⟨_, rfl⟩
      obtain ⟨q, hq⟩ : ∃ q, q = n / 16 := ⟨_, rfl⟩
      rw [← ha] at a15 at1 i1
      rw [← hd] at at1
      rw [← hq] at f1 wq
      have t1 : ∀ k : Nat, ((k : Nat) : Int).toNat = k := fun k => by omega
      first | (have FRx := FR; clear FRx) | (have FR : Sm (¬ ((1 : Nat) = 0)) := Sm.mk Nat.one_ne_zero)
      repeat' first
        | (refine Sm.mk ?_; try simp -dsimp only [ZK, rvc, drawF, headN, pureH, stp, dvc, calleeOf, gcall, pev, eff, newB, okd, og, ogs, ogo, ogp, slv, bltv, opd, litv, strip, one, both, putE, St.put, look, gdOf, gdv, picka, pickv, pickw, binv, bini, bins, binb, binp, binq, isSlT, bina, shp, eqCells, unv, convv, nilv, faddv, addp, idxav, idxp, load1, load1m, loadn, loadnm, loadv, hget, hset, hrep, hdel, slicev, bnd, shift1, lenv, capv, IntKind.bits, extractv, fieldv, indexv, min2v, max2v, mkiv, cellsA, fillA, buildv, stC, oneC, rowMB, intsA, plN, appE, appZ, appC, appNZ, appNC, VwL, srcC, srcZ, srcM, isBoolT, isPtrT, isSliceT, uOk, Value.oneCell', Nat.reducePow, Int.reducePow, Nat.reduceAdd, Nat.reduceMul, Nat.reduceSub, Nat.reduceLT, Nat.reduceLeDiff, Nat.reduceEqDiff, Nat.reduceBEq, Nat.reduceDiv, Nat.reduceMod, ↓reduceIte, reduceCtorEq, Int.reduceToNat, Int.reduceLT, Int.reduceLE, TFTyB, SeqQ, BlkQ, LoopQ, BodyQ, hn4, k1, a15, at1, i1, w64, f1, wq, t1, tab36_eq, tab36_size, hzl, FR.out])
        | (refine WP.seq fun K hK => ?_)
        | (refine WP.region (rvc_sound _ _ (Sm.out ?_)))
        | (refine WP.drawK rfl mixed (by decide +kernel) (Sm.out ?_))
        | (refine Ob.mk ?_; focus (first | assumption | omega | decide | trivial | (intro hob; simp only [hob, ZF]; done) | (intros; (repeat' refine And.intro ?_ ?_) <;> first | assumption | omega | trivial | decide) | (intros; simp only [ZE] at *; (repeat' refine And.intro ?_ ?_) <;> first | assumption | omega | trivial)))
        | (refine And.intro (Ob.out ?_) ?_)
        | (refine WP.block ?_)
        | (refine WP.cond rfl (fun hc => ?_) (fun hc => ?_) <;> (try simp only [ZC, reduceCtorEq, ZD] at hc) <;> (try (exact absurd hc (by decide))) <;> (try (exfalso; omega)))
        | ((first | refine WP.skip ?_ | refine WP.exit ?_); simp only [SeqQ, BlkQ, LoopQ, BodyQ, ↓reduceIte, Nat.reduceEqDiff, reduceCtorEq, look, true_and])
        | (refine WP.ret (Sm.out ?_))
        | (first | refine ExG.no (Sm.out ?_) | refine Or.inl (ExG.no (Sm.out ?_)) | refine Or.inl (And.intro (fun hg => absurd hg (by decide)) (ExG.no (Sm.out ?_))))
        | (refine Rt.mk ?_; refine And.intro ?_ ?_ <;> (intro hg; first | exact absurd hg (by decide) | refine Sm.out ?_))
        | (refine Nu.mk ?_; first | (fail_if_success (have := nb1)); intro nb1 | (fail_if_success (have := nb2)); intro nb2 | (fail_if_success (have := nb3)); intro nb3 | (fail_if_success (have := nb4)); intro nb4 | intro nbz)
        | (refine Fr.mk ?_; intro hfr; (first | (have hFRb : _ ≤ _ ∧ _ ≤ _ := And.intro hfr.1 hfr.2.1) | (have hFRb : _ ≤ _ := hfr.1) | skip); replace FR := Sm.mk (And.intro hfr FR.out); clear hfr; refine Sm.out ?_)
        | (refine Two.mk ?_ ?_)
        | (refine Cs.mk ?_; intro hcs; first | exact False.elim hcs | (exfalso; omega) | (refine Sm.out ?_))
        | go_step
        | omega
        | (simp only [maxLen_eq]; omega)
      exact ⟨(64, q, ZL.set 64 d), .inr ⟨hn, by rw [hq, hd, ha]⟩, by simp, (Sub.pick (by simp [pickB, hget, hdel, FR.out, hn4, at1]) (by simp [look, hn4, at1]))⟩
    · have k1 : decide ((n : Int) ≥ 16) = false := decide_eq_false (by omega)
      have e : hexD n = [hxd n] := by unfold hexD; rw [if_pos (by omega)]
      have at1 := tab36_at n (by omega)
      have i1 : n < 36 := by omega
      have t1 : ∀ k : Nat, ((k : Nat) : Int).toNat = k := fun k => by omega
      obtain ⟨d, hd⟩ : ∃ d, d = hxd n := ⟨_, rfl⟩
      rw [← hd] at e at1
      have hc1 := zr_cut1 ZL hzl d
      have hsl : (ZL.set 64 d).length = 65 := by rw [List.length_set, hzl]
      first | (have FRx := FR; clear FRx) | (have FR : Sm (¬ ((1 : Nat) = 0)) := Sm.mk Nat.one_ne_zero)
      repeat' first
        | (refine Sm.mk ?_; try simp -dsimp only [ZK, rvc, drawF, headN, pureH, stp, dvc, calleeOf, gcall, pev, eff, newB, okd, og, ogs, ogo, ogp, slv, bltv, opd, litv, strip, one, both, putE, St.put, look, gdOf, gdv, picka, pickv, pickw, binv, bini, bins, binb, binp, binq, isSlT, bina, shp, eqCells, unv, convv, nilv, faddv, addp, idxav, idxp, load1, load1m, loadn, loadnm, loadv, hget, hset, hrep, hdel, slicev, bnd, shift1, lenv, capv, IntKind.bits, extractv, fieldv, indexv, min2v, max2v, mkiv, cellsA, fillA, buildv, stC, oneC, rowMB, intsA, plN, appE, appZ, appC, appNZ, appNC, VwL, srcC, srcZ, srcM, isBoolT, isPtrT, isSliceT, uOk, Value.oneCell', Nat.reducePow, Int.reducePow, Nat.reduceAdd, Nat.reduceMul, Nat.reduceSub, Nat.reduceLT, Nat.reduceLeDiff, Nat.reduceEqDiff, Nat.reduceBEq, Nat.reduceDiv, Nat.reduceMod, ↓reduceIte, reduceCtorEq, Int.reduceToNat, Int.reduceLT, Int.reduceLE, TFTyB, SeqQ, BlkQ, LoopQ, BodyQ, hn4, k1, at1, i1, w64, t1, tab36_eq, tab36_size, hzl, hsl, hc1, FR.out])
        | (refine WP.seq fun K hK => ?_)
        | (refine WP.region (rvc_sound _ _ (Sm.out ?_)))
        | (refine WP.drawK rfl mixed (by decide +kernel) (Sm.out ?_))
        | (refine Ob.mk ?_; focus (first | assumption | omega | decide | trivial | (intro hob; simp only [hob, ZF]; done) | (intros; (repeat' refine And.intro ?_ ?_) <;> first | assumption | omega | trivial | decide) | (intros; simp only [ZE] at *; (repeat' refine And.intro ?_ ?_) <;> first | assumption | omega | trivial)))
        | (refine And.intro (Ob.out ?_) ?_)
        | (refine WP.block ?_)
        | (refine WP.cond rfl (fun hc => ?_) (fun hc => ?_) <;> (try simp only [ZC, reduceCtorEq, ZD] at hc) <;> (try (exact absurd hc (by decide))) <;> (try (exfalso; omega)))
        | ((first | refine WP.skip ?_ | refine WP.exit ?_); simp only [SeqQ, BlkQ, LoopQ, BodyQ, ↓reduceIte, Nat.reduceEqDiff, reduceCtorEq, look, true_and])
        | (refine WP.ret (Sm.out ?_))
        | (first | refine ExG.no (Sm.out ?_) | refine Or.inl (ExG.no (Sm.out ?_)) | refine Or.inl (And.intro (fun hg => absurd hg (by decide)) (ExG.no (Sm.out ?_))))
        | (refine Rt.mk ?_; refine And.intro ?_ ?_ <;> (intro hg; first | exact absurd hg (by decide) | refine Sm.out ?_))
        | (refine Nu.mk ?_; first | (fail_if_success (have := nb1)); intro nb1 | (fail_if_success (have := nb2)); intro nb2 | (fail_if_success (have := nb3)); intro nb3 | (fail_if_success (have := nb4)); intro nb4 | intro nbz)
        | (refine Fr.mk ?_; intro hfr; (first | (have hFRb : _ ≤ _ ∧ _ ≤ _ := And.intro hfr.1 hfr.2.1) | (have hFRb : _ ≤ _ := hfr.1) | skip); replace FR := Sm.mk (And.intro hfr FR.out); clear hfr; refine Sm.out ?_)
        | (refine Two.mk ?_ ?_)
        | (refine Cs.mk ?_; intro hcs; first | exact False.elim hcs | (exfalso; omega) | (refine Sm.out ?_))
        | go_step
        | omega
        | (simp only [maxLen_eq]; omega)
      rw [e]
      (refine OutQ.upd (by simp only [resv, ZK, look, loadv, loadn, loadnm, load1, load1m, hget, ↓reduceIte, Nat.reduceEqDiff, Nat.reduceAdd, Nat.reduceMul, Nat.reduceLeDiff, Nat.reduceLT, reduceCtorEq, TFTyB, FR.out, hn4, hc1]) (by simp only [resv, resA, ZK, look, loadv, loadn, loadnm, load1, load1m, hget, ↓reduceIte, Nat.reduceEqDiff, Nat.reduceAdd, Nat.reduceMul, Nat.reduceLeDiff, Nat.reduceLT, reduceCtorEq, TFTyB, FR.out, hn4, hc1]; first | done | rfl) (by simp only [hget, ↓reduceIte, if_true, if_false, FR.out, hn4, hc1]; first | done | rfl) ?_ <;> first | exact rfl | (simp only [ZK, look, loadv, loadn, loadnm, load1, load1m, hget, ↓reduceIte, Nat.reduceEqDiff, Nat.reduceAdd, Nat.reduceMul, Nat.reduceLeDiff, Nat.reduceLT, reduceCtorEq, TFTyB, FR.out, hn4, hc1]; done) | skip)
  · have k1 : decide (((n / 16 : Nat) : Int) ≥ 16) = false := decide_eq_false (by omega)
    have e : hexD n = [hxd (n / 16), hxd (n % 16)] := by unfold hexD; rw [if_neg (by omega)]
    have at1 := tab36_at (n / 16) (by omega)
    have i1 : n / 16 < 36 := by omega
    have t1 : ∀ k : Nat, ((k : Nat) : Int).toNat = k := fun k => by omega
    obtain ⟨q, hq⟩ : ∃ q, q = n / 16 := ⟨_, rfl⟩
    rw [← hq] at e at1 k1 i1 ⊢
    obtain ⟨d, hd⟩ : ∃ d, d = hxd (n % 16) := ⟨_, rfl⟩
    rw [← hd] at e ⊢
    obtain ⟨d2, hd2⟩ : ∃ d, d = hxd q := ⟨_, rfl⟩
    rw [← hd2] at e at1
    have hc1 := zr_cut2 ZL hzl d d2
    have hsl : ((ZL.set 64 d).set 63 d2).length = 65 := by rw [List.length_set, List.length_set, hzl]
    have hsl0 : (ZL.set 64 d).length = 65 := by rw [List.length_set, hzl]
    have FR : Sm (¬ ((1 : Nat) = 0)) := Sm.mk Nat.one_ne_zero
    first | (have FRx := FR; clear FRx) | (have FR : Sm (¬ ((1 : Nat) = 0)) := Sm.mk Nat.one_ne_zero)
    repeat' first
      | (refine Sm.mk ?_; try simp -dsimp only [ZK, rvc, drawF, headN, pureH, stp, dvc, calleeOf, gcall, pev, eff, newB, okd, og, ogs, ogo, ogp, slv, bltv, opd, litv, strip, one, both, putE, St.put, look, gdOf, gdv, picka, pickv, pickw, binv, bini, bins, binb, binp, binq, isSlT, bina, shp, eqCells, unv, convv, nilv, faddv, addp, idxav, idxp, load1, load1m, loadn, loadnm, loadv, hget, hset, hrep, hdel, slicev, bnd, shift1, lenv, capv, IntKind.bits, extractv, fieldv, indexv, min2v, max2v, mkiv, cellsA, fillA, buildv, stC, oneC, rowMB, intsA, plN, appE, appZ, appC, appNZ, appNC, VwL, srcC, srcZ, srcM, isBoolT, isPtrT, isSliceT, uOk, Value.oneCell', Nat.reducePow, Int.reducePow, Nat.reduceAdd, Nat.reduceMul, Nat.reduceSub, Nat.reduceLT, Nat.reduceLeDiff, Nat.reduceEqDiff, Nat.reduceBEq, Nat.reduceDiv, Nat.reduceMod, ↓reduceIte, reduceCtorEq, Int.reduceToNat, Int.reduceLT, Int.reduceLE, TFTyB, SeqQ, BlkQ, LoopQ, BodyQ, hn4, k1, at1, i1, w63, t1, tab36_eq, tab36_size, hzl, hsl, hsl0, hc1, FR.out])
      | (refine WP.seq fun K hK => ?_)
      | (refine WP.region (rvc_sound _ _ (Sm.out ?_)))
      | (refine WP.drawK rfl mixed (by decide +kernel) (Sm.out ?_))
      | (refine Ob.mk ?_; focus (first | assumption | omega | decide | trivial | (intro hob; simp only [hob, ZF]; done) | (intros; (repeat' refine And.intro ?_ ?_) <;> first | assumption | omega | trivial | decide) | (intros; simp only [ZE] at *; (repeat' refine And.intro ?_ ?_) <;> first | assumption | omega | trivial)))
      | (refine And.intro (Ob.out ?_) ?_)
      | (refine WP.block ?_)
      | (refine WP.cond rfl (fun hc => ?_) (fun hc => ?_) <;> (try simp only [ZC, reduceCtorEq, ZD] at hc) <;> (try (exact absurd hc (by decide))) <;> (try (exfalso; omega)))
      | ((first | refine WP.skip ?_ | refine WP.exit ?_); simp only [SeqQ, BlkQ, LoopQ, BodyQ, ↓reduceIte, Nat.reduceEqDiff, reduceCtorEq, look, true_and])
      | (refine WP.ret (Sm.out ?_))
      | (first | refine ExG.no (Sm.out ?_) | refine Or.inl (ExG.no (Sm.out ?_)) | refine Or.inl (And.intro (fun hg => absurd hg (by decide)) (ExG.no (Sm.out ?_))))
      | (refine Rt.mk ?_; refine And.intro ?_ ?_ <;> (intro hg; first | exact absurd hg (by decide) | refine Sm.out ?_))
      | (refine Nu.mk ?_; first | (fail_if_success (have := nb1)); intro nb1 | (fail_if_success (have := nb2)); intro nb2 | (fail_if_success (have := nb3)); intro nb3 | (fail_if_success (have := nb4)); intro nb4 | intro nbz)
      | (refine Fr.mk ?_; intro hfr; (first | (have hFRb : _ ≤ _ ∧ _ ≤ _ := And.intro hfr.1 hfr.2.1) | (have hFRb : _ ≤ _ := hfr.1) | skip); replace FR := Sm.mk (And.intro hfr FR.out); clear hfr; refine Sm.out ?_)
      | (refine Two.mk ?_ ?_)
      | (refine Cs.mk ?_; intro hcs; first | exact False.elim hcs | (exfalso; omega) | (refine Sm.out ?_))
      | go_step
      | omega
      | (simp only [maxLen_eq]; omega)
    rw [e]
    (refine OutQ.upd (by simp only [resv, ZK, look, loadv, loadn, loadnm, load1, load1m, hget, ↓reduceIte, Nat.reduceEqDiff, Nat.reduceAdd, Nat.reduceMul, Nat.reduceLeDiff, Nat.reduceLT, reduceCtorEq, TFTyB, FR.out, hn4, hc1]) (by simp only [resv, resA, ZK, look, loadv, loadn, loadnm, load1, load1m, hget, ↓reduceIte, Nat.reduceEqDiff, Nat.reduceAdd, Nat.reduceMul, Nat.reduceLeDiff, Nat.reduceLT, reduceCtorEq, TFTyB, FR.out, hn4, hc1]; first | done | rfl) (by simp only [hget, ↓reduceIte, if_true, if_false, FR.out, hn4, hc1]; first | done | rfl) ?_ <;> first | exact rfl | (simp only [ZK, look, loadv, loadn, loadnm, load1, load1m, hget, ↓reduceIte, Nat.reduceEqDiff, Nat.reduceAdd, Nat.reduceMul, Nat.reduceLeDiff, Nat.reduceLT, reduceCtorEq, TFTyB, FR.out, hn4, hc1]; done) | skip)
/-- strconv.FormatInt of a small number in hex digits -/
theorem fi_ct (n : Nat) (h : n < 256) (n4 : Nat) : ACt Tryd.prog 42 [iv .i64 (n : Int), iv .i64 16] [(4, .zs .u8 dbZ 64 n4)] (fun r F' => r = stz (hexD n) ∧ F' = [(4, .zs .u8 dbZ 64 n4)]) := by
  have cF := fbits_ct n h n4
  obtain ⟨D, hD⟩ : ∃ D, D = dbZ := ⟨_, rfl⟩
  rw [← hD] at cF ⊢
  have k1 : decide ((n : Int) < 0) = false := by simp
  have wn : IntKind.u64.wrap (n : Int) = (n : Int) := wrap_u64 (by omega) (by omega)
  unfold stz at cF ⊢
  obtain ⟨X, hX⟩ : ∃ X, X = bstr (hexD n) := ⟨_, rfl⟩
  rw [← hX] at cF ⊢
  refine ACt.intro Tryd.func42 rfl (by kernel_rfl) (by simp [Tryd.ntmps42]) (fun cx => ?_)
  simp only [argE, Tryd.ntmps42, Tryd.results42]
  first | (have FRx := FR; clear FRx) | (have FR : Sm (¬ ((1 : Nat) = 0)) := Sm.mk Nat.one_ne_zero)
  repeat' first
    | (refine Sm.mk ?_; try simp -dsimp only [ZK, rvc, drawF, headN, pureH, stp, dvc, calleeOf, gcall, pev, eff, newB, okd, og, ogs, ogo, ogp, slv, bltv, opd, litv, strip, one, both, putE, St.put, look, gdOf, gdv, picka, pickv, pickw, binv, bini, bins, binb, binp, binq, isSlT, bina, shp, eqCells, unv, convv, nilv, faddv, addp, idxav, idxp, load1, load1m, loadn, loadnm, loadv, hget, hset, hrep, hdel, slicev, bnd, shift1, lenv, capv, IntKind.bits, extractv, fieldv, indexv, min2v, max2v, mkiv, cellsA, fillA, buildv, stC, oneC, rowMB, intsA, plN, appE, appZ, appC, appNZ, appNC, VwL, srcC, srcZ, srcM, isBoolT, isPtrT, isSliceT, uOk, Value.oneCell', Nat.reducePow, Int.reducePow, Nat.reduceAdd, Nat.reduceMul, Nat.reduceSub, Nat.reduceLT, Nat.reduceLeDiff, Nat.reduceEqDiff, Nat.reduceBEq, Nat.reduceDiv, Nat.reduceMod, ↓reduceIte, reduceCtorEq, Int.reduceToNat, Int.reduceLT, Int.reduceLE, TFTyB, SeqQ, BlkQ, LoopQ, BodyQ, k1, wn, FR.out])
    | (refine CallV.upd (by simp only [hget, ↓reduceIte, FR.out, k1, wn]; first | done | rfl) (cF) (Sm.out ?_))
    | (refine WP.seq fun K hK => ?_)
    | (refine WP.region (rvc_sound _ _ (Sm.out ?_)))
    | (refine WP.drawK rfl mixed (by decide +kernel) (Sm.out ?_))
    | (refine Ob.mk ?_; focus (first | assumption | omega | decide | trivial | (intro hob; simp only [hob, ZF]; done) | (intros; (repeat' refine And.intro ?_ ?_) <;> first | assumption | omega | trivial | decide) | (intros; simp only [ZE] at *; (repeat' refine And.intro ?_ ?_) <;> first | assumption | omega | trivial)))
    | (refine And.intro (Ob.out ?_) ?_)
    | (refine WP.block ?_)
    | (refine WP.cond rfl (fun hc => ?_) (fun hc => ?_) <;> (try simp only [ZC, reduceCtorEq, ZD] at hc) <;> (try (exact absurd hc (by decide))) <;> (try (exfalso; omega)))
    | ((first | refine WP.skip ?_ | refine WP.exit ?_); simp only [SeqQ, BlkQ, LoopQ, BodyQ, ↓reduceIte, Nat.reduceEqDiff, reduceCtorEq, look, true_and])
    | (refine WP.ret (Sm.out ?_))
    | (first | refine ExG.no (Sm.out ?_) | refine Or.inl (ExG.no (Sm.out ?_)) | refine Or.inl (And.intro (fun hg => absurd hg (by decide)) (ExG.no (Sm.out ?_))))
    | (refine Rt.mk ?_; refine And.intro ?_ ?_ <;> (intro hg; first | exact absurd hg (by decide) | refine Sm.out ?_))
    | (refine Nu.mk ?_; first | (fail_if_success (have := nb1)); intro nb1 | (fail_if_success (have := nb2)); intro nb2 | (fail_if_success (have := nb3)); intro nb3 | (fail_if_success (have := nb4)); intro nb4 | intro nbz)
    | (refine Fr.mk ?_; intro hfr; (first | (have hFRb : _ ≤ _ ∧ _ ≤ _ := And.intro hfr.1 hfr.2.1) | (have hFRb : _ ≤ _ := hfr.1) | skip); replace FR := Sm.mk (And.intro hfr FR.out); clear hfr; refine Sm.out ?_)
    | (refine Two.mk ?_ ?_)
    | (refine Cs.mk ?_; intro hcs; first | exact False.elim hcs | (exfalso; omega) | (refine Sm.out ?_))
    | go_step
    | omega
    | (simp only [maxLen_eq]; omega)
  (refine OutQ.upd (by simp only [resv, ZK, look, loadv, loadn, loadnm, load1, load1m, hget, ↓reduceIte, Nat.reduceEqDiff, Nat.reduceAdd, Nat.reduceMul, Nat.reduceLeDiff, Nat.reduceLT, reduceCtorEq, TFTyB, FR.out]) (by simp only [resv, resA, ZK, look, loadv, loadn, loadnm, load1, load1m, hget, ↓reduceIte, Nat.reduceEqDiff, Nat.reduceAdd, Nat.reduceMul, Nat.reduceLeDiff, Nat.reduceLT, reduceCtorEq, TFTyB, FR.out]; first | done | rfl) (by simp only [hget, ↓reduceIte, if_true, if_false, FR.out]; first | done | rfl) ?_ <;> first | exact rfl | (simp only [ZK, look, loadv, loadn, loadnm, load1, load1m, hget, ↓reduceIte, Nat.reduceEqDiff, Nat.reduceAdd, Nat.reduceMul, Nat.reduceLeDiff, Nat.reduceLT, reduceCtorEq, TFTyB, FR.out]; done) | skip)
theorem fint_ct (n : Nat) (h : n < 256) (n4 : Nat) : ACt Tryd.prog 36 [iv .i64 (n : Int), iv .i64 16] [(4, .zs .u8 dbZ 64 n4)] (fun r F' => r = stz (hexD n) ∧ F' = [(4, .zs .u8 dbZ 64 n4)]) := by
  have cF := fi_ct n h n4
  obtain ⟨D, hD⟩ : ∃ D, D = dbZ := ⟨_, rfl⟩
  rw [← hD] at cF ⊢
  unfold stz at cF ⊢
  obtain ⟨X, hX⟩ : ∃ X, X = bstr (hexD n) := ⟨_, rfl⟩
  rw [← hX] at cF ⊢
  refine ACt.intro Tryd.func36 rfl (by kernel_rfl) (by simp [Tryd.ntmps36]) (fun cx => ?_)
  simp only [argE, Tryd.ntmps36, Tryd.results36]
  first | (have FRx := FR; clear FRx) | (have FR : Sm (¬ ((1 : Nat) = 0)) := Sm.mk Nat.one_ne_zero)
  repeat' first
    | (refine Sm.mk ?_; try simp -dsimp only [ZK, rvc, drawF, headN, pureH, stp, dvc, calleeOf, gcall, pev, eff, newB, okd, og, ogs, ogo, ogp, slv, bltv, opd, litv, strip, one, both, putE, St.put, look, gdOf, gdv, picka, pickv, pickw, binv, bini, bins, binb, binp, binq, isSlT, bina, shp, eqCells, unv, convv, nilv, faddv, addp, idxav, idxp, load1, load1m, loadn, loadnm, loadv, hget, hset, hrep, hdel, slicev, bnd, shift1, lenv, capv, IntKind.bits, extractv, fieldv, indexv, min2v, max2v, mkiv, cellsA, fillA, buildv, stC, oneC, rowMB, intsA, plN, appE, appZ, appC, appNZ, appNC, VwL, srcC, srcZ, srcM, isBoolT, isPtrT, isSliceT, uOk, Value.oneCell', Nat.reducePow, Int.reducePow, Nat.reduceAdd, Nat.reduceMul, Nat.reduceSub, Nat.reduceLT, Nat.reduceLeDiff, Nat.reduceEqDiff, Nat.reduceBEq, Nat.reduceDiv, Nat.reduceMod, ↓reduceIte, reduceCtorEq, Int.reduceToNat, Int.reduceLT, Int.reduceLE, TFTyB, SeqQ, BlkQ, LoopQ, BodyQ, FR.out])
    | (refine CallV.upd (by simp only [hget, ↓reduceIte, FR.out]; first | done | rfl) (cF) (Sm.out ?_))
    | (refine WP.seq fun K hK => ?_)
    | (refine WP.region (rvc_sound _ _ (Sm.out ?_)))
    | (refine WP.drawK rfl mixed (by decide +kernel) (Sm.out ?_))
    | (refine Ob.mk ?_; focus (first | assumption | omega | decide | trivial | (intro hob; simp only [hob, ZF]; done) | (intros; (repeat' refine And.intro ?_ ?_) <;> first | assumption | omega | trivial | decide) | (intros; simp only [ZE] at *; (repeat' refine And.intro ?_ ?_) <;> first | assumption | omega | trivial)))
    | (refine And.intro (Ob.out ?_) ?_)
    | (refine WP.block ?_)
    | (refine WP.cond rfl (fun hc => ?_) (fun hc => ?_) <;> (try simp only [ZC, reduceCtorEq, ZD] at hc) <;> (try (exact absurd hc (by decide))) <;> (try (exfalso; omega)))
    | ((first | refine WP.skip ?_ | refine WP.exit ?_); simp only [SeqQ, BlkQ, LoopQ, BodyQ, ↓reduceIte, Nat.reduceEqDiff, reduceCtorEq, look, true_and])
    | (refine WP.ret (Sm.out ?_))
    | (first | refine ExG.no (Sm.out ?_) | refine Or.inl (ExG.no (Sm.out ?_)) | refine Or.inl (And.intro (fun hg => absurd hg (by decide)) (ExG.no (Sm.out ?_))))
    | (refine Rt.mk ?_; refine And.intro ?_ ?_ <;> (intro hg; first | exact absurd hg (by decide) | refine Sm.out ?_))
    | (refine Nu.mk ?_; first | (fail_if_success (have := nb1)); intro nb1 | (fail_if_success (have := nb2)); intro nb2 | (fail_if_success (have := nb3)); intro nb3 | (fail_if_success (have := nb4)); intro nb4 | intro nbz)
    | (refine Fr.mk ?_; intro hfr; (first | (have hFRb : _ ≤ _ ∧ _ ≤ _ := And.intro hfr.1 hfr.2.1) | (have hFRb : _ ≤ _ := hfr.1) | skip); replace FR := Sm.mk (And.intro hfr FR.out); clear hfr; refine Sm.out ?_)
    | (refine Two.mk ?_ ?_)
    | (refine Cs.mk ?_; intro hcs; first | exact False.elim hcs | (exfalso; omega) | (refine Sm.out ?_))
    | go_step
    | omega
    | (simp only [maxLen_eq]; omega)
  (refine OutQ.upd (by simp only [resv, ZK, look, loadv, loadn, loadnm, load1, load1m, hget, ↓reduceIte, Nat.reduceEqDiff, Nat.reduceAdd, Nat.reduceMul, Nat.reduceLeDiff, Nat.reduceLT, reduceCtorEq, TFTyB, FR.out]) (by simp only [resv, resA, ZK, look, loadv, loadn, loadnm, load1, load1m, hget, ↓reduceIte, Nat.reduceEqDiff, Nat.reduceAdd, Nat.reduceMul, Nat.reduceLeDiff, Nat.reduceLT, reduceCtorEq, TFTyB, FR.out]; first | done | rfl) (by simp only [hget, ↓reduceIte, if_true, if_false, FR.out]; first | done | rfl) ?_ <;> first | exact rfl | (simp only [ZK, look, loadv, loadn, loadnm, load1, load1m, hget, ↓reduceIte, Nat.reduceEqDiff, Nat.reduceAdd, Nat.reduceMul, Nat.reduceLeDiff, Nat.reduceLT, reduceCtorEq, TFTyB, FR.out]; done) | skip)
end Go.Proofs.YtjdjpgjjnajjhaaDoor
namespace Go.Proofs.YtjdjpgjjnajjhaaDoor
open Go
set_option linter.unusedVariables false
set_option linter.unusedSimpArgs false
theorem elR_enc {r : Int} (hr : Gr r) (T : List Int) : elR (enc8 r ++ T) 0 = (r, (enc8 r).length) := by
  obtain ⟨h0, h1, h2⟩ := hr
  by_cases c1 : r < 128
  · have e : enc8 r = [r] := by unfold enc8; rw [if_pos c1]
    rw [e]
    have g : ([r] ++ T).getD 0 0 = r := rfl
    unfold elR
    rw [g, if_pos c1]; rfl
  by_cases c2 : r < 2048
  · have e : enc8 r = [192 + r / 64, 128 + r % 64] := by unfold enc8; rw [if_neg c1, if_pos c2]
    rw [e]
    obtain ⟨zs, hzs⟩ : ∃ zs, zs = [192 + r / 64, 128 + r % 64] ++ T := ⟨_, rfl⟩
    have g0 : zs.getD 0 0 = 192 + r / 64 := by rw [hzs]; rfl
    have g1 : zs.getD (0 + 1) 0 = 128 + r % 64 := by rw [hzs]; rfl
    have hl : 2 ≤ zs.length := by rw [hzs]; simp
    rw [← hzs]
    have hn : nB (192 + r / 64) = 1 := by unfold nB; rw [if_pos (by omega)]
    have hcp : cP zs 0 1 1 = r := by
      rw [cP_succ, g1]; show 64 * (zs.getD 0 0 - 192) + _ - _ = _; rw [g0]; omega
    have ha : allC zs 0 1 := fun k k1 k2 => by rcases (show k = 1 by omega) with rfl; exact ⟨by omega, by omega, by omega⟩
    unfold elR
    rw [g0, hn, if_neg (by omega), hcp, if_pos ⟨by decide, ha, by show (128 : Int) ≤ _; omega, h1, h2⟩]; rfl
  by_cases c3 : r < 65536
  · have e : enc8 r = [224 + r / 4096, 128 + r / 64 % 64, 128 + r % 64] := by unfold enc8; rw [if_neg c1, if_neg c2, if_pos c3]
    rw [e]
    obtain ⟨zs, hzs⟩ : ∃ zs, zs = [224 + r / 4096, 128 + r / 64 % 64, 128 + r % 64] ++ T := ⟨_, rfl⟩
    have g0 : zs.getD 0 0 = 224 + r / 4096 := by rw [hzs]; rfl
    have g1 : zs.getD (0 + 1) 0 = 128 + r / 64 % 64 := by rw [hzs]; rfl
    have g2 : zs.getD (0 + (1 + 1)) 0 = 128 + r % 64 := by rw [hzs]; rfl
    have g2' : zs.getD (0 + 2) 0 = 128 + r % 64 := by rw [hzs]; rfl
    have hl : 3 ≤ zs.length := by rw [hzs]; simp
    rw [← hzs]
    have hn : nB (224 + r / 4096) = 2 := by unfold nB; rw [if_neg (by omega), if_pos (by omega)]
    have hcp : cP zs 0 2 2 = r := by
      rw [cP_succ, cP_succ, g1, g2]; show 64 * (64 * (zs.getD 0 0 - 224) + _ - _) + _ - _ = _; rw [g0]; omega
    have ha : allC zs 0 2 := fun k k1 k2 => by rcases (by omega : k = 1 ∨ k = 2) with rfl | rfl; exact ⟨by omega, by omega, by omega⟩; exact ⟨by omega, by omega, by omega⟩
    unfold elR
    rw [g0, hn, if_neg (by omega), hcp, if_pos ⟨by decide, ha, by show (2048 : Int) ≤ _; omega, h1, h2⟩]; rfl
  · have e : enc8 r = [240 + r / 262144, 128 + r / 4096 % 64, 128 + r / 64 % 64, 128 + r % 64] := by unfold enc8; rw [if_neg c1, if_neg c2, if_neg c3]
    rw [e]
    obtain ⟨zs, hzs⟩ : ∃ zs, zs = [240 + r / 262144, 128 + r / 4096 % 64, 128 + r / 64 % 64, 128 + r % 64] ++ T := ⟨_, rfl⟩
    have g0 : zs.getD 0 0 = 240 + r / 262144 := by rw [hzs]; rfl
    have g1 : zs.getD (0 + 1) 0 = 128 + r / 4096 % 64 := by rw [hzs]; rfl
    have g2 : zs.getD (0 + (1 + 1)) 0 = 128 + r / 64 % 64 := by rw [hzs]; rfl
    have g3 : zs.getD (0 + (1 + 1 + 1)) 0 = 128 + r % 64 := by rw [hzs]; rfl
    have g2' : zs.getD (0 + 2) 0 = 128 + r / 64 % 64 := by rw [hzs]; rfl
    have g3' : zs.getD (0 + 3) 0 = 128 + r % 64 := by rw [hzs]; rfl
    have hl : 4 ≤ zs.length := by rw [hzs]; simp
    rw [← hzs]
    have hn : nB (240 + r / 262144) = 3 := by unfold nB; rw [if_neg (by omega), if_neg (by omega), if_pos (by omega)]
    have hcp : cP zs 0 3 3 = r := by
      rw [cP_succ, cP_succ, cP_succ, g1, g2, g3]; show 64 * (64 * (64 * (zs.getD 0 0 - 240) + _ - _) + _ - _) + _ - _ = _; rw [g0]; omega
    have ha : allC zs 0 3 := fun k k1 k2 => by rcases (by omega : k = 1 ∨ k = 2 ∨ k = 3) with rfl | rfl | rfl; exact ⟨by omega, by omega, by omega⟩; exact ⟨by omega, by omega, by omega⟩; exact ⟨by omega, by omega, by omega⟩
    unfold elR
    rw [g0, hn, if_neg (by omega), hcp, if_pos ⟨by decide, ha, by show (65536 : Int) ≤ _; omega, h1, h2⟩]; rfl
theorem rn_enc {r : Int} (hr : Gr r) (T : List Int) : rn (enc8 r ++ T) = r :: rn T := by
  have hl := enc8_len r
  have h : 0 < (enc8 r ++ T).length := by rw [List.length_append]; omega
  rw [← rF_zero, rF_step h, elR_enc hr, ← rn_drop, Nat.zero_add, List.drop_left]
theorem rn_nil : rn [] = [] := rfl
theorem rn_encs {l : List Int} (hl : ∀ r ∈ l, Gr r) (T : List Int) : rn (l.flatMap enc8 ++ T) = l ++ rn T := by
  induction l with
  | nil => rfl
  | cons r l ih => rw [List.flatMap_cons, List.append_assoc, rn_enc (hl r (by simp)), ih fun x hx => hl x (by simp [hx])]; rfl
theorem rn_encs0 {l : List Int} (hl : ∀ r ∈ l, Gr r) : rn (l.flatMap enc8) = l := by
  have := rn_encs hl []
  rwa [List.append_nil, rn_nil, List.append_nil] at this
theorem gd_encs {l : List Int} (hl : ∀ r ∈ l, Gr r) : Gd (l.flatMap enc8) 0 := fun r hr => by
  have e : rnF (l.flatMap enc8) ((l.flatMap enc8).length - 0) 0 = rn (l.flatMap enc8) := rfl
  rw [e, rn_encs0 hl] at hr
  have := hl r hr
  unfold Gr at this
  omega
theorem by_encs {l : List Int} (hl : ∀ r ∈ l, Gr r) : By (l.flatMap enc8) := by
  induction l with
  | nil => exact By.nil
  | cons r l ih => rw [List.flatMap_cons]; exact (enc8_by (hl r (by simp))).app (ih fun x hx => hl x (by simp [hx]))
theorem drop_cons2 {zs : List Int} {i : Nat} (h : i < zs.length) : zs.drop i = zs.getD i 0 :: zs.drop (i + 1) := by
  rw [List.drop_eq_getElem_cons h, List.getD_eq_getElem?_getD, List.getElem?_eq_getElem h, Option.getD_some]
theorem enc_el {zs : List Int} (hb : By zs) {i : Nat} (h : i < zs.length) (hg : (elR zs i).1 ≠ -1) : zs.drop i = enc8 (elR zs i).1 ++ zs.drop (i + (elR zs i).2) := by
  have hbi := hb i h
  unfold elR at hg ⊢
  by_cases h0 : zs.getD i 0 < 128
  · rw [if_pos h0] at hg ⊢
    have e : enc8 (zs.getD i 0) = [zs.getD i 0] := by unfold enc8; rw [if_pos h0]
    simp only
    rw [e, drop_cons2 h]; rfl
  rw [if_neg h0] at hg ⊢
  by_cases hC : nB (zs.getD i 0) ≠ 0 ∧ allC zs i (nB (zs.getD i 0)) ∧ fitR (nB (zs.getD i 0)) (cP zs i (nB (zs.getD i 0)) (nB (zs.getD i 0)))
  case neg => rw [if_neg hC] at hg; exact absurd rfl hg
  rw [if_pos hC]
  simp only
  clear hg
  obtain ⟨hn0, ha, hf⟩ := hC
  obtain ⟨n, hn⟩ : ∃ n, n = nB (zs.getD i 0) := ⟨_, rfl⟩
  rw [← hn] at hn0 ha hf ⊢
  have d0 := drop_cons2 h
  have hcase : (n = 1 ∧ 192 ≤ zs.getD i 0 ∧ zs.getD i 0 < 224) ∨ (n = 2 ∧ 224 ≤ zs.getD i 0 ∧ zs.getD i 0 < 240) ∨ (n = 3 ∧ 240 ≤ zs.getD i 0 ∧ zs.getD i 0 < 248) := by
    unfold nB at hn
    split at hn
    · exact .inl ⟨hn, by omega, by omega⟩
    · split at hn
      · exact .inr (.inl ⟨hn, by omega, by omega⟩)
      · split at hn
        · exact .inr (.inr ⟨hn, by omega, by omega⟩)
        · exact absurd hn hn0
  rcases hcase with ⟨rfl, b1, b2⟩ | ⟨rfl, b1, b2⟩ | ⟨rfl, b1, b2⟩
  · have a1 := ha 1 (by omega) (by omega)
    obtain ⟨hf1, hf2, hf3⟩ := hf
    have hcp : cP zs i 1 1 = 64 * (zs.getD i 0 - 192) + zs.getD (i + 1) 0 - 128 := rfl
    have d1 := drop_cons2 a1.1
    have hf1 : (128 : Int) ≤ cP zs i 1 1 := hf1
    obtain ⟨a1, a2, a3⟩ := a1
    obtain ⟨z, hz⟩ : ∃ z, z = zs.getD i 0 := ⟨_, rfl⟩
    obtain ⟨y, hy⟩ : ∃ z, z = zs.getD (i + 1) 0 := ⟨_, rfl⟩
    rw [← hz, ← hy] at hcp
    rw [← hz] at b1 b2 d0
    rw [← hy] at a2 a3 d1
    have e : enc8 (cP zs i 1 1) = [z, y] := by
      unfold enc8
      rw [if_neg (by omega), if_pos (by omega)]
      rw [show 192 + cP zs i 1 1 / 64 = z by omega, show 128 + cP zs i 1 1 % 64 = y by omega]
    rw [e, d0, d1]; rfl
  · have a1 := ha 1 (by omega) (by omega)
    have a4 := ha 2 (by omega) (by omega)
    obtain ⟨hf1, hf2, hf3⟩ := hf
    have hcp : cP zs i 2 2 = 64 * (64 * (zs.getD i 0 - 224) + zs.getD (i + 1) 0 - 128) + zs.getD (i + 2) 0 - 128 := rfl
    have d1 := drop_cons2 a1.1
    have d2 := drop_cons2 a4.1
    have hf1 : (2048 : Int) ≤ cP zs i 2 2 := hf1
    obtain ⟨a1, a2, a3⟩ := a1
    obtain ⟨a4, a5, a6⟩ := a4
    obtain ⟨z, hz⟩ : ∃ z, z = zs.getD i 0 := ⟨_, rfl⟩
    obtain ⟨y, hy⟩ : ∃ z, z = zs.getD (i + 1) 0 := ⟨_, rfl⟩
    obtain ⟨x, hx⟩ : ∃ z, z = zs.getD (i + 2) 0 := ⟨_, rfl⟩
    rw [← hz, ← hy, ← hx] at hcp
    rw [← hz] at b1 b2 d0
    rw [← hy] at a2 a3 d1
    rw [← hx] at a5 a6 d2
    have e : enc8 (cP zs i 2 2) = [z, y, x] := by
      unfold enc8
      rw [if_neg (by omega), if_neg (by omega), if_pos (by omega)]
      rw [show 224 + cP zs i 2 2 / 4096 = z by omega, show 128 + cP zs i 2 2 / 64 % 64 = y by omega, show 128 + cP zs i 2 2 % 64 = x by omega]
    rw [e, d0, d1, d2]; rfl
  · have a1 := ha 1 (by omega) (by omega)
    have a4 := ha 2 (by omega) (by omega)
    have a7 := ha 3 (by omega) (by omega)
    obtain ⟨hf1, hf2, hf3⟩ := hf
    have hcp : cP zs i 3 3 = 64 * (64 * (64 * (zs.getD i 0 - 240) + zs.getD (i + 1) 0 - 128) + zs.getD (i + 2) 0 - 128) + zs.getD (i + 3) 0 - 128 := rfl
    have d1 := drop_cons2 a1.1
    have d2 := drop_cons2 a4.1
    have d3 := drop_cons2 a7.1
    have hf1 : (65536 : Int) ≤ cP zs i 3 3 := hf1
    obtain ⟨a1, a2, a3⟩ := a1
    obtain ⟨a4, a5, a6⟩ := a4
    obtain ⟨a7, a8, a9⟩ := a7
    obtain ⟨z, hz⟩ : ∃ z, z = zs.getD i 0 := ⟨_, rfl⟩
    obtain ⟨y, hy⟩ : ∃ z, z = zs.getD (i + 1) 0 := ⟨_, rfl⟩
    obtain ⟨x, hx⟩ : ∃ z, z = zs.getD (i + 2) 0 := ⟨_, rfl⟩
    obtain ⟨w, hw⟩ : ∃ z, z = zs.getD (i + 3) 0 := ⟨_, rfl⟩
    rw [← hz, ← hy, ← hx, ← hw] at hcp
    rw [← hz] at b1 b2 d0
    rw [← hy] at a2 a3 d1
    rw [← hx] at a5 a6 d2
    rw [← hw] at a8 a9 d3
    have e : enc8 (cP zs i 3 3) = [z, y, x, w] := by
      unfold enc8
      rw [if_neg (by omega), if_neg (by omega), if_neg (by omega)]
      rw [show 240 + cP zs i 3 3 / 262144 = z by omega, show 128 + cP zs i 3 3 / 4096 % 64 = y by omega, show 128 + cP zs i 3 3 / 64 % 64 = x by omega, show 128 + cP zs i 3 3 % 64 = w by omega]
    rw [e, d0, d1, d2, d3]; rfl
theorem enc_rF {zs : List Int} (hb : By zs) : ∀ k i, zs.length - i ≤ k → Gd zs i → (rF zs i).flatMap enc8 = zs.drop i := by
  intro k
  induction k with
  | zero => intro i hk _; rw [rF_end (by omega), List.drop_eq_nil_of_le (by omega)]; rfl
  | succ k ih =>
    intro i hk hg
    by_cases h : i < zs.length
    · have hw := elR_w zs i
      have hg2 := (Gd_step h).1 hg
      rw [rF_step h, List.flatMap_cons, ih _ (by omega) hg2.2, ← enc_el hb h hg2.1]
    · rw [rF_end (by omega), List.drop_eq_nil_of_le (by omega)]; rfl
theorem enc_rn {zs : List Int} (hb : By zs) (hg : Gd zs 0) : (rn zs).flatMap enc8 = zs := by
  rw [← rF_zero, enc_rF hb _ 0 (Nat.le_refl _) hg]; rfl
theorem gr_rF {zs : List Int} (hb : By zs) : ∀ k i, zs.length - i ≤ k → Gd zs i → ∀ r ∈ rF zs i, Gr r := by
  intro k
  induction k with
  | zero => intro i hk _ r hr; rw [rF_end (by omega)] at hr; cases hr
  | succ k ih =>
    intro i hk hg r hr
    by_cases h : i < zs.length
    · have hw := elR_w zs i
      have hg2 := gd_el hb h hg
      rw [rF_step h] at hr
      rcases List.mem_cons.1 hr with e | e
      · rw [e]; exact hg2.1
      · exact ih _ (by omega) hg2.2 r e
    · rw [rF_end (by omega)] at hr; cases hr
theorem gr_rn {zs : List Int} (hb : By zs) (hg : Gd zs 0) : ∀ r ∈ rn zs, Gr r := by
  rw [← rF_zero]; exact gr_rF hb _ 0 (Nat.le_refl _) hg
theorem gdB_iff {zs : List Int} : gdB zs = true ↔ Gd zs 0 := by
  unfold gdB
  exact ⟨fun h => @of_decide_eq_true _ (Classical.propDecidable _) h, fun h => @decide_eq_true _ (Classical.propDecidable _) h⟩
theorem s_bstr (s : ByteArray) : s = bstr (ub s.data.toList) ∧ By (ub s.data.toList) := by
  constructor
  · apply ByteArray.ext
    apply Array.ext'
    simp only [bstr, ub, List.map_map]
    have e2 : s.data.toList.map ((fun n : Int => UInt8.ofNat n.toNat) ∘ fun b : UInt8 => (b.toNat : Int)) = s.data.toList.map id := List.map_congr_left fun b _ => by simp
    rw [e2, List.map_id]
  · intro i hi
    rw [ub_getD]
    have := ((s.data.toList).getD i 0).toNat_lt
    omega
end Go.Proofs.YtjdjpgjjnajjhaaDoor
