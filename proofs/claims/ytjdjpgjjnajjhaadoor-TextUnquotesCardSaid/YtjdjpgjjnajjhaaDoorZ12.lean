/-
  The walks and the laws that the statement leans on, part 12.
-/
import Derived.Test.YtjdjpgjjnajjhaaDoorZ11
namespace Go.Proofs.YtjdjpgjjnajjhaaDoor
open Go
set_option linter.unusedVariables false
set_option linter.unusedSimpArgs false
theorem TFTxZ : ((((((type_of% tyc0) ∧ (type_of% tyc3)) ∧ ((type_of% zmb3) ∧ ((type_of% tyc4) ∧ (type_of% zmb4)))) ∧ (((type_of% tyc9) ∧ ((type_of% zmb9) ∧ (type_of% tyc21))) ∧ ((type_of% zmb21) ∧ ((type_of% tyc32) ∧ (type_of% zmb32))))) ∧ ((((type_of% tyc38) ∧ ((type_of% foff38_0) ∧ (type_of% fpart38_0))) ∧ ((type_of% foff38_1) ∧ ((type_of% fpart38_1) ∧ (type_of% zmb38)))) ∧ (((type_of% bldT38) ∧ ((type_of% tyc46) ∧ (type_of% tyc48))) ∧ ((type_of% mth48_38) ∧ ((type_of% mth48_29) ∧ (type_of% mth48_39)))))) ∧ (((((type_of% con48) ∧ (type_of% zmb48)) ∧ ((type_of% tyc50) ∧ ((type_of% foff50_0) ∧ (type_of% fpart50_0)))) ∧ (((type_of% foff50_1) ∧ ((type_of% fpart50_1) ∧ (type_of% foff50_2))) ∧ ((type_of% fpart50_2) ∧ ((type_of% foff50_3) ∧ (type_of% fpart50_3))))) ∧ ((((type_of% zmb50) ∧ ((type_of% bldT50) ∧ (type_of% Tryd.underlying0))) ∧ ((type_of% Tryd.underlying3) ∧ ((type_of% Tryd.underlying4) ∧ (type_of% Tryd.underlying9)))) ∧ (((type_of% Tryd.underlying21) ∧ ((type_of% Tryd.underlying32) ∧ (type_of% Tryd.underlying38))) ∧ ((type_of% Tryd.underlying46) ∧ ((type_of% Tryd.underlying48) ∧ (type_of% Tryd.underlying50))))))) :=
  ⟨⟨⟨⟨⟨tyc0, tyc3⟩, ⟨zmb3, ⟨tyc4, zmb4⟩⟩⟩, ⟨⟨tyc9, ⟨zmb9, tyc21⟩⟩, ⟨zmb21, ⟨tyc32, zmb32⟩⟩⟩⟩, ⟨⟨⟨tyc38, ⟨foff38_0, fpart38_0⟩⟩, ⟨foff38_1, ⟨fpart38_1, zmb38⟩⟩⟩, ⟨⟨bldT38, ⟨tyc46, tyc48⟩⟩, ⟨mth48_38, ⟨mth48_29, mth48_39⟩⟩⟩⟩⟩, ⟨⟨⟨⟨con48, zmb48⟩, ⟨tyc50, ⟨foff50_0, fpart50_0⟩⟩⟩, ⟨⟨foff50_1, ⟨fpart50_1, foff50_2⟩⟩, ⟨fpart50_2, ⟨foff50_3, fpart50_3⟩⟩⟩⟩, ⟨⟨⟨zmb50, ⟨bldT50, Tryd.underlying0⟩⟩, ⟨Tryd.underlying3, ⟨Tryd.underlying4, Tryd.underlying9⟩⟩⟩, ⟨⟨Tryd.underlying21, ⟨Tryd.underlying32, Tryd.underlying38⟩⟩, ⟨Tryd.underlying46, ⟨Tryd.underlying48, Tryd.underlying50⟩⟩⟩⟩⟩⟩
theorem el_Gr {zs : List Int} (hb : By zs) {i : Nat} (h : i < zs.length) (hg : (elR zs i).1 ≠ -1) : Gr (elR zs i).1 := by
  have hbi := hb i h
  unfold elR at hg ⊢
  by_cases h0 : zs.getD i 0 < 128
  · rw [if_pos h0] at hg ⊢
    exact ⟨hbi.1, by simp only; omega, by simp only; omega⟩
  rw [if_neg h0] at hg ⊢
  by_cases hC : nB (zs.getD i 0) ≠ 0 ∧ allC zs i (nB (zs.getD i 0)) ∧ fitR (nB (zs.getD i 0)) (cP zs i (nB (zs.getD i 0)) (nB (zs.getD i 0)))
  · rw [if_pos hC]
    obtain ⟨h1, -, h2, h3, h4⟩ := hC
    have hls : 0 ≤ lsR (nB (zs.getD i 0)) := by
      unfold nB
      (repeat' split) <;> decide
    exact ⟨by simp only; omega, h3, h4⟩
  · rw [if_neg hC] at hg
    exact absurd rfl hg
theorem gd_el {zs : List Int} (hb : By zs) {i : Nat} (h : i < zs.length) (hg : Gd zs i) : Gr (elR zs i).1 ∧ Gd zs (i + (elR zs i).2) :=
  ⟨el_Gr hb h ((Gd_step h).1 hg).1, ((Gd_step h).1 hg).2⟩
theorem dec_good {zs : List Int} (hb : By zs) {i : Nat} (h : i < zs.length) (hg : Gd zs i) : ∃ r : Nat, Utf8.decode (bstr zs) i = (r, (elR zs i).2) ∧ (elR zs i).1 = (r : Int) := by
  have hg := ((Gd_step h).1 hg).1
  obtain ⟨r, w, hd, hr, ⟨e, h1, h2, h3⟩ | ⟨e, -, hw⟩⟩ := el_dec hb h
  · exact ⟨r, by rw [e]; exact hd, by rw [e]⟩
  · rw [e] at hg; exact absurd rfl hg
/-- the reader over a list of runes; none: one of them can't stand there -/
noncomputable def mach : RS → List Int → List Int → Option (RS × List Int)
  | s, o, [] => some (s, o)
  | s, o, r :: l => if (tkS s r).ok = true then mach (tkS s r).s (o ++ (tkS s r).out) l else none
theorem mach_cons (s : RS) (o : List Int) (r : Int) (l : List Int) : mach s o (r :: l) = if (tkS s r).ok = true then mach (tkS s r).s (o ++ (tkS s r).out) l else none := rfl
/-- what comes of a reader that has gone through -/
noncomputable def unqE : Option (RS × List Int) → List Int × Int
  | none => ([], 5)
  | some (s, o) => if s.st ≠ 4 then ([], 5) else if 120 < (rn o).length then ([], 9) else (o, 0)
theorem unqE_some (s : RS) (o : List Int) : unqE (some (s, o)) = if s.st ≠ 4 then ([], 5) else if 120 < (rn o).length then ([], 9) else (o, 0) := rfl
open Classical in
/-- what Unquote answers -/
noncomputable def unqA (zs : List Int) : List Int × Int := if zs.take 1 = [34] ∧ gdB zs = true then unqE (mach ⟨0, 0, 0⟩ [] (rn (zs.drop 1))) else ([], 5)
theorem By.app {xs ys : List Int} (hx : By xs) (hy : By ys) : By (xs ++ ys) := fun i hi => by
  rw [List.length_append] at hi
  by_cases h : i < xs.length
  · have := hx i h
    simpa [List.getD_eq_getElem?_getD, List.getElem?_append_left h] using this
  · have := hy (i - xs.length) (by omega)
    simpa [List.getD_eq_getElem?_getD, List.getElem?_append_right (show xs.length ≤ i by omega)] using this
theorem By.nil : By [] := fun i hi => absurd hi (Nat.not_lt_zero _)
theorem tkS_by (s : RS) {r : Int} (hr : Gr r) : By (tkS s r).out := by
  obtain ⟨st, nn, ct⟩ := s
  unfold tkS
  have g10 : Gr 10 := by unfold Gr; omega
  have g9 : Gr 9 := by unfold Gr; omega
  split
  · split
    · exact By.nil
    · split
      · exact By.nil
      · split
        · exact By.nil
        · exact enc8_by hr
  · split
    · split
      · exact By.nil
      · split
        · exact enc8_by hr
        · split
          · exact enc8_by g10
          · split
            · exact enc8_by g9
            · exact By.nil
    · split
      · exact By.nil
      · split
        · split
          · exact By.nil
          · split
            · exact By.nil
            · rename_i h
              exact enc8_by (Classical.byContradiction fun hx => h (.inr (.inr hx)))
        · exact By.nil
theorem liftX {f : FuncId} {args : List AV} {F : Hp} {ι : Type} {x : AV} {M : ι → Hp} (X : Hp) (h : ACt Tryd.prog f args F (fun r F' => ∃ g : ι, r = x ∧ F' = M g)) :
    ACt Tryd.prog f args (X ++ F) (fun r F' => ∃ g : ι, r = x ∧ F' = X ++ M g) :=
  ACt.frm (R := X) h List.perm_append_comm fun r F' hr _ => by
    obtain ⟨g, e1, e2⟩ := hr
    subst e1 e2
    exact ⟨X ++ M g, [], by rw [List.append_nil]; exact List.perm_append_comm, g, rfl, rfl⟩
theorem perm4r (a b c d : Nat × MB) : List.Perm [a, b, c, d] ([c, d, a, b] ++ []) := by
  show List.Perm ([a, b] ++ [c, d]) ([c, d] ++ [a, b])
  exact List.perm_append_comm
theorem perm2t (a b : Nat × MB) (l : Hp) : List.Perm (a :: b :: l) ([a, b] ++ l) := List.Perm.refl _
structure UnG where
  i : Nat
  s : RS
  o : List Int
  q : BQ
set_option maxHeartbeats 8000000 in
set_option maxRecDepth 20000 in
theorem unq_ct (zs : List Int) (hb : By zs) (hl : zs.length ≤ 5000) (n0 n1 : Nat) : ACt Tryd.prog 19 [stz zs] [(0, .zs .u8 fsZ 256 n0), (1, .zs .u8 acZ 32 n1)] (fun r F' => r = .tup [stz (unqA zs).1, iv .i64 (unqA zs).2] ∧ F' = [(0, .zs .u8 fsZ 256 n0), (1, .zs .u8 acZ 32 n1)]) := by
  have cG := goodT_ct zs hb hl n0 n1
  obtain ⟨FZ, hFZ⟩ : ∃ FZ, FZ = fsZ := ⟨_, rfl⟩
  obtain ⟨AZ, hAZ⟩ : ∃ AZ, AZ = acZ := ⟨_, rfl⟩
  rw [← hFZ, ← hAZ] at cG ⊢
  clear hFZ hAZ
  by_cases h1 : zs.take 1 = [34]
  case neg =>
    have cC := cutp_no zs hb h1
    have e : unqA zs = ([], 5) := by unfold unqA; rw [if_neg (fun h => h1 h.1)]
    rw [e]
    refine ACt.intro Tryd.func19 rfl (by kernel_rfl) (by simp [Tryd.ntmps19]) (fun cx => ?_)
    simp only [argE, Tryd.ntmps19, Tryd.results19]
    first | (have FRx := FR; clear FRx) | (have FR : Sm (¬ ((1 : Nat) = 0)) := Sm.mk Nat.one_ne_zero)
    repeat' first
      | (refine Sm.mk ?_; try simp -dsimp only [ZK, rvc, drawF, headN, pureH, stp, dvc, calleeOf, gcall, pev, eff, newB, okd, og, ogs, ogo, ogp, slv, bltv, opd, litv, strip, one, both, putE, St.put, look, gdOf, gdv, picka, pickv, pickw, binv, bini, bins, binb, binp, binq, isSlT, bina, shp, eqCells, unv, convv, nilv, faddv, addp, idxav, idxp, load1, load1m, loadn, loadnm, loadv, hget, hset, hrep, hdel, slicev, bnd, shift1, lenv, capv, IntKind.bits, extractv, fieldv, indexv, min2v, max2v, mkiv, cellsA, fillA, buildv, stC, oneC, rowMB, intsA, plN, appE, appZ, appC, appNZ, appNC, VwL, srcC, srcZ, srcM, isBoolT, isPtrT, isSliceT, uOk, Value.oneCell', Nat.reducePow, Int.reducePow, Nat.reduceAdd, Nat.reduceMul, Nat.reduceSub, Nat.reduceLT, Nat.reduceLeDiff, Nat.reduceEqDiff, Nat.reduceBEq, Nat.reduceDiv, Nat.reduceMod, ↓reduceIte, reduceCtorEq, Int.reduceToNat, Int.reduceLT, Int.reduceLE, TFTxZ, SeqQ, BlkQ, LoopQ, BodyQ, FR.out])
      | (first | refine CallV.fn (cC) (Sm.out ?_) | refine ExF.mk (cC) (Sm.out ?_) | refine ExG.mk (fun _ => cC) (Sm.out ?_) | refine ExG.mkJ (fun _ => cC) (Sm.out ?_) | refine ExG.mkI (Ob.out ?_) (fun _ => cC) (Sm.out ?_))
      | (refine CallV.updM (cG) (perm2 (by simp only [hget, hdel, ↓reduceIte, FR.out]; first | done | rfl) (by simp only [hget, hdel, ↓reduceIte, FR.out]; first | done | rfl)) (Sm.out ?_))
      | ((first | refine ExF.up ?_ (cG) (Sm.out ?_) | refine ExG.up ?_ (fun _ => cG) (Sm.out ?_) | refine ExG.upJ ?_ (fun _ => cG) (Sm.out ?_) | refine ExG.upI ?_ (fun _ => cG) (Ob.out ?_) (Sm.out ?_)); focus (exact ⟨_, (perm2 (by simp only [hget, hdel, ↓reduceIte, FR.out]; first | done | rfl) (by simp only [hget, hdel, ↓reduceIte, FR.out]; first | done | rfl))⟩))
      | (refine WP.seq fun K hK => ?_)
      | (refine WP.region (rvc_sound _ _ (Sm.out ?_)))
      | (refine WP.drawK rfl mixed (by decide +kernel) (Sm.out ?_))
      | (refine Ob.mk ?_; focus (first | assumption | omega | decide | trivial | (intro hob; simp only [hob, ZF]; done) | (intros; (repeat' refine And.intro ?_ ?_) <;> first | assumption | omega | trivial | decide) | (intros; simp only [ZE] at *; (repeat' refine And.intro ?_ ?_) <;> first | assumption | omega | trivial)))
      | (refine And.intro (Ob.out ?_) ?_)
      | (refine WP.block ?_)
      | (refine WP.cond rfl (fun hc => ?_) (fun hc => ?_) <;> (try simp only [ZC, reduceCtorEq, ZD] at hc) <;> (try (exact absurd hc (by decide))) <;> (try (exfalso; omega)))
      | ((first | refine WP.skip ?_ | refine WP.exit ?_); simp only [SeqQ, BlkQ, LoopQ, BodyQ, ↓reduceIte, Nat.reduceEqDiff, reduceCtorEq, look, true_and])
      | (refine WP.ret (Sm.out ?_))
      | (first | refine ExG.no (Sm.out ?_) | refine Or.inl (ExG.no (Sm.out ?_)) | refine Or.inl (And.intro (fun hg => absurd hg (by decide)) (ExG.no (Sm.out ?_))))
      | (refine Rt.mk ?_; refine And.intro ?_ ?_ <;> (intro hg; first | exact absurd hg (by decide) | refine Sm.out ?_))
      | (refine Nu.mk ?_; first | (fail_if_success (have := nb1)); intro nb1 | (fail_if_success (have := nb2)); intro nb2 | (fail_if_success (have := nb3)); intro nb3 | (fail_if_success (have := nb4)); intro nb4 | intro nbz)
      | (refine Fr.mk ?_; intro hfr; (first | (have hFRb : _ ≤ _ ∧ _ ≤ _ := And.intro hfr.1 hfr.2.1) | (have hFRb : _ ≤ _ := hfr.1) | skip); replace FR := Sm.mk (And.intro hfr FR.out); clear hfr; refine Sm.out ?_)
      | (refine Two.mk ?_ ?_)
      | (refine Cs.mk ?_; intro hcs; first | exact False.elim hcs | (exfalso; omega) | (refine Sm.out ?_))
      | go_step
      | omega
      | (simp only [maxLen_eq]; omega)
    (refine OutQ.drop _ _ (perm2 (by simp only [hget, hdel, ↓reduceIte, if_true, if_false, FR.out]; first | done | rfl) (by simp only [hget, hdel, ↓reduceIte, if_true, if_false, FR.out]; first | done | rfl)) (by simp only [resv, ZK, look, loadv, loadn, loadnm, load1, load1m, hget, ↓reduceIte, Nat.reduceEqDiff, Nat.reduceAdd, Nat.reduceMul, Nat.reduceLeDiff, Nat.reduceLT, reduceCtorEq, TFTxZ, FR.out]) ⟨(by simp only [resv, resA, ZK, look, loadv, loadn, loadnm, load1, load1m, hget, ↓reduceIte, Nat.reduceEqDiff, Nat.reduceAdd, Nat.reduceMul, Nat.reduceLeDiff, Nat.reduceLT, reduceCtorEq, TFTxZ, FR.out]; first | done | rfl), rfl⟩)
  have cC := cutp_yes zs hb h1
  by_cases h2 : gdB zs = true
  case neg =>
    have h2' : gdB zs = false := by simpa using h2
    rw [h2'] at cG
    have e : unqA zs = ([], 5) := by unfold unqA; rw [if_neg (fun h => h2 h.2)]
    rw [e]
    refine ACt.intro Tryd.func19 rfl (by kernel_rfl) (by simp [Tryd.ntmps19]) (fun cx => ?_)
    simp only [argE, Tryd.ntmps19, Tryd.results19]
    first | (have FRx := FR; clear FRx) | (have FR : Sm (¬ ((1 : Nat) = 0)) := Sm.mk Nat.one_ne_zero)
    repeat' first
      | (refine Sm.mk ?_; try simp -dsimp only [ZK, rvc, drawF, headN, pureH, stp, dvc, calleeOf, gcall, pev, eff, newB, okd, og, ogs, ogo, ogp, slv, bltv, opd, litv, strip, one, both, putE, St.put, look, gdOf, gdv, picka, pickv, pickw, binv, bini, bins, binb, binp, binq, isSlT, bina, shp, eqCells, unv, convv, nilv, faddv, addp, idxav, idxp, load1, load1m, loadn, loadnm, loadv, hget, hset, hrep, hdel, slicev, bnd, shift1, lenv, capv, IntKind.bits, extractv, fieldv, indexv, min2v, max2v, mkiv, cellsA, fillA, buildv, stC, oneC, rowMB, intsA, plN, appE, appZ, appC, appNZ, appNC, VwL, srcC, srcZ, srcM, isBoolT, isPtrT, isSliceT, uOk, Value.oneCell', Nat.reducePow, Int.reducePow, Nat.reduceAdd, Nat.reduceMul, Nat.reduceSub, Nat.reduceLT, Nat.reduceLeDiff, Nat.reduceEqDiff, Nat.reduceBEq, Nat.reduceDiv, Nat.reduceMod, ↓reduceIte, reduceCtorEq, Int.reduceToNat, Int.reduceLT, Int.reduceLE, TFTxZ, SeqQ, BlkQ, LoopQ, BodyQ, FR.out])
      | (first | refine CallV.fn (cC) (Sm.out ?_) | refine ExF.mk (cC) (Sm.out ?_) | refine ExG.mk (fun _ => cC) (Sm.out ?_) | refine ExG.mkJ (fun _ => cC) (Sm.out ?_) | refine ExG.mkI (Ob.out ?_) (fun _ => cC) (Sm.out ?_))
      | (refine CallV.updM (cG) (perm2 (by simp only [hget, hdel, ↓reduceIte, FR.out]; first | done | rfl) (by simp only [hget, hdel, ↓reduceIte, FR.out]; first | done | rfl)) (Sm.out ?_))
      | ((first | refine ExF.up ?_ (cG) (Sm.out ?_) | refine ExG.up ?_ (fun _ => cG) (Sm.out ?_) | refine ExG.upJ ?_ (fun _ => cG) (Sm.out ?_) | refine ExG.upI ?_ (fun _ => cG) (Ob.out ?_) (Sm.out ?_)); focus (exact ⟨_, (perm2 (by simp only [hget, hdel, ↓reduceIte, FR.out]; first | done | rfl) (by simp only [hget, hdel, ↓reduceIte, FR.out]; first | done | rfl))⟩))
      | (refine WP.seq fun K hK => ?_)
      | (refine WP.region (rvc_sound _ _ (Sm.out ?_)))
      | (refine WP.drawK rfl mixed (by decide +kernel) (Sm.out ?_))
      | (refine Ob.mk ?_; focus (first | assumption | omega | decide | trivial | (intro hob; simp only [hob, ZF]; done) | (intros; (repeat' refine And.intro ?_ ?_) <;> first | assumption | omega | trivial | decide) | (intros; simp only [ZE] at *; (repeat' refine And.intro ?_ ?_) <;> first | assumption | omega | trivial)))
      | (refine And.intro (Ob.out ?_) ?_)
      | (refine WP.block ?_)
      | (refine WP.cond rfl (fun hc => ?_) (fun hc => ?_) <;> (try simp only [ZC, reduceCtorEq, ZD] at hc) <;> (try (exact absurd hc (by decide))) <;> (try (exfalso; omega)))
      | ((first | refine WP.skip ?_ | refine WP.exit ?_); simp only [SeqQ, BlkQ, LoopQ, BodyQ, ↓reduceIte, Nat.reduceEqDiff, reduceCtorEq, look, true_and])
      | (refine WP.ret (Sm.out ?_))
      | (first | refine ExG.no (Sm.out ?_) | refine Or.inl (ExG.no (Sm.out ?_)) | refine Or.inl (And.intro (fun hg => absurd hg (by decide)) (ExG.no (Sm.out ?_))))
      | (refine Rt.mk ?_; refine And.intro ?_ ?_ <;> (intro hg; first | exact absurd hg (by decide) | refine Sm.out ?_))
      | (refine Nu.mk ?_; first | (fail_if_success (have := nb1)); intro nb1 | (fail_if_success (have := nb2)); intro nb2 | (fail_if_success (have := nb3)); intro nb3 | (fail_if_success (have := nb4)); intro nb4 | intro nbz)
      | (refine Fr.mk ?_; intro hfr; (first | (have hFRb : _ ≤ _ ∧ _ ≤ _ := And.intro hfr.1 hfr.2.1) | (have hFRb : _ ≤ _ := hfr.1) | skip); replace FR := Sm.mk (And.intro hfr FR.out); clear hfr; refine Sm.out ?_)
      | (refine Two.mk ?_ ?_)
      | (refine Cs.mk ?_; intro hcs; first | exact False.elim hcs | (exfalso; omega) | (refine Sm.out ?_))
      | go_step
      | omega
      | (simp only [maxLen_eq]; omega)
    (refine OutQ.drop _ _ (perm2 (by simp only [hget, hdel, ↓reduceIte, if_true, if_false, FR.out]; first | done | rfl) (by simp only [hget, hdel, ↓reduceIte, if_true, if_false, FR.out]; first | done | rfl)) (by simp only [resv, ZK, look, loadv, loadn, loadnm, load1, load1m, hget, ↓reduceIte, Nat.reduceEqDiff, Nat.reduceAdd, Nat.reduceMul, Nat.reduceLeDiff, Nat.reduceLT, reduceCtorEq, TFTxZ, FR.out]) ⟨(by simp only [resv, resA, ZK, look, loadv, loadn, loadnm, load1, load1m, hget, ↓reduceIte, Nat.reduceEqDiff, Nat.reduceAdd, Nat.reduceMul, Nat.reduceLeDiff, Nat.reduceLT, reduceCtorEq, TFTxZ, FR.out]; first | done | rfl), rfl⟩)
  rw [h2] at cG
  have hA : unqA zs = unqE (mach ⟨0, 0, 0⟩ [] (rn (zs.drop 1))) := by unfold unqA; rw [if_pos ⟨h1, h2⟩]
  obtain ⟨M, hM⟩ : ∃ M, M = mach ⟨0, 0, 0⟩ [] (rn (zs.drop 1)) := ⟨_, rfl⟩
  rw [← hM] at hA
  rw [hA]
  have hg0 : Gd zs 0 := by unfold gdB at h2; exact @of_decide_eq_true _ (Classical.propDecidable _) h2
  have hl1 : 1 ≤ zs.length := by
    cases zs with
    | nil => cases h1
    | cons z r => simp
  have hz0 : zs.getD 0 0 = 34 := by
    cases zs with
    | nil => cases h1
    | cons z r => simp at h1; simp [h1]
  have hgi : Gd (zs.drop 1) 0 := by
    have h := (Gd_lo hb hl1 (by rw [hz0]; decide)).1 hg0
    unfold Gd at h ⊢
    rw [rnF_drop, List.length_drop]
    exact h
  have hbi : By (zs.drop 1) := hb.drop 1
  obtain ⟨ys, hys⟩ : ∃ ys, ys = zs.drop 1 := ⟨_, rfl⟩
  rw [← hys] at hM hgi hbi cC
  have hyl : ys.length ≤ 5000 := by rw [hys, List.length_drop]; omega
  rw [← rF_zero] at hM
  have hs := bstr_size ys
  have hdec := fun i (h : i < ys.length) (hg : Gd ys i) => dec_good hbi h hg
  unfold stz at cC
  obtain ⟨B, hB⟩ : ∃ B, B = bstr ys := ⟨_, rfl⟩
  rw [← hB] at hs cC
  simp only [← hB] at hdec
  refine ACt.intro Tryd.func19 rfl (by kernel_rfl) (by simp [Tryd.ntmps19]) (fun cx => ?_)
  simp only [argE, Tryd.ntmps19, Tryd.results19]
  first | (have FRx := FR; clear FRx) | (have FR : Sm (¬ ((1 : Nat) = 0)) := Sm.mk Nat.one_ne_zero)
  repeat' first
    | (refine Sm.mk ?_; try simp -dsimp only [ZK, rvc, drawF, headN, pureH, stp, dvc, calleeOf, gcall, pev, eff, newB, okd, og, ogs, ogo, ogp, slv, bltv, opd, litv, strip, one, both, putE, St.put, look, gdOf, gdv, picka, pickv, pickw, binv, bini, bins, binb, binp, binq, isSlT, bina, shp, eqCells, unv, convv, nilv, faddv, addp, idxav, idxp, load1, load1m, loadn, loadnm, loadv, hget, hset, hrep, hdel, slicev, bnd, shift1, lenv, capv, IntKind.bits, extractv, fieldv, indexv, min2v, max2v, mkiv, cellsA, fillA, buildv, stC, oneC, rowMB, intsA, plN, appE, appZ, appC, appNZ, appNC, VwL, srcC, srcZ, srcM, isBoolT, isPtrT, isSliceT, uOk, Value.oneCell', Nat.reducePow, Int.reducePow, Nat.reduceAdd, Nat.reduceMul, Nat.reduceSub, Nat.reduceLT, Nat.reduceLeDiff, Nat.reduceEqDiff, Nat.reduceBEq, Nat.reduceDiv, Nat.reduceMod, ↓reduceIte, reduceCtorEq, Int.reduceToNat, Int.reduceLT, Int.reduceLE, TFTxZ, SeqQ, BlkQ, LoopQ, BodyQ, FR.out])
    | (first | refine CallV.fn (cC) (Sm.out ?_) | refine ExF.mk (cC) (Sm.out ?_) | refine ExG.mk (fun _ => cC) (Sm.out ?_) | refine ExG.mkJ (fun _ => cC) (Sm.out ?_) | refine ExG.mkI (Ob.out ?_) (fun _ => cC) (Sm.out ?_))
    | (refine CallV.updM (cG) (perm2 (by simp only [hget, hdel, ↓reduceIte, FR.out]; first | done | rfl) (by simp only [hget, hdel, ↓reduceIte, FR.out]; first | done | rfl)) (Sm.out ?_))
    | ((first | refine ExF.up ?_ (cG) (Sm.out ?_) | refine ExG.up ?_ (fun _ => cG) (Sm.out ?_) | refine ExG.upJ ?_ (fun _ => cG) (Sm.out ?_) | refine ExG.upI ?_ (fun _ => cG) (Ob.out ?_) (Sm.out ?_)); focus (exact ⟨_, (perm2 (by simp only [hget, hdel, ↓reduceIte, FR.out]; first | done | rfl) (by simp only [hget, hdel, ↓reduceIte, FR.out]; first | done | rfl))⟩))
    | (refine WP.seq fun K hK => ?_)
    | (refine WP.region (rvc_sound _ _ (Sm.out ?_)))
    | (refine WP.drawK rfl mixed (by decide +kernel) (Sm.out ?_))
    | (refine Ob.mk ?_; focus (first | assumption | omega | decide | trivial | (intro hob; simp only [hob, ZF]; done) | (intros; (repeat' refine And.intro ?_ ?_) <;> first | assumption | omega | trivial | decide) | (intros; simp only [ZE] at *; (repeat' refine And.intro ?_ ?_) <;> first | assumption | omega | trivial)))
    | (refine And.intro (Ob.out ?_) ?_)
    | (refine WP.block ?_)
    | (refine WP.cond rfl (fun hc => ?_) (fun hc => ?_) <;> (try simp only [ZC, reduceCtorEq, ZD] at hc) <;> (try (exact absurd hc (by decide))) <;> (try (exfalso; omega)))
    | ((first | refine WP.skip ?_ | refine WP.exit ?_); simp only [SeqQ, BlkQ, LoopQ, BodyQ, ↓reduceIte, Nat.reduceEqDiff, reduceCtorEq, look, true_and])
    | (refine WP.ret (Sm.out ?_))
    | (first | refine ExG.no (Sm.out ?_) | refine Or.inl (ExG.no (Sm.out ?_)) | refine Or.inl (And.intro (fun hg => absurd hg (by decide)) (ExG.no (Sm.out ?_))))
    | (refine Rt.mk ?_; refine And.intro ?_ ?_ <;> (intro hg; first | exact absurd hg (by decide) | refine Sm.out ?_))
    | (refine Nu.mk ?_; first | (fail_if_success (have := nb1)); intro nb1 | (fail_if_success (have := nb2)); intro nb2 | (fail_if_success (have := nb3)); intro nb3 | (fail_if_success (have := nb4)); intro nb4 | intro nbz)
    | (refine Fr.mk ?_; intro hfr; (first | (have hFRb : _ ≤ _ ∧ _ ≤ _ := And.intro hfr.1 hfr.2.1) | (have hFRb : _ ≤ _ := hfr.1) | skip); replace FR := Sm.mk (And.intro hfr FR.out); clear hfr; refine Sm.out ?_)
    | (refine Two.mk ?_ ?_)
    | (refine Cs.mk ?_; intro hcs; first | exact False.elim hcs | (exfalso; omega) | (refine Sm.out ?_))
    | go_step
    | omega
    | (simp only [maxLen_eq]; omega)
  have hnn : (nb2 ≠ 0 ∧ 0 ≠ nb2) ∧ (nb2 ≠ 1 ∧ 1 ≠ nb2) ∧ (nb1 ≠ 0 ∧ 0 ≠ nb1) ∧ (nb1 ≠ 1 ∧ 1 ≠ nb1) ∧ (nb1 ≠ nb2 ∧ nb2 ≠ nb1) := by simp [FR.out]
  refine WP.loop (Γ := UnG) (fun t => ⟨[(25, pt nb2 0), (6, pt nb1 0)], [(0, .zs .u8 FZ 256 n0), (1, .zs .u8 AZ 32 n1), (nb2, .obj (.stringIter B t.i))] ++ rH nb1 t.s.st t.s.nn t.s.ct t.o t.q⟩)
    (fun t => t.i ≤ ys.length ∧ RSok t.s ∧ t.o.length ≤ 4 * t.i ∧ By t.o ∧ bOk nb1 t.o t.q ∧ Gd ys t.i ∧ M = mach t.s t.o (rF ys t.i)) (fun t => ys.length - t.i) ⟨0, ⟨0, 0, 0⟩, [], ⟨0, 0⟩⟩
    ⟨Nat.zero_le _, ⟨.inl rfl, by simp, by simp, 0, by simp, by simp, by simp⟩, by simp, By.nil, fun h => absurd rfl h, hgi, hM⟩ (Sub.of_env [] (perm4r _ _ _ _) (by simp [look])) ?_
  intro ⟨i, s, o, q⟩ ⟨hi, hsk, hol, hob, hq, hgd, hMi⟩
  simp only at hi hsk hol hob hq hgd hMi ⊢
  have FR : Sm (¬ ((1 : Nat) = 0)) := Sm.mk Nat.one_ne_zero
  by_cases hlt : i < ys.length
  · obtain ⟨r, hd, hrr⟩ := hdec i hlt hgd
    have hin := elR_in hbi hlt
    have hw := elR_w ys i
    obtain ⟨hGr, hgn⟩ := gd_el hbi hlt hgd
    rw [rF_step hlt, mach_cons] at hMi
    rw [hrr] at hMi hGr
    obtain ⟨w, ew⟩ : ∃ w, w = (elR ys i).2 := ⟨_, rfl⟩
    rw [← ew] at hd hin hw hMi hgn
    have cT := liftX [(0, .zs .u8 FZ 256 n0), (1, .zs .u8 AZ 32 n1), (nb2, .obj (.stringIter B (i + w)))] (take_r hq (by omega) s hsk (r : Int) hGr)
    have hok' := tkS_ok hsk (r := (r : Int))
    have hby := tkS_by s hGr
    obtain ⟨O, hO⟩ : ∃ O, O = tkS s (r : Int) := ⟨_, rfl⟩
    rw [← hO] at cT hMi hok' hby
    obtain ⟨ok, s', out⟩ := O
    simp only at cT hMi hok' hby
    cases ok
    · have eM : M = none := by rw [hMi]; rfl
      have eA : unqE M = ([], 5) := by rw [eM]; rfl
      rw [eA]
      first | (have FRx := FR; clear FRx) | (have FR : Sm (¬ ((1 : Nat) = 0)) := Sm.mk Nat.one_ne_zero)
      repeat' first
        | (refine Sm.mk ?_; try simp -dsimp only [ZK, rvc, drawF, headN, pureH, stp, dvc, calleeOf, gcall, pev, eff, newB, okd, og, ogs, ogo, ogp, slv, bltv, opd, litv, strip, one, both, putE, St.put, look, gdOf, gdv, picka, pickv, pickw, binv, bini, bins, binb, binp, binq, isSlT, bina, shp, eqCells, unv, convv, nilv, faddv, addp, idxav, idxp, load1, load1m, loadn, loadnm, loadv, hget, hset, hrep, hdel, slicev, bnd, shift1, lenv, capv, IntKind.bits, extractv, fieldv, indexv, min2v, max2v, mkiv, cellsA, fillA, buildv, stC, oneC, rowMB, intsA, plN, appE, appZ, appC, appNZ, appNC, VwL, srcC, srcZ, srcM, isBoolT, isPtrT, isSliceT, uOk, Value.oneCell', Nat.reducePow, Int.reducePow, Nat.reduceAdd, Nat.reduceMul, Nat.reduceSub, Nat.reduceLT, Nat.reduceLeDiff, Nat.reduceEqDiff, Nat.reduceBEq, Nat.reduceDiv, Nat.reduceMod, ↓reduceIte, reduceCtorEq, Int.reduceToNat, Int.reduceLT, Int.reduceLE, TFTxZ, SeqQ, BlkQ, LoopQ, BodyQ, hd, hs, hnn, List.append_nil, List.cons_append, List.nil_append, FR.out])
        | (refine CallV.exM (cT) (pmz _) (fun h => Sm.out ?_))
        | (refine WP.seq fun K hK => ?_)
        | (refine WP.region (rvc_sound _ _ (Sm.out ?_)))
        | (refine WP.drawK rfl mixed (by decide +kernel) (Sm.out ?_))
        | (refine Ob.mk ?_; focus (first | assumption | omega | decide | trivial | (intro hob; simp only [hob, ZF]; done) | (intros; (repeat' refine And.intro ?_ ?_) <;> first | assumption | omega | trivial | decide) | (intros; simp only [ZE] at *; (repeat' refine And.intro ?_ ?_) <;> first | assumption | omega | trivial)))
        | (refine And.intro (Ob.out ?_) ?_)
        | (refine WP.block ?_)
        | (refine WP.cond rfl (fun hc => ?_) (fun hc => ?_) <;> (try simp only [ZC, reduceCtorEq, ZD] at hc) <;> (try (exact absurd hc (by decide))) <;> (try (exfalso; omega)))
        | ((first | refine WP.skip ?_ | refine WP.exit ?_); simp only [SeqQ, BlkQ, LoopQ, BodyQ, ↓reduceIte, Nat.reduceEqDiff, reduceCtorEq, look, true_and])
        | (refine WP.ret (Sm.out ?_))
        | (first | refine ExG.no (Sm.out ?_) | refine Or.inl (ExG.no (Sm.out ?_)) | refine Or.inl (And.intro (fun hg => absurd hg (by decide)) (ExG.no (Sm.out ?_))))
        | (refine Rt.mk ?_; refine And.intro ?_ ?_ <;> (intro hg; first | exact absurd hg (by decide) | refine Sm.out ?_))
        | (refine Nu.mk ?_; first | (fail_if_success (have := nb1)); intro nb1 | (fail_if_success (have := nb2)); intro nb2 | (fail_if_success (have := nb3)); intro nb3 | (fail_if_success (have := nb4)); intro nb4 | intro nbz)
        | (refine Fr.mk ?_; intro hfr; (first | (have hFRb : _ ≤ _ ∧ _ ≤ _ := And.intro hfr.1 hfr.2.1) | (have hFRb : _ ≤ _ := hfr.1) | skip); replace FR := Sm.mk (And.intro hfr FR.out); clear hfr; refine Sm.out ?_)
        | (refine Two.mk ?_ ?_)
        | (refine Cs.mk ?_; intro hcs; first | exact False.elim hcs | (exfalso; omega) | (refine Sm.out ?_))
        | go_step
        | omega
        | (simp only [maxLen_eq]; omega)
      (refine OutQ.drop _ _ (perm2t _ _ _) (by simp only [resv, ZK, look, loadv, loadn, loadnm, load1, load1m, hget, ↓reduceIte, Nat.reduceEqDiff, Nat.reduceAdd, Nat.reduceMul, Nat.reduceLeDiff, Nat.reduceLT, reduceCtorEq, TFTxZ, FR.out]) ⟨(by simp only [resv, resA, ZK, look, loadv, loadn, loadnm, load1, load1m, hget, ↓reduceIte, Nat.reduceEqDiff, Nat.reduceAdd, Nat.reduceMul, Nat.reduceLeDiff, Nat.reduceLT, reduceCtorEq, TFTxZ, FR.out]; first | done | rfl), rfl⟩)
    · have eM : M = mach s' (o ++ out) (rF ys (i + w)) := by rw [hMi]; rfl
      first | (have FRx := FR; clear FRx) | (have FR : Sm (¬ ((1 : Nat) = 0)) := Sm.mk Nat.one_ne_zero)
      repeat' first
        | (refine Sm.mk ?_; try simp -dsimp only [ZK, rvc, drawF, headN, pureH, stp, dvc, calleeOf, gcall, pev, eff, newB, okd, og, ogs, ogo, ogp, slv, bltv, opd, litv, strip, one, both, putE, St.put, look, gdOf, gdv, picka, pickv, pickw, binv, bini, bins, binb, binp, binq, isSlT, bina, shp, eqCells, unv, convv, nilv, faddv, addp, idxav, idxp, load1, load1m, loadn, loadnm, loadv, hget, hset, hrep, hdel, slicev, bnd, shift1, lenv, capv, IntKind.bits, extractv, fieldv, indexv, min2v, max2v, mkiv, cellsA, fillA, buildv, stC, oneC, rowMB, intsA, plN, appE, appZ, appC, appNZ, appNC, VwL, srcC, srcZ, srcM, isBoolT, isPtrT, isSliceT, uOk, Value.oneCell', Nat.reducePow, Int.reducePow, Nat.reduceAdd, Nat.reduceMul, Nat.reduceSub, Nat.reduceLT, Nat.reduceLeDiff, Nat.reduceEqDiff, Nat.reduceBEq, Nat.reduceDiv, Nat.reduceMod, ↓reduceIte, reduceCtorEq, Int.reduceToNat, Int.reduceLT, Int.reduceLE, TFTxZ, SeqQ, BlkQ, LoopQ, BodyQ, hd, hs, hnn, List.append_nil, List.cons_append, List.nil_append, FR.out])
        | (refine CallV.exM (cT) (pmz _) (fun h => Sm.out ?_))
        | (refine WP.seq fun K hK => ?_)
        | (refine WP.region (rvc_sound _ _ (Sm.out ?_)))
        | (refine WP.drawK rfl mixed (by decide +kernel) (Sm.out ?_))
        | (refine Ob.mk ?_; focus (first | assumption | omega | decide | trivial | (intro hob; simp only [hob, ZF]; done) | (intros; (repeat' refine And.intro ?_ ?_) <;> first | assumption | omega | trivial | decide) | (intros; simp only [ZE] at *; (repeat' refine And.intro ?_ ?_) <;> first | assumption | omega | trivial)))
        | (refine And.intro (Ob.out ?_) ?_)
        | (refine WP.block ?_)
        | (refine WP.cond rfl (fun hc => ?_) (fun hc => ?_) <;> (try simp only [ZC, reduceCtorEq, ZD] at hc) <;> (try (exact absurd hc (by decide))) <;> (try (exfalso; omega)))
        | ((first | refine WP.skip ?_ | refine WP.exit ?_); simp only [SeqQ, BlkQ, LoopQ, BodyQ, ↓reduceIte, Nat.reduceEqDiff, reduceCtorEq, look, true_and])
        | (refine WP.ret (Sm.out ?_))
        | (first | refine ExG.no (Sm.out ?_) | refine Or.inl (ExG.no (Sm.out ?_)) | refine Or.inl (And.intro (fun hg => absurd hg (by decide)) (ExG.no (Sm.out ?_))))
        | (refine Rt.mk ?_; refine And.intro ?_ ?_ <;> (intro hg; first | exact absurd hg (by decide) | refine Sm.out ?_))
        | (refine Nu.mk ?_; first | (fail_if_success (have := nb1)); intro nb1 | (fail_if_success (have := nb2)); intro nb2 | (fail_if_success (have := nb3)); intro nb3 | (fail_if_success (have := nb4)); intro nb4 | intro nbz)
        | (refine Fr.mk ?_; intro hfr; (first | (have hFRb : _ ≤ _ ∧ _ ≤ _ := And.intro hfr.1 hfr.2.1) | (have hFRb : _ ≤ _ := hfr.1) | skip); replace FR := Sm.mk (And.intro hfr FR.out); clear hfr; refine Sm.out ?_)
        | (refine Two.mk ?_ ?_)
        | (refine Cs.mk ?_; intro hcs; first | exact False.elim hcs | (exfalso; omega) | (refine Sm.out ?_))
        | go_step
        | omega
        | (simp only [maxLen_eq]; omega)
      exact ⟨⟨i + w, s', o ++ out, h.1⟩, ⟨by simp only; omega, hok'.1, by simp only [List.length_append]; omega, hob.app hby, h.2, hgn, eM⟩, by simp only; omega, Sub.of_env [] (pmz _) (by simp [look])⟩
  · obtain rfl : i = ys.length := by omega
    rw [rF_end (Nat.le_refl _)] at hMi
    have eM : M = some (s, o) := hMi
    have cN := cnt_ct o hob (by omega)
    have cS := liftF [(0, .zs .u8 FZ 256 n0), (1, .zs .u8 AZ 32 n1), (nb2, .obj (.stringIter B ys.length))] (str_r (st := s.st) (nn := s.nn) (ct := s.ct) hq (by omega))
    obtain ⟨st, nn, ct⟩ := s
    simp only at cS
    obtain ⟨eAv, hEA⟩ : ∃ x, x = eA nb1 o := ⟨_, rfl⟩
    obtain ⟨eSv, hES⟩ : ∃ x, x = eS q o := ⟨_, rfl⟩
    rw [← hEA, ← hES] at cS
    clear hEA hES
    obtain ⟨N, hN⟩ : ∃ N, N = (rn o).length := ⟨_, rfl⟩
    rw [← hN] at cN
    by_cases h4 : st = 4
    case neg =>
      have e : unqE (some (⟨st, nn, ct⟩, o)) = ([], 5) := by rw [unqE_some]; exact if_pos h4
      have k4 : (st != 4) = true := bne_iff_ne.2 h4
      unfold stz at cS cN
      obtain ⟨Z, hZ⟩ : ∃ Z, Z = bstr o := ⟨_, rfl⟩
      rw [← hZ] at cS cN
      first | (have FRx := FR; clear FRx) | (have FR : Sm (¬ ((1 : Nat) = 0)) := Sm.mk Nat.one_ne_zero)
      repeat' first
        | (refine Sm.mk ?_; try simp -dsimp only [ZK, rvc, drawF, headN, pureH, stp, dvc, calleeOf, gcall, pev, eff, newB, okd, og, ogs, ogo, ogp, slv, bltv, opd, litv, strip, one, both, putE, St.put, look, gdOf, gdv, picka, pickv, pickw, binv, bini, bins, binb, binp, binq, isSlT, bina, shp, eqCells, unv, convv, nilv, faddv, addp, idxav, idxp, load1, load1m, loadn, loadnm, loadv, hget, hset, hrep, hdel, slicev, bnd, shift1, lenv, capv, IntKind.bits, extractv, fieldv, indexv, min2v, max2v, mkiv, cellsA, fillA, buildv, stC, oneC, rowMB, intsA, plN, appE, appZ, appC, appNZ, appNC, VwL, srcC, srcZ, srcM, isBoolT, isPtrT, isSliceT, uOk, Value.oneCell', Nat.reducePow, Int.reducePow, Nat.reduceAdd, Nat.reduceMul, Nat.reduceSub, Nat.reduceLT, Nat.reduceLeDiff, Nat.reduceEqDiff, Nat.reduceBEq, Nat.reduceDiv, Nat.reduceMod, ↓reduceIte, reduceCtorEq, Int.reduceToNat, Int.reduceLT, Int.reduceLE, TFTxZ, SeqQ, BlkQ, LoopQ, BodyQ, hs, hnn, k4, List.append_nil, List.cons_append, List.nil_append, FR.out])
        | (refine CallV.updM (cS) (pmz _) (Sm.out ?_))
        | (first | refine CallV.fn (cN) (Sm.out ?_) | refine ExF.mk (cN) (Sm.out ?_) | refine ExG.mk (fun _ => cN) (Sm.out ?_) | refine ExG.mkJ (fun _ => cN) (Sm.out ?_) | refine ExG.mkI (Ob.out ?_) (fun _ => cN) (Sm.out ?_))
        | (refine WP.seq fun K hK => ?_)
        | (refine WP.region (rvc_sound _ _ (Sm.out ?_)))
        | (refine WP.drawK rfl mixed (by decide +kernel) (Sm.out ?_))
        | (refine Ob.mk ?_; focus (first | assumption | omega | decide | trivial | (intro hob; simp only [hob, ZF]; done) | (intros; (repeat' refine And.intro ?_ ?_) <;> first | assumption | omega | trivial | decide) | (intros; simp only [ZE] at *; (repeat' refine And.intro ?_ ?_) <;> first | assumption | omega | trivial)))
        | (refine And.intro (Ob.out ?_) ?_)
        | (refine WP.block ?_)
        | (refine WP.cond rfl (fun hc => ?_) (fun hc => ?_) <;> (try simp only [ZC, reduceCtorEq, ZD] at hc) <;> (try (exact absurd hc (by decide))) <;> (try (exfalso; omega)))
        | ((first | refine WP.skip ?_ | refine WP.exit ?_); simp only [SeqQ, BlkQ, LoopQ, BodyQ, ↓reduceIte, Nat.reduceEqDiff, reduceCtorEq, look, true_and])
        | (refine WP.ret (Sm.out ?_))
        | (first | refine ExG.no (Sm.out ?_) | refine Or.inl (ExG.no (Sm.out ?_)) | refine Or.inl (And.intro (fun hg => absurd hg (by decide)) (ExG.no (Sm.out ?_))))
        | (refine Rt.mk ?_; refine And.intro ?_ ?_ <;> (intro hg; first | exact absurd hg (by decide) | refine Sm.out ?_))
        | (refine Nu.mk ?_; first | (fail_if_success (have := nb1)); intro nb1 | (fail_if_success (have := nb2)); intro nb2 | (fail_if_success (have := nb3)); intro nb3 | (fail_if_success (have := nb4)); intro nb4 | intro nbz)
        | (refine Fr.mk ?_; intro hfr; (first | (have hFRb : _ ≤ _ ∧ _ ≤ _ := And.intro hfr.1 hfr.2.1) | (have hFRb : _ ≤ _ := hfr.1) | skip); replace FR := Sm.mk (And.intro hfr FR.out); clear hfr; refine Sm.out ?_)
        | (refine Two.mk ?_ ?_)
        | (refine Cs.mk ?_; intro hcs; first | exact False.elim hcs | (exfalso; omega) | (refine Sm.out ?_))
        | go_step
        | omega
        | (simp only [maxLen_eq]; omega)
      rw [eM, e]
      subst hZ
      (refine OutQ.drop _ _ (perm2 (by simp only [hget, hdel, ↓reduceIte, if_true, if_false, FR.out]; first | done | rfl) (by simp only [hget, hdel, ↓reduceIte, if_true, if_false, FR.out]; first | done | rfl)) (by simp only [resv, ZK, look, loadv, loadn, loadnm, load1, load1m, hget, ↓reduceIte, Nat.reduceEqDiff, Nat.reduceAdd, Nat.reduceMul, Nat.reduceLeDiff, Nat.reduceLT, reduceCtorEq, TFTxZ, FR.out]) ⟨(by simp only [resv, resA, ZK, look, loadv, loadn, loadnm, load1, load1m, hget, ↓reduceIte, Nat.reduceEqDiff, Nat.reduceAdd, Nat.reduceMul, Nat.reduceLeDiff, Nat.reduceLT, reduceCtorEq, TFTxZ, FR.out]; first | done | rfl), rfl⟩)
    have k4 : (st != 4) = false := by rw [h4]; rfl
    by_cases h12 : 120 < N
    · have e : unqE (some (⟨st, nn, ct⟩, o)) = ([], 9) := by rw [unqE_some]; exact (if_neg (fun h => h h4)).trans (if_pos (by rw [← hN]; exact h12))
      have kN : decide ((N : Int) > 120) = true := decide_eq_true (by omega)
      unfold stz at cS cN
      obtain ⟨Z, hZ⟩ : ∃ Z, Z = bstr o := ⟨_, rfl⟩
      rw [← hZ] at cS cN
      first | (have FRx := FR; clear FRx) | (have FR : Sm (¬ ((1 : Nat) = 0)) := Sm.mk Nat.one_ne_zero)
      repeat' first
        | (refine Sm.mk ?_; try simp -dsimp only [ZK, rvc, drawF, headN, pureH, stp, dvc, calleeOf, gcall, pev, eff, newB, okd, og, ogs, ogo, ogp, slv, bltv, opd, litv, strip, one, both, putE, St.put, look, gdOf, gdv, picka, pickv, pickw, binv, bini, bins, binb, binp, binq, isSlT, bina, shp, eqCells, unv, convv, nilv, faddv, addp, idxav, idxp, load1, load1m, loadn, loadnm, loadv, hget, hset, hrep, hdel, slicev, bnd, shift1, lenv, capv, IntKind.bits, extractv, fieldv, indexv, min2v, max2v, mkiv, cellsA, fillA, buildv, stC, oneC, rowMB, intsA, plN, appE, appZ, appC, appNZ, appNC, VwL, srcC, srcZ, srcM, isBoolT, isPtrT, isSliceT, uOk, Value.oneCell', Nat.reducePow, Int.reducePow, Nat.reduceAdd, Nat.reduceMul, Nat.reduceSub, Nat.reduceLT, Nat.reduceLeDiff, Nat.reduceEqDiff, Nat.reduceBEq, Nat.reduceDiv, Nat.reduceMod, ↓reduceIte, reduceCtorEq, Int.reduceToNat, Int.reduceLT, Int.reduceLE, TFTxZ, SeqQ, BlkQ, LoopQ, BodyQ, hs, hnn, k4, kN, List.append_nil, List.cons_append, List.nil_append, FR.out])
        | (refine CallV.updM (cS) (pmz _) (Sm.out ?_))
        | (first | refine CallV.fn (cN) (Sm.out ?_) | refine ExF.mk (cN) (Sm.out ?_) | refine ExG.mk (fun _ => cN) (Sm.out ?_) | refine ExG.mkJ (fun _ => cN) (Sm.out ?_) | refine ExG.mkI (Ob.out ?_) (fun _ => cN) (Sm.out ?_))
        | (refine WP.seq fun K hK => ?_)
        | (refine WP.region (rvc_sound _ _ (Sm.out ?_)))
        | (refine WP.drawK rfl mixed (by decide +kernel) (Sm.out ?_))
        | (refine Ob.mk ?_; focus (first | assumption | omega | decide | trivial | (intro hob; simp only [hob, ZF]; done) | (intros; (repeat' refine And.intro ?_ ?_) <;> first | assumption | omega | trivial | decide) | (intros; simp only [ZE] at *; (repeat' refine And.intro ?_ ?_) <;> first | assumption | omega | trivial)))
        | (refine And.intro (Ob.out ?_) ?_)
        | (refine WP.block ?_)
        | (refine WP.cond rfl (fun hc => ?_) (fun hc => ?_) <;> (try simp only [ZC, reduceCtorEq, ZD] at hc) <;> (try (exact absurd hc (by decide))) <;> (try (exfalso; omega)))
        | ((first | refine WP.skip ?_ | refine WP.exit ?_); simp only [SeqQ, BlkQ, LoopQ, BodyQ, ↓reduceIte, Nat.reduceEqDiff, reduceCtorEq, look, true_and])
        | (refine WP.ret (Sm.out ?_))
        | (first | refine ExG.no (Sm.out ?_) | refine Or.inl (ExG.no (Sm.out ?_)) | refine Or.inl (And.intro (fun hg => absurd hg (by decide)) (ExG.no (Sm.out ?_))))
        | (refine Rt.mk ?_; refine And.intro ?_ ?_ <;> (intro hg; first | exact absurd hg (by decide) | refine Sm.out ?_))
        | (refine Nu.mk ?_; first | (fail_if_success (have := nb1)); intro nb1 | (fail_if_success (have := nb2)); intro nb2 | (fail_if_success (have := nb3)); intro nb3 | (fail_if_success (have := nb4)); intro nb4 | intro nbz)
        | (refine Fr.mk ?_; intro hfr; (first | (have hFRb : _ ≤ _ ∧ _ ≤ _ := And.intro hfr.1 hfr.2.1) | (have hFRb : _ ≤ _ := hfr.1) | skip); replace FR := Sm.mk (And.intro hfr FR.out); clear hfr; refine Sm.out ?_)
        | (refine Two.mk ?_ ?_)
        | (refine Cs.mk ?_; intro hcs; first | exact False.elim hcs | (exfalso; omega) | (refine Sm.out ?_))
        | go_step
        | omega
        | (simp only [maxLen_eq]; omega)
      rw [eM, e]
      subst hZ
      (refine OutQ.drop _ _ (perm2 (by simp only [hget, hdel, ↓reduceIte, if_true, if_false, FR.out]; first | done | rfl) (by simp only [hget, hdel, ↓reduceIte, if_true, if_false, FR.out]; first | done | rfl)) (by simp only [resv, ZK, look, loadv, loadn, loadnm, load1, load1m, hget, ↓reduceIte, Nat.reduceEqDiff, Nat.reduceAdd, Nat.reduceMul, Nat.reduceLeDiff, Nat.reduceLT, reduceCtorEq, TFTxZ, FR.out]) ⟨(by simp only [resv, resA, ZK, look, loadv, loadn, loadnm, load1, load1m, hget, ↓reduceIte, Nat.reduceEqDiff, Nat.reduceAdd, Nat.reduceMul, Nat.reduceLeDiff, Nat.reduceLT, reduceCtorEq, TFTxZ, FR.out]; first | done | rfl), rfl⟩)
    · have e : unqE (some (⟨st, nn, ct⟩, o)) = (o, 0) := by rw [unqE_some]; exact (if_neg (fun h => h h4)).trans (if_neg (by rw [← hN]; exact h12))
      have kN : decide ((N : Int) > 120) = false := decide_eq_false (by omega)
      unfold stz at cS cN
      obtain ⟨Z, hZ⟩ : ∃ Z, Z = bstr o := ⟨_, rfl⟩
      rw [← hZ] at cS cN
      first | (have FRx := FR; clear FRx) | (have FR : Sm (¬ ((1 : Nat) = 0)) := Sm.mk Nat.one_ne_zero)
      repeat' first
        | (refine Sm.mk ?_; try simp -dsimp only [ZK, rvc, drawF, headN, pureH, stp, dvc, calleeOf, gcall, pev, eff, newB, okd, og, ogs, ogo, ogp, slv, bltv, opd, litv, strip, one, both, putE, St.put, look, gdOf, gdv, picka, pickv, pickw, binv, bini, bins, binb, binp, binq, isSlT, bina, shp, eqCells, unv, convv, nilv, faddv, addp, idxav, idxp, load1, load1m, loadn, loadnm, loadv, hget, hset, hrep, hdel, slicev, bnd, shift1, lenv, capv, IntKind.bits, extractv, fieldv, indexv, min2v, max2v, mkiv, cellsA, fillA, buildv, stC, oneC, rowMB, intsA, plN, appE, appZ, appC, appNZ, appNC, VwL, srcC, srcZ, srcM, isBoolT, isPtrT, isSliceT, uOk, Value.oneCell', Nat.reducePow, Int.reducePow, Nat.reduceAdd, Nat.reduceMul, Nat.reduceSub, Nat.reduceLT, Nat.reduceLeDiff, Nat.reduceEqDiff, Nat.reduceBEq, Nat.reduceDiv, Nat.reduceMod, ↓reduceIte, reduceCtorEq, Int.reduceToNat, Int.reduceLT, Int.reduceLE, TFTxZ, SeqQ, BlkQ, LoopQ, BodyQ, hs, hnn, k4, kN, List.append_nil, List.cons_append, List.nil_append, FR.out])
        | (refine CallV.updM (cS) (pmz _) (Sm.out ?_))
        | (first | refine CallV.fn (cN) (Sm.out ?_) | refine ExF.mk (cN) (Sm.out ?_) | refine ExG.mk (fun _ => cN) (Sm.out ?_) | refine ExG.mkJ (fun _ => cN) (Sm.out ?_) | refine ExG.mkI (Ob.out ?_) (fun _ => cN) (Sm.out ?_))
        | (refine WP.seq fun K hK => ?_)
        | (refine WP.region (rvc_sound _ _ (Sm.out ?_)))
        | (refine WP.drawK rfl mixed (by decide +kernel) (Sm.out ?_))
        | (refine Ob.mk ?_; focus (first | assumption | omega | decide | trivial | (intro hob; simp only [hob, ZF]; done) | (intros; (repeat' refine And.intro ?_ ?_) <;> first | assumption | omega | trivial | decide) | (intros; simp only [ZE] at *; (repeat' refine And.intro ?_ ?_) <;> first | assumption | omega | trivial)))
        | (refine And.intro (Ob.out ?_) ?_)
        | (refine WP.block ?_)
        | (refine WP.cond rfl (fun hc => ?_) (fun hc => ?_) <;> (try simp only [ZC, reduceCtorEq, ZD] at hc) <;> (try (exact absurd hc (by decide))) <;> (try (exfalso; omega)))
        | ((first | refine WP.skip ?_ | refine WP.exit ?_); simp only [SeqQ, BlkQ, LoopQ, BodyQ, ↓reduceIte, Nat.reduceEqDiff, reduceCtorEq, look, true_and])
        | (refine WP.ret (Sm.out ?_))
        | (first | refine ExG.no (Sm.out ?_) | refine Or.inl (ExG.no (Sm.out ?_)) | refine Or.inl (And.intro (fun hg => absurd hg (by decide)) (ExG.no (Sm.out ?_))))
        | (refine Rt.mk ?_; refine And.intro ?_ ?_ <;> (intro hg; first | exact absurd hg (by decide) | refine Sm.out ?_))
        | (refine Nu.mk ?_; first | (fail_if_success (have := nb1)); intro nb1 | (fail_if_success (have := nb2)); intro nb2 | (fail_if_success (have := nb3)); intro nb3 | (fail_if_success (have := nb4)); intro nb4 | intro nbz)
        | (refine Fr.mk ?_; intro hfr; (first | (have hFRb : _ ≤ _ ∧ _ ≤ _ := And.intro hfr.1 hfr.2.1) | (have hFRb : _ ≤ _ := hfr.1) | skip); replace FR := Sm.mk (And.intro hfr FR.out); clear hfr; refine Sm.out ?_)
        | (refine Two.mk ?_ ?_)
        | (refine Cs.mk ?_; intro hcs; first | exact False.elim hcs | (exfalso; omega) | (refine Sm.out ?_))
        | go_step
        | omega
        | (simp only [maxLen_eq]; omega)
      rw [eM, e]
      subst hZ
      (refine OutQ.drop _ _ (perm2 (by simp only [hget, hdel, ↓reduceIte, if_true, if_false, FR.out]; first | done | rfl) (by simp only [hget, hdel, ↓reduceIte, if_true, if_false, FR.out]; first | done | rfl)) (by simp only [resv, ZK, look, loadv, loadn, loadnm, load1, load1m, hget, ↓reduceIte, Nat.reduceEqDiff, Nat.reduceAdd, Nat.reduceMul, Nat.reduceLeDiff, Nat.reduceLT, reduceCtorEq, TFTxZ, FR.out]) ⟨(by simp only [resv, resA, ZK, look, loadv, loadn, loadnm, load1, load1m, hget, ↓reduceIte, Nat.reduceEqDiff, Nat.reduceAdd, Nat.reduceMul, Nat.reduceLeDiff, Nat.reduceLT, reduceCtorEq, TFTxZ, FR.out]; first | done | rfl), rfl⟩)
end Go.Proofs.YtjdjpgjjnajjhaaDoor
namespace Go.Proofs.YtjdjpgjjnajjhaaDoor
open Go
set_option linter.unusedVariables false
set_option linter.unusedSimpArgs false
theorem elR_enc {r : Int} (hr : Gr r) (T : List Int) : elR (enc8 r ++ T) 0 = (r, (enc8 r).length) := by
  obtain ⟨h0, h1, h2⟩ := hr
  by_cases c1 : r < 128
  · have e : enc8 r = [r] := by unfold enc8; rw [if_pos c1]
    rw [e]
    have g : ([r] ++ T).getD 0 0 = r := rfl
    unfold elR
    rw [g, if_pos c1]; rfl
  by_cases c2 : r < 2048
  · have e : enc8 r = [192 + r / 64, 128 + r % 64] := by unfold enc8; rw [if_neg c1, if_pos c2]
    rw [e]
    obtain ⟨zs, hzs⟩ : ∃ zs, zs = [192 + r / 64, 128 + r % 64] ++ T := ⟨_, rfl⟩
    have g0 : zs.getD 0 0 = 192 + r / 64 := by rw [hzs]; rfl
    have g1 : zs.getD (0 + 1) 0 = 128 + r % 64 := by rw [hzs]; rfl
    have hl : 2 ≤ zs.length := by rw [hzs]; simp
    rw [← hzs]
    have hn : nB (192 + r / 64) = 1 := by unfold nB; rw [if_pos (by omega)]
    have hcp : cP zs 0 1 1 = r := by
      rw [cP_succ, g1]; show 64 * (zs.getD 0 0 - 192) + _ - _ = _; rw [g0]; omega
    have ha : allC zs 0 1 := fun k k1 k2 => by rcases (show k = 1 by omega) with rfl; exact ⟨by omega, by omega, by omega⟩
    unfold elR
    rw [g0, hn, if_neg (by omega), hcp, if_pos ⟨by decide, ha, by show (128 : Int) ≤ _; omega, h1, h2⟩]; rfl
  by_cases c3 : r < 65536
  · have e : enc8 r = [224 + r / 4096, 128 + r / 64 % 64, 128 + r % 64] := by unfold enc8; rw [if_neg c1, if_neg c2, if_pos c3]
    rw [e]
    obtain ⟨zs, hzs⟩ : ∃ zs, zs = [224 + r / 4096, 128 + r / 64 % 64, 128 + r % 64] ++ T := ⟨_, rfl⟩
    have g0 : zs.getD 0 0 = 224 + r / 4096 := by rw [hzs]; rfl
    have g1 : zs.getD (0 + 1) 0 = 128 + r / 64 % 64 := by rw [hzs]; rfl
    have g2 : zs.getD (0 + (1 + 1)) 0 = 128 + r % 64 := by rw [hzs]; rfl
    have g2' : zs.getD (0 + 2) 0 = 128 + r % 64 := by rw [hzs]; rfl
    have hl : 3 ≤ zs.length := by rw [hzs]; simp
    rw [← hzs]
    have hn : nB (224 + r / 4096) = 2 := by unfold nB; rw [if_neg (by omega), if_pos (by omega)]
    have hcp : cP zs 0 2 2 = r := by
      rw [cP_succ, cP_succ, g1, g2]; show 64 * (64 * (zs.getD 0 0 - 224) + _ - _) + _ - _ = _; rw [g0]; omega
    have ha : allC zs 0 2 := fun k k1 k2 => by rcases (by omega : k = 1 ∨ k = 2) with rfl | rfl; exact ⟨by omega, by omega, by omega⟩; exact ⟨by omega, by omega, by omega⟩
    unfold elR
    rw [g0, hn, if_neg (by omega), hcp, if_pos ⟨by decide, ha, by show (2048 : Int) ≤ _; omega, h1, h2⟩]; rfl
  · have e : enc8 r = [240 + r / 262144, 128 + r / 4096 % 64, 128 + r / 64 % 64, 128 + r % 64] := by unfold enc8; rw [if_neg c1, if_neg c2, if_neg c3]
    rw [e]
    obtain ⟨zs, hzs⟩ : ∃ zs, zs = [240 + r / 262144, 128 + r / 4096 % 64, 128 + r / 64 % 64, 128 + r % 64] ++ T := ⟨_, rfl⟩
    have g0 : zs.getD 0 0 = 240 + r / 262144 := by rw [hzs]; rfl
    have g1 : zs.getD (0 + 1) 0 = 128 + r / 4096 % 64 := by rw [hzs]; rfl
    have g2 : zs.getD (0 + (1 + 1)) 0 = 128 + r / 64 % 64 := by rw [hzs]; rfl
    have g3 : zs.getD (0 + (1 + 1 + 1)) 0 = 128 + r % 64 := by rw [hzs]; rfl
    have g2' : zs.getD (0 + 2) 0 = 128 + r / 64 % 64 := by rw [hzs]; rfl
    have g3' : zs.getD (0 + 3) 0 = 128 + r % 64 := by rw [hzs]; rfl
    have hl : 4 ≤ zs.length := by rw [hzs]; simp
    rw [← hzs]
    have hn : nB (240 + r / 262144) = 3 := by unfold nB; rw [if_neg (by omega), if_neg (by omega), if_pos (by omega)]
    have hcp : cP zs 0 3 3 = r := by
      rw [cP_succ, cP_succ, cP_succ, g1, g2, g3]; show 64 * (64 * (64 * (zs.getD 0 0 - 240) + _ - _) + _ - _) + _ - _ = _; rw [g0]; omega
    have ha : allC zs 0 3 := fun k k1 k2 => by rcases (by omega : k = 1 ∨ k = 2 ∨ k = 3) with rfl | rfl | rfl; exact ⟨by omega, by omega, by omega⟩; exact ⟨by omega, by omega, by omega⟩; exact ⟨by omega, by omega, by omega⟩
    unfold elR
    rw [g0, hn, if_neg (by omega), hcp, if_pos ⟨by decide, ha, by show (65536 : Int) ≤ _; omega, h1, h2⟩]; rfl
theorem rn_enc {r : Int} (hr : Gr r) (T : List Int) : rn (enc8 r ++ T) = r :: rn T := by
  have hl := enc8_len r
  have h : 0 < (enc8 r ++ T).length := by rw [List.length_append]; omega
  rw [← rF_zero, rF_step h, elR_enc hr, ← rn_drop, Nat.zero_add, List.drop_left]
theorem rn_nil : rn [] = [] := rfl
theorem rn_encs {l : List Int} (hl : ∀ r ∈ l, Gr r) (T : List Int) : rn (l.flatMap enc8 ++ T) = l ++ rn T := by
  induction l with
  | nil => rfl
  | cons r l ih => rw [List.flatMap_cons, List.append_assoc, rn_enc (hl r (by simp)), ih fun x hx => hl x (by simp [hx])]; rfl
theorem rn_encs0 {l : List Int} (hl : ∀ r ∈ l, Gr r) : rn (l.flatMap enc8) = l := by
  have := rn_encs hl []
  rwa [List.append_nil, rn_nil, List.append_nil] at this
theorem drop_cons2 {zs : List Int} {i : Nat} (h : i < zs.length) : zs.drop i = zs.getD i 0 :: zs.drop (i + 1) := by
  rw [List.drop_eq_getElem_cons h, List.getD_eq_getElem?_getD, List.getElem?_eq_getElem h, Option.getD_some]
theorem enc_el {zs : List Int} (hb : By zs) {i : Nat} (h : i < zs.length) (hg : (elR zs i).1 ≠ -1) : zs.drop i = enc8 (elR zs i).1 ++ zs.drop (i + (elR zs i).2) := by
  have hbi := hb i h
  unfold elR at hg ⊢
  by_cases h0 : zs.getD i 0 < 128
  · rw [if_pos h0] at hg ⊢
    have e : enc8 (zs.getD i 0) = [zs.getD i 0] := by unfold enc8; rw [if_pos h0]
    simp only
    rw [e, drop_cons2 h]; rfl
  rw [if_neg h0] at hg ⊢
  by_cases hC : nB (zs.getD i 0) ≠ 0 ∧ allC zs i (nB (zs.getD i 0)) ∧ fitR (nB (zs.getD i 0)) (cP zs i (nB (zs.getD i 0)) (nB (zs.getD i 0)))
  case neg => rw [if_neg hC] at hg; exact absurd rfl hg
  rw [if_pos hC]
  simp only
  clear hg
  obtain ⟨hn0, ha, hf⟩ := hC
  obtain ⟨n, hn⟩ : ∃ n, n = nB (zs.getD i 0) := ⟨_, rfl⟩
  rw [← hn] at hn0 ha hf ⊢
  have d0 := drop_cons2 h
  have hcase : (n = 1 ∧ 192 ≤ zs.getD i 0 ∧ zs.getD i 0 < 224) ∨ (n = 2 ∧ 224 ≤ zs.getD i 0 ∧ zs.getD i 0 < 240) ∨ (n = 3 ∧ 240 ≤ zs.getD i 0 ∧ zs.getD i 0 < 248) := by
    unfold nB at hn
    split at hn
    · exact .inl ⟨hn, by omega, by omega⟩
    · split at hn
      · exact .inr (.inl ⟨hn, by omega, by omega⟩)
      · split at hn
        · exact .inr (.inr ⟨hn, by omega, by omega⟩)
        · exact absurd hn hn0
  rcases hcase with ⟨rfl, b1, b2⟩ | ⟨rfl, b1, b2⟩ | ⟨rfl, b1, b2⟩
  · have a1 := ha 1 (by omega) (by omega)
    obtain ⟨hf1, hf2, hf3⟩ := hf
    have hcp : cP zs i 1 1 = 64 * (zs.getD i 0 - 192) + zs.getD (i + 1) 0 - 128 := rfl
    have d1 := drop_cons2 a1.1
    have hf1 : (128 : Int) ≤ cP zs i 1 1 := hf1
    obtain ⟨a1, a2, a3⟩ := a1
    obtain ⟨z, hz⟩ : ∃ z, z = zs.getD i 0 := ⟨_, rfl⟩
    obtain ⟨y, hy⟩ : ∃ z, z = zs.getD (i + 1) 0 := ⟨_, rfl⟩
    rw [← hz, ← hy] at hcp
    rw [← hz] at b1 b2 d0
    rw [← hy] at a2 a3 d1
    have e : enc8 (cP zs i 1 1) = [z, y] := by
      unfold enc8
      rw [if_neg (by omega), if_pos (by omega)]
      rw [show 192 + cP zs i 1 1 / 64 = z by omega, show 128 + cP zs i 1 1 % 64 = y by omega]
    rw [e, d0, d1]; rfl
  · have a1 := ha 1 (by omega) (by omega)
    have a4 := ha 2 (by omega) (by omega)
    obtain ⟨hf1, hf2, hf3⟩ := hf
    have hcp : cP zs i 2 2 = 64 * (64 * (zs.getD i 0 - 224) + zs.getD (i + 1) 0 - 128) + zs.getD (i + 2) 0 - 128 := rfl
    have d1 := drop_cons2 a1.1
    have d2 := drop_cons2 a4.1
    have hf1 : (2048 : Int) ≤ cP zs i 2 2 := hf1
    obtain ⟨a1, a2, a3⟩ := a1
    obtain ⟨a4, a5, a6⟩ := a4
    obtain ⟨z, hz⟩ : ∃ z, z = zs.getD i 0 := ⟨_, rfl⟩
    obtain ⟨y, hy⟩ : ∃ z, z = zs.getD (i + 1) 0 := ⟨_, rfl⟩
    obtain ⟨x, hx⟩ : ∃ z, z = zs.getD (i + 2) 0 := ⟨_, rfl⟩
    rw [← hz, ← hy, ← hx] at hcp
    rw [← hz] at b1 b2 d0
    rw [← hy] at a2 a3 d1
    rw [← hx] at a5 a6 d2
    have e : enc8 (cP zs i 2 2) = [z, y, x] := by
      unfold enc8
      rw [if_neg (by omega), if_neg (by omega), if_pos (by omega)]
      rw [show 224 + cP zs i 2 2 / 4096 = z by omega, show 128 + cP zs i 2 2 / 64 % 64 = y by omega, show 128 + cP zs i 2 2 % 64 = x by omega]
    rw [e, d0, d1, d2]; rfl
  · have a1 := ha 1 (by omega) (by omega)
    have a4 := ha 2 (by omega) (by omega)
    have a7 := ha 3 (by omega) (by omega)
    obtain ⟨hf1, hf2, hf3⟩ := hf
    have hcp : cP zs i 3 3 = 64 * (64 * (64 * (zs.getD i 0 - 240) + zs.getD (i + 1) 0 - 128) + zs.getD (i + 2) 0 - 128) + zs.getD (i + 3) 0 - 128 := rfl
    have d1 := drop_cons2 a1.1
    have d2 := drop_cons2 a4.1
    have d3 := drop_cons2 a7.1
    have hf1 : (65536 : Int) ≤ cP zs i 3 3 := hf1
    obtain ⟨a1, a2, a3⟩ := a1
    obtain ⟨a4, a5, a6⟩ := a4
    obtain ⟨a7, a8, a9⟩ := a7
    obtain ⟨z, hz⟩ : ∃ z, z = zs.getD i 0 := ⟨_, rfl⟩
    obtain ⟨y, hy⟩ : ∃ z, z = zs.getD (i + 1) 0 := ⟨_, rfl⟩
    obtain ⟨x, hx⟩ : ∃ z, z = zs.getD (i + 2) 0 := ⟨_, rfl⟩
    obtain ⟨w, hw⟩ : ∃ z, z = zs.getD (i + 3) 0 := ⟨_, rfl⟩
    rw [← hz, ← hy, ← hx, ← hw] at hcp
    rw [← hz] at b1 b2 d0
    rw [← hy] at a2 a3 d1
    rw [← hx] at a5 a6 d2
    rw [← hw] at a8 a9 d3
    have e : enc8 (cP zs i 3 3) = [z, y, x, w] := by
      unfold enc8
      rw [if_neg (by omega), if_neg (by omega), if_neg (by omega)]
      rw [show 240 + cP zs i 3 3 / 262144 = z by omega, show 128 + cP zs i 3 3 / 4096 % 64 = y by omega, show 128 + cP zs i 3 3 / 64 % 64 = x by omega, show 128 + cP zs i 3 3 % 64 = w by omega]
    rw [e, d0, d1, d2, d3]; rfl
theorem gr_rF {zs : List Int} (hb : By zs) : ∀ k i, zs.length - i ≤ k → Gd zs i → ∀ r ∈ rF zs i, Gr r := by
  intro k
  induction k with
  | zero => intro i hk _ r hr; rw [rF_end (by omega)] at hr; cases hr
  | succ k ih =>
    intro i hk hg r hr
    by_cases h : i < zs.length
    · have hw := elR_w zs i
      have hg2 := gd_el hb h hg
      rw [rF_step h] at hr
      rcases List.mem_cons.1 hr with e | e
      · rw [e]; exact hg2.1
      · exact ih _ (by omega) hg2.2 r e
    · rw [rF_end (by omega)] at hr; cases hr
theorem gr_rn {zs : List Int} (hb : By zs) (hg : Gd zs 0) : ∀ r ∈ rn zs, Gr r := by
  rw [← rF_zero]; exact gr_rF hb _ 0 (Nat.le_refl _) hg
theorem gdB_iff {zs : List Int} : gdB zs = true ↔ Gd zs 0 := by
  unfold gdB
  exact ⟨fun h => @of_decide_eq_true _ (Classical.propDecidable _) h, fun h => @decide_eq_true _ (Classical.propDecidable _) h⟩
theorem s_bstr (s : ByteArray) : s = bstr (ub s.data.toList) ∧ By (ub s.data.toList) := by
  constructor
  · apply ByteArray.ext
    apply Array.ext'
    simp only [bstr, ub, List.map_map]
    have e2 : s.data.toList.map ((fun n : Int => UInt8.ofNat n.toNat) ∘ fun b : UInt8 => (b.toNat : Int)) = s.data.toList.map id := List.map_congr_left fun b _ => by simp
    rw [e2, List.map_id]
  · intro i hi
    rw [ub_getD]
    have := ((s.data.toList).getD i 0).toNat_lt
    omega
end Go.Proofs.YtjdjpgjjnajjhaaDoor
namespace Go.Proofs.YtjdjpgjjnajjhaaDoor
open Go
set_option linter.unusedVariables false
set_option linter.unusedSimpArgs false
theorem TFTyF : (((((type_of% tyc4) ∧ (type_of% zmb4)) ∧ ((type_of% tyc5) ∧ (type_of% zmb5))) ∧ (((type_of% tyc9) ∧ (type_of% zmb9)) ∧ ((type_of% tyc21) ∧ ((type_of% zmb21) ∧ (type_of% tyc35))))) ∧ ((((type_of% elt35) ∧ (type_of% mkz35)) ∧ ((type_of% apT35) ∧ ((type_of% elk35) ∧ (type_of% zmb35)))) ∧ (((type_of% Tryd.underlying4) ∧ (type_of% Tryd.underlying5)) ∧ ((type_of% Tryd.underlying9) ∧ ((type_of% Tryd.underlying21) ∧ (type_of% Tryd.underlying35)))))) :=
  ⟨⟨⟨⟨tyc4, zmb4⟩, ⟨tyc5, zmb5⟩⟩, ⟨⟨tyc9, zmb9⟩, ⟨tyc21, ⟨zmb21, tyc35⟩⟩⟩⟩, ⟨⟨⟨elt35, mkz35⟩, ⟨apT35, ⟨elk35, zmb35⟩⟩⟩, ⟨⟨Tryd.underlying4, Tryd.underlying5⟩, ⟨Tryd.underlying9, ⟨Tryd.underlying21, Tryd.underlying35⟩⟩⟩⟩⟩
theorem rdig_ct (r : Int) (hr : -2147483648 ≤ r ∧ r ≤ 2147483647) : ACt Tryd.prog 32 [iv .i32 r] [] (Fn (iv .i32 (hexV r))) := by
  have start : ∀ P : Prop, P → P := fun _ h => h
  by_cases h1 : 48 ≤ r ∧ r ≤ 57
  · have e : hexV r = r - 48 := by unfold hexV; rw [if_pos h1]
    have w : IntKind.i32.wrap (r - 48) = r - 48 := wrap_i32 (by omega) (by omega)
    have k1 : decide (r ≥ 48) = true := decide_eq_true h1.1
    have k2 : decide (r ≤ 57) = true := decide_eq_true h1.2
    rw [e]
    refine ACt.intro Tryd.func32 rfl (by kernel_rfl) (by simp [Tryd.ntmps32]) (fun cx => ?_)
    simp only [argE, Tryd.ntmps32, Tryd.results32]
    first | (have FRx := FR; clear FRx) | (have FR : Sm (¬ ((1 : Nat) = 0)) := Sm.mk Nat.one_ne_zero)
    repeat' first
      | (refine Sm.mk ?_; try simp -dsimp only [ZK, rvc, drawF, headN, pureH, stp, dvc, calleeOf, gcall, pev, eff, newB, okd, og, ogs, ogo, ogp, slv, bltv, opd, litv, strip, one, both, putE, St.put, look, gdOf, gdv, picka, pickv, pickw, binv, bini, bins, binb, binp, binq, isSlT, bina, shp, eqCells, unv, convv, nilv, faddv, addp, idxav, idxp, load1, load1m, loadn, loadnm, loadv, hget, hset, hrep, hdel, slicev, bnd, shift1, lenv, capv, IntKind.bits, extractv, fieldv, indexv, min2v, max2v, mkiv, cellsA, fillA, buildv, stC, oneC, rowMB, intsA, plN, appE, appZ, appC, appNZ, appNC, VwL, srcC, srcZ, srcM, isBoolT, isPtrT, isSliceT, uOk, Value.oneCell', Nat.reducePow, Int.reducePow, Nat.reduceAdd, Nat.reduceMul, Nat.reduceSub, Nat.reduceLT, Nat.reduceLeDiff, Nat.reduceEqDiff, Nat.reduceBEq, Nat.reduceDiv, Nat.reduceMod, ↓reduceIte, reduceCtorEq, Int.reduceToNat, Int.reduceLT, Int.reduceLE, TFTyF, SeqQ, BlkQ, LoopQ, BodyQ, w, k1, k2, FR.out])
      | (refine WP.seq fun K hK => ?_)
      | (refine WP.region (rvc_sound _ _ (Sm.out ?_)))
      | (refine WP.drawK rfl mixed (by decide +kernel) (Sm.out ?_))
      | (refine Ob.mk ?_; focus (first | assumption | omega | decide | trivial | (intro hob; simp only [hob, ZF]; done) | (intros; (repeat' refine And.intro ?_ ?_) <;> first | assumption | omega | trivial | decide) | (intros; simp only [ZE] at *; (repeat' refine And.intro ?_ ?_) <;> first | assumption | omega | trivial)))
      | (refine And.intro (Ob.out ?_) ?_)
      | (refine WP.block ?_)
      | (refine WP.cond rfl (fun hc => ?_) (fun hc => ?_) <;> (try simp only [ZC, reduceCtorEq, ZD] at hc) <;> (try (exact absurd hc (by decide))) <;> (try (exfalso; omega)))
      | ((first | refine WP.skip ?_ | refine WP.exit ?_); simp only [SeqQ, BlkQ, LoopQ, BodyQ, ↓reduceIte, Nat.reduceEqDiff, reduceCtorEq, look, true_and])
      | (refine WP.ret (Sm.out ?_))
      | (first | refine ExG.no (Sm.out ?_) | refine Or.inl (ExG.no (Sm.out ?_)) | refine Or.inl (And.intro (fun hg => absurd hg (by decide)) (ExG.no (Sm.out ?_))))
      | (refine Rt.mk ?_; refine And.intro ?_ ?_ <;> (intro hg; first | exact absurd hg (by decide) | refine Sm.out ?_))
      | (refine Nu.mk ?_; first | (fail_if_success (have := nb1)); intro nb1 | (fail_if_success (have := nb2)); intro nb2 | (fail_if_success (have := nb3)); intro nb3 | (fail_if_success (have := nb4)); intro nb4 | intro nbz)
      | (refine Fr.mk ?_; intro hfr; (first | (have hFRb : _ ≤ _ ∧ _ ≤ _ := And.intro hfr.1 hfr.2.1) | (have hFRb : _ ≤ _ := hfr.1) | skip); replace FR := Sm.mk (And.intro hfr FR.out); clear hfr; refine Sm.out ?_)
      | (refine Two.mk ?_ ?_)
      | (refine Cs.mk ?_; intro hcs; first | exact False.elim hcs | (exfalso; omega) | (refine Sm.out ?_))
      | go_step
      | omega
      | (simp only [maxLen_eq]; omega)
    (refine OutQ.all ?_ ?_; (focus (simp only [resv, ZK, look, loadv, loadn, loadnm, load1, load1m, hget, ↓reduceIte, Nat.reduceEqDiff, Nat.reduceAdd, Nat.reduceMul, Nat.reduceLeDiff, Nat.reduceLT, reduceCtorEq, TFTyF, w])); (try simp only [resv, resA, Fn, ZK, look, loadv, loadn, loadnm, load1, load1m, hget, ↓reduceIte, Nat.reduceEqDiff, Nat.reduceAdd, Nat.reduceMul, Nat.reduceLeDiff, Nat.reduceLT, reduceCtorEq, TFTyF, w]); (try simp [resA, Fn, look, w]))
  by_cases h2 : 97 ≤ r ∧ r ≤ 102
  · have e : hexV r = r - 87 := by unfold hexV; rw [if_neg h1, if_pos h2]
    have w : IntKind.i32.wrap (r - 87) = r - 87 := wrap_i32 (by omega) (by omega)
    have k0 : decide (r ≥ 48) = true := decide_eq_true (by omega)
    have k9 : decide (r ≤ 57) = false := decide_eq_false (by omega)
    have k1 : decide (r ≥ 97) = true := decide_eq_true h2.1
    have k2 : decide (r ≤ 102) = true := decide_eq_true h2.2
    rw [e]
    refine ACt.intro Tryd.func32 rfl (by kernel_rfl) (by simp [Tryd.ntmps32]) (fun cx => ?_)
    simp only [argE, Tryd.ntmps32, Tryd.results32]
    first | (have FRx := FR; clear FRx) | (have FR : Sm (¬ ((1 : Nat) = 0)) := Sm.mk Nat.one_ne_zero)
    repeat' first
      | (refine Sm.mk ?_; try simp -dsimp only [ZK, rvc, drawF, headN, pureH, stp, dvc, calleeOf, gcall, pev, eff, newB, okd, og, ogs, ogo, ogp, slv, bltv, opd, litv, strip, one, both, putE, St.put, look, gdOf, gdv, picka, pickv, pickw, binv, bini, bins, binb, binp, binq, isSlT, bina, shp, eqCells, unv, convv, nilv, faddv, addp, idxav, idxp, load1, load1m, loadn, loadnm, loadv, hget, hset, hrep, hdel, slicev, bnd, shift1, lenv, capv, IntKind.bits, extractv, fieldv, indexv, min2v, max2v, mkiv, cellsA, fillA, buildv, stC, oneC, rowMB, intsA, plN, appE, appZ, appC, appNZ, appNC, VwL, srcC, srcZ, srcM, isBoolT, isPtrT, isSliceT, uOk, Value.oneCell', Nat.reducePow, Int.reducePow, Nat.reduceAdd, Nat.reduceMul, Nat.reduceSub, Nat.reduceLT, Nat.reduceLeDiff, Nat.reduceEqDiff, Nat.reduceBEq, Nat.reduceDiv, Nat.reduceMod, ↓reduceIte, reduceCtorEq, Int.reduceToNat, Int.reduceLT, Int.reduceLE, TFTyF, SeqQ, BlkQ, LoopQ, BodyQ, w, k0, k9, k1, k2, FR.out])
      | (refine WP.seq fun K hK => ?_)
      | (refine WP.region (rvc_sound _ _ (Sm.out ?_)))
      | (refine WP.drawK rfl mixed (by decide +kernel) (Sm.out ?_))
      | (refine Ob.mk ?_; focus (first | assumption | omega | decide | trivial | (intro hob; simp only [hob, ZF]; done) | (intros; (repeat' refine And.intro ?_ ?_) <;> first | assumption | omega | trivial | decide) | (intros; simp only [ZE] at *; (repeat' refine And.intro ?_ ?_) <;> first | assumption | omega | trivial)))
      | (refine And.intro (Ob.out ?_) ?_)
      | (refine WP.block ?_)
      | (refine WP.cond rfl (fun hc => ?_) (fun hc => ?_) <;> (try simp only [ZC, reduceCtorEq, ZD] at hc) <;> (try (exact absurd hc (by decide))) <;> (try (exfalso; omega)))
      | ((first | refine WP.skip ?_ | refine WP.exit ?_); simp only [SeqQ, BlkQ, LoopQ, BodyQ, ↓reduceIte, Nat.reduceEqDiff, reduceCtorEq, look, true_and])
      | (refine WP.ret (Sm.out ?_))
      | (first | refine ExG.no (Sm.out ?_) | refine Or.inl (ExG.no (Sm.out ?_)) | refine Or.inl (And.intro (fun hg => absurd hg (by decide)) (ExG.no (Sm.out ?_))))
      | (refine Rt.mk ?_; refine And.intro ?_ ?_ <;> (intro hg; first | exact absurd hg (by decide) | refine Sm.out ?_))
      | (refine Nu.mk ?_; first | (fail_if_success (have := nb1)); intro nb1 | (fail_if_success (have := nb2)); intro nb2 | (fail_if_success (have := nb3)); intro nb3 | (fail_if_success (have := nb4)); intro nb4 | intro nbz)
      | (refine Fr.mk ?_; intro hfr; (first | (have hFRb : _ ≤ _ ∧ _ ≤ _ := And.intro hfr.1 hfr.2.1) | (have hFRb : _ ≤ _ := hfr.1) | skip); replace FR := Sm.mk (And.intro hfr FR.out); clear hfr; refine Sm.out ?_)
      | (refine Two.mk ?_ ?_)
      | (refine Cs.mk ?_; intro hcs; first | exact False.elim hcs | (exfalso; omega) | (refine Sm.out ?_))
      | go_step
      | omega
      | (simp only [maxLen_eq]; omega)
    (refine OutQ.all ?_ ?_; (focus (simp only [resv, ZK, look, loadv, loadn, loadnm, load1, load1m, hget, ↓reduceIte, Nat.reduceEqDiff, Nat.reduceAdd, Nat.reduceMul, Nat.reduceLeDiff, Nat.reduceLT, reduceCtorEq, TFTyF, w])); (try simp only [resv, resA, Fn, ZK, look, loadv, loadn, loadnm, load1, load1m, hget, ↓reduceIte, Nat.reduceEqDiff, Nat.reduceAdd, Nat.reduceMul, Nat.reduceLeDiff, Nat.reduceLT, reduceCtorEq, TFTyF, w]); (try simp [resA, Fn, look, w]))
  have e : hexV r = -1 := by unfold hexV; rw [if_neg h1, if_neg h2]
  rw [e]
  obtain ⟨x, y, k1, k2, hxy⟩ : ∃ x y : Bool, decide (r ≥ 48) = x ∧ decide (r ≤ 57) = y ∧ (x && y) = false := ⟨_, _, rfl, rfl, by
    rw [← Bool.decide_and]; exact decide_eq_false h1⟩
  obtain ⟨u, v, k3, k4, huv⟩ : ∃ x y : Bool, decide (r ≥ 97) = x ∧ decide (r ≤ 102) = y ∧ (x && y) = false := ⟨_, _, rfl, rfl, by
    rw [← Bool.decide_and]; exact decide_eq_false h2⟩
  clear h1 h2 e hr
  cases x <;> cases y <;> cases u <;> cases v
  all_goals first | (cases hxy; done) | (cases huv; done) | skip
  all_goals
    refine ACt.intro Tryd.func32 rfl (by kernel_rfl) (by simp [Tryd.ntmps32]) (fun cx => ?_)
    simp only [argE, Tryd.ntmps32, Tryd.results32]
  all_goals (
      first | (have FRx := FR; clear FRx) | (have FR : Sm (¬ ((1 : Nat) = 0)) := Sm.mk Nat.one_ne_zero)
      repeat' first
        | (refine Sm.mk ?_; try simp -dsimp only [ZK, rvc, drawF, headN, pureH, stp, dvc, calleeOf, gcall, pev, eff, newB, okd, og, ogs, ogo, ogp, slv, bltv, opd, litv, strip, one, both, putE, St.put, look, gdOf, gdv, picka, pickv, pickw, binv, bini, bins, binb, binp, binq, isSlT, bina, shp, eqCells, unv, convv, nilv, faddv, addp, idxav, idxp, load1, load1m, loadn, loadnm, loadv, hget, hset, hrep, hdel, slicev, bnd, shift1, lenv, capv, IntKind.bits, extractv, fieldv, indexv, min2v, max2v, mkiv, cellsA, fillA, buildv, stC, oneC, rowMB, intsA, plN, appE, appZ, appC, appNZ, appNC, VwL, srcC, srcZ, srcM, isBoolT, isPtrT, isSliceT, uOk, Value.oneCell', Nat.reducePow, Int.reducePow, Nat.reduceAdd, Nat.reduceMul, Nat.reduceSub, Nat.reduceLT, Nat.reduceLeDiff, Nat.reduceEqDiff, Nat.reduceBEq, Nat.reduceDiv, Nat.reduceMod, ↓reduceIte, reduceCtorEq, Int.reduceToNat, Int.reduceLT, Int.reduceLE, TFTyF, SeqQ, BlkQ, LoopQ, BodyQ, k1, k2, k3, k4, FR.out])
        | (refine WP.seq fun K hK => ?_)
        | (refine WP.region (rvc_sound _ _ (Sm.out ?_)))
        | (refine WP.drawK rfl mixed (by decide +kernel) (Sm.out ?_))
        | (refine Ob.mk ?_; focus (first | assumption | omega | decide | trivial | (intro hob; simp only [hob, ZF]; done) | (intros; (repeat' refine And.intro ?_ ?_) <;> first | assumption | omega | trivial | decide) | (intros; simp only [ZE] at *; (repeat' refine And.intro ?_ ?_) <;> first | assumption | omega | trivial)))
        | (refine And.intro (Ob.out ?_) ?_)
        | (refine WP.block ?_)
        | (refine WP.cond rfl (fun hc => ?_) (fun hc => ?_) <;> (try simp only [ZC, reduceCtorEq, ZD] at hc) <;> (try (exact absurd hc (by decide))) <;> (try (exfalso; omega)))
        | ((first | refine WP.skip ?_ | refine WP.exit ?_); simp only [SeqQ, BlkQ, LoopQ, BodyQ, ↓reduceIte, Nat.reduceEqDiff, reduceCtorEq, look, true_and])
        | (refine WP.ret (Sm.out ?_))
        | (first | refine ExG.no (Sm.out ?_) | refine Or.inl (ExG.no (Sm.out ?_)) | refine Or.inl (And.intro (fun hg => absurd hg (by decide)) (ExG.no (Sm.out ?_))))
        | (refine Rt.mk ?_; refine And.intro ?_ ?_ <;> (intro hg; first | exact absurd hg (by decide) | refine Sm.out ?_))
        | (refine Nu.mk ?_; first | (fail_if_success (have := nb1)); intro nb1 | (fail_if_success (have := nb2)); intro nb2 | (fail_if_success (have := nb3)); intro nb3 | (fail_if_success (have := nb4)); intro nb4 | intro nbz)
        | (refine Fr.mk ?_; intro hfr; (first | (have hFRb : _ ≤ _ ∧ _ ≤ _ := And.intro hfr.1 hfr.2.1) | (have hFRb : _ ≤ _ := hfr.1) | skip); replace FR := Sm.mk (And.intro hfr FR.out); clear hfr; refine Sm.out ?_)
        | (refine Two.mk ?_ ?_)
        | (refine Cs.mk ?_; intro hcs; first | exact False.elim hcs | (exfalso; omega) | (refine Sm.out ?_))
        | go_step
        | omega
        | (simp only [maxLen_eq]; omega))
  all_goals (refine OutQ.all ?_ ?_; (focus (simp only [resv, ZK, look, loadv, loadn, loadnm, load1, load1m, hget, ↓reduceIte, Nat.reduceEqDiff, Nat.reduceAdd, Nat.reduceMul, Nat.reduceLeDiff, Nat.reduceLT, reduceCtorEq, TFTyF])); (try simp only [resv, resA, Fn, ZK, look, loadv, loadn, loadnm, load1, load1m, hget, ↓reduceIte, Nat.reduceEqDiff, Nat.reduceAdd, Nat.reduceMul, Nat.reduceLeDiff, Nat.reduceLT, reduceCtorEq, TFTyF]); (try simp [resA, Fn, look]))
theorem rby1 (r : Int) (h : 0 ≤ r ∧ r < 128) : ACt Tryd.prog 31 [iv .i32 r] [] (Fn (stz [r])) := by
  have k1 : decide (r < 128) = true := decide_eq_true h.2
  have w : IntKind.u8.wrap r = r := wrap_u8 (by omega) (by omega)
  refine ACt.intro Tryd.func31 rfl (by kernel_rfl) (by simp [Tryd.ntmps31]) (fun cx => ?_)
  simp only [argE, Tryd.ntmps31, Tryd.results31]
  first | (have FRx := FR; clear FRx) | (have FR : Sm (¬ ((1 : Nat) = 0)) := Sm.mk Nat.one_ne_zero)
  repeat' first
    | (refine Sm.mk ?_; try simp -dsimp only [ZK, rvc, drawF, headN, pureH, stp, dvc, calleeOf, gcall, pev, eff, newB, okd, og, ogs, ogo, ogp, slv, bltv, opd, litv, strip, one, both, putE, St.put, look, gdOf, gdv, picka, pickv, pickw, binv, bini, bins, binb, binp, binq, isSlT, bina, shp, eqCells, unv, convv, nilv, faddv, addp, idxav, idxp, load1, load1m, loadn, loadnm, loadv, hget, hset, hrep, hdel, slicev, bnd, shift1, lenv, capv, IntKind.bits, extractv, fieldv, indexv, min2v, max2v, mkiv, cellsA, fillA, buildv, stC, oneC, rowMB, intsA, plN, appE, appZ, appC, appNZ, appNC, VwL, srcC, srcZ, srcM, isBoolT, isPtrT, isSliceT, uOk, Value.oneCell', Nat.reducePow, Int.reducePow, Nat.reduceAdd, Nat.reduceMul, Nat.reduceSub, Nat.reduceLT, Nat.reduceLeDiff, Nat.reduceEqDiff, Nat.reduceBEq, Nat.reduceDiv, Nat.reduceMod, ↓reduceIte, reduceCtorEq, Int.reduceToNat, Int.reduceLT, Int.reduceLE, TFTyF, SeqQ, BlkQ, LoopQ, BodyQ, k1, w, FR.out])
    | (refine WP.seq fun K hK => ?_)
    | (refine WP.region (rvc_sound _ _ (Sm.out ?_)))
    | (refine WP.drawK rfl mixed (by decide +kernel) (Sm.out ?_))
    | (refine Ob.mk ?_; focus (first | assumption | omega | decide | trivial | (intro hob; simp only [hob, ZF]; done) | (intros; (repeat' refine And.intro ?_ ?_) <;> first | assumption | omega | trivial | decide) | (intros; simp only [ZE] at *; (repeat' refine And.intro ?_ ?_) <;> first | assumption | omega | trivial)))
    | (refine And.intro (Ob.out ?_) ?_)
    | (refine WP.block ?_)
    | (refine WP.cond rfl (fun hc => ?_) (fun hc => ?_) <;> (try simp only [ZC, reduceCtorEq, ZD] at hc) <;> (try (exact absurd hc (by decide))) <;> (try (exfalso; omega)))
    | ((first | refine WP.skip ?_ | refine WP.exit ?_); simp only [SeqQ, BlkQ, LoopQ, BodyQ, ↓reduceIte, Nat.reduceEqDiff, reduceCtorEq, look, true_and])
    | (refine WP.ret (Sm.out ?_))
    | (first | refine ExG.no (Sm.out ?_) | refine Or.inl (ExG.no (Sm.out ?_)) | refine Or.inl (And.intro (fun hg => absurd hg (by decide)) (ExG.no (Sm.out ?_))))
    | (refine Rt.mk ?_; refine And.intro ?_ ?_ <;> (intro hg; first | exact absurd hg (by decide) | refine Sm.out ?_))
    | (refine Nu.mk ?_; first | (fail_if_success (have := nb1)); intro nb1 | (fail_if_success (have := nb2)); intro nb2 | (fail_if_success (have := nb3)); intro nb3 | (fail_if_success (have := nb4)); intro nb4 | intro nbz)
    | (refine Fr.mk ?_; intro hfr; (first | (have hFRb : _ ≤ _ ∧ _ ≤ _ := And.intro hfr.1 hfr.2.1) | (have hFRb : _ ≤ _ := hfr.1) | skip); replace FR := Sm.mk (And.intro hfr FR.out); clear hfr; refine Sm.out ?_)
    | (refine Two.mk ?_ ?_)
    | (refine Cs.mk ?_; intro hcs; first | exact False.elim hcs | (exfalso; omega) | (refine Sm.out ?_))
    | go_step
    | omega
    | (simp only [maxLen_eq]; omega)
  (refine OutQ.all ?_ ?_; (focus (simp only [resv, ZK, look, loadv, loadn, loadnm, load1, load1m, hget, ↓reduceIte, Nat.reduceEqDiff, Nat.reduceAdd, Nat.reduceMul, Nat.reduceLeDiff, Nat.reduceLT, reduceCtorEq, TFTyF, w])); (try simp only [resv, resA, Fn, ZK, look, loadv, loadn, loadnm, load1, load1m, hget, ↓reduceIte, Nat.reduceEqDiff, Nat.reduceAdd, Nat.reduceMul, Nat.reduceLeDiff, Nat.reduceLT, reduceCtorEq, TFTyF, w]); (try simp [resA, Fn, look, w]))
theorem tdvN (x k : Int) (h : 0 ≤ x) : Int.tdiv x k = x / k := Int.tdiv_eq_ediv_of_nonneg h
theorem tmdN (x k : Int) (h : 0 ≤ x) : Int.tmod x k = x % k := Int.tmod_eq_emod_of_nonneg h
theorem rby2 (r a b : Int) (h : 128 ≤ r ∧ r < 2048) (ha : a = r / 64) (hb : b = r % 64) : ACt Tryd.prog 31 [iv .i32 r] [] (Fn (stz [192 + a, 128 + b])) := by
  have k1 : decide (r < 128) = false := decide_eq_false (by omega)
  have k2 : decide (r < 2048) = true := decide_eq_true (by omega)
  have q1 : Int.tdiv r 64 = a := by rw [ha]; exact tdvN _ _ (by omega)
  have q2 : Int.tmod r 64 = b := by rw [hb]; exact tmdN _ _ (by omega)
  have v1 : IntKind.i32.wrap a = a := wrap_i32 (by omega) (by omega)
  have v2 : IntKind.i32.wrap b = b := wrap_i32 (by omega) (by omega)
  have w1 : IntKind.i32.wrap (192 + a) = 192 + a := wrap_i32 (by omega) (by omega)
  have w2 : IntKind.i32.wrap (128 + b) = 128 + b := wrap_i32 (by omega) (by omega)
  have u1 : IntKind.u8.wrap (192 + a) = 192 + a := wrap_u8 (by omega) (by omega)
  have u2 : IntKind.u8.wrap (128 + b) = 128 + b := wrap_u8 (by omega) (by omega)
  refine ACt.intro Tryd.func31 rfl (by kernel_rfl) (by simp [Tryd.ntmps31]) (fun cx => ?_)
  simp only [argE, Tryd.ntmps31, Tryd.results31]
  first | (have FRx := FR; clear FRx) | (have FR : Sm (¬ ((1 : Nat) = 0)) := Sm.mk Nat.one_ne_zero)
  repeat' first
    | (refine Sm.mk ?_; try simp -dsimp only [ZK, rvc, drawF, headN, pureH, stp, dvc, calleeOf, gcall, pev, eff, newB, okd, og, ogs, ogo, ogp, slv, bltv, opd, litv, strip, one, both, putE, St.put, look, gdOf, gdv, picka, pickv, pickw, binv, bini, bins, binb, binp, binq, isSlT, bina, shp, eqCells, unv, convv, nilv, faddv, addp, idxav, idxp, load1, load1m, loadn, loadnm, loadv, hget, hset, hrep, hdel, slicev, bnd, shift1, lenv, capv, IntKind.bits, extractv, fieldv, indexv, min2v, max2v, mkiv, cellsA, fillA, buildv, stC, oneC, rowMB, intsA, plN, appE, appZ, appC, appNZ, appNC, VwL, srcC, srcZ, srcM, isBoolT, isPtrT, isSliceT, uOk, Value.oneCell', Nat.reducePow, Int.reducePow, Nat.reduceAdd, Nat.reduceMul, Nat.reduceSub, Nat.reduceLT, Nat.reduceLeDiff, Nat.reduceEqDiff, Nat.reduceBEq, Nat.reduceDiv, Nat.reduceMod, ↓reduceIte, reduceCtorEq, Int.reduceToNat, Int.reduceLT, Int.reduceLE, TFTyF, SeqQ, BlkQ, LoopQ, BodyQ, k1, k2, q1, q2, v1, v2, w1, w2, u1, u2, FR.out])
    | (refine WP.seq fun K hK => ?_)
    | (refine WP.region (rvc_sound _ _ (Sm.out ?_)))
    | (refine WP.drawK rfl mixed (by decide +kernel) (Sm.out ?_))
    | (refine Ob.mk ?_; focus (first | assumption | omega | decide | trivial | (intro hob; simp only [hob, ZF]; done) | (intros; (repeat' refine And.intro ?_ ?_) <;> first | assumption | omega | trivial | decide) | (intros; simp only [ZE] at *; (repeat' refine And.intro ?_ ?_) <;> first | assumption | omega | trivial)))
    | (refine And.intro (Ob.out ?_) ?_)
    | (refine WP.block ?_)
    | (refine WP.cond rfl (fun hc => ?_) (fun hc => ?_) <;> (try simp only [ZC, reduceCtorEq, ZD] at hc) <;> (try (exact absurd hc (by decide))) <;> (try (exfalso; omega)))
    | ((first | refine WP.skip ?_ | refine WP.exit ?_); simp only [SeqQ, BlkQ, LoopQ, BodyQ, ↓reduceIte, Nat.reduceEqDiff, reduceCtorEq, look, true_and])
    | (refine WP.ret (Sm.out ?_))
    | (first | refine ExG.no (Sm.out ?_) | refine Or.inl (ExG.no (Sm.out ?_)) | refine Or.inl (And.intro (fun hg => absurd hg (by decide)) (ExG.no (Sm.out ?_))))
    | (refine Rt.mk ?_; refine And.intro ?_ ?_ <;> (intro hg; first | exact absurd hg (by decide) | refine Sm.out ?_))
    | (refine Nu.mk ?_; first | (fail_if_success (have := nb1)); intro nb1 | (fail_if_success (have := nb2)); intro nb2 | (fail_if_success (have := nb3)); intro nb3 | (fail_if_success (have := nb4)); intro nb4 | intro nbz)
    | (refine Fr.mk ?_; intro hfr; (first | (have hFRb : _ ≤ _ ∧ _ ≤ _ := And.intro hfr.1 hfr.2.1) | (have hFRb : _ ≤ _ := hfr.1) | skip); replace FR := Sm.mk (And.intro hfr FR.out); clear hfr; refine Sm.out ?_)
    | (refine Two.mk ?_ ?_)
    | (refine Cs.mk ?_; intro hcs; first | exact False.elim hcs | (exfalso; omega) | (refine Sm.out ?_))
    | go_step
    | omega
    | (simp only [maxLen_eq]; omega)
  (refine OutQ.all ?_ ?_; (focus (simp only [resv, ZK, look, loadv, loadn, loadnm, load1, load1m, hget, ↓reduceIte, Nat.reduceEqDiff, Nat.reduceAdd, Nat.reduceMul, Nat.reduceLeDiff, Nat.reduceLT, reduceCtorEq, TFTyF, u1, u2])); (try simp only [resv, resA, Fn, ZK, look, loadv, loadn, loadnm, load1, load1m, hget, ↓reduceIte, Nat.reduceEqDiff, Nat.reduceAdd, Nat.reduceMul, Nat.reduceLeDiff, Nat.reduceLT, reduceCtorEq, TFTyF, u1, u2]); (try simp [resA, Fn, look, u1, u2]))
theorem rby3 (r a c b d : Int) (h : 2048 ≤ r ∧ r < 65536) (ha : a = r / 4096) (hc : c = r / 64) (hd : d = c % 64) (hb : b = r % 64) : ACt Tryd.prog 31 [iv .i32 r] [] (Fn (stz [224 + a, 128 + d, 128 + b])) := by
  have k1 : decide (r < 128) = false := decide_eq_false (by omega)
  have k2 : decide (r < 2048) = false := decide_eq_false (by omega)
  have k3 : decide (r < 65536) = true := decide_eq_true (by omega)
  have q0 : Int.tdiv r 4096 = a := by rw [ha]; exact tdvN _ _ (by omega)
  have q1 : Int.tdiv r 64 = c := by rw [hc]; exact tdvN _ _ (by omega)
  have q2 : Int.tmod r 64 = b := by rw [hb]; exact tmdN _ _ (by omega)
  have q3 : Int.tmod c 64 = d := by rw [hd]; exact tmdN _ _ (by omega)
  have v1 : IntKind.i32.wrap a = a := wrap_i32 (by omega) (by omega)
  have v2 : IntKind.i32.wrap b = b := wrap_i32 (by omega) (by omega)
  have v3 : IntKind.i32.wrap c = c := wrap_i32 (by omega) (by omega)
  have v4 : IntKind.i32.wrap d = d := wrap_i32 (by omega) (by omega)
  have w1 : IntKind.i32.wrap (224 + a) = 224 + a := wrap_i32 (by omega) (by omega)
  have w2 : IntKind.i32.wrap (128 + b) = 128 + b := wrap_i32 (by omega) (by omega)
  have w3 : IntKind.i32.wrap (128 + d) = 128 + d := wrap_i32 (by omega) (by omega)
  have u1 : IntKind.u8.wrap (224 + a) = 224 + a := wrap_u8 (by omega) (by omega)
  have u2 : IntKind.u8.wrap (128 + b) = 128 + b := wrap_u8 (by omega) (by omega)
  have u3 : IntKind.u8.wrap (128 + d) = 128 + d := wrap_u8 (by omega) (by omega)
  refine ACt.intro Tryd.func31 rfl (by kernel_rfl) (by simp [Tryd.ntmps31]) (fun cx => ?_)
  simp only [argE, Tryd.ntmps31, Tryd.results31]
  first | (have FRx := FR; clear FRx) | (have FR : Sm (¬ ((1 : Nat) = 0)) := Sm.mk Nat.one_ne_zero)
  repeat' first
    | (refine Sm.mk ?_; try simp -dsimp only [ZK, rvc, drawF, headN, pureH, stp, dvc, calleeOf, gcall, pev, eff, newB, okd, og, ogs, ogo, ogp, slv, bltv, opd, litv, strip, one, both, putE, St.put, look, gdOf, gdv, picka, pickv, pickw, binv, bini, bins, binb, binp, binq, isSlT, bina, shp, eqCells, unv, convv, nilv, faddv, addp, idxav, idxp, load1, load1m, loadn, loadnm, loadv, hget, hset, hrep, hdel, slicev, bnd, shift1, lenv, capv, IntKind.bits, extractv, fieldv, indexv, min2v, max2v, mkiv, cellsA, fillA, buildv, stC, oneC, rowMB, intsA, plN, appE, appZ, appC, appNZ, appNC, VwL, srcC, srcZ, srcM, isBoolT, isPtrT, isSliceT, uOk, Value.oneCell', Nat.reducePow, Int.reducePow, Nat.reduceAdd, Nat.reduceMul, Nat.reduceSub, Nat.reduceLT, Nat.reduceLeDiff, Nat.reduceEqDiff, Nat.reduceBEq, Nat.reduceDiv, Nat.reduceMod, ↓reduceIte, reduceCtorEq, Int.reduceToNat, Int.reduceLT, Int.reduceLE, TFTyF, SeqQ, BlkQ, LoopQ, BodyQ, k1, k2, k3, q0, q1, q2, q3, v1, v2, v3, v4, w1, w2, w3, u1, u2, u3, FR.out])
    | (refine WP.seq fun K hK => ?_)
    | (refine WP.region (rvc_sound _ _ (Sm.out ?_)))
    | (refine WP.drawK rfl mixed (by decide +kernel) (Sm.out ?_))
    | (refine Ob.mk ?_; focus (first | assumption | omega | decide | trivial | (intro hob; simp only [hob, ZF]; done) | (intros; (repeat' refine And.intro ?_ ?_) <;> first | assumption | omega | trivial | decide) | (intros; simp only [ZE] at *; (repeat' refine And.intro ?_ ?_) <;> first | assumption | omega | trivial)))
    | (refine And.intro (Ob.out ?_) ?_)
    | (refine WP.block ?_)
    | (refine WP.cond rfl (fun hc => ?_) (fun hc => ?_) <;> (try simp only [ZC, reduceCtorEq, ZD] at hc) <;> (try (exact absurd hc (by decide))) <;> (try (exfalso; omega)))
    | ((first | refine WP.skip ?_ | refine WP.exit ?_); simp only [SeqQ, BlkQ, LoopQ, BodyQ, ↓reduceIte, Nat.reduceEqDiff, reduceCtorEq, look, true_and])
    | (refine WP.ret (Sm.out ?_))
    | (first | refine ExG.no (Sm.out ?_) | refine Or.inl (ExG.no (Sm.out ?_)) | refine Or.inl (And.intro (fun hg => absurd hg (by decide)) (ExG.no (Sm.out ?_))))
    | (refine Rt.mk ?_; refine And.intro ?_ ?_ <;> (intro hg; first | exact absurd hg (by decide) | refine Sm.out ?_))
    | (refine Nu.mk ?_; first | (fail_if_success (have := nb1)); intro nb1 | (fail_if_success (have := nb2)); intro nb2 | (fail_if_success (have := nb3)); intro nb3 | (fail_if_success (have := nb4)); intro nb4 | intro nbz)
    | (refine Fr.mk ?_; intro hfr; (first | (have hFRb : _ ≤ _ ∧ _ ≤ _ := And.intro hfr.1 hfr.2.1) | (have hFRb : _ ≤ _ := hfr.1) | skip); replace FR := Sm.mk (And.intro hfr FR.out); clear hfr; refine Sm.out ?_)
    | (refine Two.mk ?_ ?_)
    | (refine Cs.mk ?_; intro hcs; first | exact False.elim hcs | (exfalso; omega) | (refine Sm.out ?_))
    | go_step
    | omega
    | (simp only [maxLen_eq]; omega)
  (refine OutQ.all ?_ ?_; (focus (simp only [resv, ZK, look, loadv, loadn, loadnm, load1, load1m, hget, ↓reduceIte, Nat.reduceEqDiff, Nat.reduceAdd, Nat.reduceMul, Nat.reduceLeDiff, Nat.reduceLT, reduceCtorEq, TFTyF, u1, u2, u3])); (try simp only [resv, resA, Fn, ZK, look, loadv, loadn, loadnm, load1, load1m, hget, ↓reduceIte, Nat.reduceEqDiff, Nat.reduceAdd, Nat.reduceMul, Nat.reduceLeDiff, Nat.reduceLT, reduceCtorEq, TFTyF, u1, u2, u3]); (try simp [resA, Fn, look, u1, u2, u3]))
theorem rby4 (r a c b d e f : Int) (h : 65536 ≤ r ∧ r ≤ 1114111) (ha : a = r / 262144) (hc : c = r / 4096) (hd : d = c % 64) (he : e = r / 64) (hf : f = e % 64) (hb : b = r % 64) : ACt Tryd.prog 31 [iv .i32 r] [] (Fn (stz [240 + a, 128 + d, 128 + f, 128 + b])) := by
  have k1 : decide (r < 128) = false := decide_eq_false (by omega)
  have k2 : decide (r < 2048) = false := decide_eq_false (by omega)
  have k3 : decide (r < 65536) = false := decide_eq_false (by omega)
  have q0 : Int.tdiv r 262144 = a := by rw [ha]; exact tdvN _ _ (by omega)
  have q1 : Int.tdiv r 4096 = c := by rw [hc]; exact tdvN _ _ (by omega)
  have q4 : Int.tdiv r 64 = e := by rw [he]; exact tdvN _ _ (by omega)
  have q2 : Int.tmod r 64 = b := by rw [hb]; exact tmdN _ _ (by omega)
  have q3 : Int.tmod c 64 = d := by rw [hd]; exact tmdN _ _ (by omega)
  have q5 : Int.tmod e 64 = f := by rw [hf]; exact tmdN _ _ (by omega)
  have v1 : IntKind.i32.wrap a = a := wrap_i32 (by omega) (by omega)
  have v2 : IntKind.i32.wrap b = b := wrap_i32 (by omega) (by omega)
  have v3 : IntKind.i32.wrap c = c := wrap_i32 (by omega) (by omega)
  have v4 : IntKind.i32.wrap d = d := wrap_i32 (by omega) (by omega)
  have v5 : IntKind.i32.wrap e = e := wrap_i32 (by omega) (by omega)
  have v6 : IntKind.i32.wrap f = f := wrap_i32 (by omega) (by omega)
  have w1 : IntKind.i32.wrap (240 + a) = 240 + a := wrap_i32 (by omega) (by omega)
  have w2 : IntKind.i32.wrap (128 + b) = 128 + b := wrap_i32 (by omega) (by omega)
  have w3 : IntKind.i32.wrap (128 + d) = 128 + d := wrap_i32 (by omega) (by omega)
  have w4 : IntKind.i32.wrap (128 + f) = 128 + f := wrap_i32 (by omega) (by omega)
  have u1 : IntKind.u8.wrap (240 + a) = 240 + a := wrap_u8 (by omega) (by omega)
  have u2 : IntKind.u8.wrap (128 + b) = 128 + b := wrap_u8 (by omega) (by omega)
  have u3 : IntKind.u8.wrap (128 + d) = 128 + d := wrap_u8 (by omega) (by omega)
  have u4 : IntKind.u8.wrap (128 + f) = 128 + f := wrap_u8 (by omega) (by omega)
  refine ACt.intro Tryd.func31 rfl (by kernel_rfl) (by simp [Tryd.ntmps31]) (fun cx => ?_)
  simp only [argE, Tryd.ntmps31, Tryd.results31]
  first | (have FRx := FR; clear FRx) | (have FR : Sm (¬ ((1 : Nat) = 0)) := Sm.mk Nat.one_ne_zero)
  repeat' first
    | (refine Sm.mk ?_; try simp -dsimp only [ZK, rvc, drawF, headN, pureH, stp, dvc, calleeOf, gcall, pev, eff, newB, okd, og, ogs, ogo, ogp, slv, bltv, opd, litv, strip, one, both, putE, St.put, look, gdOf, gdv, picka, pickv, pickw, binv, bini, bins, binb, binp, binq, isSlT, bina, shp, eqCells, unv, convv, nilv, faddv, addp, idxav, idxp, load1, load1m, loadn, loadnm, loadv, hget, hset, hrep, hdel, slicev, bnd, shift1, lenv, capv, IntKind.bits, extractv, fieldv, indexv, min2v, max2v, mkiv, cellsA, fillA, buildv, stC, oneC, rowMB, intsA, plN, appE, appZ, appC, appNZ, appNC, VwL, srcC, srcZ, srcM, isBoolT, isPtrT, isSliceT, uOk, Value.oneCell', Nat.reducePow, Int.reducePow, Nat.reduceAdd, Nat.reduceMul, Nat.reduceSub, Nat.reduceLT, Nat.reduceLeDiff, Nat.reduceEqDiff, Nat.reduceBEq, Nat.reduceDiv, Nat.reduceMod, ↓reduceIte, reduceCtorEq, Int.reduceToNat, Int.reduceLT, Int.reduceLE, TFTyF, SeqQ, BlkQ, LoopQ, BodyQ, k1, k2, k3, q0, q1, q2, q3, q4, q5, v1, v2, v3, v4, v5, v6, w1, w2, w3, w4, u1, u2, u3, u4, FR.out])
    | (refine WP.seq fun K hK => ?_)
    | (refine WP.region (rvc_sound _ _ (Sm.out ?_)))
    | (refine WP.drawK rfl mixed (by decide +kernel) (Sm.out ?_))
    | (refine Ob.mk ?_; focus (first | assumption | omega | decide | trivial | (intro hob; simp only [hob, ZF]; done) | (intros; (repeat' refine And.intro ?_ ?_) <;> first | assumption | omega | trivial | decide) | (intros; simp only [ZE] at *; (repeat' refine And.intro ?_ ?_) <;> first | assumption | omega | trivial)))
    | (refine And.intro (Ob.out ?_) ?_)
    | (refine WP.block ?_)
    | (refine WP.cond rfl (fun hc => ?_) (fun hc => ?_) <;> (try simp only [ZC, reduceCtorEq, ZD] at hc) <;> (try (exact absurd hc (by decide))) <;> (try (exfalso; omega)))
    | ((first | refine WP.skip ?_ | refine WP.exit ?_); simp only [SeqQ, BlkQ, LoopQ, BodyQ, ↓reduceIte, Nat.reduceEqDiff, reduceCtorEq, look, true_and])
    | (refine WP.ret (Sm.out ?_))
    | (first | refine ExG.no (Sm.out ?_) | refine Or.inl (ExG.no (Sm.out ?_)) | refine Or.inl (And.intro (fun hg => absurd hg (by decide)) (ExG.no (Sm.out ?_))))
    | (refine Rt.mk ?_; refine And.intro ?_ ?_ <;> (intro hg; first | exact absurd hg (by decide) | refine Sm.out ?_))
    | (refine Nu.mk ?_; first | (fail_if_success (have := nb1)); intro nb1 | (fail_if_success (have := nb2)); intro nb2 | (fail_if_success (have := nb3)); intro nb3 | (fail_if_success (have := nb4)); intro nb4 | intro nbz)
    | (refine Fr.mk ?_; intro hfr; (first | (have hFRb : _ ≤ _ ∧ _ ≤ _ := And.intro hfr.1 hfr.2.1) | (have hFRb : _ ≤ _ := hfr.1) | skip); replace FR := Sm.mk (And.intro hfr FR.out); clear hfr; refine Sm.out ?_)
    | (refine Two.mk ?_ ?_)
    | (refine Cs.mk ?_; intro hcs; first | exact False.elim hcs | (exfalso; omega) | (refine Sm.out ?_))
    | go_step
    | omega
    | (simp only [maxLen_eq]; omega)
  (refine OutQ.all ?_ ?_; (focus (simp only [resv, ZK, look, loadv, loadn, loadnm, load1, load1m, hget, ↓reduceIte, Nat.reduceEqDiff, Nat.reduceAdd, Nat.reduceMul, Nat.reduceLeDiff, Nat.reduceLT, reduceCtorEq, TFTyF, u1, u2, u3, u4])); (try simp only [resv, resA, Fn, ZK, look, loadv, loadn, loadnm, load1, load1m, hget, ↓reduceIte, Nat.reduceEqDiff, Nat.reduceAdd, Nat.reduceMul, Nat.reduceLeDiff, Nat.reduceLT, reduceCtorEq, TFTyF, u1, u2, u3, u4]); (try simp [resA, Fn, look, u1, u2, u3, u4]))
theorem rbytes_ct (r : Int) (hr : Gr r) : ACt Tryd.prog 31 [iv .i32 r] [] (Fn (stz (enc8 r))) := by
  obtain ⟨h0, h1, h2⟩ := hr
  unfold enc8
  split
  · exact rby1 r ⟨h0, by omega⟩
  · split
    · exact rby2 r _ _ ⟨by omega, by omega⟩ rfl rfl
    · split
      · exact rby3 r _ _ _ _ ⟨by omega, by omega⟩ rfl rfl rfl rfl
      · exact rby4 r _ _ _ _ _ _ ⟨by omega, by omega⟩ rfl rfl rfl rfl rfl rfl
end Go.Proofs.YtjdjpgjjnajjhaaDoor
namespace Go.Proofs.YtjdjpgjjnajjhaaDoor
open Go
set_option linter.unusedVariables false
set_option linter.unusedSimpArgs false
/-- hex digits, six at most -/
def hexR : List Int → Nat → Int → Nat × Int × List Int
  | [], k, r => (k, r, [])
  | c :: T, k, r => if 0 ≤ hexV c ∧ k < 6 then hexR T (k + 1) (16 * r + hexV c) else (k, r, c :: T)
theorem hexR_cons (c : Int) (T : List Int) (k : Nat) (r : Int) : hexR (c :: T) k r = if 0 ≤ hexV c ∧ k < 6 then hexR T (k + 1) (16 * r + hexV c) else (k, r, c :: T) := rfl
theorem hexR_len : ∀ (V : List Int) (k : Nat) (r : Int), (hexR V k r).2.2.length ≤ V.length := by
  intro V
  induction V with
  | nil => intro k r; exact Nat.le_refl _
  | cons c T ih =>
    intro k r
    rw [hexR_cons]
    split
    · exact Nat.le_succ_of_le (ih _ _)
    · exact Nat.le_refl _
open Classical in
/-- what comes of hex digits -/
noncomputable def endR : Nat × Int × List Int → Option (Int × List Int)
  | (_, _, []) => none
  | (k, r, c :: W) => if c ≠ 125 ∨ k = 0 ∨ ¬ Gr r then none else some (r, W)
theorem endR_nil (k : Nat) (r : Int) : endR (k, r, []) = none := rfl
theorem endR_no {k : Nat} {r c : Int} {W : List Int} (h : c ≠ 125 ∨ k = 0 ∨ ¬ Gr r) : endR (k, r, c :: W) = none := if_pos h
theorem endR_yes {k : Nat} {r c : Int} {W : List Int} (h : ¬ (c ≠ 125 ∨ k = 0 ∨ ¬ Gr r)) : endR (k, r, c :: W) = some (r, W) := if_neg h
/-- behind a backslash and a u -/
noncomputable def numR : List Int → Option (Int × List Int)
  | [] => none
  | d :: V => if d = 123 then endR (hexR V 0 0) else none
/-- behind a backslash -/
noncomputable def escR : List Int → Option (Int × List Int)
  | [] => none
  | c :: U => if c = 34 ∨ c = 92 then some (c, U) else if c = 110 then some (10, U) else if c = 116 then some (9, U) else if c = 117 then numR U else none
/-- a rune that is no mark, and what stands behind it -/
noncomputable def oneR (r : Int) (T : List Int) : Option (Int × List Int) := if r < 32 ∨ r = 127 then none else if r = 92 then escR T else some (r, T)
noncomputable def loopR : Nat → List Int → List Int → Option (List Int × List Int)
  | 0, _, _ => none
  | _ + 1, a, [] => some (a, [])
  | f + 1, a, r :: T => if r = 34 then some (a, r :: T) else match oneR r T with
    | none => none
    | some p => loopR f (a ++ [p.1]) p.2
theorem loopR_nil (f : Nat) (a : List Int) : loopR (f + 1) a [] = some (a, []) := rfl
theorem loopR_end (f : Nat) (a T : List Int) : loopR (f + 1) a (34 :: T) = some (a, 34 :: T) := rfl
theorem loopR_no {f : Nat} {a T : List Int} {r : Int} (h : r ≠ 34) (ho : oneR r T = none) : loopR (f + 1) a (r :: T) = none := by
  show (if r = 34 then _ else match oneR r T with | none => none | some p => loopR f (a ++ [p.1]) p.2) = none
  rw [if_neg h, ho]
theorem loopR_go {f : Nat} {a T U : List Int} {r c : Int} (h : r ≠ 34) (ho : oneR r T = some (c, U)) : loopR (f + 1) a (r :: T) = loopR f (a ++ [c]) U := by
  show (if r = 34 then _ else match oneR r T with | none => none | some p => loopR f (a ++ [p.1]) p.2) = _
  rw [if_neg h, ho]
noncomputable def refE : Option (List Int × List Int) → List Int × Int
  | none => ([], 5)
  | some (a, rest) => if rest ≠ [34] then ([], 5) else if 120 < a.length then ([], 9) else (a.flatMap enc8, 0)
theorem refE_some (a rest : List Int) : refE (some (a, rest)) = if rest ≠ [34] then ([], 5) else if 120 < a.length then ([], 9) else (a.flatMap enc8, 0) := rfl
noncomputable def refU (L : List Int) : List Int × Int := if L.length < 2 ∨ L.getD 0 0 ≠ 34 then ([], 5) else refE (loopR (L.length + 1) [] (L.drop 1))
theorem tk0_m (nn ct : Int) : tkS ⟨0, nn, ct⟩ 34 = ⟨true, ⟨4, nn, ct⟩, []⟩ := by unfold tkS; rw [if_pos rfl, if_pos rfl]
theorem tk0_b (nn ct : Int) : tkS ⟨0, nn, ct⟩ 92 = ⟨true, ⟨1, nn, ct⟩, []⟩ := by unfold tkS; rw [if_pos rfl, if_neg (by decide), if_pos rfl]
theorem tk0_l (nn ct : Int) {r : Int} (h : r < 32 ∨ r = 127) : (tkS ⟨0, nn, ct⟩ r).ok = false := by unfold tkS; rw [if_pos rfl, if_neg (by omega), if_neg (by omega), if_pos h]
theorem tk0_p (nn ct : Int) {r : Int} (h : r ≠ 34 ∧ r ≠ 92 ∧ ¬ (r < 32 ∨ r = 127)) : tkS ⟨0, nn, ct⟩ r = ⟨true, ⟨0, nn, ct⟩, enc8 r⟩ := by unfold tkS; rw [if_pos rfl, if_neg h.1, if_neg h.2.1, if_neg h.2.2]
theorem tk1_u (nn ct : Int) : tkS ⟨1, nn, ct⟩ 117 = ⟨true, ⟨2, nn, ct⟩, []⟩ := by unfold tkS; rw [if_neg (show ¬ ((1 : Int) = 0) by decide), if_pos rfl, if_pos rfl]
theorem tk1_s (nn ct : Int) {r : Int} (h : r = 34 ∨ r = 92) : tkS ⟨1, nn, ct⟩ r = ⟨true, ⟨0, nn, ct⟩, enc8 r⟩ := by unfold tkS; rw [if_neg (show ¬ ((1 : Int) = 0) by decide), if_pos rfl, if_neg (by omega), if_pos h]
theorem tk1_n (nn ct : Int) : tkS ⟨1, nn, ct⟩ 110 = ⟨true, ⟨0, nn, ct⟩, enc8 10⟩ := by unfold tkS; rw [if_neg (show ¬ ((1 : Int) = 0) by decide), if_pos rfl, if_neg (by decide), if_neg (by decide), if_pos rfl]
theorem tk1_t (nn ct : Int) : tkS ⟨1, nn, ct⟩ 116 = ⟨true, ⟨0, nn, ct⟩, enc8 9⟩ := by unfold tkS; rw [if_neg (show ¬ ((1 : Int) = 0) by decide), if_pos rfl, if_neg (by decide), if_neg (by decide), if_neg (by decide), if_pos rfl]
theorem tk1_x (nn ct : Int) {r : Int} (h : r ≠ 34 ∧ r ≠ 92 ∧ r ≠ 110 ∧ r ≠ 116 ∧ r ≠ 117) : (tkS ⟨1, nn, ct⟩ r).ok = false := by
  unfold tkS; rw [if_neg (show ¬ ((1 : Int) = 0) by decide), if_pos rfl, if_neg h.2.2.2.2, if_neg (by omega), if_neg h.2.2.1, if_neg h.2.2.2.1]
theorem tk2_o (nn ct r : Int) : tkS ⟨2, nn, ct⟩ r = ⟨r == 123, ⟨3, 0, 0⟩, []⟩ := by unfold tkS; rw [if_neg (show ¬ ((2 : Int) = 0) by decide), if_neg (show ¬ ((2 : Int) = 1) by decide), if_pos rfl]
theorem tk3_d (nn ct : Int) {r : Int} (h : 0 ≤ hexV r ∧ ct < 6) : tkS ⟨3, nn, ct⟩ r = ⟨true, ⟨3, 16 * nn + hexV r, ct + 1⟩, []⟩ := by
  unfold tkS; rw [if_neg (show ¬ ((3 : Int) = 0) by decide), if_neg (show ¬ ((3 : Int) = 1) by decide), if_neg (show ¬ ((3 : Int) = 2) by decide), if_pos rfl, if_pos h]
theorem tk3_x (nn ct : Int) {r : Int} (h : ¬ (0 ≤ hexV r ∧ ct < 6)) (h2 : r ≠ 125 ∨ ct = 0 ∨ ¬ Gr nn) : (tkS ⟨3, nn, ct⟩ r).ok = false := by
  unfold tkS; rw [if_neg (show ¬ ((3 : Int) = 0) by decide), if_neg (show ¬ ((3 : Int) = 1) by decide), if_neg (show ¬ ((3 : Int) = 2) by decide), if_pos rfl, if_neg h, if_pos h2]
theorem tk3_e (nn ct : Int) {r : Int} (h : ¬ (0 ≤ hexV r ∧ ct < 6)) (h2 : ¬ (r ≠ 125 ∨ ct = 0 ∨ ¬ Gr nn)) : tkS ⟨3, nn, ct⟩ r = ⟨true, ⟨0, nn, ct⟩, enc8 nn⟩ := by
  unfold tkS; rw [if_neg (show ¬ ((3 : Int) = 0) by decide), if_neg (show ¬ ((3 : Int) = 1) by decide), if_neg (show ¬ ((3 : Int) = 2) by decide), if_pos rfl, if_neg h, if_neg h2]
theorem tk4_x (nn ct r : Int) : (tkS ⟨4, nn, ct⟩ r).ok = false := by
  unfold tkS; rw [if_neg (show ¬ ((4 : Int) = 0) by decide), if_neg (show ¬ ((4 : Int) = 1) by decide), if_neg (show ¬ ((4 : Int) = 2) by decide), if_neg (show ¬ ((4 : Int) = 3) by decide)]
theorem mach_go {s : RS} {o : List Int} {r : Int} {l : List Int} {O : RO} (h : tkS s r = O) (hk : O.ok = true) : mach s o (r :: l) = mach O.s (o ++ O.out) l := by
  rw [mach_cons, h, if_pos hk]
theorem mach_no {s : RS} {o : List Int} {r : Int} {l : List Int} (h : (tkS s r).ok = false) : mach s o (r :: l) = none := by
  rw [mach_cons, h]; rfl
theorem mach_nil (s : RS) (o : List Int) : mach s o [] = some (s, o) := rfl
theorem unqE_st {s : RS} {o : List Int} (h : s.st ≠ 4) : unqE (some (s, o)) = ([], 5) := by rw [unqE_some, if_pos h]
theorem mach_hex (o : List Int) : ∀ (V : List Int) (k : Nat) (r : Int), unqE (mach ⟨3, r, (k : Int)⟩ o V) = match endR (hexR V k r) with
    | none => ([], 5)
    | some p => unqE (mach ⟨0, p.1, ((hexR V k r).1 : Int)⟩ (o ++ enc8 p.1) p.2) := by
  intro V
  induction V with
  | nil => intro k r; rw [mach_nil, unqE_st (by simp)]; rfl
  | cons c T ih =>
    intro k r
    by_cases h : 0 ≤ hexV c ∧ k < 6
    · rw [mach_go (tk3_d r (k : Int) (r := c) ⟨h.1, by omega⟩) rfl, List.append_nil, hexR_cons, if_pos h]
      exact ih (k + 1) _
    · have h' : ¬ (0 ≤ hexV c ∧ (k : Int) < 6) := fun x => h ⟨x.1, by omega⟩
      rw [hexR_cons, if_neg h]
      by_cases h2 : c ≠ 125 ∨ (k : Int) = 0 ∨ ¬ Gr r
      · rw [mach_no (tk3_x r (k : Int) h' h2), endR_no (by rcases h2 with x | x | x; exact .inl x; exact .inr (.inl (by omega)); exact .inr (.inr x))]; rfl
      · rw [mach_go (tk3_e r (k : Int) h' h2) rfl, endR_yes (by intro x; exact h2 (by rcases x with x | x | x; exact .inl x; exact .inr (.inl (by omega)); exact .inr (.inr x)))]
theorem endR_gr {p : Nat × Int × List Int} {c : Int} {U : List Int} (h : endR p = some (c, U)) : Gr c ∧ U.length ≤ p.2.2.length ∧ ∀ x ∈ U, x ∈ p.2.2 := by
  obtain ⟨k, r, W⟩ := p
  cases W with
  | nil => cases h
  | cons d W =>
    by_cases h2 : d ≠ 125 ∨ k = 0 ∨ ¬ Gr r
    · rw [endR_no h2] at h; cases h
    · rw [endR_yes h2] at h
      cases h
      exact ⟨Classical.byContradiction fun x => h2 (.inr (.inr x)), Nat.le_succ _, fun x hx => List.mem_cons_of_mem _ hx⟩
theorem hexR_mem : ∀ (V : List Int) (k : Nat) (r : Int), ∀ x ∈ (hexR V k r).2.2, x ∈ V := by
  intro V
  induction V with
  | nil => intro k r x hx; exact hx
  | cons c T ih =>
    intro k r x hx
    rw [hexR_cons] at hx
    split at hx
    · exact List.mem_cons_of_mem _ (ih _ _ x hx)
    · exact hx
theorem fm_app (a : List Int) (c : Int) : (a ++ [c]).flatMap enc8 = a.flatMap enc8 ++ enc8 c := by simp
theorem unq_mach : ∀ (f : Nat) (L a : List Int) (nn ct : Int), L.length < f → (∀ r ∈ L, Gr r) → (∀ r ∈ a, Gr r) → unqE (mach ⟨0, nn, ct⟩ (a.flatMap enc8) L) = refE (loopR f a L) := by
  intro f
  induction f with
  | zero => intro L a nn ct h; exact absurd h (Nat.not_lt_zero _)
  | succ f ih =>
    intro L a nn ct hf hL ha
    have happ : ∀ c, Gr c → ∀ r ∈ a ++ [c], Gr r := fun c hc r hr => by
      rcases List.mem_append.1 hr with h | h
      · exact ha r h
      · rw [List.mem_singleton.1 h]; exact hc
    cases L with
    | nil => rw [mach_nil, unqE_st (by simp), loopR_nil, refE_some, if_pos (by simp)]
    | cons r T =>
      have hT : ∀ x ∈ T, Gr x := fun x hx => hL x (List.mem_cons_of_mem _ hx)
      have hr := hL r (by simp)
      have hfT : T.length < f := by simp only [List.length_cons] at hf; omega
      clear hf
      by_cases c1 : r = 34
      · subst c1
        rw [mach_go (tk0_m nn ct) rfl, List.append_nil, loopR_end, refE_some]
        cases T with
        | nil =>
          have e1 : ¬ ((⟨4, nn, ct⟩ : RS).st ≠ 4) := fun h => h rfl
          have e2 : ¬ (([34] : List Int) ≠ [34]) := fun h => h rfl
          rw [mach_nil, unqE_some, rn_encs0 ha, if_neg e1, if_neg e2]
        | cons t T => rw [mach_no (tk4_x nn ct t), if_pos (by simp)]; rfl
      by_cases c2 : r < 32 ∨ r = 127
      · rw [mach_no (tk0_l nn ct c2), loopR_no c1 (by unfold oneR; rw [if_pos c2])]; rfl
      by_cases c3 : r = 92
      · subst c3
        rw [mach_go (tk0_b nn ct) rfl, List.append_nil]
        have ho : oneR 92 T = escR T := by unfold oneR; rw [if_neg c2, if_pos rfl]
        cases T with
        | nil => rw [mach_nil, unqE_st (by simp), loopR_no c1 (by rw [ho]; rfl)]; rfl
        | cons c U =>
          have hU : ∀ x ∈ U, Gr x := fun x hx => hT x (List.mem_cons_of_mem _ hx)
          have hfU : U.length < f := by simp only [List.length_cons] at hfT; omega
          clear hfT
          have he : escR (c :: U) = if c = 34 ∨ c = 92 then some (c, U) else if c = 110 then some (10, U) else if c = 116 then some (9, U) else if c = 117 then numR U else none := rfl
          by_cases d1 : c = 34 ∨ c = 92
          · rw [mach_go (tk1_s nn ct d1) rfl, loopR_go c1 (by rw [ho, he, if_pos d1]), ← fm_app]
            exact ih U _ nn ct hfU hU (happ _ (hT c (by simp)))
          by_cases d2 : c = 110
          · subst d2
            rw [mach_go (tk1_n nn ct) rfl, loopR_go c1 (by rw [ho, he, if_neg d1, if_pos rfl]), ← fm_app]
            exact ih U _ nn ct hfU hU (happ _ (by unfold Gr; omega))
          by_cases d3 : c = 116
          · subst d3
            rw [mach_go (tk1_t nn ct) rfl, loopR_go c1 (by rw [ho, he, if_neg d1, if_neg d2, if_pos rfl]), ← fm_app]
            exact ih U _ nn ct hfU hU (happ _ (by unfold Gr; omega))
          by_cases d4 : c = 117
          · subst d4
            rw [mach_go (tk1_u nn ct) rfl, List.append_nil]
            rw [if_neg d1, if_neg d2, if_neg d3, if_pos rfl] at he
            cases U with
            | nil => rw [mach_nil, unqE_st (by simp), loopR_no c1 (by rw [ho, he]; rfl)]; rfl
            | cons d V =>
              have hV : ∀ x ∈ V, Gr x := fun x hx => hU x (List.mem_cons_of_mem _ hx)
              have hfV : V.length < f := by simp only [List.length_cons] at hfU; omega
              clear hfU
              by_cases e1 : d = 123
              · subst e1
                rw [mach_go (tk2_o nn ct 123) rfl, List.append_nil]
                have hh := mach_hex (a.flatMap enc8) V 0 0
                have hn : numR (123 :: V) = endR (hexR V 0 0) := rfl
                rw [hn] at he
                have hl := hexR_len V 0 0
                have hm := hexR_mem V 0 0
                have hg := fun c U => @endR_gr (hexR V 0 0) c U
                cases hE : endR (hexR V 0 0) with
                | none => rw [hE] at hh he; rw [loopR_no c1 (by rw [ho, he])]; exact hh
                | some p =>
                  obtain ⟨c', U'⟩ := p
                  rw [hE] at hh he
                  obtain ⟨g1, g2, g3⟩ := hg c' U' hE
                  rw [loopR_go c1 (by rw [ho, he])]
                  refine Eq.trans hh ?_
                  simp only
                  rw [← fm_app]
                  exact ih U' _ _ _ (by omega) (fun x hx => hV x (hm x (g3 x hx))) (happ _ g1)
              · have hno : (tkS ⟨2, nn, ct⟩ d).ok = false := by rw [tk2_o]; exact beq_eq_false_iff_ne.2 e1
                rw [mach_no hno, loopR_no c1 (by rw [ho, he]; show (if d = 123 then _ else none) = none; rw [if_neg e1])]; rfl
          · rw [mach_no (tk1_x nn ct (by omega)), loopR_no c1 (by rw [ho, he, if_neg d1, if_neg d2, if_neg d3, if_neg d4])]; rfl
      · rw [mach_go (tk0_p nn ct ⟨c1, c3, c2⟩) rfl, loopR_go c1 (show oneR r T = some (r, T) by unfold oneR; rw [if_neg c2, if_neg c3]), ← fm_app]
        exact ih T _ nn ct hfT hT (happ _ hr)
/-- the first rune is a mark just if the first byte is one -/
theorem rn_first {zs : List Int} (hb : By zs) (hg : Gd zs 0) : zs.take 1 = [34] ↔ (rn zs).take 1 = [34] := by
  cases zs with
  | nil => exact Iff.intro (fun h => by cases h) (fun h => by cases h)
  | cons z r =>
    have h : 0 < (z :: r).length := by simp
    rw [← rF_zero, rF_step h]
    have h2 := enc_el hb h ((Gd_step h).1 hg).1
    rw [List.drop_zero] at h2
    constructor
    · intro h0
      have hz : z = 34 := by simpa using h0
      subst hz
      have he : (elR (34 :: r) 0).1 = 34 := by unfold elR; rw [if_pos (show (34 :: r).getD 0 0 < 128 from (show (34 : Int) < 128 by decide))]; rfl
      rw [he]; rfl
    · intro h0
      have he : (elR (z :: r) 0).1 = 34 := by simpa using h0
      rw [he] at h2
      have e34 : enc8 34 = [34] := rfl
      rw [e34] at h2
      rw [h2]; rfl
theorem rn_tail {zs : List Int} (hb : By zs) (hg : Gd zs 0) (h : zs.take 1 = [34]) : rn zs = 34 :: rn (zs.drop 1) := by
  cases zs with
  | nil => cases h
  | cons z r =>
    have hz : z = 34 := by simpa using h
    subst hz
    rw [← rF_zero, rF_step (by simp), rn_drop]
    have he : elR (34 :: r) 0 = (34, 1) := by unfold elR; rw [if_pos (show (34 :: r).getD 0 0 < 128 from (show (34 : Int) < 128 by decide))]; rfl
    rw [he]; rfl
theorem unqA_ref {zs : List Int} (hb : By zs) (hg : gdB zs = true) : unqA zs = refU (rn zs) := by
  have hG := gdB_iff.1 hg
  have hgr := gr_rn hb hG
  unfold unqA refU
  by_cases h : zs.take 1 = [34]
  · rw [if_pos ⟨h, hg⟩]
    have ht := rn_tail hb hG h
    rw [ht] at hgr ⊢
    have hr : ∀ x ∈ rn (zs.drop 1), Gr x := fun x hx => hgr x (List.mem_cons_of_mem _ hx)
    have hm := unq_mach ((rn (zs.drop 1)).length + 2) (rn (zs.drop 1)) [] 0 0 (by omega) hr (fun r hr => by cases hr)
    rw [List.flatMap_nil] at hm
    by_cases hl : (rn (zs.drop 1)) = []
    · rw [hl, if_pos (.inl (by simp)), mach_nil, unqE_st (by simp)]
    · have hp := List.length_pos_iff.2 hl
      rw [if_neg (by simp only [List.length_cons, List.getD_cons_zero]; omega)]
      exact hm
  · rw [if_neg (fun x => h x.1)]
    have h2 := fun x => h ((rn_first hb hG).2 x)
    cases hL : rn zs with
    | nil => rw [if_pos (.inl (by simp))]
    | cons r T =>
      rw [hL] at h2
      rw [if_pos (.inr (by intro e; apply h2; simp at e; subst e; rfl))]
theorem unqA_bad {zs : List Int} (hg : gdB zs ≠ true) : unqA zs = ([], 5) := by
  unfold unqA; rw [if_neg (fun h => hg h.2)]
end Go.Proofs.YtjdjpgjjnajjhaaDoor
