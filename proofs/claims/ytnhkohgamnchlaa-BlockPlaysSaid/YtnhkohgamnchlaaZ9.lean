/-
  The walks and the laws that the statement leans on, part 9.
-/
import Derived.Test.YtnhkohgamnchlaaZ8
namespace Go.Proofs.Ytnhkohgamnchlaa
open Go
set_option linter.unusedVariables false
set_option linter.unusedSimpArgs false
theorem TFBlP : ((((((type_of% tyc0) ∧ ((type_of% tyc3) ∧ (type_of% zmb3))) ∧ ((type_of% tyc4) ∧ ((type_of% zmb4) ∧ (type_of% tyc9)))) ∧ (((type_of% zmb9) ∧ ((type_of% tyc41) ∧ (type_of% mth41_32))) ∧ ((type_of% con41) ∧ ((type_of% zmb41) ∧ (type_of% tyc43))))) ∧ ((((type_of% elt43) ∧ ((type_of% mkz43) ∧ (type_of% mkc43))) ∧ ((type_of% apT43) ∧ ((type_of% elk43) ∧ (type_of% zmb43)))) ∧ (((type_of% tyc45) ∧ ((type_of% foff45_0) ∧ (type_of% fpart45_0))) ∧ (((type_of% foff45_1) ∧ (type_of% fpart45_1)) ∧ ((type_of% foff45_2) ∧ (type_of% fpart45_2)))))) ∧ (((((type_of% foff45_3) ∧ ((type_of% fpart45_3) ∧ (type_of% foff45_4))) ∧ ((type_of% fpart45_4) ∧ ((type_of% foff45_5) ∧ (type_of% fpart45_5)))) ∧ (((type_of% foff45_6) ∧ ((type_of% fpart45_6) ∧ (type_of% zmb45))) ∧ (((type_of% bldT45) ∧ (type_of% tyc63)) ∧ ((type_of% foff63_0) ∧ (type_of% fpart63_0))))) ∧ ((((type_of% foff63_1) ∧ ((type_of% fpart63_1) ∧ (type_of% fe63))) ∧ ((type_of% zmb63) ∧ ((type_of% bldT63) ∧ (type_of% Try.underlying0)))) ∧ (((type_of% Try.underlying3) ∧ ((type_of% Try.underlying4) ∧ (type_of% Try.underlying9))) ∧ (((type_of% Try.underlying41) ∧ (type_of% Try.underlying43)) ∧ ((type_of% Try.underlying45) ∧ (type_of% Try.underlying63))))))) :=
  ⟨⟨⟨⟨⟨tyc0, ⟨tyc3, zmb3⟩⟩, ⟨tyc4, ⟨zmb4, tyc9⟩⟩⟩, ⟨⟨zmb9, ⟨tyc41, mth41_32⟩⟩, ⟨con41, ⟨zmb41, tyc43⟩⟩⟩⟩, ⟨⟨⟨elt43, ⟨mkz43, mkc43⟩⟩, ⟨apT43, ⟨elk43, zmb43⟩⟩⟩, ⟨⟨tyc45, ⟨foff45_0, fpart45_0⟩⟩, ⟨⟨foff45_1, fpart45_1⟩, ⟨foff45_2, fpart45_2⟩⟩⟩⟩⟩, ⟨⟨⟨⟨foff45_3, ⟨fpart45_3, foff45_4⟩⟩, ⟨fpart45_4, ⟨foff45_5, fpart45_5⟩⟩⟩, ⟨⟨foff45_6, ⟨fpart45_6, zmb45⟩⟩, ⟨⟨bldT45, tyc63⟩, ⟨foff63_0, fpart63_0⟩⟩⟩⟩, ⟨⟨⟨foff63_1, ⟨fpart63_1, fe63⟩⟩, ⟨zmb63, ⟨bldT63, Try.underlying0⟩⟩⟩, ⟨⟨Try.underlying3, ⟨Try.underlying4, Try.underlying9⟩⟩, ⟨⟨Try.underlying41, Try.underlying43⟩, ⟨Try.underlying45, Try.underlying63⟩⟩⟩⟩⟩⟩
section
variable {b n s de bw k m : Nat} {f : Int} {dk : Bool} {Ls : List (List Int)} {Wl : List (Nat × List Int)}
theorem rcrash_none (keep torn : Int) : ACt Try.prog 20 [pt b 0, iv .i64 keep, iv .i64 torn] [(b, rM n s (stz Ls.flatten) nl f dk de)] (fun r F' => r = .tup [] ∧ F' = [(b, rM n s (stz Ls.flatten) nl (-1) false de)]) := by
  unfold rM
  refine ACt.intro Try.func20 rfl (by kernel_rfl) (by simp [Try.ntmps20]) (fun cx => ?_)
  simp only [argE, Try.ntmps20, Try.results20]
  have kk : ∃ t : Bool, decide (keep < 0) = t := ⟨_, rfl⟩
  obtain ⟨t, k1⟩ := kk
  first | (have FRx := FR; clear FRx) | (have FR : Sm (¬ ((1 : Nat) = 0)) := Sm.mk Nat.one_ne_zero)
  repeat' first
    | (refine Sm.mk ?_; try simp -dsimp only [ZK, rvc, drawF, headN, pureH, stp, dvc, calleeOf, gcall, pev, eff, newB, okd, og, ogs, ogo, ogp, slv, bltv, opd, litv, strip, one, both, putE, St.put, look, gdOf, gdv, picka, pickv, pickw, binv, bini, bins, binb, binp, binq, isSlT, bina, shp, eqCells, unv, convv, nilv, faddv, addp, idxav, idxp, load1, load1m, loadn, loadnm, loadv, hget, hset, hrep, hdel, slicev, bnd, shift1, lenv, capv, IntKind.bits, extractv, fieldv, indexv, min2v, max2v, mkiv, cellsA, fillA, buildv, stC, oneC, rowMB, intsA, plN, appE, appZ, appC, appNZ, appNC, VwL, srcC, srcZ, srcM, isBoolT, isPtrT, isSliceT, uOk, Value.oneCell', Nat.reducePow, Int.reducePow, Nat.reduceAdd, Nat.reduceMul, Nat.reduceSub, Nat.reduceLT, Nat.reduceLeDiff, Nat.reduceEqDiff, Nat.reduceBEq, Nat.reduceDiv, Nat.reduceMod, ↓reduceIte, reduceCtorEq, Int.reduceToNat, Int.reduceLT, Int.reduceLE, TFBlP, SeqQ, BlkQ, LoopQ, BodyQ, FR.out])
    | (refine WP.seq fun K hK => ?_)
    | (refine WP.region (rvc_sound _ _ (Sm.out ?_)))
    | (refine WP.drawK rfl mixed (by decide +kernel) (Sm.out ?_))
    | (refine Ob.mk ?_; focus (first | assumption | omega | decide | trivial | (intro hob; simp only [hob, ZF]; done) | (intros; (repeat' refine And.intro ?_ ?_) <;> first | assumption | omega | trivial | decide) | (intros; simp only [ZE] at *; (repeat' refine And.intro ?_ ?_) <;> first | assumption | omega | trivial)))
    | (refine And.intro (Ob.out ?_) ?_)
    | (refine WP.block ?_)
    | (refine WP.cond rfl (fun hc => ?_) (fun hc => ?_) <;> (try simp only [ZC, reduceCtorEq, ZD] at hc) <;> (try (exact absurd hc (by decide))) <;> (try (exfalso; omega)))
    | ((first | refine WP.skip ?_ | refine WP.exit ?_); simp only [SeqQ, BlkQ, LoopQ, BodyQ, ↓reduceIte, Nat.reduceEqDiff, reduceCtorEq, look, true_and])
    | (refine WP.ret (Sm.out ?_))
    | (first | refine ExG.no (Sm.out ?_) | refine Or.inl (ExG.no (Sm.out ?_)) | refine Or.inl (And.intro (fun hg => absurd hg (by decide)) (ExG.no (Sm.out ?_))))
    | (refine Rt.mk ?_; refine And.intro ?_ ?_ <;> (intro hg; first | exact absurd hg (by decide) | refine Sm.out ?_))
    | (refine Nu.mk ?_; first | (fail_if_success (have := nb1)); intro nb1 | (fail_if_success (have := nb2)); intro nb2 | (fail_if_success (have := nb3)); intro nb3 | (fail_if_success (have := nb4)); intro nb4 | (fail_if_success (have := nb5)); intro nb5 | (fail_if_success (have := nb6)); intro nb6 | (fail_if_success (have := nb7)); intro nb7 | (fail_if_success (have := nb8)); intro nb8 | (fail_if_success (have := nb9)); intro nb9 | (fail_if_success (have := nb10)); intro nb10 | (fail_if_success (have := nb11)); intro nb11 | (fail_if_success (have := nb12)); intro nb12 | intro nbz)
    | (refine Fr.mk ?_; intro hfr; (first | (have hFRb : _ ≤ _ ∧ _ ≤ _ := And.intro hfr.1 hfr.2.1) | (have hFRb : _ ≤ _ := hfr.1) | skip); replace FR := Sm.mk (And.intro hfr FR.out); clear hfr; refine Sm.out ?_)
    | (refine Two.mk ?_ ?_)
    | (refine Cs.mk ?_; intro hcs; first | exact False.elim hcs | (exfalso; omega) | (refine Sm.out ?_))
    | go_step
    | omega
    | (simp only [maxLen_eq]; omega)
  refine WP.loop (Γ := Unit) (fun _ => ⟨[(6, iv .i64 0), (2, iv .i64 torn), (1, iv .i64 keep), (0, pt b 0)], [(b, .cells [iv .i64 (n : Int), iv .i64 (s : Int), stz Ls.flatten, nl, iv .i64 f, bv dk, iv .i64 (de : Int)] 7 45)]⟩)
    (fun _ => True) (fun _ => 0) () trivial (Sub.pick (by simp [pickB, hget, hdel, FR.out]) (by simp [look])) ?_
  intro _ _
  have FR : Sm (¬ ((1 : Nat) = 0)) := Sm.mk Nat.one_ne_zero
  cases t
  all_goals (
      first | (have FRx := FR; clear FRx) | (have FR : Sm (¬ ((1 : Nat) = 0)) := Sm.mk Nat.one_ne_zero)
      repeat' first
        | (refine Sm.mk ?_; try simp -dsimp only [ZK, rvc, drawF, headN, pureH, stp, dvc, calleeOf, gcall, pev, eff, newB, okd, og, ogs, ogo, ogp, slv, bltv, opd, litv, strip, one, both, putE, St.put, look, gdOf, gdv, picka, pickv, pickw, binv, bini, bins, binb, binp, binq, isSlT, bina, shp, eqCells, unv, convv, nilv, faddv, addp, idxav, idxp, load1, load1m, loadn, loadnm, loadv, hget, hset, hrep, hdel, slicev, bnd, shift1, lenv, capv, IntKind.bits, extractv, fieldv, indexv, min2v, max2v, mkiv, cellsA, fillA, buildv, stC, oneC, rowMB, intsA, plN, appE, appZ, appC, appNZ, appNC, VwL, srcC, srcZ, srcM, isBoolT, isPtrT, isSliceT, uOk, Value.oneCell', Nat.reducePow, Int.reducePow, Nat.reduceAdd, Nat.reduceMul, Nat.reduceSub, Nat.reduceLT, Nat.reduceLeDiff, Nat.reduceEqDiff, Nat.reduceBEq, Nat.reduceDiv, Nat.reduceMod, ↓reduceIte, reduceCtorEq, Int.reduceToNat, Int.reduceLT, Int.reduceLE, TFBlP, SeqQ, BlkQ, LoopQ, BodyQ, k1, FR.out])
        | (refine WP.seq fun K hK => ?_)
        | (refine WP.region (rvc_sound _ _ (Sm.out ?_)))
        | (refine WP.drawK rfl mixed (by decide +kernel) (Sm.out ?_))
        | (refine Ob.mk ?_; focus (first | assumption | omega | decide | trivial | (intro hob; simp only [hob, ZF]; done) | (intros; (repeat' refine And.intro ?_ ?_) <;> first | assumption | omega | trivial | decide) | (intros; simp only [ZE] at *; (repeat' refine And.intro ?_ ?_) <;> first | assumption | omega | trivial)))
        | (refine And.intro (Ob.out ?_) ?_)
        | (refine WP.block ?_)
        | (refine WP.cond rfl (fun hc => ?_) (fun hc => ?_) <;> (try simp only [ZC, reduceCtorEq, ZD] at hc) <;> (try (exact absurd hc (by decide))) <;> (try (exfalso; omega)))
        | ((first | refine WP.skip ?_ | refine WP.exit ?_); simp only [SeqQ, BlkQ, LoopQ, BodyQ, ↓reduceIte, Nat.reduceEqDiff, reduceCtorEq, look, true_and])
        | (refine WP.ret (Sm.out ?_))
        | (first | refine ExG.no (Sm.out ?_) | refine Or.inl (ExG.no (Sm.out ?_)) | refine Or.inl (And.intro (fun hg => absurd hg (by decide)) (ExG.no (Sm.out ?_))))
        | (refine Rt.mk ?_; refine And.intro ?_ ?_ <;> (intro hg; first | exact absurd hg (by decide) | refine Sm.out ?_))
        | (refine Nu.mk ?_; first | (fail_if_success (have := nb1)); intro nb1 | (fail_if_success (have := nb2)); intro nb2 | (fail_if_success (have := nb3)); intro nb3 | (fail_if_success (have := nb4)); intro nb4 | (fail_if_success (have := nb5)); intro nb5 | (fail_if_success (have := nb6)); intro nb6 | (fail_if_success (have := nb7)); intro nb7 | (fail_if_success (have := nb8)); intro nb8 | (fail_if_success (have := nb9)); intro nb9 | (fail_if_success (have := nb10)); intro nb10 | (fail_if_success (have := nb11)); intro nb11 | (fail_if_success (have := nb12)); intro nb12 | intro nbz)
        | (refine Fr.mk ?_; intro hfr; (first | (have hFRb : _ ≤ _ ∧ _ ≤ _ := And.intro hfr.1 hfr.2.1) | (have hFRb : _ ≤ _ := hfr.1) | skip); replace FR := Sm.mk (And.intro hfr FR.out); clear hfr; refine Sm.out ?_)
        | (refine Two.mk ?_ ?_)
        | (refine Cs.mk ?_; intro hcs; first | exact False.elim hcs | (exfalso; omega) | (refine Sm.out ?_))
        | go_step
        | omega
        | (simp only [maxLen_eq]; omega))
  all_goals (refine OutQ.upd (by simp only [resv, ZK, look, loadv, loadn, loadnm, load1, load1m, hget, ↓reduceIte, Nat.reduceEqDiff, Nat.reduceAdd, Nat.reduceMul, Nat.reduceLeDiff, Nat.reduceLT, reduceCtorEq, TFBlP, FR.out]) (by simp only [resv, resA, ZK, look, loadv, loadn, loadnm, load1, load1m, hget, ↓reduceIte, Nat.reduceEqDiff, Nat.reduceAdd, Nat.reduceMul, Nat.reduceLeDiff, Nat.reduceLT, reduceCtorEq, TFBlP, FR.out]; first | done | rfl) (by simp only [hget, ↓reduceIte, if_true, if_false, FR.out]; first | done | rfl) ?_ <;> first | exact rfl | (simp only [ZK, look, loadv, loadn, loadnm, load1, load1m, hget, ↓reduceIte, Nat.reduceEqDiff, Nat.reduceAdd, Nat.reduceMul, Nat.reduceLeDiff, Nat.reduceLT, reduceCtorEq, TFBlP, FR.out]; done) | skip)
/-- the rows behind j of them -/
def rcur (Ls : List (List Int)) (Wl : List (Nat × List Int)) (K t j : Nat) : List (List Int) :=
  if j ≤ K then layW Ls (Wl.take j) else crL Ls Wl K t
set_option maxRecDepth 8000 in
set_option maxHeartbeats 4000000 in
theorem rcrash_some (keep torn : Int) (hd : b ≠ bw ∧ bw ≠ b) (hn : Ls.length = n) (h2 : n ≤ 400) (hs1 : 1 ≤ s) (hs : s ≤ 512) (hm : Wl.length = m) (hm1 : 1 ≤ m) (hm2 : m ≤ 1000) (hmk : m ≤ k) (hL : ∀ z ∈ Ls, z.length = s) (hW : ∀ w ∈ Wl, w.1 < n ∧ w.2.length = s) :
    ACt Try.prog 20 [pt b 0, iv .i64 keep, iv .i64 torn] [(b, rM n s (stz Ls.flatten) (ms bw 0 m k) f dk de), (bw, .cells (rcs s Wl) (k * 2) 63)]
    (fun r F' => r = .tup [] ∧ F' = [(b, rM n s (stz (crL Ls Wl (min keep.toNat m) (min torn.toNat s)).flatten) nl (-1) false de), (bw, .cells (rcs s Wl) (k * 2) 63)]) := by
  have hwl := rcs_len s Wl
  have hwd := rcs_drop s Wl
  obtain ⟨C, hC⟩ : ∃ C, C = rcs s Wl := ⟨_, rfl⟩
  rw [← hC] at hwl hwd ⊢
  unfold rM
  obtain ⟨tN, htN⟩ : ∃ tN, tN = min torn.toNat s := ⟨_, rfl⟩
  obtain ⟨KM, hKM⟩ : ∃ KM, KM = min keep.toNat m := ⟨_, rfl⟩
  rw [← htN, ← hKM]
  have tN1 : tN ≤ s := by omega
  -- what is laid at j, in rows
  have lay : ∀ j (hj : j < m) (t : Nat), t ≤ s → ACt Try.prog 33 [stz (layW Ls (Wl.take j)).flatten, .agg [iv .i64 ((Wl[j]'(by omega)).1 * s : Nat), stz ((Wl[j]'(by omega)).2.take t)]] [] (Fn (stz (crL Ls Wl j t).flatten)) := fun j hj t ht => by
    have hjw : j < Wl.length := by omega
    have ew := hW _ (List.getElem_mem hjw)
    have hXr := layW_rows (Wl.take j) Ls hL fun w hw => (hW w (List.mem_of_mem_take hw)).2
    have hXl := layW_len (Wl.take j) Ls
    have lX : (layW Ls (Wl.take j)).flatten.length = n * s := by rw [flat_len _ hXr, hXl, hn]
    have hb : n * s ≤ 400 * 512 := Nat.mul_le_mul h2 hs
    have hb2 : Wl[j].1 * s + s ≤ n * s := by have := Nat.mul_le_mul_right s (show Wl[j].1 + 1 ≤ n from ew.1); rw [Nat.succ_mul] at this; exact this
    have lx : (Wl[j].2.take t).length = t := by rw [List.length_take]; omega
    have cl := lay_ct (layW Ls (Wl.take j)).flatten (Wl[j].2.take t) (Wl[j].1 * s) (by rw [lX, lx]; omega) (by omega)
    rw [lx, lay_rows hXr (by have := ew.1; omega) lx ht] at cl
    have e : crL Ls Wl j t = (layW Ls (Wl.take j)).set Wl[j].1 (Wl[j].2.take t ++ ((layW Ls (Wl.take j)).getD Wl[j].1 []).drop t) := by
      unfold crL; rw [List.getElem?_eq_getElem hjw]
    rw [e]; exact cl
  have layF : ∀ j (hj : j < m), crL Ls Wl j s = layW Ls (Wl.take (j + 1)) := fun j hj => by
    have hjw : j < Wl.length := by omega
    have ew := hW _ (List.getElem_mem hjw)
    have hXr := layW_rows (Wl.take j) Ls hL fun w hw => (hW w (List.mem_of_mem_take hw)).2
    have hXl := layW_len (Wl.take j) Ls
    rw [layW_step hjw]
    unfold crL
    rw [List.getElem?_eq_getElem hjw]
    have h1 : ((layW Ls (Wl.take j)).getD Wl[j].1 []).drop s = [] := List.drop_of_length_le (by
      have hlt : Wl[j].1 < (layW Ls (Wl.take j)).length := by have := ew.1; omega
      rw [List.getD_eq_getElem?_getD, List.getElem?_eq_getElem hlt]
      exact Nat.le_of_eq (hXr _ (List.getElem_mem _)))
    simp only [h1, List.append_nil, List.take_of_length_le (Nat.le_of_eq ew.2)]
  have xlen : ∀ j (hj : j < m), (Wl[j]'(by omega)).2.length = s := fun j hj => (hW _ (List.getElem_mem _)).2
  refine ACt.intro Try.func20 rfl (by kernel_rfl) (by simp [Try.ntmps20]) (fun cx => ?_)
  simp only [argE, Try.ntmps20, Try.results20]
  first | (have FRx := FR; clear FRx) | (have FR : Sm (¬ ((1 : Nat) = 0)) := Sm.mk Nat.one_ne_zero)
  repeat' first
    | (refine Sm.mk ?_; try simp -dsimp only [ZK, rvc, drawF, headN, pureH, stp, dvc, calleeOf, gcall, pev, eff, newB, okd, og, ogs, ogo, ogp, slv, bltv, opd, litv, strip, one, both, putE, St.put, look, gdOf, gdv, picka, pickv, pickw, binv, bini, bins, binb, binp, binq, isSlT, bina, shp, eqCells, unv, convv, nilv, faddv, addp, idxav, idxp, load1, load1m, loadn, loadnm, loadv, hget, hset, hrep, hdel, slicev, bnd, shift1, lenv, capv, IntKind.bits, extractv, fieldv, indexv, min2v, max2v, mkiv, cellsA, fillA, buildv, stC, oneC, rowMB, intsA, plN, appE, appZ, appC, appNZ, appNC, VwL, srcC, srcZ, srcM, isBoolT, isPtrT, isSliceT, uOk, Value.oneCell', Nat.reducePow, Int.reducePow, Nat.reduceAdd, Nat.reduceMul, Nat.reduceSub, Nat.reduceLT, Nat.reduceLeDiff, Nat.reduceEqDiff, Nat.reduceBEq, Nat.reduceDiv, Nat.reduceMod, ↓reduceIte, reduceCtorEq, Int.reduceToNat, Int.reduceLT, Int.reduceLE, TFBlP, SeqQ, BlkQ, LoopQ, BodyQ, FR.out])
    | (refine WP.seq fun K hK => ?_)
    | (refine WP.region (rvc_sound _ _ (Sm.out ?_)))
    | (refine WP.drawK rfl mixed (by decide +kernel) (Sm.out ?_))
    | (refine Ob.mk ?_; focus (first | assumption | omega | decide | trivial | (intro hob; simp only [hob, ZF]; done) | (intros; (repeat' refine And.intro ?_ ?_) <;> first | assumption | omega | trivial | decide) | (intros; simp only [ZE] at *; (repeat' refine And.intro ?_ ?_) <;> first | assumption | omega | trivial)))
    | (refine And.intro (Ob.out ?_) ?_)
    | (refine WP.block ?_)
    | (refine WP.cond rfl (fun hc => ?_) (fun hc => ?_) <;> (try simp only [ZC, reduceCtorEq, ZD] at hc) <;> (try (exact absurd hc (by decide))) <;> (try (exfalso; omega)))
    | ((first | refine WP.skip ?_ | refine WP.exit ?_); simp only [SeqQ, BlkQ, LoopQ, BodyQ, ↓reduceIte, Nat.reduceEqDiff, reduceCtorEq, look, true_and])
    | (refine WP.ret (Sm.out ?_))
    | (first | refine ExG.no (Sm.out ?_) | refine Or.inl (ExG.no (Sm.out ?_)) | refine Or.inl (And.intro (fun hg => absurd hg (by decide)) (ExG.no (Sm.out ?_))))
    | (refine Rt.mk ?_; refine And.intro ?_ ?_ <;> (intro hg; first | exact absurd hg (by decide) | refine Sm.out ?_))
    | (refine Nu.mk ?_; first | (fail_if_success (have := nb1)); intro nb1 | (fail_if_success (have := nb2)); intro nb2 | (fail_if_success (have := nb3)); intro nb3 | (fail_if_success (have := nb4)); intro nb4 | (fail_if_success (have := nb5)); intro nb5 | (fail_if_success (have := nb6)); intro nb6 | (fail_if_success (have := nb7)); intro nb7 | (fail_if_success (have := nb8)); intro nb8 | (fail_if_success (have := nb9)); intro nb9 | (fail_if_success (have := nb10)); intro nb10 | (fail_if_success (have := nb11)); intro nb11 | (fail_if_success (have := nb12)); intro nb12 | intro nbz)
    | (refine Fr.mk ?_; intro hfr; (first | (have hFRb : _ ≤ _ ∧ _ ≤ _ := And.intro hfr.1 hfr.2.1) | (have hFRb : _ ≤ _ := hfr.1) | skip); replace FR := Sm.mk (And.intro hfr FR.out); clear hfr; refine Sm.out ?_)
    | (refine Two.mk ?_ ?_)
    | (refine Cs.mk ?_; intro hcs; first | exact False.elim hcs | (exfalso; omega) | (refine Sm.out ?_))
    | go_step
    | omega
    | (simp only [maxLen_eq]; omega)
  refine WP.loop (Γ := Nat) (fun j => ⟨[(6, iv .i64 (j : Nat)), (2, iv .i64 torn), (1, iv .i64 keep), (0, pt b 0)], [(b, .cells [iv .i64 (n : Int), iv .i64 (s : Int), stz (rcur Ls Wl keep.toNat tN j).flatten, ms bw 0 m k, iv .i64 f, bv dk, iv .i64 (de : Int)] 7 45), (bw, .cells C (k * 2) 63)]⟩)
    (fun j => j ≤ m ∧ j ≤ (keep + 1).toNat) (fun j => m - j) 0 ⟨by omega, by omega⟩ (Sub.pick (by simp [pickB, hget, hdel, FR.out, hd, rcur, layW]) (by simp [look, hd, rcur, layW])) ?_
  intro j ⟨hj, hjK⟩
  have FR : Sm (¬ ((1 : Nat) = 0)) := Sm.mk Nat.one_ne_zero
  by_cases hlt : j < m ∧ (j : Int) ≤ keep
  · have k1 : decide ((j : Int) < (m : Int)) = true := by simp; omega
    have k2 : decide ((j : Int) ≤ keep) = true := by simp; omega
    have hjw : j < Wl.length := by omega
    have hd1 := hwd j hjw
    have hx := xlen j hlt.1
    have clF := lay j hlt.1 s (Nat.le_refl s)
    have clT := lay j hlt.1 tN tN1
    rw [layF j hlt.1, List.take_of_length_le (Nat.le_of_eq hx)] at clF
    have ecur : rcur Ls Wl keep.toNat tN j = layW Ls (Wl.take j) := by unfold rcur; rw [if_pos (by omega)]
    rw [ecur]
    obtain ⟨w, hw⟩ : ∃ w, w = Wl[j] := ⟨_, rfl⟩
    rw [← hw] at hd1 hx clF clT
    obtain ⟨X, hX⟩ : ∃ X, X = layW Ls (Wl.take j) := ⟨_, rfl⟩
    rw [← hX] at clF clT ⊢
    obtain ⟨TR, hTR⟩ : ∃ TR, TR = rcs s (Wl.drop (j + 1)) := ⟨_, rfl⟩
    rw [← hTR] at hd1
    have q1 : j * 2 + 2 ≤ C.length := by omega
    have w1 : IntKind.i64.wrap ((j : Int) + 1) = ((j + 1 : Nat) : Int) := by rw [wrap_i64 (by omega) (by omega)]; omega
    have layF1 := layF j hlt.1
    clear hwd hTR hX hw lay layF xlen
    by_cases hjk : (j : Int) = keep
    · have k3 : ((j : Int) == keep) = true := by simpa using hjk
      have en : rcur Ls Wl keep.toNat tN (j + 1) = crL Ls Wl j tN := by
        unfold rcur; rw [if_neg (by omega)]; congr 1; omega
      by_cases hts : torn < (s : Int)
      · have k4 : decide (torn < (s : Int)) = true := by simp; omega
        by_cases ht0 : torn < 0
        · have k5 : decide (torn < 0) = true := by simp; omega
          have hz : tN = 0 := by omega
          subst hz
          first | (have FRx := FR; clear FRx) | (have FR : Sm (¬ ((1 : Nat) = 0)) := Sm.mk Nat.one_ne_zero)
          repeat' first
            | (refine Sm.mk ?_; try simp -dsimp only [ZK, rvc, drawF, headN, pureH, stp, dvc, calleeOf, gcall, pev, eff, newB, okd, og, ogs, ogo, ogp, slv, bltv, opd, litv, strip, one, both, putE, St.put, look, gdOf, gdv, picka, pickv, pickw, binv, bini, bins, binb, binp, binq, isSlT, bina, shp, eqCells, unv, convv, nilv, faddv, addp, idxav, idxp, load1, load1m, loadn, loadnm, loadv, hget, hset, hrep, hdel, slicev, bnd, shift1, lenv, capv, IntKind.bits, extractv, fieldv, indexv, min2v, max2v, mkiv, cellsA, fillA, buildv, stC, oneC, rowMB, intsA, plN, appE, appZ, appC, appNZ, appNC, VwL, srcC, srcZ, srcM, isBoolT, isPtrT, isSliceT, uOk, Value.oneCell', Nat.reducePow, Int.reducePow, Nat.reduceAdd, Nat.reduceMul, Nat.reduceSub, Nat.reduceLT, Nat.reduceLeDiff, Nat.reduceEqDiff, Nat.reduceBEq, Nat.reduceDiv, Nat.reduceMod, ↓reduceIte, reduceCtorEq, Int.reduceToNat, Int.reduceLT, Int.reduceLE, TFBlP, SeqQ, BlkQ, LoopQ, BodyQ, hd, k1, k2, k3, k4, k5, hd1, q1, hx, bstr_size, bstr_ext, List.take_zero, List.drop_zero, FR.out])
            | (first | refine CallV.fn (clT) (Sm.out ?_) | refine ExF.mk (clT) (Sm.out ?_) | refine ExG.mk (fun _ => clT) (Sm.out ?_) | refine ExG.mkJ (fun _ => clT) (Sm.out ?_) | refine ExG.mkI (Ob.out ?_) (fun _ => clT) (Sm.out ?_))
            | (refine WP.seq fun K hK => ?_)
            | (refine WP.region (rvc_sound _ _ (Sm.out ?_)))
            | (refine WP.drawK rfl mixed (by decide +kernel) (Sm.out ?_))
            | (refine Ob.mk ?_; focus (first | assumption | omega | decide | trivial | (intro hob; simp only [hob, ZF]; done) | (intros; (repeat' refine And.intro ?_ ?_) <;> first | assumption | omega | trivial | decide) | (intros; simp only [ZE] at *; (repeat' refine And.intro ?_ ?_) <;> first | assumption | omega | trivial)))
            | (refine And.intro (Ob.out ?_) ?_)
            | (refine WP.block ?_)
            | (refine WP.cond rfl (fun hc => ?_) (fun hc => ?_) <;> (try simp only [ZC, reduceCtorEq, ZD] at hc) <;> (try (exact absurd hc (by decide))) <;> (try (exfalso; omega)))
            | ((first | refine WP.skip ?_ | refine WP.exit ?_); simp only [SeqQ, BlkQ, LoopQ, BodyQ, ↓reduceIte, Nat.reduceEqDiff, reduceCtorEq, look, true_and])
            | (refine WP.ret (Sm.out ?_))
            | (first | refine ExG.no (Sm.out ?_) | refine Or.inl (ExG.no (Sm.out ?_)) | refine Or.inl (And.intro (fun hg => absurd hg (by decide)) (ExG.no (Sm.out ?_))))
            | (refine Rt.mk ?_; refine And.intro ?_ ?_ <;> (intro hg; first | exact absurd hg (by decide) | refine Sm.out ?_))
            | (refine Nu.mk ?_; first | (fail_if_success (have := nb1)); intro nb1 | (fail_if_success (have := nb2)); intro nb2 | (fail_if_success (have := nb3)); intro nb3 | (fail_if_success (have := nb4)); intro nb4 | (fail_if_success (have := nb5)); intro nb5 | (fail_if_success (have := nb6)); intro nb6 | (fail_if_success (have := nb7)); intro nb7 | (fail_if_success (have := nb8)); intro nb8 | (fail_if_success (have := nb9)); intro nb9 | (fail_if_success (have := nb10)); intro nb10 | (fail_if_success (have := nb11)); intro nb11 | (fail_if_success (have := nb12)); intro nb12 | intro nbz)
            | (refine Fr.mk ?_; intro hfr; (first | (have hFRb : _ ≤ _ ∧ _ ≤ _ := And.intro hfr.1 hfr.2.1) | (have hFRb : _ ≤ _ := hfr.1) | skip); replace FR := Sm.mk (And.intro hfr FR.out); clear hfr; refine Sm.out ?_)
            | (refine Two.mk ?_ ?_)
            | (refine Cs.mk ?_; intro hcs; first | exact False.elim hcs | (exfalso; omega) | (refine Sm.out ?_))
            | go_step
            | omega
            | (simp only [maxLen_eq]; omega)
          exact ⟨j + 1, ⟨by omega, by omega⟩, by omega, (Sub.pick (by simp [pickB, hget, hdel, FR.out, hd, w1, en]) (by simp [look, hd, w1, en]))⟩
        · have k5 : decide (torn < 0) = false := by simp; omega
          obtain ⟨tt, rfl⟩ := Int.eq_ofNat_of_zero_le (show 0 ≤ torn by omega)
          obtain rfl : tN = tt := by omega
          first | (have FRx := FR; clear FRx) | (have FR : Sm (¬ ((1 : Nat) = 0)) := Sm.mk Nat.one_ne_zero)
          repeat' first
            | (refine Sm.mk ?_; try simp -dsimp only [ZK, rvc, drawF, headN, pureH, stp, dvc, calleeOf, gcall, pev, eff, newB, okd, og, ogs, ogo, ogp, slv, bltv, opd, litv, strip, one, both, putE, St.put, look, gdOf, gdv, picka, pickv, pickw, binv, bini, bins, binb, binp, binq, isSlT, bina, shp, eqCells, unv, convv, nilv, faddv, addp, idxav, idxp, load1, load1m, loadn, loadnm, loadv, hget, hset, hrep, hdel, slicev, bnd, shift1, lenv, capv, IntKind.bits, extractv, fieldv, indexv, min2v, max2v, mkiv, cellsA, fillA, buildv, stC, oneC, rowMB, intsA, plN, appE, appZ, appC, appNZ, appNC, VwL, srcC, srcZ, srcM, isBoolT, isPtrT, isSliceT, uOk, Value.oneCell', Nat.reducePow, Int.reducePow, Nat.reduceAdd, Nat.reduceMul, Nat.reduceSub, Nat.reduceLT, Nat.reduceLeDiff, Nat.reduceEqDiff, Nat.reduceBEq, Nat.reduceDiv, Nat.reduceMod, ↓reduceIte, reduceCtorEq, Int.reduceToNat, Int.reduceLT, Int.reduceLE, TFBlP, SeqQ, BlkQ, LoopQ, BodyQ, hd, k1, k2, k3, k4, k5, hd1, q1, hx, bstr_size, bstr_ext, List.drop_zero, FR.out])
            | (first | refine CallV.fn (clT) (Sm.out ?_) | refine ExF.mk (clT) (Sm.out ?_) | refine ExG.mk (fun _ => clT) (Sm.out ?_) | refine ExG.mkJ (fun _ => clT) (Sm.out ?_) | refine ExG.mkI (Ob.out ?_) (fun _ => clT) (Sm.out ?_))
            | (refine WP.seq fun K hK => ?_)
            | (refine WP.region (rvc_sound _ _ (Sm.out ?_)))
            | (refine WP.drawK rfl mixed (by decide +kernel) (Sm.out ?_))
            | (refine Ob.mk ?_; focus (first | assumption | omega | decide | trivial | (intro hob; simp only [hob, ZF]; done) | (intros; (repeat' refine And.intro ?_ ?_) <;> first | assumption | omega | trivial | decide) | (intros; simp only [ZE] at *; (repeat' refine And.intro ?_ ?_) <;> first | assumption | omega | trivial)))
            | (refine And.intro (Ob.out ?_) ?_)
            | (refine WP.block ?_)
            | (refine WP.cond rfl (fun hc => ?_) (fun hc => ?_) <;> (try simp only [ZC, reduceCtorEq, ZD] at hc) <;> (try (exact absurd hc (by decide))) <;> (try (exfalso; omega)))
            | ((first | refine WP.skip ?_ | refine WP.exit ?_); simp only [SeqQ, BlkQ, LoopQ, BodyQ, ↓reduceIte, Nat.reduceEqDiff, reduceCtorEq, look, true_and])
            | (refine WP.ret (Sm.out ?_))
            | (first | refine ExG.no (Sm.out ?_) | refine Or.inl (ExG.no (Sm.out ?_)) | refine Or.inl (And.intro (fun hg => absurd hg (by decide)) (ExG.no (Sm.out ?_))))
            | (refine Rt.mk ?_; refine And.intro ?_ ?_ <;> (intro hg; first | exact absurd hg (by decide) | refine Sm.out ?_))
            | (refine Nu.mk ?_; first | (fail_if_success (have := nb1)); intro nb1 | (fail_if_success (have := nb2)); intro nb2 | (fail_if_success (have := nb3)); intro nb3 | (fail_if_success (have := nb4)); intro nb4 | (fail_if_success (have := nb5)); intro nb5 | (fail_if_success (have := nb6)); intro nb6 | (fail_if_success (have := nb7)); intro nb7 | (fail_if_success (have := nb8)); intro nb8 | (fail_if_success (have := nb9)); intro nb9 | (fail_if_success (have := nb10)); intro nb10 | (fail_if_success (have := nb11)); intro nb11 | (fail_if_success (have := nb12)); intro nb12 | intro nbz)
            | (refine Fr.mk ?_; intro hfr; (first | (have hFRb : _ ≤ _ ∧ _ ≤ _ := And.intro hfr.1 hfr.2.1) | (have hFRb : _ ≤ _ := hfr.1) | skip); replace FR := Sm.mk (And.intro hfr FR.out); clear hfr; refine Sm.out ?_)
            | (refine Two.mk ?_ ?_)
            | (refine Cs.mk ?_; intro hcs; first | exact False.elim hcs | (exfalso; omega) | (refine Sm.out ?_))
            | go_step
            | omega
            | (simp only [maxLen_eq]; omega)
          exact ⟨j + 1, ⟨by omega, by omega⟩, by omega, (Sub.pick (by simp [pickB, hget, hdel, FR.out, hd, w1, en]) (by simp [look, hd, w1, en]))⟩
      · have k4 : decide (torn < (s : Int)) = false := by simp; omega
        obtain rfl : tN = s := by omega
        first | (have FRx := FR; clear FRx) | (have FR : Sm (¬ ((1 : Nat) = 0)) := Sm.mk Nat.one_ne_zero)
        repeat' first
          | (refine Sm.mk ?_; try simp -dsimp only [ZK, rvc, drawF, headN, pureH, stp, dvc, calleeOf, gcall, pev, eff, newB, okd, og, ogs, ogo, ogp, slv, bltv, opd, litv, strip, one, both, putE, St.put, look, gdOf, gdv, picka, pickv, pickw, binv, bini, bins, binb, binp, binq, isSlT, bina, shp, eqCells, unv, convv, nilv, faddv, addp, idxav, idxp, load1, load1m, loadn, loadnm, loadv, hget, hset, hrep, hdel, slicev, bnd, shift1, lenv, capv, IntKind.bits, extractv, fieldv, indexv, min2v, max2v, mkiv, cellsA, fillA, buildv, stC, oneC, rowMB, intsA, plN, appE, appZ, appC, appNZ, appNC, VwL, srcC, srcZ, srcM, isBoolT, isPtrT, isSliceT, uOk, Value.oneCell', Nat.reducePow, Int.reducePow, Nat.reduceAdd, Nat.reduceMul, Nat.reduceSub, Nat.reduceLT, Nat.reduceLeDiff, Nat.reduceEqDiff, Nat.reduceBEq, Nat.reduceDiv, Nat.reduceMod, ↓reduceIte, reduceCtorEq, Int.reduceToNat, Int.reduceLT, Int.reduceLE, TFBlP, SeqQ, BlkQ, LoopQ, BodyQ, hd, k1, k2, k3, k4, hd1, q1, hx, bstr_size, FR.out])
          | (first | refine CallV.fn (clF) (Sm.out ?_) | refine ExF.mk (clF) (Sm.out ?_) | refine ExG.mk (fun _ => clF) (Sm.out ?_) | refine ExG.mkJ (fun _ => clF) (Sm.out ?_) | refine ExG.mkI (Ob.out ?_) (fun _ => clF) (Sm.out ?_))
          | (refine WP.seq fun K hK => ?_)
          | (refine WP.region (rvc_sound _ _ (Sm.out ?_)))
          | (refine WP.drawK rfl mixed (by decide +kernel) (Sm.out ?_))
          | (refine Ob.mk ?_; focus (first | assumption | omega | decide | trivial | (intro hob; simp only [hob, ZF]; done) | (intros; (repeat' refine And.intro ?_ ?_) <;> first | assumption | omega | trivial | decide) | (intros; simp only [ZE] at *; (repeat' refine And.intro ?_ ?_) <;> first | assumption | omega | trivial)))
          | (refine And.intro (Ob.out ?_) ?_)
          | (refine WP.block ?_)
          | (refine WP.cond rfl (fun hc => ?_) (fun hc => ?_) <;> (try simp only [ZC, reduceCtorEq, ZD] at hc) <;> (try (exact absurd hc (by decide))) <;> (try (exfalso; omega)))
          | ((first | refine WP.skip ?_ | refine WP.exit ?_); simp only [SeqQ, BlkQ, LoopQ, BodyQ, ↓reduceIte, Nat.reduceEqDiff, reduceCtorEq, look, true_and])
          | (refine WP.ret (Sm.out ?_))
          | (first | refine ExG.no (Sm.out ?_) | refine Or.inl (ExG.no (Sm.out ?_)) | refine Or.inl (And.intro (fun hg => absurd hg (by decide)) (ExG.no (Sm.out ?_))))
          | (refine Rt.mk ?_; refine And.intro ?_ ?_ <;> (intro hg; first | exact absurd hg (by decide) | refine Sm.out ?_))
          | (refine Nu.mk ?_; first | (fail_if_success (have := nb1)); intro nb1 | (fail_if_success (have := nb2)); intro nb2 | (fail_if_success (have := nb3)); intro nb3 | (fail_if_success (have := nb4)); intro nb4 | (fail_if_success (have := nb5)); intro nb5 | (fail_if_success (have := nb6)); intro nb6 | (fail_if_success (have := nb7)); intro nb7 | (fail_if_success (have := nb8)); intro nb8 | (fail_if_success (have := nb9)); intro nb9 | (fail_if_success (have := nb10)); intro nb10 | (fail_if_success (have := nb11)); intro nb11 | (fail_if_success (have := nb12)); intro nb12 | intro nbz)
          | (refine Fr.mk ?_; intro hfr; (first | (have hFRb : _ ≤ _ ∧ _ ≤ _ := And.intro hfr.1 hfr.2.1) | (have hFRb : _ ≤ _ := hfr.1) | skip); replace FR := Sm.mk (And.intro hfr FR.out); clear hfr; refine Sm.out ?_)
          | (refine Two.mk ?_ ?_)
          | (refine Cs.mk ?_; intro hcs; first | exact False.elim hcs | (exfalso; omega) | (refine Sm.out ?_))
          | go_step
          | omega
          | (simp only [maxLen_eq]; omega)
        exact ⟨j + 1, ⟨by omega, by omega⟩, by omega, (Sub.pick (by simp [pickB, hget, hdel, FR.out, hd, w1, en, layF1]) (by simp [look, hd, w1, en, layF1]))⟩
    · have k3 : ((j : Int) == keep) = false := by simpa using hjk
      have en : rcur Ls Wl keep.toNat tN (j + 1) = layW Ls (Wl.take (j + 1)) := by
        unfold rcur; rw [if_pos (by omega)]
      first | (have FRx := FR; clear FRx) | (have FR : Sm (¬ ((1 : Nat) = 0)) := Sm.mk Nat.one_ne_zero)
      repeat' first
        | (refine Sm.mk ?_; try simp -dsimp only [ZK, rvc, drawF, headN, pureH, stp, dvc, calleeOf, gcall, pev, eff, newB, okd, og, ogs, ogo, ogp, slv, bltv, opd, litv, strip, one, both, putE, St.put, look, gdOf, gdv, picka, pickv, pickw, binv, bini, bins, binb, binp, binq, isSlT, bina, shp, eqCells, unv, convv, nilv, faddv, addp, idxav, idxp, load1, load1m, loadn, loadnm, loadv, hget, hset, hrep, hdel, slicev, bnd, shift1, lenv, capv, IntKind.bits, extractv, fieldv, indexv, min2v, max2v, mkiv, cellsA, fillA, buildv, stC, oneC, rowMB, intsA, plN, appE, appZ, appC, appNZ, appNC, VwL, srcC, srcZ, srcM, isBoolT, isPtrT, isSliceT, uOk, Value.oneCell', Nat.reducePow, Int.reducePow, Nat.reduceAdd, Nat.reduceMul, Nat.reduceSub, Nat.reduceLT, Nat.reduceLeDiff, Nat.reduceEqDiff, Nat.reduceBEq, Nat.reduceDiv, Nat.reduceMod, ↓reduceIte, reduceCtorEq, Int.reduceToNat, Int.reduceLT, Int.reduceLE, TFBlP, SeqQ, BlkQ, LoopQ, BodyQ, hd, k1, k2, k3, hd1, q1, FR.out])
        | (first | refine CallV.fn (clF) (Sm.out ?_) | refine ExF.mk (clF) (Sm.out ?_) | refine ExG.mk (fun _ => clF) (Sm.out ?_) | refine ExG.mkJ (fun _ => clF) (Sm.out ?_) | refine ExG.mkI (Ob.out ?_) (fun _ => clF) (Sm.out ?_))
        | (refine WP.seq fun K hK => ?_)
        | (refine WP.region (rvc_sound _ _ (Sm.out ?_)))
        | (refine WP.drawK rfl mixed (by decide +kernel) (Sm.out ?_))
        | (refine Ob.mk ?_; focus (first | assumption | omega | decide | trivial | (intro hob; simp only [hob, ZF]; done) | (intros; (repeat' refine And.intro ?_ ?_) <;> first | assumption | omega | trivial | decide) | (intros; simp only [ZE] at *; (repeat' refine And.intro ?_ ?_) <;> first | assumption | omega | trivial)))
        | (refine And.intro (Ob.out ?_) ?_)
        | (refine WP.block ?_)
        | (refine WP.cond rfl (fun hc => ?_) (fun hc => ?_) <;> (try simp only [ZC, reduceCtorEq, ZD] at hc) <;> (try (exact absurd hc (by decide))) <;> (try (exfalso; omega)))
        | ((first | refine WP.skip ?_ | refine WP.exit ?_); simp only [SeqQ, BlkQ, LoopQ, BodyQ, ↓reduceIte, Nat.reduceEqDiff, reduceCtorEq, look, true_and])
        | (refine WP.ret (Sm.out ?_))
        | (first | refine ExG.no (Sm.out ?_) | refine Or.inl (ExG.no (Sm.out ?_)) | refine Or.inl (And.intro (fun hg => absurd hg (by decide)) (ExG.no (Sm.out ?_))))
        | (refine Rt.mk ?_; refine And.intro ?_ ?_ <;> (intro hg; first | exact absurd hg (by decide) | refine Sm.out ?_))
        | (refine Nu.mk ?_; first | (fail_if_success (have := nb1)); intro nb1 | (fail_if_success (have := nb2)); intro nb2 | (fail_if_success (have := nb3)); intro nb3 | (fail_if_success (have := nb4)); intro nb4 | (fail_if_success (have := nb5)); intro nb5 | (fail_if_success (have := nb6)); intro nb6 | (fail_if_success (have := nb7)); intro nb7 | (fail_if_success (have := nb8)); intro nb8 | (fail_if_success (have := nb9)); intro nb9 | (fail_if_success (have := nb10)); intro nb10 | (fail_if_success (have := nb11)); intro nb11 | (fail_if_success (have := nb12)); intro nb12 | intro nbz)
        | (refine Fr.mk ?_; intro hfr; (first | (have hFRb : _ ≤ _ ∧ _ ≤ _ := And.intro hfr.1 hfr.2.1) | (have hFRb : _ ≤ _ := hfr.1) | skip); replace FR := Sm.mk (And.intro hfr FR.out); clear hfr; refine Sm.out ?_)
        | (refine Two.mk ?_ ?_)
        | (refine Cs.mk ?_; intro hcs; first | exact False.elim hcs | (exfalso; omega) | (refine Sm.out ?_))
        | go_step
        | omega
        | (simp only [maxLen_eq]; omega)
      exact ⟨j + 1, ⟨by omega, by omega⟩, by omega, (Sub.pick (by simp [pickB, hget, hdel, FR.out, hd, w1, en]) (by simp [look, hd, w1, en]))⟩
  · by_cases hk0 : keep < 0
    · obtain rfl : j = 0 := by omega
      have k1 : decide (((0 : Nat) : Int) < (m : Int)) = true := by simp; omega
      have k2 : decide (((0 : Nat) : Int) ≤ keep) = false := by simp; omega
      have k6 : decide (keep < 0) = true := by simp; omega
      have k7 : decide ((m : Int) > 0) = true := by simp; omega
      have hjw : 0 < Wl.length := by omega
      have hd1 := hwd 0 hjw
      have hx := xlen 0 (by omega)
      have clF := lay 0 (by omega) s (Nat.le_refl s)
      have clT := lay 0 (by omega) tN tN1
      rw [List.take_of_length_le (Nat.le_of_eq hx)] at clF
      have ecur : rcur Ls Wl keep.toNat tN 0 = layW Ls (Wl.take 0) := by unfold rcur; rw [if_pos (by omega)]
      rw [ecur]
      have eK : KM = 0 := by omega
      obtain ⟨w, hw⟩ : ∃ w, w = Wl[0] := ⟨_, rfl⟩
      rw [← hw] at hd1 hx clF clT
      obtain ⟨X, hX⟩ : ∃ X, X = layW Ls (Wl.take 0) := ⟨_, rfl⟩
      rw [← hX] at clF clT ⊢
      obtain ⟨TR, hTR⟩ : ∃ TR, TR = rcs s (Wl.drop (0 + 1)) := ⟨_, rfl⟩
      rw [← hTR, Nat.zero_mul, List.drop_zero] at hd1
      have q1 : 2 ≤ C.length := by omega
      clear hwd hTR hX hw lay layF xlen
      by_cases ht0 : torn < 0
      · have k5 : decide (torn < 0) = true := by simp; omega
        have hz : tN = 0 := by omega
        subst hz
        have k4 : decide ((0 : Int) < (s : Int)) = true := by simp; omega
        first | (have FRx := FR; clear FRx) | (have FR : Sm (¬ ((1 : Nat) = 0)) := Sm.mk Nat.one_ne_zero)
        repeat' first
          | (refine Sm.mk ?_; try simp -dsimp only [ZK, rvc, drawF, headN, pureH, stp, dvc, calleeOf, gcall, pev, eff, newB, okd, og, ogs, ogo, ogp, slv, bltv, opd, litv, strip, one, both, putE, St.put, look, gdOf, gdv, picka, pickv, pickw, binv, bini, bins, binb, binp, binq, isSlT, bina, shp, eqCells, unv, convv, nilv, faddv, addp, idxav, idxp, load1, load1m, loadn, loadnm, loadv, hget, hset, hrep, hdel, slicev, bnd, shift1, lenv, capv, IntKind.bits, extractv, fieldv, indexv, min2v, max2v, mkiv, cellsA, fillA, buildv, stC, oneC, rowMB, intsA, plN, appE, appZ, appC, appNZ, appNC, VwL, srcC, srcZ, srcM, isBoolT, isPtrT, isSliceT, uOk, Value.oneCell', Nat.reducePow, Int.reducePow, Nat.reduceAdd, Nat.reduceMul, Nat.reduceSub, Nat.reduceLT, Nat.reduceLeDiff, Nat.reduceEqDiff, Nat.reduceBEq, Nat.reduceDiv, Nat.reduceMod, ↓reduceIte, reduceCtorEq, Int.reduceToNat, Int.reduceLT, Int.reduceLE, TFBlP, SeqQ, BlkQ, LoopQ, BodyQ, hd, k1, k2, k4, k5, k6, k7, hd1, q1, hx, bstr_size, bstr_ext, List.take_zero, List.drop_zero, Int.natCast_zero, FR.out])
          | (first | refine CallV.fn (clT) (Sm.out ?_) | refine ExF.mk (clT) (Sm.out ?_) | refine ExG.mk (fun _ => clT) (Sm.out ?_) | refine ExG.mkJ (fun _ => clT) (Sm.out ?_) | refine ExG.mkI (Ob.out ?_) (fun _ => clT) (Sm.out ?_))
          | (refine WP.seq fun K hK => ?_)
          | (refine WP.region (rvc_sound _ _ (Sm.out ?_)))
          | (refine WP.drawK rfl mixed (by decide +kernel) (Sm.out ?_))
          | (refine Ob.mk ?_; focus (first | assumption | omega | decide | trivial | (intro hob; simp only [hob, ZF]; done) | (intros; (repeat' refine And.intro ?_ ?_) <;> first | assumption | omega | trivial | decide) | (intros; simp only [ZE] at *; (repeat' refine And.intro ?_ ?_) <;> first | assumption | omega | trivial)))
          | (refine And.intro (Ob.out ?_) ?_)
          | (refine WP.block ?_)
          | (refine WP.cond rfl (fun hc => ?_) (fun hc => ?_) <;> (try simp only [ZC, reduceCtorEq, ZD] at hc) <;> (try (exact absurd hc (by decide))) <;> (try (exfalso; omega)))
          | ((first | refine WP.skip ?_ | refine WP.exit ?_); simp only [SeqQ, BlkQ, LoopQ, BodyQ, ↓reduceIte, Nat.reduceEqDiff, reduceCtorEq, look, true_and])
          | (refine WP.ret (Sm.out ?_))
          | (first | refine ExG.no (Sm.out ?_) | refine Or.inl (ExG.no (Sm.out ?_)) | refine Or.inl (And.intro (fun hg => absurd hg (by decide)) (ExG.no (Sm.out ?_))))
          | (refine Rt.mk ?_; refine And.intro ?_ ?_ <;> (intro hg; first | exact absurd hg (by decide) | refine Sm.out ?_))
          | (refine Nu.mk ?_; first | (fail_if_success (have := nb1)); intro nb1 | (fail_if_success (have := nb2)); intro nb2 | (fail_if_success (have := nb3)); intro nb3 | (fail_if_success (have := nb4)); intro nb4 | (fail_if_success (have := nb5)); intro nb5 | (fail_if_success (have := nb6)); intro nb6 | (fail_if_success (have := nb7)); intro nb7 | (fail_if_success (have := nb8)); intro nb8 | (fail_if_success (have := nb9)); intro nb9 | (fail_if_success (have := nb10)); intro nb10 | (fail_if_success (have := nb11)); intro nb11 | (fail_if_success (have := nb12)); intro nb12 | intro nbz)
          | (refine Fr.mk ?_; intro hfr; (first | (have hFRb : _ ≤ _ ∧ _ ≤ _ := And.intro hfr.1 hfr.2.1) | (have hFRb : _ ≤ _ := hfr.1) | skip); replace FR := Sm.mk (And.intro hfr FR.out); clear hfr; refine Sm.out ?_)
          | (refine Two.mk ?_ ?_)
          | (refine Cs.mk ?_; intro hcs; first | exact False.elim hcs | (exfalso; omega) | (refine Sm.out ?_))
          | go_step
          | omega
          | (simp only [maxLen_eq]; omega)
        (refine OutQ.drop _ _ (perm2 (by simp only [hget, hdel, ↓reduceIte, if_true, if_false, FR.out, hd, eK]; first | done | rfl) (by simp only [hget, hdel, ↓reduceIte, if_true, if_false, FR.out, hd, eK]; first | done | rfl)) (by simp only [resv, ZK, look, loadv, loadn, loadnm, load1, load1m, hget, ↓reduceIte, Nat.reduceEqDiff, Nat.reduceAdd, Nat.reduceMul, Nat.reduceLeDiff, Nat.reduceLT, reduceCtorEq, TFBlP, FR.out, hd, eK]) ⟨(by simp only [resv, resA, ZK, look, loadv, loadn, loadnm, load1, load1m, hget, ↓reduceIte, Nat.reduceEqDiff, Nat.reduceAdd, Nat.reduceMul, Nat.reduceLeDiff, Nat.reduceLT, reduceCtorEq, TFBlP, FR.out, hd, eK]; first | done | rfl), rfl⟩)
      · have k5 : decide (torn < 0) = false := by simp; omega
        by_cases hts : torn < (s : Int)
        · have k4 : decide (torn < (s : Int)) = true := by simp; omega
          obtain ⟨tt, rfl⟩ := Int.eq_ofNat_of_zero_le (show 0 ≤ torn by omega)
          obtain rfl : tN = tt := by omega
          first | (have FRx := FR; clear FRx) | (have FR : Sm (¬ ((1 : Nat) = 0)) := Sm.mk Nat.one_ne_zero)
          repeat' first
            | (refine Sm.mk ?_; try simp -dsimp only [ZK, rvc, drawF, headN, pureH, stp, dvc, calleeOf, gcall, pev, eff, newB, okd, og, ogs, ogo, ogp, slv, bltv, opd, litv, strip, one, both, putE, St.put, look, gdOf, gdv, picka, pickv, pickw, binv, bini, bins, binb, binp, binq, isSlT, bina, shp, eqCells, unv, convv, nilv, faddv, addp, idxav, idxp, load1, load1m, loadn, loadnm, loadv, hget, hset, hrep, hdel, slicev, bnd, shift1, lenv, capv, IntKind.bits, extractv, fieldv, indexv, min2v, max2v, mkiv, cellsA, fillA, buildv, stC, oneC, rowMB, intsA, plN, appE, appZ, appC, appNZ, appNC, VwL, srcC, srcZ, srcM, isBoolT, isPtrT, isSliceT, uOk, Value.oneCell', Nat.reducePow, Int.reducePow, Nat.reduceAdd, Nat.reduceMul, Nat.reduceSub, Nat.reduceLT, Nat.reduceLeDiff, Nat.reduceEqDiff, Nat.reduceBEq, Nat.reduceDiv, Nat.reduceMod, ↓reduceIte, reduceCtorEq, Int.reduceToNat, Int.reduceLT, Int.reduceLE, TFBlP, SeqQ, BlkQ, LoopQ, BodyQ, hd, k1, k2, k4, k5, k6, k7, hd1, q1, hx, bstr_size, bstr_ext, List.drop_zero, Int.natCast_zero, FR.out])
            | (first | refine CallV.fn (clT) (Sm.out ?_) | refine ExF.mk (clT) (Sm.out ?_) | refine ExG.mk (fun _ => clT) (Sm.out ?_) | refine ExG.mkJ (fun _ => clT) (Sm.out ?_) | refine ExG.mkI (Ob.out ?_) (fun _ => clT) (Sm.out ?_))
            | (refine WP.seq fun K hK => ?_)
            | (refine WP.region (rvc_sound _ _ (Sm.out ?_)))
            | (refine WP.drawK rfl mixed (by decide +kernel) (Sm.out ?_))
            | (refine Ob.mk ?_; focus (first | assumption | omega | decide | trivial | (intro hob; simp only [hob, ZF]; done) | (intros; (repeat' refine And.intro ?_ ?_) <;> first | assumption | omega | trivial | decide) | (intros; simp only [ZE] at *; (repeat' refine And.intro ?_ ?_) <;> first | assumption | omega | trivial)))
            | (refine And.intro (Ob.out ?_) ?_)
            | (refine WP.block ?_)
            | (refine WP.cond rfl (fun hc => ?_) (fun hc => ?_) <;> (try simp only [ZC, reduceCtorEq, ZD] at hc) <;> (try (exact absurd hc (by decide))) <;> (try (exfalso; omega)))
            | ((first | refine WP.skip ?_ | refine WP.exit ?_); simp only [SeqQ, BlkQ, LoopQ, BodyQ, ↓reduceIte, Nat.reduceEqDiff, reduceCtorEq, look, true_and])
            | (refine WP.ret (Sm.out ?_))
            | (first | refine ExG.no (Sm.out ?_) | refine Or.inl (ExG.no (Sm.out ?_)) | refine Or.inl (And.intro (fun hg => absurd hg (by decide)) (ExG.no (Sm.out ?_))))
            | (refine Rt.mk ?_; refine And.intro ?_ ?_ <;> (intro hg; first | exact absurd hg (by decide) | refine Sm.out ?_))
            | (refine Nu.mk ?_; first | (fail_if_success (have := nb1)); intro nb1 | (fail_if_success (have := nb2)); intro nb2 | (fail_if_success (have := nb3)); intro nb3 | (fail_if_success (have := nb4)); intro nb4 | (fail_if_success (have := nb5)); intro nb5 | (fail_if_success (have := nb6)); intro nb6 | (fail_if_success (have := nb7)); intro nb7 | (fail_if_success (have := nb8)); intro nb8 | (fail_if_success (have := nb9)); intro nb9 | (fail_if_success (have := nb10)); intro nb10 | (fail_if_success (have := nb11)); intro nb11 | (fail_if_success (have := nb12)); intro nb12 | intro nbz)
            | (refine Fr.mk ?_; intro hfr; (first | (have hFRb : _ ≤ _ ∧ _ ≤ _ := And.intro hfr.1 hfr.2.1) | (have hFRb : _ ≤ _ := hfr.1) | skip); replace FR := Sm.mk (And.intro hfr FR.out); clear hfr; refine Sm.out ?_)
            | (refine Two.mk ?_ ?_)
            | (refine Cs.mk ?_; intro hcs; first | exact False.elim hcs | (exfalso; omega) | (refine Sm.out ?_))
            | go_step
            | omega
            | (simp only [maxLen_eq]; omega)
          (refine OutQ.drop _ _ (perm2 (by simp only [hget, hdel, ↓reduceIte, if_true, if_false, FR.out, hd, eK]; first | done | rfl) (by simp only [hget, hdel, ↓reduceIte, if_true, if_false, FR.out, hd, eK]; first | done | rfl)) (by simp only [resv, ZK, look, loadv, loadn, loadnm, load1, load1m, hget, ↓reduceIte, Nat.reduceEqDiff, Nat.reduceAdd, Nat.reduceMul, Nat.reduceLeDiff, Nat.reduceLT, reduceCtorEq, TFBlP, FR.out, hd, eK]) ⟨(by simp only [resv, resA, ZK, look, loadv, loadn, loadnm, load1, load1m, hget, ↓reduceIte, Nat.reduceEqDiff, Nat.reduceAdd, Nat.reduceMul, Nat.reduceLeDiff, Nat.reduceLT, reduceCtorEq, TFBlP, FR.out, hd, eK]; first | done | rfl), rfl⟩)
        · have k4 : decide (torn < (s : Int)) = false := by simp; omega
          obtain rfl : tN = s := by omega
          first | (have FRx := FR; clear FRx) | (have FR : Sm (¬ ((1 : Nat) = 0)) := Sm.mk Nat.one_ne_zero)
          repeat' first
            | (refine Sm.mk ?_; try simp -dsimp only [ZK, rvc, drawF, headN, pureH, stp, dvc, calleeOf, gcall, pev, eff, newB, okd, og, ogs, ogo, ogp, slv, bltv, opd, litv, strip, one, both, putE, St.put, look, gdOf, gdv, picka, pickv, pickw, binv, bini, bins, binb, binp, binq, isSlT, bina, shp, eqCells, unv, convv, nilv, faddv, addp, idxav, idxp, load1, load1m, loadn, loadnm, loadv, hget, hset, hrep, hdel, slicev, bnd, shift1, lenv, capv, IntKind.bits, extractv, fieldv, indexv, min2v, max2v, mkiv, cellsA, fillA, buildv, stC, oneC, rowMB, intsA, plN, appE, appZ, appC, appNZ, appNC, VwL, srcC, srcZ, srcM, isBoolT, isPtrT, isSliceT, uOk, Value.oneCell', Nat.reducePow, Int.reducePow, Nat.reduceAdd, Nat.reduceMul, Nat.reduceSub, Nat.reduceLT, Nat.reduceLeDiff, Nat.reduceEqDiff, Nat.reduceBEq, Nat.reduceDiv, Nat.reduceMod, ↓reduceIte, reduceCtorEq, Int.reduceToNat, Int.reduceLT, Int.reduceLE, TFBlP, SeqQ, BlkQ, LoopQ, BodyQ, hd, k1, k2, k4, k5, k6, k7, hd1, q1, hx, bstr_size, bstr_ext, List.drop_zero, Int.natCast_zero, FR.out])
            | (first | refine CallV.fn (clF) (Sm.out ?_) | refine ExF.mk (clF) (Sm.out ?_) | refine ExG.mk (fun _ => clF) (Sm.out ?_) | refine ExG.mkJ (fun _ => clF) (Sm.out ?_) | refine ExG.mkI (Ob.out ?_) (fun _ => clF) (Sm.out ?_))
            | (refine WP.seq fun K hK => ?_)
            | (refine WP.region (rvc_sound _ _ (Sm.out ?_)))
            | (refine WP.drawK rfl mixed (by decide +kernel) (Sm.out ?_))
            | (refine Ob.mk ?_; focus (first | assumption | omega | decide | trivial | (intro hob; simp only [hob, ZF]; done) | (intros; (repeat' refine And.intro ?_ ?_) <;> first | assumption | omega | trivial | decide) | (intros; simp only [ZE] at *; (repeat' refine And.intro ?_ ?_) <;> first | assumption | omega | trivial)))
            | (refine And.intro (Ob.out ?_) ?_)
            | (refine WP.block ?_)
            | (refine WP.cond rfl (fun hc => ?_) (fun hc => ?_) <;> (try simp only [ZC, reduceCtorEq, ZD] at hc) <;> (try (exact absurd hc (by decide))) <;> (try (exfalso; omega)))
            | ((first | refine WP.skip ?_ | refine WP.exit ?_); simp only [SeqQ, BlkQ, LoopQ, BodyQ, ↓reduceIte, Nat.reduceEqDiff, reduceCtorEq, look, true_and])
            | (refine WP.ret (Sm.out ?_))
            | (first | refine ExG.no (Sm.out ?_) | refine Or.inl (ExG.no (Sm.out ?_)) | refine Or.inl (And.intro (fun hg => absurd hg (by decide)) (ExG.no (Sm.out ?_))))
            | (refine Rt.mk ?_; refine And.intro ?_ ?_ <;> (intro hg; first | exact absurd hg (by decide) | refine Sm.out ?_))
            | (refine Nu.mk ?_; first | (fail_if_success (have := nb1)); intro nb1 | (fail_if_success (have := nb2)); intro nb2 | (fail_if_success (have := nb3)); intro nb3 | (fail_if_success (have := nb4)); intro nb4 | (fail_if_success (have := nb5)); intro nb5 | (fail_if_success (have := nb6)); intro nb6 | (fail_if_success (have := nb7)); intro nb7 | (fail_if_success (have := nb8)); intro nb8 | (fail_if_success (have := nb9)); intro nb9 | (fail_if_success (have := nb10)); intro nb10 | (fail_if_success (have := nb11)); intro nb11 | (fail_if_success (have := nb12)); intro nb12 | intro nbz)
            | (refine Fr.mk ?_; intro hfr; (first | (have hFRb : _ ≤ _ ∧ _ ≤ _ := And.intro hfr.1 hfr.2.1) | (have hFRb : _ ≤ _ := hfr.1) | skip); replace FR := Sm.mk (And.intro hfr FR.out); clear hfr; refine Sm.out ?_)
            | (refine Two.mk ?_ ?_)
            | (refine Cs.mk ?_; intro hcs; first | exact False.elim hcs | (exfalso; omega) | (refine Sm.out ?_))
            | go_step
            | omega
            | (simp only [maxLen_eq]; omega)
          (refine OutQ.drop _ _ (perm2 (by simp only [hget, hdel, ↓reduceIte, if_true, if_false, FR.out, hd, eK]; first | done | rfl) (by simp only [hget, hdel, ↓reduceIte, if_true, if_false, FR.out, hd, eK]; first | done | rfl)) (by simp only [resv, ZK, look, loadv, loadn, loadnm, load1, load1m, hget, ↓reduceIte, Nat.reduceEqDiff, Nat.reduceAdd, Nat.reduceMul, Nat.reduceLeDiff, Nat.reduceLT, reduceCtorEq, TFBlP, FR.out, hd, eK]) ⟨(by simp only [resv, resA, ZK, look, loadv, loadn, loadnm, load1, load1m, hget, ↓reduceIte, Nat.reduceEqDiff, Nat.reduceAdd, Nat.reduceMul, Nat.reduceLeDiff, Nat.reduceLT, reduceCtorEq, TFBlP, FR.out, hd, eK]; first | done | rfl), rfl⟩)
    · have eF : rcur Ls Wl keep.toNat tN j = crL Ls Wl KM tN := by
        rw [hKM]
        unfold rcur
        by_cases hjm : j = m
        · subst hjm
          by_cases hjk : j ≤ keep.toNat
          · rw [if_pos hjk, Nat.min_eq_right hjk]
            unfold crL
            rw [List.getElem?_eq_none (by omega)]
          · rw [if_neg hjk, Nat.min_eq_left (by omega)]
        · rw [if_neg (by omega), Nat.min_eq_left (by omega)]
      have k6 : decide (keep < 0) = false := by simp; omega
      by_cases hjm : j < m
      · have k1 : decide ((j : Int) < (m : Int)) = true := by simp; omega
        have k2 : decide ((j : Int) ≤ keep) = false := by simp; omega
        first | (have FRx := FR; clear FRx) | (have FR : Sm (¬ ((1 : Nat) = 0)) := Sm.mk Nat.one_ne_zero)
        repeat' first
          | (refine Sm.mk ?_; try simp -dsimp only [ZK, rvc, drawF, headN, pureH, stp, dvc, calleeOf, gcall, pev, eff, newB, okd, og, ogs, ogo, ogp, slv, bltv, opd, litv, strip, one, both, putE, St.put, look, gdOf, gdv, picka, pickv, pickw, binv, bini, bins, binb, binp, binq, isSlT, bina, shp, eqCells, unv, convv, nilv, faddv, addp, idxav, idxp, load1, load1m, loadn, loadnm, loadv, hget, hset, hrep, hdel, slicev, bnd, shift1, lenv, capv, IntKind.bits, extractv, fieldv, indexv, min2v, max2v, mkiv, cellsA, fillA, buildv, stC, oneC, rowMB, intsA, plN, appE, appZ, appC, appNZ, appNC, VwL, srcC, srcZ, srcM, isBoolT, isPtrT, isSliceT, uOk, Value.oneCell', Nat.reducePow, Int.reducePow, Nat.reduceAdd, Nat.reduceMul, Nat.reduceSub, Nat.reduceLT, Nat.reduceLeDiff, Nat.reduceEqDiff, Nat.reduceBEq, Nat.reduceDiv, Nat.reduceMod, ↓reduceIte, reduceCtorEq, Int.reduceToNat, Int.reduceLT, Int.reduceLE, TFBlP, SeqQ, BlkQ, LoopQ, BodyQ, hd, k1, k2, k6, FR.out])
          | (refine WP.seq fun K hK => ?_)
          | (refine WP.region (rvc_sound _ _ (Sm.out ?_)))
          | (refine WP.drawK rfl mixed (by decide +kernel) (Sm.out ?_))
          | (refine Ob.mk ?_; focus (first | assumption | omega | decide | trivial | (intro hob; simp only [hob, ZF]; done) | (intros; (repeat' refine And.intro ?_ ?_) <;> first | assumption | omega | trivial | decide) | (intros; simp only [ZE] at *; (repeat' refine And.intro ?_ ?_) <;> first | assumption | omega | trivial)))
          | (refine And.intro (Ob.out ?_) ?_)
          | (refine WP.block ?_)
          | (refine WP.cond rfl (fun hc => ?_) (fun hc => ?_) <;> (try simp only [ZC, reduceCtorEq, ZD] at hc) <;> (try (exact absurd hc (by decide))) <;> (try (exfalso; omega)))
          | ((first | refine WP.skip ?_ | refine WP.exit ?_); simp only [SeqQ, BlkQ, LoopQ, BodyQ, ↓reduceIte, Nat.reduceEqDiff, reduceCtorEq, look, true_and])
          | (refine WP.ret (Sm.out ?_))
          | (first | refine ExG.no (Sm.out ?_) | refine Or.inl (ExG.no (Sm.out ?_)) | refine Or.inl (And.intro (fun hg => absurd hg (by decide)) (ExG.no (Sm.out ?_))))
          | (refine Rt.mk ?_; refine And.intro ?_ ?_ <;> (intro hg; first | exact absurd hg (by decide) | refine Sm.out ?_))
          | (refine Nu.mk ?_; first | (fail_if_success (have := nb1)); intro nb1 | (fail_if_success (have := nb2)); intro nb2 | (fail_if_success (have := nb3)); intro nb3 | (fail_if_success (have := nb4)); intro nb4 | (fail_if_success (have := nb5)); intro nb5 | (fail_if_success (have := nb6)); intro nb6 | (fail_if_success (have := nb7)); intro nb7 | (fail_if_success (have := nb8)); intro nb8 | (fail_if_success (have := nb9)); intro nb9 | (fail_if_success (have := nb10)); intro nb10 | (fail_if_success (have := nb11)); intro nb11 | (fail_if_success (have := nb12)); intro nb12 | intro nbz)
          | (refine Fr.mk ?_; intro hfr; (first | (have hFRb : _ ≤ _ ∧ _ ≤ _ := And.intro hfr.1 hfr.2.1) | (have hFRb : _ ≤ _ := hfr.1) | skip); replace FR := Sm.mk (And.intro hfr FR.out); clear hfr; refine Sm.out ?_)
          | (refine Two.mk ?_ ?_)
          | (refine Cs.mk ?_; intro hcs; first | exact False.elim hcs | (exfalso; omega) | (refine Sm.out ?_))
          | go_step
          | omega
          | (simp only [maxLen_eq]; omega)
        (refine OutQ.drop _ _ (perm2 (by simp only [hget, hdel, ↓reduceIte, if_true, if_false, FR.out, hd, eF]; first | done | rfl) (by simp only [hget, hdel, ↓reduceIte, if_true, if_false, FR.out, hd, eF]; first | done | rfl)) (by simp only [resv, ZK, look, loadv, loadn, loadnm, load1, load1m, hget, ↓reduceIte, Nat.reduceEqDiff, Nat.reduceAdd, Nat.reduceMul, Nat.reduceLeDiff, Nat.reduceLT, reduceCtorEq, TFBlP, FR.out, hd, eF]) ⟨(by simp only [resv, resA, ZK, look, loadv, loadn, loadnm, load1, load1m, hget, ↓reduceIte, Nat.reduceEqDiff, Nat.reduceAdd, Nat.reduceMul, Nat.reduceLeDiff, Nat.reduceLT, reduceCtorEq, TFBlP, FR.out, hd, eF]; first | done | rfl), rfl⟩)
      · have k1 : decide ((j : Int) < (m : Int)) = false := by simp; omega
        first | (have FRx := FR; clear FRx) | (have FR : Sm (¬ ((1 : Nat) = 0)) := Sm.mk Nat.one_ne_zero)
        repeat' first
          | (refine Sm.mk ?_; try simp -dsimp only [ZK, rvc, drawF, headN, pureH, stp, dvc, calleeOf, gcall, pev, eff, newB, okd, og, ogs, ogo, ogp, slv, bltv, opd, litv, strip, one, both, putE, St.put, look, gdOf, gdv, picka, pickv, pickw, binv, bini, bins, binb, binp, binq, isSlT, bina, shp, eqCells, unv, convv, nilv, faddv, addp, idxav, idxp, load1, load1m, loadn, loadnm, loadv, hget, hset, hrep, hdel, slicev, bnd, shift1, lenv, capv, IntKind.bits, extractv, fieldv, indexv, min2v, max2v, mkiv, cellsA, fillA, buildv, stC, oneC, rowMB, intsA, plN, appE, appZ, appC, appNZ, appNC, VwL, srcC, srcZ, srcM, isBoolT, isPtrT, isSliceT, uOk, Value.oneCell', Nat.reducePow, Int.reducePow, Nat.reduceAdd, Nat.reduceMul, Nat.reduceSub, Nat.reduceLT, Nat.reduceLeDiff, Nat.reduceEqDiff, Nat.reduceBEq, Nat.reduceDiv, Nat.reduceMod, ↓reduceIte, reduceCtorEq, Int.reduceToNat, Int.reduceLT, Int.reduceLE, TFBlP, SeqQ, BlkQ, LoopQ, BodyQ, hd, k1, k6, FR.out])
          | (refine WP.seq fun K hK => ?_)
          | (refine WP.region (rvc_sound _ _ (Sm.out ?_)))
          | (refine WP.drawK rfl mixed (by decide +kernel) (Sm.out ?_))
          | (refine Ob.mk ?_; focus (first | assumption | omega | decide | trivial | (intro hob; simp only [hob, ZF]; done) | (intros; (repeat' refine And.intro ?_ ?_) <;> first | assumption | omega | trivial | decide) | (intros; simp only [ZE] at *; (repeat' refine And.intro ?_ ?_) <;> first | assumption | omega | trivial)))
          | (refine And.intro (Ob.out ?_) ?_)
          | (refine WP.block ?_)
          | (refine WP.cond rfl (fun hc => ?_) (fun hc => ?_) <;> (try simp only [ZC, reduceCtorEq, ZD] at hc) <;> (try (exact absurd hc (by decide))) <;> (try (exfalso; omega)))
          | ((first | refine WP.skip ?_ | refine WP.exit ?_); simp only [SeqQ, BlkQ, LoopQ, BodyQ, ↓reduceIte, Nat.reduceEqDiff, reduceCtorEq, look, true_and])
          | (refine WP.ret (Sm.out ?_))
          | (first | refine ExG.no (Sm.out ?_) | refine Or.inl (ExG.no (Sm.out ?_)) | refine Or.inl (And.intro (fun hg => absurd hg (by decide)) (ExG.no (Sm.out ?_))))
          | (refine Rt.mk ?_; refine And.intro ?_ ?_ <;> (intro hg; first | exact absurd hg (by decide) | refine Sm.out ?_))
          | (refine Nu.mk ?_; first | (fail_if_success (have := nb1)); intro nb1 | (fail_if_success (have := nb2)); intro nb2 | (fail_if_success (have := nb3)); intro nb3 | (fail_if_success (have := nb4)); intro nb4 | (fail_if_success (have := nb5)); intro nb5 | (fail_if_success (have := nb6)); intro nb6 | (fail_if_success (have := nb7)); intro nb7 | (fail_if_success (have := nb8)); intro nb8 | (fail_if_success (have := nb9)); intro nb9 | (fail_if_success (have := nb10)); intro nb10 | (fail_if_success (have := nb11)); intro nb11 | (fail_if_success (have := nb12)); intro nb12 | intro nbz)
          | (refine Fr.mk ?_; intro hfr; (first | (have hFRb : _ ≤ _ ∧ _ ≤ _ := And.intro hfr.1 hfr.2.1) | (have hFRb : _ ≤ _ := hfr.1) | skip); replace FR := Sm.mk (And.intro hfr FR.out); clear hfr; refine Sm.out ?_)
          | (refine Two.mk ?_ ?_)
          | (refine Cs.mk ?_; intro hcs; first | exact False.elim hcs | (exfalso; omega) | (refine Sm.out ?_))
          | go_step
          | omega
          | (simp only [maxLen_eq]; omega)
        (refine OutQ.drop _ _ (perm2 (by simp only [hget, hdel, ↓reduceIte, if_true, if_false, FR.out, hd, eF]; first | done | rfl) (by simp only [hget, hdel, ↓reduceIte, if_true, if_false, FR.out, hd, eF]; first | done | rfl)) (by simp only [resv, ZK, look, loadv, loadn, loadnm, load1, load1m, hget, ↓reduceIte, Nat.reduceEqDiff, Nat.reduceAdd, Nat.reduceMul, Nat.reduceLeDiff, Nat.reduceLT, reduceCtorEq, TFBlP, FR.out, hd, eF]) ⟨(by simp only [resv, resA, ZK, look, loadv, loadn, loadnm, load1, load1m, hget, ↓reduceIte, Nat.reduceEqDiff, Nat.reduceAdd, Nat.reduceMul, Nat.reduceLeDiff, Nat.reduceLT, reduceCtorEq, TFBlP, FR.out, hd, eF]; first | done | rfl), rfl⟩)
end
end Go.Proofs.Ytnhkohgamnchlaa
namespace Go.Proofs.Ytnhkohgamnchlaa
open Go
set_option linter.unusedVariables false
set_option linter.unusedSimpArgs false
abbrev RL : Type := Nat × Nat
def rW : List (Nat × List Int) → RL → AV
  | [], _ => nl
  | w :: r, o => ms o.1 0 (w :: r).length o.2
def rB (s : Nat) : List (Nat × List Int) → RL → Hp
  | [], _ => []
  | w :: r, o => [(o.1, .cells (rcs s (w :: r)) (o.2 * 2) 63)]
def rHd (a : DA) (o : RL) : MB := rM a.n a.size (stz a.L.flatten) (rW a.W o) a.f a.dk a.de
def rH (mb : Nat) (a : DA) (o : RL) : Hp := (mb, rHd a o) :: rB a.size a.W o
structure ROk (mb : Nat) (a : DA) (o : RL) : Prop where
  k : a.W ≠ [] → a.W.length ≤ o.2 ∧ o.2 ≤ 9223372036854775807
  nd : ((rH mb a o).map (·.1)).Nodup
abbrev RS (mb : Nat) (a : DA) : Type := {o : RL // ROk mb a o}
theorem rH_W {mb : Nat} {a : DA} {o : RL} (h : a.W ≠ []) : rH mb a o = [(mb, rM a.n a.size (stz a.L.flatten) (ms o.1 0 a.W.length o.2) a.f a.dk a.de), (o.1, .cells (rcs a.size a.W) (o.2 * 2) 63)] := by
  obtain ⟨s, n, L, S, W, f, dk, de⟩ := a
  cases W with
  | nil => exact absurd rfl h
  | cons w r => rfl
theorem rH_0 {mb : Nat} {a : DA} {o : RL} (h : a.W = []) : rH mb a o = [(mb, rM a.n a.size (stz a.L.flatten) nl a.f a.dk a.de)] := by
  obtain ⟨s, n, L, S, W, f, dk, de⟩ := a
  cases W with
  | nil => rfl
  | cons w r => exact absurd h (by simp)
theorem ROk.d {mb : Nat} {a : DA} {o : RL} (h : ROk mb a o) (hW : a.W ≠ []) : mb ≠ o.1 ∧ o.1 ≠ mb := by
  have := h.nd
  rw [rH_W hW] at this
  simp only [List.map_cons, List.nodup_cons, List.mem_cons, not_or] at this
  exact ⟨this.1.1, Ne.symm this.1.1⟩
theorem ROk.of0 {mb : Nat} {a : DA} {o : RL} (h : a.W = []) : ROk mb a o := ⟨fun h' => absurd h h', by rw [rH_0 h]; simp⟩
variable {mb : Nat} {a : DA} {o : RL} {c : Nat}
theorem len1 (h : a.W ≠ []) : 1 ≤ a.W.length := by
  have : a.W.length ≠ 0 := fun h' => h (List.eq_nil_of_length_eq_zero h')
  omega
/-- what is seen is what lasts, and all that waits over it -/
def SI (a : DA) : Prop := a.S = layW a.L a.W
theorem rseen_d (hA : AOk c a) (ho : ROk mb a o) (hc : c ≤ 1000) (hS : SI a) : ACt Try.prog 24 [pt mb 0] (rH mb a o) (fun r F' => r = stz a.S.flatten ∧ F' = rH mb a o) := by
  unfold SI at hS
  rw [hS]
  have hWc := hA.Wc
  by_cases hW : a.W = []
  · rw [rH_0 hW, hW]; exact seen_none
  · rw [rH_W hW]
    exact seen_some (ho.d hW) hA.Ll hA.n2 hA.s2 rfl (len1 hW) (by omega) (ho.k hW).1 hA.Lr hA.W
theorem rwrite_d (hA : AOk c a) (ho : ROk mb a o) (hc : c ≤ 1000) (i : Int) (zs : List Int) :
    ACt Try.prog 18 [pt mb 0, iv .i64 i, .slz .u8 zs] (rH mb a o) (fun r F' => ∃ q : RS mb (wrA a i zs), r = iv .i64 (wrC a i zs.length) ∧ F' = rH mb (wrA a i zs) q.1) := by
  by_cases h1 : mayA a i zs.length ≠ 0
  · have eA : wrA a i zs = a := by unfold wrA; rw [if_pos h1]
    have eC : wrC a i zs.length = mayA a i zs.length := by unfold wrC; rw [if_pos h1]
    rw [eA, eC]
    refine (first_d _ (rwrite_bad mb a.n a.size a.de (stz a.L.flatten) (rW a.W o) a.f i a.dk zs h1)).mono ?_
    rintro r F' ⟨e1, e2⟩
    exact ⟨⟨o, ho⟩, e1, e2⟩
  · have h1' : mayA a i zs.length = 0 := by simpa using h1
    obtain ⟨hk, i0, i1, i2⟩ := mayC_in h1'
    have h1d : mayC a.size a.n false i zs.length = 0 := by rw [← hk]; exact h1'
    by_cases h2 : a.f = 0
    · have eA : wrA a i zs = { a with dk := true } := by unfold wrA; rw [if_neg h1, if_pos h2]
      have eC : wrC a i zs.length = 12 := by unfold wrC; rw [if_neg h1, if_pos h2]
      rw [eA, eC]
      have hw := rwrite_out mb a.n a.size a.de (stz a.L.flatten) (rW a.W o) i zs h1d
      rw [← hk, ← h2] at hw
      refine (first_d (rB a.size a.W o) hw).mono ?_
      rintro r F' ⟨e1, e2⟩
      exact ⟨⟨o, ⟨ho.k, ho.nd⟩⟩, e1, e2⟩
    · have eC : wrC a i zs.length = 0 := by unfold wrC; rw [if_neg h1, if_neg h2]
      have eA : wrA a i zs = { a with f := fuseN a.f, de := a.de + 1, W := a.W ++ [(i.toNat, pad a.size zs)], S := a.S.set i.toNat (pad a.size zs) } := by unfold wrA; rw [if_neg h1, if_neg h2]
      have eW : (wrA a i zs).W ≠ [] := by rw [eA]; simp
      rw [eC]
      obtain ⟨m, rfl⟩ := Int.eq_ofNat_of_zero_le i0
      have hde := hA.de
      have hWc := hA.Wc
      have key : ∀ x k : Nat, a.W.length + 1 ≤ k ∧ k ≤ 9223372036854775807 → (([(x, MB.cells (rcs a.size (a.W ++ [(m, pad a.size zs)])) (k * 2) 63), (mb, rM a.n a.size (stz a.L.flatten) (ms x 0 (a.W.length + 1) k) (fuseN a.f) false (a.de + 1))] ++ ([] : Hp)).map (·.1)).Nodup →
          ∃ H' D, ([(x, MB.cells (rcs a.size (a.W ++ [(m, pad a.size zs)])) (k * 2) 63), (mb, rM a.n a.size (stz a.L.flatten) (ms x 0 (a.W.length + 1) k) (fuseN a.f) false (a.de + 1))] ++ []).Perm (H' ++ D) ∧
            ∃ q : RS mb (wrA a m zs), iv .i64 0 = iv .i64 0 ∧ H' = rH mb (wrA a m zs) q.1 := fun x k hk' hn => by
        have e : rH mb (wrA a m zs) (x, k) = [(mb, rM a.n a.size (stz a.L.flatten) (ms x 0 (a.W.length + 1) k) (fuseN a.f) false (a.de + 1)), (x, .cells (rcs a.size (a.W ++ [(m, pad a.size zs)])) (k * 2) 63)] := by
          rw [rH_W eW, eA]
          simp only [List.length_append, List.length_cons, List.length_nil, Int.toNat_natCast, hk]
        have hp : ([(x, MB.cells (rcs a.size (a.W ++ [(m, pad a.size zs)])) (k * 2) 63), (mb, rM a.n a.size (stz a.L.flatten) (ms x 0 (a.W.length + 1) k) (fuseN a.f) false (a.de + 1))] ++ []).Perm (rH mb (wrA a m zs) (x, k) ++ []) := by
          rw [e]; exact .swap _ _ _
        refine ⟨_, [], hp, ⟨⟨(x, k), ⟨fun _ => ?_, nd_of hp hn⟩⟩, rfl, rfl⟩⟩
        rw [eA]; simpa using hk'
      by_cases hW : a.W = []
      · rw [rH_0 hW, hk]
        refine ACt.frm (R := []) (rwrite_first mb a.n a.size a.de m (stz a.L.flatten) a.f zs h1d hA.n2 hA.s2 h2 hA.f1 hA.f2 (by omega)) (.refl _) fun r F' hr hn => ?_
        obtain ⟨x, k, hk', e1, e2⟩ := hr
        subst e1 e2
        have := key x k (by rw [hW]; exact hk')
        rw [hW] at this
        exact this hn
      · rw [rH_W hW, hk]
        have hk2 := ho.k hW
        refine ACt.frm (R := []) (rwrite_more mb a.n a.size a.de m o.1 o.2 a.W.length (stz a.L.flatten) a.f zs a.W rfl hk2.1 (len1 hW) (by omega) hk2.2 (ho.d hW) h1d hA.n2 hA.s2 h2 hA.f1 hA.f2 (by omega)) (.refl _) fun r F' hr hn => ?_
        obtain ⟨x, k, hk', e1, e2⟩ := hr
        subst e1 e2
        exact key x k hk' hn
theorem rsync_d (hA : AOk c a) (ho : ROk mb a o) (hc : c ≤ 1000) (hS : SI a) :
    ACt Try.prog 19 [pt mb 0] (rH mb a o) (fun r F' => ∃ q : RS mb (syA a), r = iv .i64 (syC a) ∧ F' = rH mb (syA a) q.1) := by
  by_cases h1 : a.dk = true
  · have eA : syA a = a := by unfold syA; rw [if_pos h1]
    have eC : syC a = 12 := by unfold syC; rw [if_pos h1]
    rw [eA, eC]
    have hs := rsync_dark (b := mb) (n := a.n) (s := a.size) (de := a.de) (f := a.f) (L := stz a.L.flatten) (W := rW a.W o)
    rw [← h1] at hs
    refine (first_d (rB a.size a.W o) hs).mono ?_
    rintro r F' ⟨e1, e2⟩
    exact ⟨⟨o, ho⟩, e1, e2⟩
  · have hk : a.dk = false := by simpa using h1
    by_cases h2 : a.f = 0
    · have eA : syA a = { a with dk := true } := by unfold syA; rw [if_neg h1, if_pos h2]
      have eC : syC a = 12 := by unfold syC; rw [if_neg h1, if_pos h2]
      rw [eA, eC]
      have hs := rsync_out (b := mb) (n := a.n) (s := a.size) (de := a.de) (L := stz a.L.flatten) (W := rW a.W o)
      rw [← hk, ← h2] at hs
      refine (first_d (rB a.size a.W o) hs).mono ?_
      rintro r F' ⟨e1, e2⟩
      exact ⟨⟨o, ⟨ho.k, ho.nd⟩⟩, e1, e2⟩
    · have eA : syA a = { a with f := fuseN a.f, de := a.de + 1, L := a.S, W := [] } := by unfold syA; rw [if_neg h1, if_neg h2]
      have eC : syC a = 0 := by unfold syC; rw [if_neg h1, if_neg h2]
      rw [eA, eC]
      have hde := hA.de
      have hs := rsync_ok (b := mb) (n := a.n) (s := a.size) (de := a.de) (f := a.f) (L := stz a.L.flatten) (W := rW a.W o) (R := rB a.size a.W o) (xs := a.S.flatten) h2 hA.f1 hA.f2 (by omega) fun f de => by
        have hA' : AOk (c + de) { a with f := -1, de := de } := ⟨hA.n1, hA.n2, hA.s1, hA.s2, hA.Ll, hA.Lr, hA.Sl, hA.Sr, hA.W, by have := hA.Wc; simp only; omega, by simp, by simp, by simp only; omega⟩
        have hWc := hA.Wc
        unfold SI at hS
        rw [hS]
        by_cases hW : a.W = []
        · rw [hW]; exact seen_none
        · obtain ⟨w, r, hw⟩ : ∃ w r, a.W = w :: r := by
            cases h : a.W with
            | nil => exact absurd h hW
            | cons w r => exact ⟨w, r, rfl⟩
          have hm := seen_some (b := mb) (n := a.n) (s := a.size) (de := de) (f := f) (dk := false) (ho.d hW) hA.Ll hA.n2 hA.s2 rfl (len1 hW) (by omega) (ho.k hW).1 hA.Lr hA.W
          rw [hw] at hm ⊢
          exact hm
      refine ACt.frm (R := []) (by rw [← hk] at hs; exact hs) (pmz _) fun r F' hr hn => ?_
      obtain ⟨e1, e2⟩ := hr
      subst e1 e2
      refine ⟨rH mb { a with f := fuseN a.f, de := a.de + 1, L := a.S, W := [] } o, rB a.size a.W o, ?_, ⟨o, ROk.of0 rfl⟩, rfl, rfl⟩
      rw [List.append_nil]
      exact .refl _
theorem rcrash_d (hA : AOk c a) (ho : ROk mb a o) (hc : c ≤ 1000) (keep torn : Int) :
    ACt Try.prog 20 [pt mb 0, iv .i64 keep, iv .i64 torn] (rH mb a o) (fun r F' => ∃ q : RS mb (crA a keep torn), r = .tup [] ∧ F' = rH mb (crA a keep torn) q.1) := by
  have hWc := hA.Wc
  by_cases hW : a.W = []
  · have eC : crL a.L a.W (hN keep a.W.length) (hN torn a.size) = a.L := by rw [hW]; simp [crL, layW]
    rw [rH_0 hW]
    refine (rcrash_none keep torn).mono ?_
    rintro r F' ⟨e1, e2⟩
    refine ⟨⟨o, ROk.of0 rfl⟩, e1, ?_⟩
    rw [e2, rH_0 rfl]
    simp only [crA, eC]
  · rw [rH_W hW]
    refine ACt.frm (R := []) (rcrash_some (Wl := a.W) keep torn (ho.d hW) hA.Ll hA.n2 hA.s1 hA.s2 rfl (len1 hW) (by omega) (ho.k hW).1 hA.Lr hA.W) (.refl _) fun r F' hr hn => ?_
    obtain ⟨e1, e2⟩ := hr
    subst e1 e2
    have e : rH mb (crA a keep torn) o = [(mb, rM a.n a.size (stz (crL a.L a.W (min keep.toNat a.W.length) (min torn.toNat a.size)).flatten) nl (-1) false a.de)] := by
      rw [rH_0 rfl]
      simp only [crA, hN_min]
    refine ⟨rH mb (crA a keep torn) o, [(o.1, .cells (rcs a.size a.W) (o.2 * 2) 63)], ?_, ⟨o, ROk.of0 rfl⟩, rfl, rfl⟩
    rw [e]
    exact .refl _
theorem SI.write (h : SI a) (i : Int) (zs : List Int) : SI (wrA a i zs) := by
  unfold SI at h ⊢
  unfold wrA
  split
  · exact h
  · split
    · exact h
    · simp only [layW_app, h]
      rfl
theorem SI.sync (h : SI a) : SI (syA a) := by
  unfold SI at h ⊢
  unfold syA
  split
  · exact h
  · split
    · exact h
    · rfl
theorem SI.crash (keep torn : Int) : SI (crA a keep torn) := rfl
theorem SI.fuse (h : SI a) (n : Int) : SI (fuA a n) := h
theorem wrA_n (i : Int) (zs : List Int) : (wrA a i zs).n = a.n ∧ (wrA a i zs).size = a.size := by
  unfold wrA; split
  · exact ⟨rfl, rfl⟩
  · split <;> exact ⟨rfl, rfl⟩
theorem syA_n : (syA a).n = a.n ∧ (syA a).size = a.size := by
  unfold syA; split
  · exact ⟨rfl, rfl⟩
  · split <;> exact ⟨rfl, rfl⟩
end Go.Proofs.Ytnhkohgamnchlaa
