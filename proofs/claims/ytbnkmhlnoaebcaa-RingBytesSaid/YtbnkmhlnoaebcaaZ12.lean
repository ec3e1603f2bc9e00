/-
  The walks and the laws that the statement leans on, part 12.
-/
import Derived.Test.YtbnkmhlnoaebcaaZ11
namespace Go.Proofs.Ytbnkmhlnoaebcaa
open Go Wi
set_option linter.unusedVariables false
set_option linter.unusedSimpArgs false
theorem TFRhN : (((((((type_of% tyc0) ∧ (type_of% tyc2)) ∧ ((type_of% zmb2) ∧ ((type_of% tyc3) ∧ (type_of% zmb3)))) ∧ (((type_of% tyc4) ∧ (type_of% zmb4)) ∧ ((type_of% tyc5) ∧ ((type_of% zmb5) ∧ (type_of% tyc9))))) ∧ ((((type_of% zmb9) ∧ (type_of% tyc23)) ∧ ((type_of% zmb23) ∧ ((type_of% tyc26) ∧ (type_of% mth26_30)))) ∧ (((type_of% mth26_39) ∧ ((type_of% mth26_38) ∧ (type_of% con26))) ∧ ((type_of% zmb26) ∧ ((type_of% tyc27) ∧ (type_of% tyc34)))))) ∧ (((((type_of% elt34) ∧ (type_of% mkz34)) ∧ ((type_of% mkc34) ∧ ((type_of% apT34) ∧ (type_of% elk34)))) ∧ (((type_of% zmb34) ∧ (type_of% tyc35)) ∧ ((type_of% zmb35) ∧ ((type_of% tyc38) ∧ (type_of% foff38_0))))) ∧ ((((type_of% fpart38_0) ∧ (type_of% foff38_1)) ∧ ((type_of% fpart38_1) ∧ ((type_of% foff38_2) ∧ (type_of% fpart38_2)))) ∧ (((type_of% foff38_3) ∧ ((type_of% fpart38_3) ∧ (type_of% zmb38))) ∧ ((type_of% bldT38) ∧ ((type_of% tyc45) ∧ (type_of% foff45_0))))))) ∧ ((((((type_of% fpart45_0) ∧ (type_of% foff45_1)) ∧ ((type_of% fpart45_1) ∧ ((type_of% foff45_2) ∧ (type_of% fpart45_2)))) ∧ (((type_of% zmb45) ∧ (type_of% bldT45)) ∧ ((type_of% tyc50) ∧ ((type_of% elt50) ∧ (type_of% mkz50))))) ∧ ((((type_of% apT50) ∧ (type_of% elk50)) ∧ ((type_of% zmb50) ∧ ((type_of% tyc54) ∧ (type_of% mth54_53)))) ∧ (((type_of% mth54_50) ∧ ((type_of% mth54_54) ∧ (type_of% con54))) ∧ ((type_of% zmb54) ∧ ((type_of% tyc78) ∧ (type_of% foff78_0)))))) ∧ (((((type_of% fpart78_0) ∧ (type_of% foff78_1)) ∧ ((type_of% fpart78_1) ∧ ((type_of% zmb78) ∧ (type_of% bldT78)))) ∧ (((type_of% Try.underlying0) ∧ (type_of% Try.underlying2)) ∧ ((type_of% Try.underlying3) ∧ ((type_of% Try.underlying4) ∧ (type_of% Try.underlying5))))) ∧ ((((type_of% Try.underlying9) ∧ (type_of% Try.underlying23)) ∧ ((type_of% Try.underlying26) ∧ ((type_of% Try.underlying27) ∧ (type_of% Try.underlying34)))) ∧ (((type_of% Try.underlying35) ∧ ((type_of% Try.underlying38) ∧ (type_of% Try.underlying45))) ∧ ((type_of% Try.underlying50) ∧ ((type_of% Try.underlying54) ∧ (type_of% Try.underlying78)))))))) :=
  ⟨⟨⟨⟨⟨⟨tyc0, tyc2⟩, ⟨zmb2, ⟨tyc3, zmb3⟩⟩⟩, ⟨⟨tyc4, zmb4⟩, ⟨tyc5, ⟨zmb5, tyc9⟩⟩⟩⟩, ⟨⟨⟨zmb9, tyc23⟩, ⟨zmb23, ⟨tyc26, mth26_30⟩⟩⟩, ⟨⟨mth26_39, ⟨mth26_38, con26⟩⟩, ⟨zmb26, ⟨tyc27, tyc34⟩⟩⟩⟩⟩, ⟨⟨⟨⟨elt34, mkz34⟩, ⟨mkc34, ⟨apT34, elk34⟩⟩⟩, ⟨⟨zmb34, tyc35⟩, ⟨zmb35, ⟨tyc38, foff38_0⟩⟩⟩⟩, ⟨⟨⟨fpart38_0, foff38_1⟩, ⟨fpart38_1, ⟨foff38_2, fpart38_2⟩⟩⟩, ⟨⟨foff38_3, ⟨fpart38_3, zmb38⟩⟩, ⟨bldT38, ⟨tyc45, foff45_0⟩⟩⟩⟩⟩⟩, ⟨⟨⟨⟨⟨fpart45_0, foff45_1⟩, ⟨fpart45_1, ⟨foff45_2, fpart45_2⟩⟩⟩, ⟨⟨zmb45, bldT45⟩, ⟨tyc50, ⟨elt50, mkz50⟩⟩⟩⟩, ⟨⟨⟨apT50, elk50⟩, ⟨zmb50, ⟨tyc54, mth54_53⟩⟩⟩, ⟨⟨mth54_50, ⟨mth54_54, con54⟩⟩, ⟨zmb54, ⟨tyc78, foff78_0⟩⟩⟩⟩⟩, ⟨⟨⟨⟨fpart78_0, foff78_1⟩, ⟨fpart78_1, ⟨zmb78, bldT78⟩⟩⟩, ⟨⟨Try.underlying0, Try.underlying2⟩, ⟨Try.underlying3, ⟨Try.underlying4, Try.underlying5⟩⟩⟩⟩, ⟨⟨⟨Try.underlying9, Try.underlying23⟩, ⟨Try.underlying26, ⟨Try.underlying27, Try.underlying34⟩⟩⟩, ⟨⟨Try.underlying35, ⟨Try.underlying38, Try.underlying45⟩⟩, ⟨Try.underlying50, ⟨Try.underlying54, Try.underlying78⟩⟩⟩⟩⟩⟩⟩
theorem refput_look (mb W G k w n : Nat) (s : RS) (h : Inv w k n s) (hn : n ≤ 1000) (hg : goP W G) (hgo : GoOk W G k w) (hmb : ∀ p ∈ evB s.E s.o, p.1 ≠ mb) :
    ACt Try.prog 28 [pt mb 0] ((mb, mM W G s.now (evL s.E s.o)) :: evB s.E s.o) (fun r F' => r = .slz .u8 (pdS w k s) ∧ F' = (mb, mM W G s.now (evL s.E s.o)) :: evB s.E s.o) :=
  ACt.fz (put_d mb W G k w n s h hn hg hgo hmb)
theorem pb1 {α : Type} (x r l m : α) (T : List α) : (x :: r :: l :: m :: T).Perm ([r, l, x] ++ (m :: T)) := by
  refine (List.Perm.swap r x _).trans (.cons r ((List.Perm.swap l x _).trans (.cons l ?_)))
  exact .refl _
theorem pb2 {α : Type} (b c x r l m : α) (T : List α) : (b :: c :: x :: r :: l :: m :: T).Perm ((m :: T) ++ [b, c, x, r, l]) :=
  List.perm_append_comm (l₁ := [b, c, x, r, l])
theorem pb3 {α : Type} (b c x r l m : α) (T : List α) : (b :: c :: x :: r :: l :: m :: T).Perm (([b, c, m] ++ T) ++ [x, r, l]) := by
  refine .cons b (.cons c ?_)
  show ([x, r, l] ++ (m :: T)).Perm ((m :: T) ++ [x, r, l])
  exact List.perm_append_comm
theorem Inv.to {w k n m : Nat} {s : RS} (h : Inv w k n s) (hm : n ≤ m) : Inv w k m s := ⟨h.now, h.at_, h.gt, Nat.le_trans h.len hm, h.sum, h.ok⟩
structure BG where
  i : Nat
  s : RS
theorem Get_same (xb W G k w n : Nat) (s : RS) (h : Inv w k n s) (hg : goP W G) (hgo : GoOk W G k w) :
    ACt Try.prog 23 [pt xb 0, iv .i64 W, iv .i64 G, iv .i64 s.now] [(xb, rd (pdS w k s) false)] (fun r F' => ∃ b c, r = pt b 0 ∧ F' = [(b, R1 c w k s.E s.now), (c, L1 w k s.E s.now), (xb, rd [] false)]) := by
  have hA := bk_lt w k n s h hgo.k1
  have hl := pdL_len _ _ k hA
  obtain ⟨E', e1, e2⟩ := rd_put hgo.w0 hgo.k1 s h
  refine (Get_some xb W G k w s.now (pdS w k s) E' [] (by_pdL hA) (by have := hgo.k2; show (pdL _ _ _).length ≤ _; omega) hg hgo h.now e1).mono ?_
  rintro r F' ⟨b, c, h1, h2⟩
  exact ⟨b, c, h1, by rw [h2, (e2 c).1, (e2 c).2]⟩
set_option maxRecDepth 8000 in
set_option maxHeartbeats 8000000 in
theorem bytes_ct (W G : Int) (L M : List Act) (h1 : -9223372036854775808 ≤ W ∧ W ≤ 9223372036854775807) (h2 : -9223372036854775808 ≤ G ∧ G ≤ 9223372036854775807) (hL : ∀ e ∈ L, e.tt < 18446744073709551616) (hM : ∀ e ∈ M, e.tt < 18446744073709551616) :
    ACt Try.prog 7 [iv .i64 W, iv .i64 G, .sl L.length (acC L), .sl M.length (acC M)] [] (fun r _ => r = bv true) := by
  refine ACt.intro Try.func7 rfl (by kernel_rfl) (by simp [Try.ntmps7]) (fun cx => ?_)
  simp only [argE, Try.ntmps7, Try.results7]
  obtain ⟨b, hb, cG⟩ := Go_ct W G h1 h2
  by_cases hg : goP W G
  case neg =>
    have hbf : b = false := by cases b; rfl; exact absurd (hb.1 rfl) hg
    subst hbf
    first | (have FRx := FR; clear FRx) | (have FR : Sm (¬ ((1 : Nat) = 0)) := Sm.mk Nat.one_ne_zero)
    repeat' first
      | (refine Sm.mk ?_; try simp -dsimp only [ZK, rvc, drawF, headN, pureH, stp, dvc, calleeOf, gcall, pev, eff, newB, okd, og, ogs, ogo, ogp, slv, bltv, opd, litv, strip, one, both, putE, St.put, look, gdOf, gdv, picka, pickv, pickw, binv, bini, bins, binb, binp, bina, shp, eqCells, unv, convv, nilv, faddv, addp, idxav, idxp, load1, load1m, loadn, loadnm, loadv, hget, hset, hrep, hdel, slicev, bnd, shift1, lenv, IntKind.bits, extractv, fieldv, indexv, min2v, max2v, mkiv, cellsA, fillA, buildv, stC, oneC, rowMB, intsA, plN, appE, appZ, appC, appNZ, appNC, VwL, srcC, srcZ, srcM, isBoolT, isPtrT, isSliceT, uOk, Value.oneCell', Nat.reducePow, Int.reducePow, Nat.reduceAdd, Nat.reduceMul, Nat.reduceSub, Nat.reduceLT, Nat.reduceLeDiff, Nat.reduceEqDiff, Nat.reduceBEq, Nat.reduceDiv, Nat.reduceMod, ↓reduceIte, reduceCtorEq, Int.reduceToNat, Int.reduceLT, Int.reduceLE, TFRhN, SeqQ, BlkQ, LoopQ, BodyQ, FR.out])
      | (first | refine CallV.fn (awake_ct) (Sm.out ?_) | refine ExF.mk (awake_ct) (Sm.out ?_) | refine ExG.mk (fun _ => awake_ct) (Sm.out ?_) | refine ExG.mkJ (fun _ => awake_ct) (Sm.out ?_) | refine ExG.mkI (Ob.out ?_) (fun _ => awake_ct) (Sm.out ?_))
      | (first | refine CallV.fn (cG) (Sm.out ?_) | refine ExF.mk (cG) (Sm.out ?_) | refine ExG.mk (fun _ => cG) (Sm.out ?_) | refine ExG.mkJ (fun _ => cG) (Sm.out ?_) | refine ExG.mkI (Ob.out ?_) (fun _ => cG) (Sm.out ?_))
      | (refine WP.seq fun K hK => ?_)
      | (refine WP.region (rvc_sound _ _ (Sm.out ?_)))
      | (refine WP.drawK rfl mixed (by decide +kernel) (Sm.out ?_))
      | (refine Ob.mk ?_; focus (first | assumption | omega | decide | trivial | (intro hob; simp only [hob, ZF]; done) | (intros; (repeat' refine And.intro ?_ ?_) <;> first | assumption | omega | trivial | decide) | (intros; simp only [ZE] at *; (repeat' refine And.intro ?_ ?_) <;> first | assumption | omega | trivial)))
      | (refine And.intro (Ob.out ?_) ?_)
      | (refine WP.block ?_)
      | (refine WP.cond rfl (fun hc => ?_) (fun hc => ?_) <;> (try simp only [ZC, reduceCtorEq, ZD] at hc) <;> (try (exact absurd hc (by decide))) <;> (try (exfalso; omega)))
      | ((first | refine WP.skip ?_ | refine WP.exit ?_); simp only [SeqQ, BlkQ, LoopQ, BodyQ, ↓reduceIte, Nat.reduceEqDiff, reduceCtorEq, look, true_and])
      | (refine WP.ret (Sm.out ?_))
      | (first | refine ExG.no (Sm.out ?_) | refine Or.inl (ExG.no (Sm.out ?_)) | refine Or.inl (And.intro (fun hg => absurd hg (by decide)) (ExG.no (Sm.out ?_))))
      | (refine Rt.mk ?_; refine And.intro ?_ ?_ <;> (intro hg; first | exact absurd hg (by decide) | refine Sm.out ?_))
      | (refine Nu.mk ?_; first | (fail_if_success (have := nb1)); intro nb1 | (fail_if_success (have := nb2)); intro nb2 | (fail_if_success (have := nb3)); intro nb3 | (fail_if_success (have := nb4)); intro nb4 | (fail_if_success (have := nb5)); intro nb5 | (fail_if_success (have := nb6)); intro nb6 | (fail_if_success (have := nb7)); intro nb7 | (fail_if_success (have := nb8)); intro nb8 | (fail_if_success (have := nb9)); intro nb9 | (fail_if_success (have := nb10)); intro nb10 | (fail_if_success (have := nb11)); intro nb11 | (fail_if_success (have := nb12)); intro nb12 | intro nbz)
      | (refine Fr.mk ?_; intro hfr; (first | (have hFRb : _ ≤ _ ∧ _ ≤ _ := And.intro hfr.1 hfr.2.1) | skip); replace FR := Sm.mk (And.intro hfr FR.out); clear hfr; refine Sm.out ?_)
      | (refine Two.mk ?_ ?_)
      | (refine Cs.mk ?_; intro hcs; first | exact False.elim hcs | (exfalso; omega) | (refine Sm.out ?_))
      | (refine OutQ.all ?_ ?_; (focus (simp only [resv, ZK, look, loadv, loadn, loadnm, load1, load1m, hget, ↓reduceIte, Nat.reduceEqDiff, Nat.reduceAdd, Nat.reduceMul, Nat.reduceLeDiff, Nat.reduceLT, reduceCtorEq, TFRhN, FR.out])); (try simp only [resv, resA, Fn, ZK, look, loadv, loadn, loadnm, load1, load1m, hget, ↓reduceIte, Nat.reduceEqDiff, Nat.reduceAdd, Nat.reduceMul, Nat.reduceLeDiff, Nat.reduceLT, reduceCtorEq, TFRhN, FR.out]); (try simp [resA, Fn, look, FR.out]); done)
      | go_step
      | omega
      | (simp only [maxLen_eq]; omega)
      | (refine Or.inr (Rt.mk ?_); refine And.intro ?_ ?_ <;> (intro hg; first | exact absurd hg (by decide) | refine Sm.out ?_))
  obtain rfl := hb.2 hg
  obtain ⟨W, rfl⟩ := Int.eq_ofNat_of_zero_le (show 0 ≤ W from by have := hg.2.2.1; omega)
  obtain ⟨G, rfl⟩ := Int.eq_ofNat_of_zero_le (show 0 ≤ G from by have := hg.1; omega)
  obtain ⟨k, w, h⟩ : ∃ k w, GoOk W G k w := ⟨_, _, goOk hg⟩
  have c2 := New_ok W G k w hg h
  have hk1 := h.k1
  have hk2 := h.k2
  have eR : ∀ lb, R1 lb w k [] 0 = rbM lb w k 0 0 0 0 := fun lb => by simp [R1, sG, sT]
  have hCl := acC_len L
  have hdr := acC_drop L
  have hCl2 := acC_len M
  have hdr2 := acC_drop M
  obtain ⟨C, hC⟩ : ∃ C, C = acC L := ⟨_, rfl⟩
  obtain ⟨C2, hC2⟩ : ∃ C2, C2 = acC M := ⟨_, rfl⟩
  rw [← hC] at hCl hdr ⊢
  rw [← hC2] at hCl2 hdr2 ⊢
  have y1 : ∀ x : Int, (x == x) = true := fun x => beq_self_eq_true x
  have y2 : ∀ x : Int, (x != x) = false := fun x => by simp
  first | (have FRx := FR; clear FRx) | (have FR : Sm (¬ ((1 : Nat) = 0)) := Sm.mk Nat.one_ne_zero)
  repeat' first
    | (refine Sm.mk ?_; try simp -dsimp only [ZK, rvc, drawF, headN, pureH, stp, dvc, calleeOf, gcall, pev, eff, newB, okd, og, ogs, ogo, ogp, slv, bltv, opd, litv, strip, one, both, putE, St.put, look, gdOf, gdv, picka, pickv, pickw, binv, bini, bins, binb, binp, bina, shp, eqCells, unv, convv, nilv, faddv, addp, idxav, idxp, load1, load1m, loadn, loadnm, loadv, hget, hset, hrep, hdel, slicev, bnd, shift1, lenv, IntKind.bits, extractv, fieldv, indexv, min2v, max2v, mkiv, cellsA, fillA, buildv, stC, oneC, rowMB, intsA, plN, appE, appZ, appC, appNZ, appNC, VwL, srcC, srcZ, srcM, isBoolT, isPtrT, isSliceT, uOk, Value.oneCell', Nat.reducePow, Int.reducePow, Nat.reduceAdd, Nat.reduceMul, Nat.reduceSub, Nat.reduceLT, Nat.reduceLeDiff, Nat.reduceEqDiff, Nat.reduceBEq, Nat.reduceDiv, Nat.reduceMod, ↓reduceIte, reduceCtorEq, Int.reduceToNat, Int.reduceLT, Int.reduceLE, TFRhN, SeqQ, BlkQ, LoopQ, BodyQ, FR.out])
    | (first | refine CallV.fn (awake_ct) (Sm.out ?_) | refine ExF.mk (awake_ct) (Sm.out ?_) | refine ExG.mk (fun _ => awake_ct) (Sm.out ?_) | refine ExG.mkJ (fun _ => awake_ct) (Sm.out ?_) | refine ExG.mkI (Ob.out ?_) (fun _ => awake_ct) (Sm.out ?_))
    | (first | refine CallV.fn (cG) (Sm.out ?_) | refine ExF.mk (cG) (Sm.out ?_) | refine ExG.mk (fun _ => cG) (Sm.out ?_) | refine ExG.mkJ (fun _ => cG) (Sm.out ?_) | refine ExG.mkI (Ob.out ?_) (fun _ => cG) (Sm.out ?_))
    | (refine CallV.new2 (F := []) (List.Perm.refl _) (c2) rfl (Sm.out ?_))
    | (refine WP.seq fun K hK => ?_)
    | (refine WP.region (rvc_sound _ _ (Sm.out ?_)))
    | (refine WP.drawK rfl mixed (by decide +kernel) (Sm.out ?_))
    | (refine Ob.mk ?_; focus (first | assumption | omega | decide | trivial | (intro hob; simp only [hob, ZF]; done) | (intros; (repeat' refine And.intro ?_ ?_) <;> first | assumption | omega | trivial | decide) | (intros; simp only [ZE] at *; (repeat' refine And.intro ?_ ?_) <;> first | assumption | omega | trivial)))
    | (refine And.intro (Ob.out ?_) ?_)
    | (refine WP.block ?_)
    | (refine WP.cond rfl (fun hc => ?_) (fun hc => ?_) <;> (try simp only [ZC, reduceCtorEq, ZD] at hc) <;> (try (exact absurd hc (by decide))) <;> (try (exfalso; omega)))
    | ((first | refine WP.skip ?_ | refine WP.exit ?_); simp only [SeqQ, BlkQ, LoopQ, BodyQ, ↓reduceIte, Nat.reduceEqDiff, reduceCtorEq, look, true_and])
    | (refine WP.ret (Sm.out ?_))
    | (first | refine ExG.no (Sm.out ?_) | refine Or.inl (ExG.no (Sm.out ?_)) | refine Or.inl (And.intro (fun hg => absurd hg (by decide)) (ExG.no (Sm.out ?_))))
    | (refine Rt.mk ?_; refine And.intro ?_ ?_ <;> (intro hg; first | exact absurd hg (by decide) | refine Sm.out ?_))
    | (refine Nu.mk ?_; first | (fail_if_success (have := nb1)); intro nb1 | (fail_if_success (have := nb2)); intro nb2 | (fail_if_success (have := nb3)); intro nb3 | (fail_if_success (have := nb4)); intro nb4 | (fail_if_success (have := nb5)); intro nb5 | (fail_if_success (have := nb6)); intro nb6 | (fail_if_success (have := nb7)); intro nb7 | (fail_if_success (have := nb8)); intro nb8 | (fail_if_success (have := nb9)); intro nb9 | (fail_if_success (have := nb10)); intro nb10 | (fail_if_success (have := nb11)); intro nb11 | (fail_if_success (have := nb12)); intro nb12 | intro nbz)
    | (refine Fr.mk ?_; intro hfr; (first | (have hFRb : _ ≤ _ ∧ _ ≤ _ := And.intro hfr.1 hfr.2.1) | skip); replace FR := Sm.mk (And.intro hfr FR.out); clear hfr; refine Sm.out ?_)
    | (refine Two.mk ?_ ?_)
    | (refine Cs.mk ?_; intro hcs; first | exact False.elim hcs | (exfalso; omega) | (refine Sm.out ?_))
    | go_step
    | omega
    | (simp only [maxLen_eq]; omega)
    | (refine Or.inr (Rt.mk ?_); refine And.intro ?_ ?_ <;> (intro hg; first | exact absurd hg (by decide) | refine Sm.out ?_))
  refine WP.loop (Γ := BG) (fun q => ⟨[(12, iv .i64 q.i), (11, pt nb3 0), (9, pt nb1 0), (2, .sl L.length C), (3, .sl M.length C2), (0, iv .i64 W), (1, iv .i64 G)], (nb1, R1 nb2 w k q.s.E q.s.now) :: (nb2, L1 w k q.s.E q.s.now) :: (nb3, mM W G q.s.now (evL q.s.E q.s.o)) :: evB q.s.E q.s.o⟩)
    (fun q => q.i ≤ L.length ∧ q.i ≤ 150 ∧ Inv w k q.i q.s ∧ ∀ p ∈ evB q.s.E q.s.o, p.1 ≠ nb3) (fun q => L.length - q.i) ⟨0, ⟨[], 0, none⟩⟩ ⟨by simp, by simp, Inv.zero w k, by simp [evB]⟩
    (Sub.of_env [] (by rw [eR]; exact pmr (nb1, rbM nb2 w k 0 0 0 0) (nb2, lbM k z0 z0) (nb3, mM W G 0 nilS)) (by simp [look])) ?_
  intro ⟨i, s⟩ ⟨hi, hi2, hI, hmb⟩
  simp only at hi hi2 hI hmb ⊢
  have hne3 : (nb1 ≠ nb2 ∧ nb2 ≠ nb1) ∧ (nb1 ≠ nb3 ∧ nb3 ≠ nb1) ∧ nb2 ≠ nb3 ∧ nb3 ≠ nb2 := by simp [FR.out]
  by_cases hgo : i < L.length ∧ i < 150
  · obtain ⟨hlt, hlt2⟩ := hgo
    have k1 : decide ((i : Int) < (L.length : Int)) = true := by simp; omega
    have k2 : decide ((i : Int) < 150) = true := by simp; omega
    have hd := hdr i hlt
    obtain ⟨e, he⟩ : ∃ e, e = L[i] := ⟨_, rfl⟩
    have ht : e.tt < 18446744073709551616 := hL e (by rw [he]; exact List.getElem_mem hlt)
    rw [← he] at hd
    obtain ⟨TR, hTR⟩ : ∃ TR, TR = acC (L.drop (i + 1)) := ⟨_, rfl⟩
    rw [← hTR] at hd
    have q1 : i * 4 + 4 ≤ C.length := by omega
    have w1 : IntKind.i64.wrap ((i : Int) + 1) = ((i + 1 : Nat) : Int) := by rw [wrap_i64 (by omega) (by omega)]; omega
    have cD := does_nd nb1 nb2 nb3 W G k w i e.kd e.at_ e.gd e.tt s hI (by omega) hg h hmb hne3 ht
    unfold blk at cD
    simp only [List.cons_append, List.nil_append] at cD
    clear hdr hTR hdr2
    first | (have FRx := FR; clear FRx) | (have FR : Sm (¬ ((1 : Nat) = 0)) := Sm.mk Nat.one_ne_zero)
    repeat' first
      | (refine Sm.mk ?_; try simp -dsimp only [ZK, rvc, drawF, headN, pureH, stp, dvc, calleeOf, gcall, pev, eff, newB, okd, og, ogs, ogo, ogp, slv, bltv, opd, litv, strip, one, both, putE, St.put, look, gdOf, gdv, picka, pickv, pickw, binv, bini, bins, binb, binp, bina, shp, eqCells, unv, convv, nilv, faddv, addp, idxav, idxp, load1, load1m, loadn, loadnm, loadv, hget, hset, hrep, hdel, slicev, bnd, shift1, lenv, IntKind.bits, extractv, fieldv, indexv, min2v, max2v, mkiv, cellsA, fillA, buildv, stC, oneC, rowMB, intsA, plN, appE, appZ, appC, appNZ, appNC, VwL, srcC, srcZ, srcM, isBoolT, isPtrT, isSliceT, uOk, Value.oneCell', Nat.reducePow, Int.reducePow, Nat.reduceAdd, Nat.reduceMul, Nat.reduceSub, Nat.reduceLT, Nat.reduceLeDiff, Nat.reduceEqDiff, Nat.reduceBEq, Nat.reduceDiv, Nat.reduceMod, ↓reduceIte, reduceCtorEq, Int.reduceToNat, Int.reduceLT, Int.reduceLE, TFRhN, SeqQ, BlkQ, LoopQ, BodyQ, k1, k2, hd, q1, w1, y1, y2, List.append_nil, FR.out])
      | (refine CallV.exM (cD) (pmz _) (fun g => Sm.out ?_))
      | (refine WP.seq fun K hK => ?_)
      | (refine WP.region (rvc_sound _ _ (Sm.out ?_)))
      | (refine WP.drawK rfl mixed (by decide +kernel) (Sm.out ?_))
      | (refine Ob.mk ?_; focus (first | assumption | omega | decide | trivial | (intro hob; simp only [hob, ZF]; done) | (intros; (repeat' refine And.intro ?_ ?_) <;> first | assumption | omega | trivial | decide) | (intros; simp only [ZE] at *; (repeat' refine And.intro ?_ ?_) <;> first | assumption | omega | trivial)))
      | (refine And.intro (Ob.out ?_) ?_)
      | (refine WP.block ?_)
      | (refine WP.cond rfl (fun hc => ?_) (fun hc => ?_) <;> (try simp only [ZC, reduceCtorEq, ZD] at hc) <;> (try (exact absurd hc (by decide))) <;> (try (exfalso; omega)))
      | ((first | refine WP.skip ?_ | refine WP.exit ?_); simp only [SeqQ, BlkQ, LoopQ, BodyQ, ↓reduceIte, Nat.reduceEqDiff, reduceCtorEq, look, true_and])
      | (refine WP.ret (Sm.out ?_))
      | (first | refine ExG.no (Sm.out ?_) | refine Or.inl (ExG.no (Sm.out ?_)) | refine Or.inl (And.intro (fun hg => absurd hg (by decide)) (ExG.no (Sm.out ?_))))
      | (refine Rt.mk ?_; refine And.intro ?_ ?_ <;> (intro hg; first | exact absurd hg (by decide) | refine Sm.out ?_))
      | (refine Nu.mk ?_; first | (fail_if_success (have := nb1)); intro nb1 | (fail_if_success (have := nb2)); intro nb2 | (fail_if_success (have := nb3)); intro nb3 | (fail_if_success (have := nb4)); intro nb4 | (fail_if_success (have := nb5)); intro nb5 | (fail_if_success (have := nb6)); intro nb6 | (fail_if_success (have := nb7)); intro nb7 | (fail_if_success (have := nb8)); intro nb8 | (fail_if_success (have := nb9)); intro nb9 | (fail_if_success (have := nb10)); intro nb10 | (fail_if_success (have := nb11)); intro nb11 | (fail_if_success (have := nb12)); intro nb12 | intro nbz)
      | (refine Fr.mk ?_; intro hfr; (first | (have hFRb : _ ≤ _ ∧ _ ≤ _ := And.intro hfr.1 hfr.2.1) | skip); replace FR := Sm.mk (And.intro hfr FR.out); clear hfr; refine Sm.out ?_)
      | (refine Two.mk ?_ ?_)
      | (refine Cs.mk ?_; intro hcs; first | exact False.elim hcs | (exfalso; omega) | (refine Sm.out ?_))
      | go_step
      | omega
      | (simp only [maxLen_eq]; omega)
      | (refine Or.inr (Rt.mk ?_); refine And.intro ?_ ?_ <;> (intro hg; first | exact absurd hg (by decide) | refine Sm.out ?_))
    exact ⟨⟨i + 1, g.1⟩, ⟨by simp only; omega, by simp only; omega, g.2.1, g.2.2⟩, by simp only; omega, Sub.of_env [] (pmz _) (by simp [look])⟩
  · have cP : ∀ b, ACt Try.prog 22 [pt nb1 0, ms b 0 1 1] [(nb1, R1 nb2 w k s.E s.now), (nb2, L1 w k s.E s.now), (b, .zs .u8 [7] 1 5)] (fun r F' => r = .slz .u8 (7 :: pdS w k s) ∧ F' = [(nb1, R1 nb2 w k s.E s.now), (nb2, L1 w k s.E s.now)]) :=
      fun b => put_look nb1 nb2 w k i s (some (b, 1)) [7] hI hne3.1 hk1 hk2 (by simp) ⟨by simp, by omega⟩
    have cX := fun xb => Get_same xb W G k w i s hI hg h
    have cN := now_ct nb1 nb2 w k (s.now / w) s.now (sG (winP s.now w k) s.E) (sT (winP s.now w k) s.E)
    have cF := refput_look nb3 W G k w i s hI (by omega) hg h hmb
    have cS := fun b c hne => same_ct b c nb3 W G k w i s hI (by omega) hg h hmb hne
    unfold blk at cS
    obtain ⟨D, hD⟩ : ∃ D, D = pdS w k s := ⟨_, rfl⟩
    rw [← hD] at cP cX cF
    have tkl : ∀ L : List Int, L.take L.length = L := fun L => List.take_length
    have y7 : ((7 : Int) != 7) = false := by decide
    have y3 : ((bstr D).toList == (bstr D).toList) = true := beq_self_eq_true _
    have y0 : ((0 : Int) != 0) = false := by decide
    have cE := endR
    clear hdr hCl
    first | (have FRx := FR; clear FRx) | (have FR : Sm (¬ ((1 : Nat) = 0)) := Sm.mk Nat.one_ne_zero)
    repeat' first
      | (refine Sm.mk ?_; try simp -dsimp only [ZK, rvc, drawF, headN, pureH, stp, dvc, calleeOf, gcall, pev, eff, newB, okd, og, ogs, ogo, ogp, slv, bltv, opd, litv, strip, one, both, putE, St.put, look, gdOf, gdv, picka, pickv, pickw, binv, bini, bins, binb, binp, bina, shp, eqCells, unv, convv, nilv, faddv, addp, idxav, idxp, load1, load1m, loadn, loadnm, loadv, hget, hset, hrep, hdel, slicev, bnd, shift1, lenv, IntKind.bits, extractv, fieldv, indexv, min2v, max2v, mkiv, cellsA, fillA, buildv, stC, oneC, rowMB, intsA, plN, appE, appZ, appC, appNZ, appNC, VwL, srcC, srcZ, srcM, isBoolT, isPtrT, isSliceT, uOk, Value.oneCell', Nat.reducePow, Int.reducePow, Nat.reduceAdd, Nat.reduceMul, Nat.reduceSub, Nat.reduceLT, Nat.reduceLeDiff, Nat.reduceEqDiff, Nat.reduceBEq, Nat.reduceDiv, Nat.reduceMod, ↓reduceIte, reduceCtorEq, Int.reduceToNat, Int.reduceLT, Int.reduceLE, TFRhN, SeqQ, BlkQ, LoopQ, BodyQ, y1, y2, tkl, y7, y3, y0, FR.out])
      | (refine CallV.updM (cP nb4) (pb1 _ _ _ _ _) (Sm.out ?_))
      | (refine CallV.row (by simp only [hget, ↓reduceIte, FR.out, y1, y2, tkl, y7, y3, y0]; first | done | rfl) (new_cr D) (Sm.out ?_))
      | (refine CallV.mkrow (new_cr D) (Sm.out ?_))
      | (refine CallV.upd (by simp only [hget, ↓reduceIte, FR.out, y1, y2, tkl, y7, y3, y0]; first | done | rfl) (new_cr D) (Sm.out ?_))
      | (refine CallV.mkobj (new_cr D) (Sm.out ?_))
      | (first | refine CallV.fn (new_cr D) (Sm.out ?_) | refine ExF.mk (new_cr D) (Sm.out ?_) | refine ExG.mk (fun _ => new_cr D) (Sm.out ?_) | refine ExG.mkJ (fun _ => new_cr D) (Sm.out ?_) | refine ExG.mkI (Ob.out ?_) (fun _ => new_cr D) (Sm.out ?_))
      | (refine CallV.updM (cN) (perm1 (by simp only [hget, hdel, ↓reduceIte, FR.out, y1, y2, tkl, y7, y3, y0]; first | done | rfl)) (Sm.out ?_))
      | ((first | refine ExF.up ?_ (cN) (Sm.out ?_) | refine ExG.up ?_ (fun _ => cN) (Sm.out ?_) | refine ExG.upJ ?_ (fun _ => cN) (Sm.out ?_) | refine ExG.upI ?_ (fun _ => cN) (Ob.out ?_) (Sm.out ?_)); focus (exact ⟨_, (perm1 (by simp only [hget, hdel, ↓reduceIte, FR.out, y1, y2, tkl, y7, y3, y0]; first | done | rfl))⟩))
      | (refine CallV.new2 (F := [_]) (perm1 (by simp only [hget, hdel, ↓reduceIte, FR.out, y1, y2, tkl, y7, y3, y0]; first | done | rfl)) (cX nb5) rfl (Sm.out ?_))
      | (refine CallV.updM (cF) (pb2 _ _ _ _ _ _ _) (Sm.out ?_))
      | ((first | refine ExF.up ?_ (cF) (Sm.out ?_) | refine ExG.up ?_ (fun _ => cF) (Sm.out ?_) | refine ExG.upJ ?_ (fun _ => cF) (Sm.out ?_) | refine ExG.upI ?_ (fun _ => cF) (Ob.out ?_) (Sm.out ?_)); focus (exact ⟨_, (pb2 _ _ _ _ _ _ _)⟩))
      | (refine CallV.updM (cE nb5) (perm1 (by simp only [hget, hdel, ↓reduceIte, FR.out, y1, y2, tkl, y7, y3, y0]; first | done | rfl)) (Sm.out ?_))
      | ((first | refine ExF.up ?_ (cE nb5) (Sm.out ?_) | refine ExG.up ?_ (fun _ => cE nb5) (Sm.out ?_) | refine ExG.upJ ?_ (fun _ => cE nb5) (Sm.out ?_) | refine ExG.upI ?_ (fun _ => cE nb5) (Ob.out ?_) (Sm.out ?_)); focus (exact ⟨_, (perm1 (by simp only [hget, hdel, ↓reduceIte, FR.out, y1, y2, tkl, y7, y3, y0]; first | done | rfl))⟩))
      | (refine CallV.updM (cS nb6 nb7 (by simp [FR.out])) (pb3 _ _ _ _ _ _ _) (Sm.out ?_))
      | ((first | refine ExF.up ?_ (cS nb6 nb7 (by simp [FR.out])) (Sm.out ?_) | refine ExG.up ?_ (fun _ => cS nb6 nb7 (by simp [FR.out])) (Sm.out ?_) | refine ExG.upJ ?_ (fun _ => cS nb6 nb7 (by simp [FR.out])) (Sm.out ?_) | refine ExG.upI ?_ (fun _ => cS nb6 nb7 (by simp [FR.out])) (Ob.out ?_) (Sm.out ?_)); focus (exact ⟨_, (pb3 _ _ _ _ _ _ _)⟩))
      | (refine WP.seq fun K hK => ?_)
      | (refine WP.region (rvc_sound _ _ (Sm.out ?_)))
      | (refine WP.drawK rfl mixed (by decide +kernel) (Sm.out ?_))
      | (refine Ob.mk ?_; focus (first | assumption | omega | decide | trivial | (intro hob; simp only [hob, ZF]; done) | (intros; (repeat' refine And.intro ?_ ?_) <;> first | assumption | omega | trivial | decide) | (intros; simp only [ZE] at *; (repeat' refine And.intro ?_ ?_) <;> first | assumption | omega | trivial)))
      | (refine And.intro (Ob.out ?_) ?_)
      | (refine WP.block ?_)
      | (refine WP.cond rfl (fun hc => ?_) (fun hc => ?_) <;> (try simp only [ZC, reduceCtorEq, ZD] at hc) <;> (try (exact absurd hc (by decide))) <;> (try (exfalso; omega)))
      | ((first | refine WP.skip ?_ | refine WP.exit ?_); simp only [SeqQ, BlkQ, LoopQ, BodyQ, ↓reduceIte, Nat.reduceEqDiff, reduceCtorEq, look, true_and])
      | (refine WP.ret (Sm.out ?_))
      | (first | refine ExG.no (Sm.out ?_) | refine Or.inl (ExG.no (Sm.out ?_)) | refine Or.inl (And.intro (fun hg => absurd hg (by decide)) (ExG.no (Sm.out ?_))))
      | (refine Rt.mk ?_; refine And.intro ?_ ?_ <;> (intro hg; first | exact absurd hg (by decide) | refine Sm.out ?_))
      | (refine Nu.mk ?_; first | (fail_if_success (have := nb1)); intro nb1 | (fail_if_success (have := nb2)); intro nb2 | (fail_if_success (have := nb3)); intro nb3 | (fail_if_success (have := nb4)); intro nb4 | (fail_if_success (have := nb5)); intro nb5 | (fail_if_success (have := nb6)); intro nb6 | (fail_if_success (have := nb7)); intro nb7 | (fail_if_success (have := nb8)); intro nb8 | (fail_if_success (have := nb9)); intro nb9 | (fail_if_success (have := nb10)); intro nb10 | (fail_if_success (have := nb11)); intro nb11 | (fail_if_success (have := nb12)); intro nb12 | intro nbz)
      | (refine Fr.mk ?_; intro hfr; (first | (have hFRb : _ ≤ _ ∧ _ ≤ _ := And.intro hfr.1 hfr.2.1) | skip); replace FR := Sm.mk (And.intro hfr FR.out); clear hfr; refine Sm.out ?_)
      | (refine Two.mk ?_ ?_)
      | (refine Cs.mk ?_; intro hcs; first | exact False.elim hcs | (exfalso; omega) | (refine Sm.out ?_))
      | go_step
      | omega
      | (simp only [maxLen_eq]; omega)
      | (refine Or.inr (Rt.mk ?_); refine And.intro ?_ ?_ <;> (intro hg; first | exact absurd hg (by decide) | refine Sm.out ?_))
    refine WP.loop (Γ := BG) (fun q => ⟨[(16, iv .i64 q.i), (11, pt nb3 0), (15, pt nb6 0), (3, .sl M.length C2)], (nb6, R1 nb7 w k q.s.E q.s.now) :: (nb7, L1 w k q.s.E q.s.now) :: (nb3, mM W G q.s.now (evL q.s.E q.s.o)) :: evB q.s.E q.s.o⟩)
      (fun q => q.i ≤ M.length ∧ q.i ≤ 150 ∧ Inv w k (150 + q.i) q.s ∧ ∀ p ∈ evB q.s.E q.s.o, p.1 ≠ nb3) (fun q => M.length - q.i) ⟨0, s⟩ ⟨by simp, by simp, hI.to (by simp only; omega), hmb⟩
      (Sub.of_env [(nb5, rd [] false), (nb1, R1 nb2 w k s.E s.now), (nb2, L1 w k s.E s.now)] (pb3 _ _ _ _ _ _ _) (by simp [look])) ?_
    have hne7 : (nb6 ≠ nb7 ∧ nb7 ≠ nb6) ∧ (nb6 ≠ nb3 ∧ nb3 ≠ nb6) ∧ nb7 ≠ nb3 ∧ nb3 ≠ nb7 := by simp [FR.out]
    clear cP cX cN cF cS cE hD hI hmb
    intro ⟨j, s⟩ ⟨hj, hj2, hI, hmb⟩
    simp only at hj hj2 hI hmb ⊢
    by_cases hgo : j < M.length ∧ j < 150
    · obtain ⟨hlt, hlt2⟩ := hgo
      have k1 : decide ((j : Int) < (M.length : Int)) = true := by simp; omega
      have k2 : decide ((j : Int) < 150) = true := by simp; omega
      have hd := hdr2 j hlt
      obtain ⟨e, he⟩ : ∃ e, e = M[j] := ⟨_, rfl⟩
      have ht : e.tt < 18446744073709551616 := hM e (by rw [he]; exact List.getElem_mem hlt)
      rw [← he] at hd
      obtain ⟨TR, hTR⟩ : ∃ TR, TR = acC (M.drop (j + 1)) := ⟨_, rfl⟩
      rw [← hTR] at hd
      have q1 : j * 4 + 4 ≤ C2.length := by omega
      have w1 : IntKind.i64.wrap ((j : Int) + 1) = ((j + 1 : Nat) : Int) := by rw [wrap_i64 (by omega) (by omega)]; omega
      have cD := does_nd nb6 nb7 nb3 W G k w (150 + j) e.kd e.at_ e.gd e.tt s hI (by omega) hg h hmb hne7 ht
      unfold blk at cD
      simp only [List.cons_append, List.nil_append] at cD
      clear hTR hdr2
      first | (have FRx := FR; clear FRx) | (have FR : Sm (¬ ((1 : Nat) = 0)) := Sm.mk Nat.one_ne_zero)
      repeat' first
        | (refine Sm.mk ?_; try simp -dsimp only [ZK, rvc, drawF, headN, pureH, stp, dvc, calleeOf, gcall, pev, eff, newB, okd, og, ogs, ogo, ogp, slv, bltv, opd, litv, strip, one, both, putE, St.put, look, gdOf, gdv, picka, pickv, pickw, binv, bini, bins, binb, binp, bina, shp, eqCells, unv, convv, nilv, faddv, addp, idxav, idxp, load1, load1m, loadn, loadnm, loadv, hget, hset, hrep, hdel, slicev, bnd, shift1, lenv, IntKind.bits, extractv, fieldv, indexv, min2v, max2v, mkiv, cellsA, fillA, buildv, stC, oneC, rowMB, intsA, plN, appE, appZ, appC, appNZ, appNC, VwL, srcC, srcZ, srcM, isBoolT, isPtrT, isSliceT, uOk, Value.oneCell', Nat.reducePow, Int.reducePow, Nat.reduceAdd, Nat.reduceMul, Nat.reduceSub, Nat.reduceLT, Nat.reduceLeDiff, Nat.reduceEqDiff, Nat.reduceBEq, Nat.reduceDiv, Nat.reduceMod, ↓reduceIte, reduceCtorEq, Int.reduceToNat, Int.reduceLT, Int.reduceLE, TFRhN, SeqQ, BlkQ, LoopQ, BodyQ, k1, k2, hd, q1, w1, y1, y2, List.append_nil, FR.out])
        | (refine CallV.exM (cD) (pmz _) (fun g => Sm.out ?_))
        | (refine WP.seq fun K hK => ?_)
        | (refine WP.region (rvc_sound _ _ (Sm.out ?_)))
        | (refine WP.drawK rfl mixed (by decide +kernel) (Sm.out ?_))
        | (refine Ob.mk ?_; focus (first | assumption | omega | decide | trivial | (intro hob; simp only [hob, ZF]; done) | (intros; (repeat' refine And.intro ?_ ?_) <;> first | assumption | omega | trivial | decide) | (intros; simp only [ZE] at *; (repeat' refine And.intro ?_ ?_) <;> first | assumption | omega | trivial)))
        | (refine And.intro (Ob.out ?_) ?_)
        | (refine WP.block ?_)
        | (refine WP.cond rfl (fun hc => ?_) (fun hc => ?_) <;> (try simp only [ZC, reduceCtorEq, ZD] at hc) <;> (try (exact absurd hc (by decide))) <;> (try (exfalso; omega)))
        | ((first | refine WP.skip ?_ | refine WP.exit ?_); simp only [SeqQ, BlkQ, LoopQ, BodyQ, ↓reduceIte, Nat.reduceEqDiff, reduceCtorEq, look, true_and])
        | (refine WP.ret (Sm.out ?_))
        | (first | refine ExG.no (Sm.out ?_) | refine Or.inl (ExG.no (Sm.out ?_)) | refine Or.inl (And.intro (fun hg => absurd hg (by decide)) (ExG.no (Sm.out ?_))))
        | (refine Rt.mk ?_; refine And.intro ?_ ?_ <;> (intro hg; first | exact absurd hg (by decide) | refine Sm.out ?_))
        | (refine Nu.mk ?_; first | (fail_if_success (have := nb1)); intro nb1 | (fail_if_success (have := nb2)); intro nb2 | (fail_if_success (have := nb3)); intro nb3 | (fail_if_success (have := nb4)); intro nb4 | (fail_if_success (have := nb5)); intro nb5 | (fail_if_success (have := nb6)); intro nb6 | (fail_if_success (have := nb7)); intro nb7 | (fail_if_success (have := nb8)); intro nb8 | (fail_if_success (have := nb9)); intro nb9 | (fail_if_success (have := nb10)); intro nb10 | (fail_if_success (have := nb11)); intro nb11 | (fail_if_success (have := nb12)); intro nb12 | intro nbz)
        | (refine Fr.mk ?_; intro hfr; (first | (have hFRb : _ ≤ _ ∧ _ ≤ _ := And.intro hfr.1 hfr.2.1) | skip); replace FR := Sm.mk (And.intro hfr FR.out); clear hfr; refine Sm.out ?_)
        | (refine Two.mk ?_ ?_)
        | (refine Cs.mk ?_; intro hcs; first | exact False.elim hcs | (exfalso; omega) | (refine Sm.out ?_))
        | go_step
        | omega
        | (simp only [maxLen_eq]; omega)
        | (refine Or.inr (Rt.mk ?_); refine And.intro ?_ ?_ <;> (intro hg; first | exact absurd hg (by decide) | refine Sm.out ?_))
      exact ⟨⟨j + 1, g.1⟩, ⟨by simp only; omega, by simp only; omega, g.2.1, g.2.2⟩, by simp only; omega, Sub.of_env [] (pmz _) (by simp [look])⟩
    · have cE := same_ct nb6 nb7 nb3 W G k w (150 + j) s hI (by omega) hg h hmb hne7
      unfold blk at cE
      simp only [List.cons_append, List.nil_append] at cE
      first | (have FRx := FR; clear FRx) | (have FR : Sm (¬ ((1 : Nat) = 0)) := Sm.mk Nat.one_ne_zero)
      repeat' first
        | (refine Sm.mk ?_; try simp -dsimp only [ZK, rvc, drawF, headN, pureH, stp, dvc, calleeOf, gcall, pev, eff, newB, okd, og, ogs, ogo, ogp, slv, bltv, opd, litv, strip, one, both, putE, St.put, look, gdOf, gdv, picka, pickv, pickw, binv, bini, bins, binb, binp, bina, shp, eqCells, unv, convv, nilv, faddv, addp, idxav, idxp, load1, load1m, loadn, loadnm, loadv, hget, hset, hrep, hdel, slicev, bnd, shift1, lenv, IntKind.bits, extractv, fieldv, indexv, min2v, max2v, mkiv, cellsA, fillA, buildv, stC, oneC, rowMB, intsA, plN, appE, appZ, appC, appNZ, appNC, VwL, srcC, srcZ, srcM, isBoolT, isPtrT, isSliceT, uOk, Value.oneCell', Nat.reducePow, Int.reducePow, Nat.reduceAdd, Nat.reduceMul, Nat.reduceSub, Nat.reduceLT, Nat.reduceLeDiff, Nat.reduceEqDiff, Nat.reduceBEq, Nat.reduceDiv, Nat.reduceMod, ↓reduceIte, reduceCtorEq, Int.reduceToNat, Int.reduceLT, Int.reduceLE, TFRhN, SeqQ, BlkQ, LoopQ, BodyQ, List.append_nil, FR.out])
        | (refine CallV.updM (cE) (pmz _) (Sm.out ?_))
        | ((first | refine ExF.up ?_ (cE) (Sm.out ?_) | refine ExG.up ?_ (fun _ => cE) (Sm.out ?_) | refine ExG.upJ ?_ (fun _ => cE) (Sm.out ?_) | refine ExG.upI ?_ (fun _ => cE) (Ob.out ?_) (Sm.out ?_)); focus (exact ⟨_, (pmz _)⟩))
        | (refine WP.seq fun K hK => ?_)
        | (refine WP.region (rvc_sound _ _ (Sm.out ?_)))
        | (refine WP.drawK rfl mixed (by decide +kernel) (Sm.out ?_))
        | (refine Ob.mk ?_; focus (first | assumption | omega | decide | trivial | (intro hob; simp only [hob, ZF]; done) | (intros; (repeat' refine And.intro ?_ ?_) <;> first | assumption | omega | trivial | decide) | (intros; simp only [ZE] at *; (repeat' refine And.intro ?_ ?_) <;> first | assumption | omega | trivial)))
        | (refine And.intro (Ob.out ?_) ?_)
        | (refine WP.block ?_)
        | (refine WP.cond rfl (fun hc => ?_) (fun hc => ?_) <;> (try simp only [ZC, reduceCtorEq, ZD] at hc) <;> (try (exact absurd hc (by decide))) <;> (try (exfalso; omega)))
        | ((first | refine WP.skip ?_ | refine WP.exit ?_); simp only [SeqQ, BlkQ, LoopQ, BodyQ, ↓reduceIte, Nat.reduceEqDiff, reduceCtorEq, look, true_and])
        | (refine WP.ret (Sm.out ?_))
        | (first | refine ExG.no (Sm.out ?_) | refine Or.inl (ExG.no (Sm.out ?_)) | refine Or.inl (And.intro (fun hg => absurd hg (by decide)) (ExG.no (Sm.out ?_))))
        | (refine Rt.mk ?_; refine And.intro ?_ ?_ <;> (intro hg; first | exact absurd hg (by decide) | refine Sm.out ?_))
        | (refine Nu.mk ?_; first | (fail_if_success (have := nb1)); intro nb1 | (fail_if_success (have := nb2)); intro nb2 | (fail_if_success (have := nb3)); intro nb3 | (fail_if_success (have := nb4)); intro nb4 | (fail_if_success (have := nb5)); intro nb5 | (fail_if_success (have := nb6)); intro nb6 | (fail_if_success (have := nb7)); intro nb7 | (fail_if_success (have := nb8)); intro nb8 | (fail_if_success (have := nb9)); intro nb9 | (fail_if_success (have := nb10)); intro nb10 | (fail_if_success (have := nb11)); intro nb11 | (fail_if_success (have := nb12)); intro nb12 | intro nbz)
        | (refine Fr.mk ?_; intro hfr; (first | (have hFRb : _ ≤ _ ∧ _ ≤ _ := And.intro hfr.1 hfr.2.1) | skip); replace FR := Sm.mk (And.intro hfr FR.out); clear hfr; refine Sm.out ?_)
        | (refine Two.mk ?_ ?_)
        | (refine Cs.mk ?_; intro hcs; first | exact False.elim hcs | (exfalso; omega) | (refine Sm.out ?_))
        | (refine OutQ.all ?_ ?_; (focus (simp only [resv, ZK, look, loadv, loadn, loadnm, load1, load1m, hget, ↓reduceIte, Nat.reduceEqDiff, Nat.reduceAdd, Nat.reduceMul, Nat.reduceLeDiff, Nat.reduceLT, reduceCtorEq, TFRhN, List.append_nil, FR.out])); (try simp only [resv, resA, Fn, ZK, look, loadv, loadn, loadnm, load1, load1m, hget, ↓reduceIte, Nat.reduceEqDiff, Nat.reduceAdd, Nat.reduceMul, Nat.reduceLeDiff, Nat.reduceLT, reduceCtorEq, TFRhN, List.append_nil, FR.out]); (try simp [resA, Fn, look, List.append_nil, FR.out]); done)
        | go_step
        | omega
        | (simp only [maxLen_eq]; omega)
        | (refine Or.inr (Rt.mk ?_); refine And.intro ?_ ?_ <;> (intro hg; first | exact absurd hg (by decide) | refine Sm.out ?_))
end Go.Proofs.Ytbnkmhlnoaebcaa
namespace Go.Proofs.Ytbnkmhlnoaebcaa
open Go
theorem bytes_law (W G : Int) (h1 : -9223372036854775808 ≤ W ∧ W ≤ 9223372036854775807) (h2 : -9223372036854775808 ≤ G ∧ G ≤ 9223372036854775807) {y z : AV} (hy : Shp (.sl acTy) [y]) (hz : Shp (.sl acTy) [z]) : ACt Try.prog 7 [iv .i64 W, iv .i64 G, y, z] [] (fun r _ => r = bv true) := by
  simp only [Shp] at hy hz
  obtain ⟨rows, e, hr⟩ := hy
  obtain rfl : y = _ := (List.cons.inj e).1
  obtain ⟨rows2, e2, hr2⟩ := hz
  obtain rfl : z = _ := (List.cons.inj e2).1
  obtain ⟨L, l1, l2, l3⟩ := ac_rows rows hr
  obtain ⟨M, m1, m2, m3⟩ := ac_rows rows2 hr2
  rw [← l1, l2, ← m1, m2]
  exact bytes_ct W G L M h1 h2 l3 m3
end Go.Proofs.Ytbnkmhlnoaebcaa
